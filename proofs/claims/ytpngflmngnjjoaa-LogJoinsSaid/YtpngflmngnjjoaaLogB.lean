/-
  log: records and logs in memory; copied, Add, Len, All; the law package's none and from; the document's Same of equal records.
-/
import Derived.Test.YtpngflmngnjjoaaLogA
import Derived.Test.YtpngflmngnjjoaaGen
import Derived.Test.YtpngflmngnjjoaaModT
import Derived.Test.YtpngflmngnjjoaaStep
import Derived.Test.YtpngflmngnjjoaaOpen
namespace Go.Proofs.Ytpngflmngnjjoaa
open Go.RowKit Go.ChangeShapes Go.WideShapes Go.ChangeAt

structure Rec where
  kind : Int
  path : List Int
/-- the cells vs are these records, whose paths are a call's own (blocks from base on) -/
def RecsO (w : World) (base : Nat) (vs : List Value) (rs : List Rec) : Prop :=
  vs.length = rs.length * 2 ∧ ∀ (i : Nat) (r : Rec), rs[i]? = some r → ∃ (A : Option Addr) (c : Nat), vs[i * 2]? = some (.int .i64 r.kind) ∧ vs[i * 2 + 1]? = some (.slice A r.path.length c) ∧ OwI w base A c r.path
section
variable {w w' : World} {base : Nat} {vs : List Value} {rs : List Rec}
theorem RecsO.nil (w : World) (base : Nat) : RecsO w base [] [] := ⟨rfl, fun i r h => by simp at h⟩
theorem RecsO.ext (h : RecsO w base vs rs) (hx : Ext w w') : RecsO w' base vs rs :=
  ⟨h.1, fun i r hr => by obtain ⟨A, c, h1, h2, h3⟩ := h.2 i r hr; exact ⟨A, c, h1, h2, h3.ext hx⟩⟩
theorem RecsO.more {base' : Nat} (h : RecsO w base vs rs) (hb : base' ≤ base) : RecsO w base' vs rs :=
  ⟨h.1, fun i r hr => by obtain ⟨A, c, h1, h2, h3⟩ := h.2 i r hr; exact ⟨A, c, h1, h2, h3.more hb⟩⟩
theorem RecsO.modT {base' : Nat} {ts : List TypeId} (h : RecsO w base vs rs) (k : ModT base' ts w w') (ht : 3 ∉ ts) : RecsO w' base vs rs :=
  ⟨h.1, fun i r hr => by obtain ⟨A, c, h1, h2, h3⟩ := h.2 i r hr; exact ⟨A, c, h1, h2, h3.modT k ht⟩⟩
theorem RecsO.snoc (h : RecsO w base vs rs) {r : Rec} {A : Option Addr} {c : Nat} (ho : OwI w base A c r.path) : RecsO w base (vs ++ [.int .i64 r.kind, .slice A r.path.length c]) (rs ++ [r]) := by
  obtain ⟨h1, h2⟩ := h
  refine ⟨by simp [h1]; omega, fun i q hq => ?_⟩
  by_cases hi : i < rs.length
  · rw [List.getElem?_append_left hi] at hq
    obtain ⟨A', c', q1, q2, q3⟩ := h2 i q hq
    exact ⟨A', c', by rw [List.getElem?_append_left (by omega)]; exact q1, by rw [List.getElem?_append_left (by omega)]; exact q2, q3⟩
  · rw [List.getElem?_append_right (by omega)] at hq
    obtain ⟨h0, hq⟩ := List.getElem?_eq_some_iff.1 hq
    have : i = rs.length := by simp at h0; omega
    subst this
    simp at hq
    subst hq
    exact ⟨A, c, by rw [List.getElem?_append_right (by omega), h1]; simp, by rw [List.getElem?_append_right (by omega), h1]; simp, ho⟩
/-- a record at a place of a slice of records -/
theorem RecsO.at {E : TypeId} {A : Option Addr} (h : RecsO w base vs rs) (hr : RdV w E A vs) {i : Nat} (hi : i < rs.length) :
    ∃ b off r A' c', A = some ⟨b, off, none⟩ ∧ b < w.heap.size ∧ w.cell? ⟨b, off + i * 2, none⟩ = some (.int .i64 r.kind) ∧ w.cell? ⟨b, off + i * 2 + 1, none⟩ = some (.slice A' r.path.length c') ∧ OwI w base A' c' r.path ∧ Hid (rs[i]? = some r) := by
  obtain ⟨h1, h2⟩ := h
  obtain ⟨A', c', q1, q2, q3⟩ := h2 i rs[i] (List.getElem?_eq_getElem hi)
  obtain ⟨b, off, rfl, hb, hc⟩ := hr.form (fun e => by rw [e] at h1; simp at h1; omega)
  exact ⟨b, off, rs[i], A', c', rfl, hb, hc _ _ q1, by rw [Nat.add_assoc]; exact hc _ _ q2, q3, List.getElem?_eq_getElem hi⟩
end
theorem OwV.grownT {w w' : World} {base size n c : Nat} {E : TypeId} {A : Option Addr} {xs : List Value} (h : OwV w base E size A n c xs) (hg : w.grownBy w' (bl A)) : ModT base [E] w w' := by
  refine Mod.grown hg fun g hA => ?_
  rcases h.cases with ⟨rfl, _⟩ | ⟨g', cur, rfl, hb, hh, _⟩
  · simp [bl] at hA
  · simp [bl] at hA
    subst hA
    exact ⟨hb, cur, _, hh, by simp⟩

/-- block g is a log of these records -/
def LogRep (w : World) (base g : Nat) (rs : List Rec) : Prop := ∃ A c vs, Blk w g 35 #[.slice A rs.length c] ∧ base ≤ g ∧ OwV w base 43 2 A rs.length c vs ∧ RecsO w base vs rs
theorem LogRep.ext {w w' : World} {base g : Nat} {rs : List Rec} (H : LogRep w base g rs) (hx : Ext w w') : LogRep w' base g rs := by
  obtain ⟨A, c, vs, h1, h2, h3, h4⟩ := H
  exact ⟨A, c, vs, h1.ext hx, h2, h3.ext hx, h4.ext hx⟩
theorem LogRep.lt {w : World} {base g : Nat} {rs : List Rec} (H : LogRep w base g rs) : g < w.heap.size := by
  obtain ⟨A, c, vs, h1, _⟩ := H
  exact h1.lt
def LogV (w : World) (base g : Nat) (rs : List Rec) (vs : List Value) : Prop := ∃ A c, Blk w g 35 #[.slice A rs.length c] ∧ base ≤ g ∧ OwV w base 43 2 A rs.length c vs ∧ RecsO w base vs rs
theorem LogV.rep {w : World} {base g : Nat} {rs : List Rec} {vs : List Value} (h : LogV w base g rs vs) : LogRep w base g rs := by
  obtain ⟨A, c, h1⟩ := h
  exact ⟨A, c, vs, h1⟩
theorem LogV.ext {w w' : World} {base g : Nat} {rs : List Rec} {vs : List Value} (H : LogV w base g rs vs) (hx : Ext w w') : LogV w' base g rs vs := by
  obtain ⟨A, c, h1, h2, h3, h4⟩ := H
  exact ⟨A, c, h1.ext hx, h2, h3.ext hx, h4.ext hx⟩
theorem LogV.modT {w w' : World} {base base' g : Nat} {ts : List TypeId} {rs : List Rec} {vs : List Value} (H : LogV w base g rs vs) (k : ModT base' ts w w') (t1 : 35 ∉ ts) (t2 : 43 ∉ ts) (t3 : 3 ∉ ts) : LogV w' base g rs vs := by
  obtain ⟨A, c, h1, h2, h3, h4⟩ := H
  exact ⟨A, c, h1.modT k t1, h2, h3.modT k t2, h4.modT k t3⟩
/-- every list that these cells lead to lies where N says -/
def VN (N : Nat → Prop) (vs : List Value) : Prop := ∀ (i : Nat) (A : Option Addr) (m c b : Nat), vs[i]? = some (.slice A m c) → bl A = some b → N b
theorem RecsO.vn {w : World} {base : Nat} {vs : List Value} {rs : List Rec} (h : RecsO w base vs rs) : VN (fun b => b < w.heap.size) vs := by
  intro i A m c b hv hb
  obtain ⟨h1, h2⟩ := h
  have hi := (List.getElem?_eq_some_iff.1 hv).1
  have hj : i / 2 < rs.length := by omega
  obtain ⟨A', c', q1, q2, q3⟩ := h2 (i / 2) rs[i / 2] (List.getElem?_eq_getElem hj)
  by_cases ho : i % 2 = 0
  · rw [show i / 2 * 2 = i by omega, hv] at q1
    cases q1
  · rw [show i / 2 * 2 + 1 = i by omega, hv] at q2
    injection q2 with q2
    injection q2 with e1 _ _
    subst e1
    exact (q3.lt b hb).2
theorem VN.snoc {N : Nat → Prop} {vs : List Value} (h : VN N vs) {k : Int} {A : Option Addr} {m c : Nat} (hA : ∀ b, bl A = some b → N b) : VN N (vs ++ [.int .i64 k, .slice A m c]) := by
  intro i A' m' c' b hv hb
  by_cases hi : i < vs.length
  · rw [List.getElem?_append_left hi] at hv
    exact h i A' m' c' b hv hb
  · rw [List.getElem?_append_right (by omega)] at hv
    obtain ⟨h0, hv'⟩ := List.getElem?_eq_some_iff.1 hv
    have h0 : i - vs.length < 2 := by simpa using h0
    have : i - vs.length = 0 ∨ i - vs.length = 1 := by omega
    rcases this with e | e
    · rw [e] at hv; simp at hv
    · rw [e] at hv
      simp at hv
      obtain ⟨rfl, _, _⟩ := hv
      exact hA b hb
theorem VN.mono {N M : Nat → Prop} {vs : List Value} (h : VN N vs) (hm : ∀ b, N b → M b) : VN M vs := fun i A m c b hv hb => hm b (h i A m c b hv hb)
theorem RecsO.mod {w w' : World} {base : Nat} {vs : List Value} {rs : List Rec} {S : Nat → Prop} (h : RecsO w base vs rs) (hm : Mod S w w') (hn : VN (fun b => ¬ S b) vs) : RecsO w' base vs rs :=
  ⟨h.1, fun i r hr => by
    obtain ⟨A, c, h1, h2, h3⟩ := h.2 i r hr
    exact ⟨A, c, h1, h2, h3.keep fun b hb => hm.block b (h3.lt b hb).2 (hn _ A _ c b h2 hb)⟩⟩
abbrev TL : List TypeId := [35, 43]

theorem add_none (k : Int) (A : Option Addr) (n c : Nat) (w : World) : Calls Try.prog 11 #[.pointer none, .int .i64 k, .slice A n c] w fun e w' => e = .returned (.tuple #[]) ∧ w = w' := by
  go_enter Try.func11, Try.ntmps11
  go_wp2
  go_end0
  exact ⟨rfl, rfl⟩
theorem loglen_none (w : World) : Calls Try.prog 10 #[.pointer none] w fun e w' => e = .returned (.int .i64 0) ∧ w = w' := by
  go_enter Try.func10, Try.ntmps10
  go_wp2
  go_ret
  exact ⟨rfl, rfl⟩
theorem loglen_any (g base : Nat) (rs : List Rec) (w : World) (H : LogRep w base g rs) : Calls Try.prog 10 #[.pointer (some ⟨g, 0, none⟩)] w fun e w' => e = .returned (.int .i64 rs.length) ∧ w = w' := by
  obtain ⟨A, c, vs, hb, _, _, _⟩ := H
  have c0 : w.cell? ⟨g, 0, none⟩ = some (.slice A rs.length c) := hb.cell 0
  clear hb
  go_enter Try.func10, Try.ntmps10
  go_wp2
  go_ret
  exact ⟨rfl, rfl⟩
theorem all_none (w : World) : Calls Try.prog 12 #[.pointer none] w fun e w' => e = .returned (.slice none 0 0) ∧ w = w' := by
  go_enter Try.func12, Try.ntmps12
  go_wp2
  go_ret
  exact ⟨rfl, rfl⟩

/-- what copied answers -/
def CopiedPost (r : Rec) (w : World) (e : Ending) (w' : World) : Prop := ∃ A c, e = .returned (.agg #[.int .i64 r.kind, .slice A r.path.length c]) ∧ OwI w' w.heap.size A c r.path ∧ Ext w w'
theorem keepEL {W W' : World} (x : Ext W W') {b o : Nat} {v : Value} (hb : b < W.heap.size) (hc : W.cell? ⟨b, o, none⟩ = some v) : W'.cell? ⟨b, o, none⟩ = some v := (x.cells.1 _ o hb).trans hc
set_option maxRecDepth 100000 in
theorem copied_any (r : Rec) (A : Option Addr) (c : Nat) (w : World) (hA : RdI w A r.path) (hl : r.path.length ≤ 2 ^ 44) :
    Calls Try.prog 18 #[.agg #[.int .i64 r.kind, .slice A r.path.length c]] w (CopiedPost r w) := by
  have X : Ext w ((w.alloc (.cells #[.int .i64 r.kind, .slice A r.path.length c] 43)).alloc (.cells #[.int .i64 0, .slice none 0 0] 43)) := ((Ext.rf _).alloc _).alloc _
  have B1 : Blk ((w.alloc (.cells #[.int .i64 r.kind, .slice A r.path.length c] 43)).alloc (.cells #[.int .i64 0, .slice none 0 0] 43)) w.heap.size 43 #[.int .i64 r.kind, .slice A r.path.length c] := .alloc (.new rfl) _
  have B2 : Blk ((w.alloc (.cells #[.int .i64 r.kind, .slice A r.path.length c] 43)).alloc (.cells #[.int .i64 0, .slice none 0 0] 43)) (w.heap.size + 1) 43 #[.int .i64 0, .slice none 0 0] := .new (by simp)
  replace X := Lib.hid X
  replace B1 := Lib.hid B1
  replace B2 := Lib.hid B2
  go_enter Try.func18, Try.ntmps18
  go_wp2_with (fail)
  generalize (w.alloc (.cells #[.int .i64 r.kind, .slice A r.path.length c] 43)).alloc (.cells #[.int .i64 0, .slice none 0 0] 43) = wr at *
  have a0 : wr.cell? ⟨w.heap.size, 0, none⟩ = some (.int .i64 r.kind) := B1.out.cell 0
  have a1 : wr.cell? ⟨w.heap.size, 1, none⟩ = some (.slice A r.path.length c) := B1.out.cell 1
  have z1 := B1.out.lt
  have z2 := B2.out.lt
  have hA' := Lib.hid (hA.ext X.out)
  go_region_held3 (fun w' => w'.cell? ⟨w.heap.size, 0, none⟩ = some (.int .i64 r.kind) ∧ w'.cell? ⟨w.heap.size, 1, none⟩ = some (.slice A r.path.length c)) (go_keep)
    (first | (go_at_call 21; refine (clone_any A c r.path _ (hA'.out.ext (by (repeat (first | assumption | exact Ext.rf _ | apply Ext.drew | apply Ext.drewN | apply Ext.alloc)))) hl).mono ?_; rintro e w3 ⟨A3, c3, rfl, o3, x3⟩; have y3 := Ext.tr (a := wr) (by (repeat (first | assumption | exact Ext.rf _ | apply Ext.drew | apply Ext.drewN | apply Ext.alloc))) x3; have s1 := keepEL y3 z1 a0; have s2 := keepEL y3 z1 a1; have t0 : w3.cell? ⟨w.heap.size + 1, 0, none⟩ = some (.int .i64 0) := (B2.out.ext y3).cell 0; have t1 : w3.cell? ⟨w.heap.size + 1, 1, none⟩ = some (.slice none 0 0) := (B2.out.ext y3).cell 1; have f0 := (B2.out.ext y3).free 0; have f1 := (B2.out.ext y3).free 1))
  all_goals
    have hz3 := (X.out.tr y3).size
    have hxy : w.heap.size ≤ wr.heap.size := X.out.size
    have Bq := Lib.hid (B2.out.ext y3)
    have OF := Lib.hid (OwI.more (base' := w.heap.size) o3 (by first | exact hxy | (simp; omega)))
    have M := Lib.hid ((ModT.set w3 Bq.out (ts := [43]) (base := w.heap.size) (by simp) (by omega) 0 (.int .i64 r.kind)).tr (ModT.set _ (Bq.out.set 0 (.int .i64 r.kind)) (by simp) (by omega) 1 (.slice A3 r.path.length c3)))
    go_wp2_with (fail)
    exact bodyPost_ret (v := .agg #[.int .i64 r.kind, .slice A3 r.path.length c3]) (by simp [results, Try.results18, go_sem, *]) rfl ⟨A3, c3, rfl, OF.out.modT M.out (by decide), (X.out.tr y3).modT M.out (Nat.le_refl _)⟩

theorem rec_info : (Try.prog.info? 43).map (fun i => (i.zero, i.size, i.bytes)) = some (some (.agg #[.int .i64 0, .slice none 0 0]), 2, 32) := by kernel_rfl
def AddPost (g base : Nat) (rs : List Rec) (r : Rec) (vs : List Value) (w : World) (e : Ending) (w' : World) : Prop := ∃ A c, e = .returned (.tuple #[]) ∧ LogV w' base g (rs ++ [r]) (vs ++ [.int .i64 r.kind, .slice A r.path.length c]) ∧ OwI w' w.heap.size A c r.path ∧ ModT base TL w w'
set_option maxRecDepth 100000 in
set_option maxHeartbeats 1000000 in
theorem add_any (g base : Nat) (rs : List Rec) (r : Rec) (vs : List Value) (A : Option Addr) (c : Nat) (w : World) (H : LogV w base g rs vs) (hbw : base ≤ w.heap.size) (hA : RdI w A r.path) (hl : r.path.length ≤ 2 ^ 40) (hrs : rs.length ≤ 2 ^ 40) :
    Calls Try.prog 11 #[.pointer (some ⟨g, 0, none⟩), .int .i64 r.kind, .slice A r.path.length c] w (AddPost g base rs r vs w) := by
  obtain ⟨L, cL, hb, hbg, ho, hR⟩ := H
  have c0 : w.cell? ⟨g, 0, none⟩ = some (.slice L rs.length cL) := hb.cell 0
  have f0 := hb.free 0
  have zg := hb.lt
  obtain ⟨i0, hi, hz0, hz1, hz2⟩ := info_parts rec_info
  have hbs : ∀ (u : World) (A' : Option Addr) (c' : Nat), (Instr.buildSlice 26 1 #[(0, .agg #[.int .i64 r.kind, .slice A' r.path.length c'])]).run Try.prog u = .ok (.slice (some ⟨u.heap.size, 0, none⟩) 1 1) (u.alloc (.cells #[.int .i64 r.kind, .slice A' r.path.length c'] 43)) := fun u A' c' => by go_simp
  replace hbs := Lib.hid hbs
  replace hb := Lib.hid hb
  replace ho := Lib.hid ho
  replace hR := Lib.hid hR
  replace hA := Lib.hid hA
  replace hi := Lib.hid hi
  replace hz0 := Lib.hid hz0
  replace hz1 := Lib.hid hz1
  replace hz2 := Lib.hid hz2
  go_enter Try.func11, Try.ntmps11
  go_wp2_with (fail)
  refine wp_region_any (by kernel_rfl) ?_
  change wpAny _ _ _ _ _ _ _ (World.drew _)
  refine wpAny_T (i := 0) (op := Op.move (Operand.tmp 0)) (t := 23) (d := some 8) (v := ?_) rfl (by decide +kernel) (by decide +kernel) (by decide +kernel) (fun _ _ _ h => h) ?_ ?_
  case refine_2 => (intro _; unfold exec2; go_simp; try with_reducible rfl)
  try simp only [Act.put, List.setIfInBounds_toArray, List.set_cons_zero, List.set_cons_succ]
  refine wpAny_T (i := 1) (op := Op.move (Operand.tmp 0)) (t := 23) (d := some 9) (v := ?_) rfl (by decide +kernel) (by decide +kernel) (by decide +kernel) (fun _ _ _ h => h) ?_ ?_
  case refine_2 => (intro _; unfold exec2; go_simp; try with_reducible rfl)
  try simp only [Act.put, List.setIfInBounds_toArray, List.set_cons_zero, List.set_cons_succ]
  refine wpAny_T (i := 2) (op := Op.nilCheck (Operand.tmp 9)) (t := 0) (d := some 10) (v := ?_) rfl (by decide +kernel) (by decide +kernel) (by decide +kernel) (fun _ _ _ h => h) ?_ ?_
  case refine_2 => (intro _; unfold exec2; go_simp; try with_reducible rfl)
  try simp only [Act.put, List.setIfInBounds_toArray, List.set_cons_zero, List.set_cons_succ]
  refine wpAny_T (i := 3) (op := Op.fieldAddr 35 (Operand.tmp 10) 0) (t := 0) (d := some 11) (v := ?_) rfl (by decide +kernel) (by decide +kernel) (by decide +kernel) (fun _ _ _ h => h) ?_ ?_
  case refine_2 => (intro _; unfold exec2; go_simp; try with_reducible rfl)
  try simp only [Act.put, List.setIfInBounds_toArray, List.set_cons_zero, List.set_cons_succ]
  refine wpAny_T (i := 5) (op := Op.move (Operand.tmp 1)) (t := 3) (d := some 13) (v := ?_) rfl (by decide +kernel) (by decide +kernel) (by decide +kernel) (fun _ _ _ h => h) ?_ ?_
  case refine_2 => (intro _; unfold exec2; go_simp; try with_reducible rfl)
  try simp only [Act.put, List.setIfInBounds_toArray, List.set_cons_zero, List.set_cons_succ]
  refine wpAny_T (i := 6) (op := Op.move (Operand.tmp 2)) (t := 36) (d := some 14) (v := ?_) rfl (by decide +kernel) (by decide +kernel) (by decide +kernel) (fun _ _ _ h => h) ?_ ?_
  case refine_2 => (intro _; unfold exec2; go_simp; try with_reducible rfl)
  try simp only [Act.put, List.setIfInBounds_toArray, List.set_cons_zero, List.set_cons_succ]
  refine wpAny_T (i := 7) (op := Op.build 43 #[(0, Operand.tmp 13), (1, Operand.tmp 14)]) (t := 43) (d := some 15) (v := ?_) rfl (by decide +kernel) (by decide +kernel) (by decide +kernel) (fun _ _ _ h => h) ?_ ?_
  case refine_2 => (intro _; unfold exec2; go_simp; try with_reducible rfl)
  try simp only [Act.put, List.setIfInBounds_toArray, List.set_cons_zero, List.set_cons_succ]
  refine wpAny_core (n := 4) [(4, some 12), (8, some 16), (9, some 17)] (Ext w)
    (VF (fun | 4 => some (.slice L rs.length cL) | _ => none)
      (fun i v W => (i = 8 → ∃ A' c', v = .agg #[.int .i64 r.kind, .slice A' r.path.length c'] ∧ OwI W w.heap.size A' c' r.path) ∧ (i = 9 → ∃ q A' c', v = .slice (some ⟨q, 0, none⟩) 1 1 ∧ Blk W q 43 #[.int .i64 r.kind, .slice A' r.path.length c'] ∧ OwI W w.heap.size A' c' r.path)))
    Ext #[true, true, true, true, true, true, true, true, true, true, false, false, false, false] (by kernel_rfl) (VF.stab ?_) ?_ ?_ ((Ext.rf _).drew)
  · intro j v W W' _ ⟨g6, g14⟩ hx
    refine ⟨fun h => ?_, fun h => ?_⟩
    · obtain ⟨A', c', q1, q2⟩ := g6 h
      exact ⟨A', c', q1, q2.ext hx⟩
    · obtain ⟨q, A', c', q1, q2, q3⟩ := g14 h
      exact ⟨q, A', c', q1, q2.ext hx, q3.ext hx⟩
  · intro pq hpm u w2 hRW hD K hK
    have r0 := (hRW.cells.1 _ 0 zg).trans c0
    have z2 := hRW.size
    simp only [List.mem_cons, List.not_mem_nil, or_false] at hpm
    rcases hpm with rfl | rfl | rfl
    · exact op_ld (T := 26) rfl (.pointer (some ⟨g, 0, none⟩)) (by kernel_rfl) (.slice L rs.length cL) (by go_simp) (hK _ _ (VF.mk rfl) hRW (Ext.rf _))
    · refine op_call rfl #[.agg #[.int .i64 r.kind, .slice A r.path.length c]] (by go_simp) (by kernel_rfl) _ (copied_any r A c w2 (hA.out.ext hRW) (by omega)) ?_
      rintro e w3 ⟨A3, c3, rfl, o3, x3⟩
      exact ⟨_, rfl, hK _ _ (VF.mg rfl ⟨fun _ => ⟨A3, c3, rfl, o3.more z2⟩, (fun h => by cases h)⟩) (hRW.tr x3) x3⟩
    · obtain ⟨A3, c3, h8, o3⟩ := ((hD 8 (depIn (by kernel_rfl))).g rfl).1 rfl
      exact op_bs1 rfl _ (Eq.trans (b := u 8) (by kernel_rfl) h8) _ (hbs.out _ _ _) (hK _ _ (VF.mg rfl ⟨(fun h => by cases h), fun _ => ⟨_, A3, c3, rfl, .new rfl, o3.ext ((Ext.rf _).alloc _)⟩⟩) (hRW.alloc _) ((Ext.rf _).alloc _))
  · intro u w3 hRW hV
    have h4 := (hV (4, some 12) (by simp)).k rfl
    obtain ⟨_, _, h8, _⟩ := ((hV (8, some 16) (by simp)).g rfl).1 rfl
    obtain ⟨q, A3, c3, h9, b9, o9⟩ := ((hV (9, some 17) (by simp)).g rfl).2 rfl
    simp only [putAll, h4, h8, h9]
    have o3 := ho.out.ext hRW
    obtain ⟨A4, c4, w4, hrun, o4, g4, _⟩ := run_app_v w3 (e := 43) Try.underlying26 hi.out hz0.out hz1.out hz2.out (by simp [Value.cells]) (by omega) base 26 L rs.length cL vs (some ⟨q, 0, none⟩) 1 1 [.int .i64 r.kind, .slice A3 r.path.length c3] o3 ((RdV.blk b9).rdC) (by simp) (by simp [Value.oneCell']) (by simp only [maxLen]; omega) (by omega) (by have := hRW.size; omega)
    have M4 := o3.grownT g4
    have hb4 := (hb.out.ext hRW).modT M4 (by decide)
    have f4 := hb4.free 0
    have c4' : w4.cell? ⟨g, 0, none⟩ = some (.slice L rs.length cL) := hb4.cell 0
    have hR4 := ((hR.out.ext hRW).modT M4 (by decide)).snoc ((o9.more hbw).modT M4 (by decide))
    have M5 : ModT base [35] w4 (w4.setCell ⟨g, 0, none⟩ (.slice A4 (rs.length + 1) c4)) := ModT.set w4 hb4 (by simp) hbg 0 _
    have hlen : (rs ++ [r]).length = rs.length + 1 := by simp
    have FIN : LogV (w4.setCell ⟨g, 0, none⟩ (.slice A4 (rs.length + 1) c4)) base g (rs ++ [r]) (vs ++ [.int .i64 r.kind, .slice A3 r.path.length c3]) := by
      refine ⟨A4, c4, ?_, hbg, ?_, hR4.modT M5 (by decide)⟩
      · rw [hlen]
        exact hb4.set 0 _
      · rw [hlen]
        exact o4.modT M5 (by decide)
    have MM : ModT base TL w (w4.setCell ⟨g, 0, none⟩ (.slice A4 (rs.length + 1) c4)) := ((ModT.of_ext hRW).tr (M4.more (Nat.le_refl _) (by simp))).tr (M5.more (Nat.le_refl _) (by simp))
    have O5 := Lib.hid ((o9.modT M4 (by decide)).modT M5 (by decide))
    replace FIN := Lib.hid FIN
    replace MM := Lib.hid MM
    clear h4 h8 h9 hV o3 g4 M4 hR4 M5 o4 b9 o9 hb4
    refine wpAny_next 10 (by kernel_rfl) (op_app rfl (.slice L rs.length cL) (.slice (some ⟨q, 0, none⟩) 1 1) (by kernel_rfl) (by kernel_rfl) _ hrun ?_)
    try simp only [Act.put, List.setIfInBounds_toArray, List.set_cons_zero, List.set_cons_succ]
    refine wpAny_T (i := 11) (op := Op.nilCheck (Operand.tmp 8)) (t := 0) (d := some 19) (v := ?_) rfl (by decide +kernel) (by decide +kernel) (by decide +kernel) (fun _ _ _ h => h) ?_ ?_
    case refine_2 => (intro _; unfold exec2; go_simp; try with_reducible rfl)
    try simp only [Act.put, List.setIfInBounds_toArray, List.set_cons_zero, List.set_cons_succ]
    refine wpAny_T (i := 12) (op := Op.fieldAddr 35 (Operand.tmp 19) 0) (t := 0) (d := some 20) (v := ?_) rfl (by decide +kernel) (by decide +kernel) (by decide +kernel) (fun _ _ _ h => h) ?_ ?_
    case refine_2 => (intro _; unfold exec2; go_simp; try with_reducible rfl)
    try simp only [Act.put, List.setIfInBounds_toArray, List.set_cons_zero, List.set_cons_succ]
    refine wpAny_next 13 (by kernel_rfl) (op_st rfl (.pointer (some ⟨g, 0, none⟩)) (.slice A4 (rs.length + 1) c4) (by kernel_rfl) (by kernel_rfl) (by go_simp; rfl) ?_)
    refine wpAny_done (by kernel_rfl) ?_ _
    clear hrun
    go_simp
    go_wp2_with fail
    go_end0
    exact ⟨A3, c3, rfl, FIN.out, O5.out, MM.out⟩
end Go.Proofs.Ytpngflmngnjjoaa
