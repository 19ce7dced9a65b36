/-
  A tour's kernel: what meets at each city, at least.
-/
import Derived.Test.YtpngflmngnjjoaaDoorTourG
namespace Go.Proofs.YtpngflmngnjjoaaDoor
open Go.RowKit Go.ChangeShapes Go.WideShapes Go.ChangeAt Go.Deep Go.Shelf
attribute [local go_sem] Oper.semAt_some

/-- but for some blocks, what was there is as it was -/
def HeldS (w0 : World) (S : Nat → Prop) (w : World) : Prop := w0.heap.size ≤ w.heap.size ∧ ∀ b, b < w0.heap.size → ¬ S b → w.heap[b]? = w0.heap[b]?
theorem HeldS.blk {w0 w : World} {S : Nat → Prop} {g : Nat} {t : TypeId} {cs : Array Value} (h : HeldS w0 S w) (hb : Blk w0 g t cs) (hne : ¬ S g) : Blk w g t cs := (h.2 g hb.lt hne).trans hb
theorem HeldS.set {w0 w : World} {S : Nat → Prop} (h : HeldS w0 S w) {sb : Nat} (hs : S sb) (i : Nat) (u : Value) : HeldS w0 S (w.setCell ⟨sb, i, none⟩ u) := ⟨by simp; exact h.1, fun b h1 h2 => (Below.heap_setCell w ⟨sb, i, none⟩ u b (fun e => h2 (by rw [e]; exact hs))).trans (h.2 b h1 h2)⟩
theorem HeldS.ext {w0 w w' : World} {S : Nat → Prop} (h : HeldS w0 S w) (x : Ext w w') : HeldS w0 S w' := ⟨Nat.le_trans h.1 x.size, fun b h1 h2 => (x.block b (Nat.lt_of_lt_of_le h1 h.1)).trans (h.2 b h1 h2)⟩
theorem ownFrom_heldS {β : Type} {w0 : World} {B : Nat} {S : Nat → Prop} (hB : w0.heap.size ≤ B) : OwnFrom B (fun (_ : β) W => HeldS w0 S W) := fun _ W W' row hs hg hr =>
  ⟨Nat.le_trans hs.1 hg.size, fun b h1 h2 => (hg.block b (Nat.lt_of_lt_of_le h1 hs.1) (fun e => by have := (hr b e.symm).1; omega)).trans (hs.2 b h1 h2)⟩
/-- what a round of the outer loop leaves, step by step -/
def EndG (w W0 W : World) (a b c : Int) (V : World) : Prop := KeepsFrom W0.heap.size W V ∧ SetKp w.heap.size (w.heap.size + 1 + 1 + 1 + 1 + 1) W V ∧ (Blk V (w.heap.size + 1 + 1) 3 #[.int .i64 a] ∧ Blk V (w.heap.size + 1 + 1 + 1) 3 #[.int .i64 b] ∧ Blk V (w.heap.size + 1 + 1 + 1 + 1) 3 #[.int .i64 c]) ∧ HeldS W0 (fun b => b = w.heap.size + 1 + 1 ∨ b = w.heap.size + 1 + 1 + 1 ∨ b = w.heap.size + 1 + 1 + 1 + 1) V ∧ Below w.heap.size w V
theorem EndG.ext {w W0 W V V' : World} {a b c : Int} (h : EndG w W0 W a b c V) (hz : w.heap.size + 1 + 1 + 1 + 1 + 1 < V.heap.size) (x : Ext V V') : EndG w W0 W a b c V' := by
  obtain ⟨h1, h2, ⟨h3, h4, h5⟩, h6, h7⟩ := h
  exact ⟨h1.trans (KeepsFrom.of_ext x), h2.tr ⟨x.mono (by omega), x.block _ hz⟩, ⟨h3.ext x, h4.ext x, h5.ext x⟩, h6.ext x, h7.trans (x.mono (by omega))⟩
theorem EndG.set2 {w W0 W V : World} {a b c : Int} (h : EndG w W0 W a b c V) (u : Int) : EndG w W0 W u b c (V.setCell ⟨w.heap.size + 1 + 1, 0, none⟩ (.int .i64 u)) := by
  obtain ⟨h1, h2, ⟨h3, h4, h5⟩, h6, h7⟩ := h
  exact ⟨h1.trans ((KeepsOthers.setCell _ _ _).from _), h2.tr ⟨(Below.refl _ _).setCell (by simp <;> omega) _, Below.heap_setCell V ⟨w.heap.size + 1 + 1, 0, none⟩ _ _ (by simp <;> omega)⟩, ⟨h3.set 0 _, h4.far (by simp <;> omega) _, h5.far (by simp <;> omega) _⟩, h6.set (.inl rfl) 0 _, h7.setCell (by simp <;> omega) _⟩
theorem EndG.set3 {w W0 W V : World} {a b c : Int} (h : EndG w W0 W a b c V) (u : Int) : EndG w W0 W a u c (V.setCell ⟨w.heap.size + 1 + 1 + 1, 0, none⟩ (.int .i64 u)) := by
  obtain ⟨h1, h2, ⟨h3, h4, h5⟩, h6, h7⟩ := h
  exact ⟨h1.trans ((KeepsOthers.setCell _ _ _).from _), h2.tr ⟨(Below.refl _ _).setCell (by simp <;> omega) _, Below.heap_setCell V ⟨w.heap.size + 1 + 1 + 1, 0, none⟩ _ _ (by simp <;> omega)⟩, ⟨h3.far (by simp <;> omega) _, h4.set 0 _, h5.far (by simp <;> omega) _⟩, h6.set (.inr (.inl rfl)) 0 _, h7.setCell (by simp <;> omega) _⟩
theorem EndG.set4 {w W0 W V : World} {a b c : Int} (h : EndG w W0 W a b c V) (u : Int) : EndG w W0 W a b u (V.setCell ⟨w.heap.size + 1 + 1 + 1 + 1, 0, none⟩ (.int .i64 u)) := by
  obtain ⟨h1, h2, ⟨h3, h4, h5⟩, h6, h7⟩ := h
  exact ⟨h1.trans ((KeepsOthers.setCell _ _ _).from _), h2.tr ⟨(Below.refl _ _).setCell (by simp <;> omega) _, Below.heap_setCell V ⟨w.heap.size + 1 + 1 + 1 + 1, 0, none⟩ _ _ (by simp <;> omega)⟩, ⟨h3.far (by simp <;> omega) _, h4.far (by simp <;> omega) _, h5.set 0 _⟩, h6.set (.inr (.inr rfl)) 0 _, h7.setCell (by simp <;> omega) _⟩
theorem putP_bd {B n : Int} {p : Int × Int} (h1 : 0 ≤ p.1 ∧ p.1 ≤ B) (h2 : 0 ≤ p.2 ∧ p.2 ≤ B) (hn : 0 ≤ n ∧ n ≤ B) : (0 ≤ (putP p n).1 ∧ (putP p n).1 ≤ B) ∧ 0 ≤ (putP p n).2 ∧ (putP p n).2 ≤ B := by
  unfold putP
  split
  · exact ⟨hn, h1⟩
  · split
    · exact ⟨h1, hn⟩
    · exact ⟨h1, h2⟩
theorem foldP_bd {B : Int} {f : Nat → Int} : ∀ (l : List Nat) (p : Int × Int), (0 ≤ p.1 ∧ p.1 ≤ B) → (0 ≤ p.2 ∧ p.2 ≤ B) → (∀ v ∈ l, 0 ≤ f v ∧ f v ≤ B) → (0 ≤ (l.foldl (fun p v => putP p (f v)) p).1 ∧ (l.foldl (fun p v => putP p (f v)) p).1 ≤ B) ∧ 0 ≤ (l.foldl (fun p v => putP p (f v)) p).2 ∧ (l.foldl (fun p v => putP p (f v)) p).2 ≤ B
  | [], _, h1, h2, _ => ⟨h1, h2⟩
  | v :: l, p, h1, h2, h => by
    have h3 := putP_bd h1 h2 (h v (by simp))
    exact foldP_bd l _ h3.1 h3.2 fun x hx => h x (by simp [hx])
set_option maxRecDepth 100000 in
set_option maxHeartbeats 4000000 in
theorem endst_in {base g : Nat} {rows : List (List Int)} {mi : Bool} (m last : Nat) (cost : Int) (ok : RowsOk rows) (hS : SubN rows.length m) (hla : last < rows.length) (w : World) (hT : Tab w) (H : KernT w base g rows mi) :
    CallsIn Fence.wide 6 Tryd.prog 63 #[.pointer (some ⟨g, 0, none⟩), wayT m last cost] w fun e W' => e = .returned (.int .i64 (endsT rows (memsM m) last)) ∧ Ext w W' := by
  obtain ⟨C, cc, us, hB, _, hV, hR⟩ := H
  have l1 := ok.n1
  have l2 := ok.n2
  have lus : Hid (us.length = rows.length) := hR.1
  have zg := hB.lt
  have hg := tab_low hT
  have h63 : ∀ x ∈ memsM m, x < 63 := fun x hx => by have := hS.2 x hx; omega
  have hmr : Hid (∀ x ∈ memsM m, x < rows.length) := hS.2
  have hm1 := hS.1
  have hcost : Hid (∀ a b, a < rows.length → b < rows.length → 0 ≤ costAt rows a b ∧ costAt rows a b ≤ 2147483647) := fun a b ha hb => by
    have e1 : rows[a]? = some rows[a] := List.getElem?_eq_getElem ha
    have e2 := ok.row _ (List.getElem_mem ha)
    have e3 : (rows[a])[b]? = some (rows[a])[b] := List.getElem?_eq_getElem (by omega)
    unfold costAt
    rw [getD_some e1, getD_some e3]
    exact ok.num _ (List.getElem_mem ha) _ (List.getElem_mem _)
  replace hB := Lib.hid hB
  replace hV := Lib.hid hV
  replace hR := Lib.hid hR
  obtain ⟨ab, ao, vl, rfl, zvl, cvl, evl⟩ := (hV.out.read).at (j := last) (by rw [lus.out]; exact hla)
  refine callsIn_of_wp_marks Tryd.func63 rfl trivial ?_ rfl
  simp only [Tryd.ntmps63, List.size_toArray, List.length_cons, List.length_nil, Nat.reduceAdd, Nat.reduceSub, Array.replicate_succ, Array.replicate_zero, List.push_toArray, List.append_toArray, List.nil_append, List.cons_append]
  gi_wp2
  refine ⟨trivial, ?_⟩
  refine (callsIn_wide.2 (all_any m _)).mono ?_
  rintro e w' ⟨rfl, rfl⟩
  gi_wp2
  have bK0 : Hid (Blk ((((((w.alloc (.cells #[.pointer (some ⟨g, 0, none⟩)] 47)).alloc (.cells #[.int .u64 m, .int .u64 0, .int .i64 last, .int .i64 cost] 70)).alloc (.cells #[.int .i64 0] 3)).alloc (.cells #[.int .i64 (-1)] 3)).alloc (.cells #[.int .i64 (-1)] 3)).alloc (.cells #[.int .u64 m, .int .u64 0] 55)) (w.heap.size) 47 #[.pointer (some ⟨g, 0, none⟩)]) := .alloc (.alloc (.alloc (.alloc (.alloc (.new (by simp)) _) _) _) _) _
  have bW0 : Hid (Blk ((((((w.alloc (.cells #[.pointer (some ⟨g, 0, none⟩)] 47)).alloc (.cells #[.int .u64 m, .int .u64 0, .int .i64 last, .int .i64 cost] 70)).alloc (.cells #[.int .i64 0] 3)).alloc (.cells #[.int .i64 (-1)] 3)).alloc (.cells #[.int .i64 (-1)] 3)).alloc (.cells #[.int .u64 m, .int .u64 0] 55)) (w.heap.size + 1) 70 #[.int .u64 m, .int .u64 0, .int .i64 last, .int .i64 cost]) := .alloc (.alloc (.alloc (.alloc (.new (by simp)) _) _) _) _
  have bS0 : Blk ((((((w.alloc (.cells #[.pointer (some ⟨g, 0, none⟩)] 47)).alloc (.cells #[.int .u64 m, .int .u64 0, .int .i64 last, .int .i64 cost] 70)).alloc (.cells #[.int .i64 0] 3)).alloc (.cells #[.int .i64 (-1)] 3)).alloc (.cells #[.int .i64 (-1)] 3)).alloc (.cells #[.int .u64 m, .int .u64 0] 55)) (w.heap.size + 1 + 1) 3 #[.int .i64 0] := .alloc (.alloc (.alloc (.new (by simp)) _) _) _
  have bF0 : Blk ((((((w.alloc (.cells #[.pointer (some ⟨g, 0, none⟩)] 47)).alloc (.cells #[.int .u64 m, .int .u64 0, .int .i64 last, .int .i64 cost] 70)).alloc (.cells #[.int .i64 0] 3)).alloc (.cells #[.int .i64 (-1)] 3)).alloc (.cells #[.int .i64 (-1)] 3)).alloc (.cells #[.int .u64 m, .int .u64 0] 55)) (w.heap.size + 1 + 1 + 1) 3 #[.int .i64 (-1)] := .alloc (.alloc (.new (by simp)) _) _
  have bT0 : Blk ((((((w.alloc (.cells #[.pointer (some ⟨g, 0, none⟩)] 47)).alloc (.cells #[.int .u64 m, .int .u64 0, .int .i64 last, .int .i64 cost] 70)).alloc (.cells #[.int .i64 0] 3)).alloc (.cells #[.int .i64 (-1)] 3)).alloc (.cells #[.int .i64 (-1)] 3)).alloc (.cells #[.int .u64 m, .int .u64 0] 55)) (w.heap.size + 1 + 1 + 1 + 1) 3 #[.int .i64 (-1)] := .alloc (.new (by simp)) _
  have bB0 : Blk ((((((w.alloc (.cells #[.pointer (some ⟨g, 0, none⟩)] 47)).alloc (.cells #[.int .u64 m, .int .u64 0, .int .i64 last, .int .i64 cost] 70)).alloc (.cells #[.int .i64 0] 3)).alloc (.cells #[.int .i64 (-1)] 3)).alloc (.cells #[.int .i64 (-1)] 3)).alloc (.cells #[.int .u64 m, .int .u64 0] 55)) (w.heap.size + 1 + 1 + 1 + 1 + 1) 55 #[.int .u64 m, .int .u64 0] := .new (by simp)
  have hB0 : Ext w ((((((w.alloc (.cells #[.pointer (some ⟨g, 0, none⟩)] 47)).alloc (.cells #[.int .u64 m, .int .u64 0, .int .i64 last, .int .i64 cost] 70)).alloc (.cells #[.int .i64 0] 3)).alloc (.cells #[.int .i64 (-1)] 3)).alloc (.cells #[.int .i64 (-1)] 3)).alloc (.cells #[.int .u64 m, .int .u64 0] 55)) := ((((((Ext.rf w).alloc _).alloc _).alloc _).alloc _).alloc _).alloc _
  have hsz : ((((((w.alloc (.cells #[.pointer (some ⟨g, 0, none⟩)] 47)).alloc (.cells #[.int .u64 m, .int .u64 0, .int .i64 last, .int .i64 cost] 70)).alloc (.cells #[.int .i64 0] 3)).alloc (.cells #[.int .i64 (-1)] 3)).alloc (.cells #[.int .i64 (-1)] 3)).alloc (.cells #[.int .u64 m, .int .u64 0] 55)).heap.size = w.heap.size + 1 + 1 + 1 + 1 + 1 + 1 := by simp
  obtain ⟨W0, hW0⟩ : ∃ W0, ((((((w.alloc (.cells #[.pointer (some ⟨g, 0, none⟩)] 47)).alloc (.cells #[.int .u64 m, .int .u64 0, .int .i64 last, .int .i64 cost] 70)).alloc (.cells #[.int .i64 0] 3)).alloc (.cells #[.int .i64 (-1)] 3)).alloc (.cells #[.int .i64 (-1)] 3)).alloc (.cells #[.int .u64 m, .int .u64 0] 55)) = W0 := ⟨_, rfl⟩
  rw [hW0] at bK0 bW0 bS0 bF0 bT0 bB0 hB0 hsz ⊢
  clear hW0
  refine wpIn_rangeFunc_ownH rfl (by omega) (gf := 85) (lb := #[.pointer (some ⟨w.heap.size + 1 + 1 + 1 + 1 + 1, 0, none⟩)]) rfl trivial (enters_of Tryd.func85 (by kernel_rfl) rfl)
    (all_stops 5 m hm1 h63 (w.heap.size + 1 + 1 + 1 + 1 + 1) w.heap.size _ bB0 (hT.ext hB0) hB0.size hg) SetKp.tr (setKp_b (cs := #[.int .u64 m, .int .u64 0]) hB0.size bB0) (Below.refl _ _) (fun _ => rfl)
    (fun pre W => (Blk W (w.heap.size + 1 + 1) 3 #[.int .i64 (sumL ((inL pre).map fun u => (pairT rows (memsM m) last u).1 + (pairT rows (memsM m) last u).2))] ∧ Blk W (w.heap.size + 1 + 1 + 1) 3 #[.int .i64 (leastN (fun u => costAt rows last u) (-1) (inL pre))] ∧ Blk W (w.heap.size + 1 + 1 + 1 + 1) 3 #[.int .i64 (leastN (fun u => costAt rows u 0) (-1) (inL pre))]) ∧ HeldS W0 (fun b => b = w.heap.size + 1 + 1 ∨ b = w.heap.size + 1 + 1 + 1 ∨ b = w.heap.size + 1 + 1 + 1 + 1) W ∧ Below w.heap.size w W)
    (fun _ _ _ => False)
    (OwnFrom.and (OwnFrom.and (ownFrom_blk (by omega) _ _) (OwnFrom.and (ownFrom_blk (by omega) _ _) (ownFrom_blk (by omega) _ _))) (OwnFrom.and (ownFrom_heldS (Nat.le_refl _)) (ownFrom_below (Nat.le_refl _) (by omega))))
    (fun _ _ _ _ _ hs _ _ => hs)
    ⟨⟨by simpa [inL, sumL] using bS0, by simpa [inL, leastN] using bF0, by simpa [inL, leastN] using bT0⟩, ⟨Nat.le_refl _, fun _ _ _ => rfl⟩, hB0⟩
    (fun x a' W => ∃ Bx, W0.heap.size ≤ Bx ∧ Boxed W Bx 3 (.int .i64 ((x.1 : Nat) : Int)) ∧ a' = { tmps := #[.pointer (some ⟨g, 0, none⟩), .agg #[.int .u64 m, .int .u64 0, .int .i64 last, .int .i64 cost], .pointer (some ⟨w.heap.size, 0, none⟩), .pointer (some ⟨w.heap.size + 1, 0, none⟩), .int .i64 0, .pointer (some ⟨w.heap.size + 1 + 1, 0, none⟩), .pointer (some ⟨w.heap.size + 1 + 1 + 1, 0, none⟩), .pointer (some ⟨w.heap.size + 1 + 1 + 1 + 1, 0, none⟩), .pointer (some ⟨Bx, 0, none⟩), undef, undef, undef, undef, undef, undef, .pointer (some ⟨w.heap.size + 1, 0, none⟩), .agg #[.int .u64 m, .int .u64 0], .func (.func 85) #[] #[.pointer (some ⟨w.heap.size + 1 + 1 + 1 + 1 + 1, 0, none⟩)], .int .i64 ((x.1 : Nat) : Int), undef, undef, undef, undef, undef, undef, undef, undef, undef, undef, undef, undef, undef, undef, undef, undef, undef, undef, undef, undef, undef, undef, undef, undef, undef, undef, undef, undef, undef, undef, undef, undef, undef, undef, undef, undef, undef, undef, undef, undef, undef, undef, undef, undef, undef, undef, undef, undef, undef, undef, undef, undef, undef, undef, undef, undef, undef, undef, undef, undef, undef, undef, undef, undef, undef, undef, undef, undef, undef, undef, undef, undef, undef, undef, undef, undef, undef, undef, undef, undef, undef, undef, undef, undef, undef, undef, undef, undef, undef, undef, undef, undef, undef], defers := [] })
    (fun x a' _ X Y row hs hg hr => by obtain ⟨Bx, h1, h2, h3⟩ := hs; exact ⟨Bx, h1, boxed_own Bx 3 (fun (_ : Unit) => Value.int .i64 ((x.1 : Nat) : Int)) () X Y row h2 hg (fun r e => (hr r e).2), h3⟩)
    ?assign ?body ?done ?stop
  case assign =>
    rintro l pre x W K ⟨⟨h1, h2, h3⟩, h4, h5⟩ hK
    gi_wp2
    exact hK _ _ ((KeepsOthers.alloc _ _).from _) ⟨(Below.refl _ W).alloc h5.size _, (Below.heap_alloc W _ _ (by have := h4.1; omega))⟩ ⟨⟨h1.alloc _, h2.alloc _, h3.alloc _⟩, h4.ext ((Ext.rf _).alloc _), h5.alloc h5.size _⟩ ⟨W.heap.size, h4.1, Boxed.new W 3 _, rfl⟩
  case body =>
    rintro l pre x a' W hl ⟨r, hr⟩ ⟨⟨hO, hF, hTo⟩, hH, hBW⟩ ⟨Bx, hBx, bX, rfl⟩ hlt
    have hu := hmr.out x.1 x.2
    have hbX : Blk W Bx 3 #[.int .i64 ((x.1 : Nat) : Int)] := bX
    have zBx := hbX.lt
    obtain ⟨u, hux⟩ : ∃ u, Hid (u = x.1) := ⟨_, rfl⟩
    have inx := inL_snoc pre x
    rw [← hux.out] at hu hbX inx
    rw [← hux.out]
    have erow : rows[u]? = some rows[u] := List.getElem?_eq_getElem hu
    obtain ⟨D, d, hud, oD⟩ := hR.out.2 _ _ erow
    have lrow := ok.row _ (List.getElem_mem hu)
    have ecost : ∀ b, costAt rows u b = (rows[u]).getD b 0 := fun b => by unfold costAt; rw [getD_some erow]
    generalize rows[u] = row at *
    obtain ⟨ab', ao', vv, hC, zv, cv, ev⟩ := (hV.out.read.ext hBW).at (j := u) (by rw [lus.out]; exact hu)
    obtain ⟨rfl, rfl⟩ : ab = ab' ∧ ao = ao' := by simpa using hC
    obtain rfl : .slice D row.length d = vv := by
      have h := ev.out
      rw [hud] at h
      exact Option.some.inj h
    obtain ⟨cb, co, y1, rfl, zy1, cy1, ey1, _⟩ := (oD.read.ext hBW).at (k := last) (by omega)
    obtain ⟨cb', co', y2, hD2, zy2, cy2, ey2, _⟩ := (oD.read.ext hBW).at (k := 0) (by omega)
    obtain ⟨rfl, rfl⟩ : cb = cb' ∧ co = co' := by simpa using hD2
    have e1 : costAt rows u last = y1 := by rw [ecost, getD_some ey1.out]
    have e2 : costAt rows u 0 = y2 := by rw [ecost, getD_some ey2.out]
    have b1 := hcost.out u last hu hla
    have b2 := hcost.out u 0 hu (by omega)
    rw [e1] at b1
    rw [e2] at b2
    have cG : W.cell? ⟨g, 0, none⟩ = some (.slice (some ⟨ab, ao, none⟩) rows.length cc) := (hB.out.ext hBW).cell 0
    have kW := Lib.hid (hH.blk bK0.out (by omega))
    have wW := Lib.hid (hH.blk bW0.out (by omega))
    have cK : W.cell? ⟨w.heap.size, 0, none⟩ = some (.pointer (some ⟨g, 0, none⟩)) := kW.out.cell 0
    have cW : W.cell? ⟨w.heap.size + 1, 2, none⟩ = some (.int .i64 last) := wW.out.cell 2
    have cX : W.cell? ⟨Bx, 0, none⟩ = some (.int .i64 (u : Int)) := hbX.cell 0
    have q1 : (u : Int) < (rows.length : Int) := by omega
    have q2 : (last : Int) < (row.length : Int) := by omega
    have q3 : (0 : Int) < (row.length : Int) := by omega
    have hmx : Tryd.prog.follows .mixedOrders = true := by kernel_rfl
    replace cy2 : W.cell? ⟨cb, co, none⟩ = some (.int .i64 y2) := cy2
    obtain ⟨mn, hmn⟩ : ∃ mn, Hid (min y1 y2 = mn) := ⟨_, rfl⟩
    obtain ⟨mx, hmx'⟩ : ∃ mx, Hid (max y1 y2 = mx) := ⟨_, rfl⟩
    have emin : (if y2 < y1 then y2 else y1) = mn := by rw [← hmn.out]; split <;> omega
    have emax : (if y1 < y2 then y2 else y1) = mx := by rw [← hmx'.out]; split <;> omega
    have WO := Lib.hid (fun (W : World) => without_any m u hm1 (by omega) W)
    have emu := memsM_clr (i := u) hm1
    have hmu1 := clrM_lt m u
    obtain ⟨mu, hmu⟩ : ∃ mu, Hid (clrM m u = mu) := ⟨_, rfl⟩
    rw [hmu.out] at WO emu hmu1
    replace emu := Lib.hid emu
    unfold setV at WO
    replace hO := Lib.hid hO
    replace hF := Lib.hid hF
    replace hTo := Lib.hid hTo
    replace hH := Lib.hid hH
    replace hBW := Lib.hid hBW
    replace hbX := Lib.hid hbX
    replace bX := Lib.hid bX
    replace oD := Lib.hid oD
    replace e1 := Lib.hid e1
    replace e2 := Lib.hid e2
    replace ecost := Lib.hid ecost
    replace hr := Lib.hid hr
    clear ev ey1 ey2 erow hD2
    gi_wp2
    refine wpIn_region_quiet_r (by kernel_rfl) (by kernel_rfl) (by kernel_rfl) ?_
    repeat (gi_big_quiet_step (fail))
    refine wpQuietIn_nil ?_
    rintro _ ⟨nq, rfl⟩
    have X1 : Hid (Ext W (W.drewN nq)) := (Ext.rf W).drewN nq
    obtain ⟨W1, hW1⟩ : ∃ W1, W.drewN nq = W1 := ⟨_, rfl⟩
    rw [hW1] at X1 ⊢
    clear hW1
    have wW1 := wW.out.ext X1.out
    have d0 : (W1.alloc (.cells #[.int .i64 mn, .int .i64 mx] 86)).cell? ⟨w.heap.size + 1, 0, none⟩ = some (.int .u64 m) := (wW1.alloc _).cell 0
    have d1 : (W1.alloc (.cells #[.int .i64 mn, .int .i64 mx] 86)).cell? ⟨w.heap.size + 1, 1, none⟩ = some (.int .u64 0) := (wW1.alloc _).cell 1
    have dX : (W1.alloc (.cells #[.int .i64 mn, .int .i64 mx] 86)).cell? ⟨Bx, 0, none⟩ = some (.int .i64 (u : Int)) := ((hbX.out.ext X1.out).alloc _).cell 0
    clear wW1 cG cK cW cX cy1 cy2
    gi_wp2
    refine ⟨trivial, ?_⟩
    refine (callsIn_open (fun _ => trivial) rfl rfl (WO.out _)).mono ?_
    rintro e w3 ⟨rfl, x3⟩
    gi_wp2
    refine ⟨trivial, ?_⟩
    refine (callsIn_open (fun _ => trivial) rfl rfl (all_any mu _)).mono ?_
    rintro e w4 ⟨rfl, rfl⟩
    gi_wp2
    have zW1 : W.heap.size ≤ W1.heap.size := X1.out.size
    have zw3 : W1.heap.size + 1 ≤ w3.heap.size := by have := x3.size; simpa using this
    have xW3 : Hid (Ext W (w3.alloc (.cells #[.int .u64 mu, .int .u64 0] 55))) := ((X1.out.alloc _).tr x3).alloc _
    have bB3 : Blk (w3.alloc (.cells #[.int .u64 mu, .int .u64 0] 55)) w3.heap.size 55 #[.int .u64 mu, .int .u64 0] := .new rfl
    have bP3 : Blk (w3.alloc (.cells #[.int .u64 mu, .int .u64 0] 55)) W1.heap.size 86 #[.int .i64 mn, .int .i64 mx] := ((Blk.new rfl).ext x3).alloc _
    have bX3 : Hid (Blk (w3.alloc (.cells #[.int .u64 mu, .int .u64 0] 55)) Bx 3 #[.int .i64 (u : Int)]) := hbX.out.ext xW3.out
    have kW3 := Lib.hid (kW.out.ext xW3.out)
    have hr3 : (w3.alloc (.cells #[.int .u64 mu, .int .u64 0] 55)).heap[l]? = some (.loop r) := (xW3.out.block l (Array.getElem?_eq_some_iff.1 hr.out).1).trans hr.out
    have hTW := hT.ext (hBW.out.trans (xW3.out.mono hBW.out.size))
    have zWw := hBW.out.size
    have hsizes : W0.heap.size ≤ W.heap.size := hH.out.1
    have h63u : ∀ x ∈ memsM mu, x < 63 := fun x hx => by
      rw [emu.out] at hx
      exact h63 x (List.mem_filter.1 hx).1
    have muR : Hid (∀ x ∈ memsM mu, x < rows.length) := fun x hx => by
      rw [emu.out] at hx
      exact hmr.out x (List.mem_filter.1 hx).1
    refine wpIn_rangeFunc_ownN (l₀ := l) (r₀ := r) rfl hr3 (by omega) (gf := 85) (lb := #[.pointer (some ⟨w3.heap.size, 0, none⟩)]) rfl trivial (enters_of Tryd.func85 (by kernel_rfl) rfl)
      ((all_stops 3 mu hmu1 h63u w3.heap.size w.heap.size _ bB3 hTW (by simp; omega) hg).inRound l) SetKp.tr (setKp_b (cs := #[.int .u64 mu, .int .u64 0]) (by simp; omega) bB3) (Below.refl _ _) (fun _ => rfl)
      (fun pre' W' => Blk W' W1.heap.size 86 #[.int .i64 ((inL pre').foldl (fun p v => putP p (costAt rows u v)) (mn, mx)).1, .int .i64 ((inL pre').foldl (fun p v => putP p (costAt rows u v)) (mn, mx)).2] ∧ Held (w3.alloc (.cells #[.int .u64 mu, .int .u64 0] 55)) W1.heap.size W' ∧ Below w.heap.size W W')
      (fun _ _ _ => False)
      (OwnFrom.and (ownFrom_blk (by simp <;> omega) _ _) (OwnFrom.and (ownFrom_held (Nat.le_refl _)) (ownFrom_below zWw (by simp <;> omega))))
      (fun _ _ _ _ _ hs _ _ => hs)
      ⟨by simpa [inL] using bP3, ⟨Nat.le_refl _, fun _ _ _ => rfl⟩, xW3.out.mono zWw⟩
      (fun y a'' _ => a'' = { tmps := #[.pointer (some ⟨g, 0, none⟩), .agg #[.int .u64 m, .int .u64 0, .int .i64 last, .int .i64 cost], .pointer (some ⟨w.heap.size, 0, none⟩), .pointer (some ⟨w.heap.size + 1, 0, none⟩), .int .i64 0, .pointer (some ⟨w.heap.size + 1 + 1, 0, none⟩), .pointer (some ⟨w.heap.size + 1 + 1 + 1, 0, none⟩), .pointer (some ⟨w.heap.size + 1 + 1 + 1 + 1, 0, none⟩), .pointer (some ⟨Bx, 0, none⟩), .int .i64 y1, .int .i64 y2, .pointer (some ⟨W1.heap.size, 0, none⟩), .int .i64 ((y.1 : Nat) : Int), undef, undef, .pointer (some ⟨w.heap.size + 1, 0, none⟩), .agg #[.int .u64 m, .int .u64 0], .func (.func 85) #[] #[.pointer (some ⟨w.heap.size + 1 + 1 + 1 + 1 + 1, 0, none⟩)], .int .i64 (u : Int), .pointer (some ⟨g, 0, none⟩), .pointer (some ⟨g, 0, none⟩), .pointer (some ⟨g, 0, none⟩), .slice (some ⟨ab, ao, none⟩) rows.length cc, .int .i64 (u : Int), .pointer (some ⟨ab, ao + u, none⟩), .slice (some ⟨cb, co, none⟩) rows.length d, .pointer (some ⟨w.heap.size + 1, 2, none⟩), .int .i64 last, .pointer (some ⟨cb, co + last, none⟩), .int .i64 y1, .pointer (some ⟨g, 0, none⟩), .pointer (some ⟨g, 0, none⟩), .pointer (some ⟨g, 0, none⟩), .slice (some ⟨ab, ao, none⟩) rows.length cc, .int .i64 (u : Int), .pointer (some ⟨ab, ao + u, none⟩), .slice (some ⟨cb, co, none⟩) rows.length d, .pointer (some ⟨cb, co, none⟩), .int .i64 y2, .int .i64 y1, .int .i64 y2, .int .i64 mn, .int .i64 y1, .int .i64 y2, .int .i64 mx, .agg #[.int .i64 mn, .int .i64 mx], .pointer (some ⟨w.heap.size + 1, 0, none⟩), .agg #[.int .u64 m, .int .u64 0], .int .i64 (u : Int), .agg #[.int .u64 mu, .int .u64 0], .func (.func 85) #[] #[.pointer (some ⟨w3.heap.size, 0, none⟩)], .int .i64 ((y.1 : Nat) : Int), undef, undef, undef, undef, undef, undef, undef, undef, undef, undef, undef, undef, undef, undef, undef, undef, undef, undef, undef, undef, undef, undef, undef, undef, undef, undef, undef, undef, undef, undef, undef, undef, undef, undef, undef, undef, undef, undef, undef, undef, undef, undef, undef, undef, undef, undef, undef, undef, undef, undef, undef, undef, undef, undef, undef, undef, undef, undef, undef, undef], defers := [] })
      (fun _ _ _ _ _ _ hs _ _ => hs)
      ?assign2 ?body2 ?done2 ?stop2
    case assign2 =>
      rintro l2 pre' y W' K hi hK
      gi_wp2
      exact hK _ _ (KeepsFrom.refl _ _) ⟨Below.refl _ _, rfl⟩ hi rfl
    case body2 =>
      rintro l2 pre' y a'' W' _ _ ⟨hP, hH2, hBW2⟩ rfl _
      have hy := muR.out y.1 y.2
      obtain ⟨p, hp⟩ : ∃ p : Int × Int, Hid (p = (inL pre').foldl (fun p v => putP p (costAt rows u v)) (mn, mx)) := ⟨_, rfl⟩
      rw [← hp.out] at hP
      have xw' : Hid (Below w.heap.size w W') := hBW.out.trans hBW2
      obtain ⟨cb', co', z, hD3, zz, cz, ez, _⟩ := (oD.out.read.ext xw'.out).at (k := y.1) (by omega)
      obtain ⟨rfl, rfl⟩ : cb = cb' ∧ co = co' := by simpa using hD3
      obtain ⟨ab', ao', vv, hC3, zv3, cv3, ev3⟩ := (hV.out.read.ext xw'.out).at (j := u) (by rw [lus.out]; exact hu)
      obtain ⟨rfl, rfl⟩ : ab = ab' ∧ ao = ao' := by simpa using hC3
      obtain rfl : .slice (some ⟨cb, co, none⟩) row.length d = vv := by
        have h := ev3.out
        rw [hud] at h
        exact Option.some.inj h
      have eN : Hid ((inL (pre' ++ [y])).foldl (fun p v => putP p (costAt rows u v)) (mn, mx) = putP p z) := by
        have h : (inL (pre' ++ [y])).foldl (fun p v => putP p (costAt rows u v)) (mn, mx) = putP p z := by
          rw [inL_snoc, List.foldl_append, ← hp.out, List.foldl_cons, List.foldl_nil, ecost.out, getD_some ez.out]
        exact h
      have cG' : W'.cell? ⟨g, 0, none⟩ = some (.slice (some ⟨ab, ao, none⟩) rows.length cc) := (hB.out.ext xw'.out).cell 0
      have cK' : W'.cell? ⟨w.heap.size, 0, none⟩ = some (.pointer (some ⟨g, 0, none⟩)) := (hH2.blk kW3.out (by omega)).cell 0
      have cX' : W'.cell? ⟨Bx, 0, none⟩ = some (.int .i64 (u : Int)) := (hH2.blk bX3.out (by omega)).cell 0
      have cP0 : W'.cell? ⟨W1.heap.size, 0, none⟩ = some (.int .i64 p.1) := hP.cell 0
      have cP1 : W'.cell? ⟨W1.heap.size, 1, none⟩ = some (.int .i64 p.2) := hP.cell 1
      have PU := Lib.hid (fun (V : World) => put_any p z V)
      have q4 : ((y.1 : Nat) : Int) < (row.length : Int) := by omega
      clear ez ev3 hD3 hC3 hp
      obtain ⟨p1, p2⟩ := p
      obtain ⟨r2, hr2⟩ : ∃ r2, Hid (putP (p1, p2) z = r2) := ⟨_, rfl⟩
      rw [hr2.out] at PU eN
      obtain ⟨r1, r2⟩ := r2
      simp only at cP0 cP1 hP
      replace hP := Lib.hid hP
      gi_wp2
      refine wpIn_region_open (by kernel_rfl) (by kernel_rfl) (fun _ => trivial) rfl rfl ?_
      change wpAny _ _ _ _ _ _ _ (World.drew _)
      refine wpAny_reads2 (n := 2) [(0, some 52), (1, some 53), (2, some 54), (3, some 55), (4, some 56), (5, some 57), (6, some 58), (7, some 59), (8, some 60), (9, some 61), (10, some 62)] (fun | 0 => .agg #[.int .i64 p1, .int .i64 p2] | 1 => .pointer (some ⟨g, 0, none⟩) | 2 => .pointer (some ⟨g, 0, none⟩) | 3 => .pointer (some ⟨g, 0, none⟩) | 4 => .slice (some ⟨ab, ao, none⟩) rows.length cc | 5 => .int .i64 (u : Int) | 6 => .pointer (some ⟨ab, ao + u, none⟩) | 7 => .slice (some ⟨cb, co, none⟩) row.length d | 8 => .int .i64 ((y.1 : Nat) : Int) | 9 => .pointer (some ⟨cb, co + y.1, none⟩) | 10 => .int .i64 z | _ => undef) #[true, true, true, true, true, true, true, true, true, true, true, false, false] (by decide +kernel) ?_ ?_
      · intro pS hpm uS hD K hK
        simp only [List.mem_cons, List.not_mem_nil, or_false] at hpm
        rcases hpm with rfl | rfl | rfl | rfl | rfl | rfl | rfl | rfl | rfl | rfl | rfl
        · exact op_ld (T := 86) (x := Operand.tmp 11) (t := 86) (d := some 52) rfl (.pointer (some ⟨W1.heap.size, 0, none⟩)) (by kernel_rfl) (.agg #[.int .i64 p1, .int .i64 p2]) (by go_simp) hK
        · exact op_ld (T := 47) (x := Operand.tmp 2) (t := 47) (d := some 53) rfl (.pointer (some ⟨w.heap.size, 0, none⟩)) (by kernel_rfl) (.pointer (some ⟨g, 0, none⟩)) (by go_simp) hK
        · (have e1 : uS 1 = .pointer (some ⟨g, 0, none⟩) := hD 1 (depIn (by kernel_rfl)); exact op_run (op := Op.nilCheck (Operand.tmp 53)) (t := 0) (d := some 54) rfl (.pointer (some ⟨g, 0, none⟩)) (by simp only [putAll, Act.put, List.setIfInBounds_toArray, List.set_cons_zero, List.set_cons_succ]; unfold exec2; go_simp; try simp only [e1]; try go_simp) hK)
        · (have e2 : uS 2 = .pointer (some ⟨g, 0, none⟩) := hD 2 (depIn (by kernel_rfl)); exact op_run (op := Op.fieldAddr 68 (Operand.tmp 54) 0) (t := 0) (d := some 55) rfl (.pointer (some ⟨g, 0, none⟩)) (by simp only [putAll, Act.put, List.setIfInBounds_toArray, List.set_cons_zero, List.set_cons_succ]; unfold exec2; go_simp; try simp only [e2]; try go_simp) hK)
        · exact op_ld (T := 23) (x := Operand.tmp 55) (t := 23) (d := some 56) rfl (.pointer (some ⟨g, 0, none⟩)) (Eq.trans (b := uS 3) (by kernel_rfl) (hD 3 (depIn (by kernel_rfl)))) (.slice (some ⟨ab, ao, none⟩) rows.length cc) (by go_simp) hK
        · exact op_ld (T := 3) (x := Operand.tmp 8) (t := 3) (d := some 57) rfl (.pointer (some ⟨Bx, 0, none⟩)) (by kernel_rfl) (.int .i64 (u : Int)) (by go_simp) hK
        · exact op_ix (T := 23) (x := Operand.tmp 56) (y := Operand.tmp 57) (t := 0) (d := some 58) rfl (.slice (some ⟨ab, ao, none⟩) rows.length cc) (.int .i64 (u : Int)) (Eq.trans (b := uS 4) (by kernel_rfl) (hD 4 (depIn (by kernel_rfl)))) (Eq.trans (b := uS 5) (by kernel_rfl) (hD 5 (depIn (by kernel_rfl)))) (.pointer (some ⟨ab, ao + u, none⟩)) (by go_simp) hK
        · exact op_ld (T := 22) (x := Operand.tmp 58) (t := 22) (d := some 59) rfl (.pointer (some ⟨ab, ao + u, none⟩)) (Eq.trans (b := uS 6) (by kernel_rfl) (hD 6 (depIn (by kernel_rfl)))) (.slice (some ⟨cb, co, none⟩) row.length d) (by go_simp) hK
        · exact op_run (op := Op.move (Operand.tmp 12)) (t := 3) (d := some 60) rfl (.int .i64 ((y.1 : Nat) : Int)) (by simp only [putAll]; unfold exec2; go_simp) hK
        · exact op_ix (T := 22) (x := Operand.tmp 59) (y := Operand.tmp 60) (t := 0) (d := some 61) rfl (.slice (some ⟨cb, co, none⟩) row.length d) (.int .i64 ((y.1 : Nat) : Int)) (Eq.trans (b := uS 7) (by kernel_rfl) (hD 7 (depIn (by kernel_rfl)))) (Eq.trans (b := uS 8) (by kernel_rfl) (hD 8 (depIn (by kernel_rfl)))) (.pointer (some ⟨cb, co + y.1, none⟩)) (by go_simp) hK
        · exact op_ld (T := 3) (x := Operand.tmp 61) (t := 3) (d := some 62) rfl (.pointer (some ⟨cb, co + y.1, none⟩)) (Eq.trans (b := uS 9) (by kernel_rfl) (hD 9 (depIn (by kernel_rfl)))) (.int .i64 z) (by go_simp) hK
      simp only [putAll, Act.put, List.setIfInBounds_toArray, List.set_cons_zero, List.set_cons_succ]
      refine wpAny_next 11 (by decide +kernel) (op_call (f := 80) (xs := #[Operand.tmp 52, Operand.tmp 62]) (ts := #[86, 3]) (t := 86) (d := some 63) rfl #[.agg #[.int .i64 p1, .int .i64 p2], .int .i64 z] (by go_simp) (by kernel_rfl) _ (PU.out _) ?_)
      rintro e w5 ⟨rfl, x5⟩
      refine ⟨_, rfl, ?_⟩
      try simp only [Act.put, List.setIfInBounds_toArray, List.set_cons_zero, List.set_cons_succ]
      have hP5 : Blk w5 W1.heap.size 86 #[.int .i64 p1, .int .i64 p2] := (hP.out.drew).ext x5
      have k0 : w5.cell? ⟨W1.heap.size, 0, none⟩ = some (.int .i64 p1) := hP5.cell 0
      have k1 : w5.cell? ⟨W1.heap.size, 1, none⟩ = some (.int .i64 p2) := hP5.cell 1
      have k2 := hP5.free 0
      have k3 := hP5.free 1
      refine wpAny_next 12 (by decide +kernel) (op_st rfl (.pointer (some ⟨W1.heap.size, 0, none⟩)) (.agg #[.int .i64 r1, .int .i64 r2]) (by kernel_rfl) (by kernel_rfl) (by go_simp; rfl) ?_)
      try simp only [Act.put, List.setIfInBounds_toArray, List.set_cons_zero, List.set_cons_succ]
      refine wpAny_done (by kernel_rfl) (onNormal_i ?_) _
      have XW5 : Ext W' w5 := ((Ext.rf W').drew).tr x5
      have zW' : w3.heap.size + 1 ≤ W'.heap.size := by have := hH2.1; simpa using this
      refine ⟨(KeepsFrom.of_ext XW5).trans (((KeepsOthers.setCell _ _ _).trans (KeepsOthers.setCell _ _ _)).from _), ⟨((XW5.mono (by omega)).setCell (by simp <;> omega) _).setCell (by simp <;> omega) _, ?_⟩, ?_, ?_, ?_⟩
      · exact ((Below.heap_setCell _ ⟨W1.heap.size, 1, none⟩ _ w3.heap.size (by simp <;> omega)).trans (Below.heap_setCell w5 ⟨W1.heap.size, 0, none⟩ _ w3.heap.size (by simp <;> omega))).trans (XW5.block w3.heap.size (by omega))
      · rw [eN.out]
        exact (hP5.set 0 _).set 1 _
      · refine ⟨by have := XW5.size; simp; omega, fun b h1 h2 => ?_⟩
        rw [World.size_alloc] at h1
        exact (((Below.heap_setCell _ ⟨W1.heap.size, 1, none⟩ _ b h2).trans (Below.heap_setCell w5 ⟨W1.heap.size, 0, none⟩ _ b h2)).trans (XW5.block b (by omega))).trans (hH2.2 b (by simp; omega) h2)
      · exact ((hBW2.trans (XW5.mono (by omega))).setCell (by simp <;> omega) _).setCell (by simp <;> omega) _
    case done2 =>
      rintro ys' W' rfl ⟨hP, hH2, hBW2⟩
      rw [inL_attach, emu.out] at hP
      have epair : pairT rows (memsM m) last u = ((memsM m).filter fun j => decide (u ≠ j)).foldl (fun p v => putP p (costAt rows u v)) (mn, mx) := by
        unfold pairT
        rw [e1.out, e2.out, hmn.out, hmx'.out]
      rw [← epair] at hP
      have bp : (0 ≤ (pairT rows (memsM m) last u).1 ∧ (pairT rows (memsM m) last u).1 ≤ 2147483647) ∧ 0 ≤ (pairT rows (memsM m) last u).2 ∧ (pairT rows (memsM m) last u).2 ≤ 2147483647 := by
        rw [epair]
        refine foldP_bd _ _ ?_ ?_ fun v hv => hcost.out u v hu (hmr.out v (List.mem_filter.1 hv).1)
        · simp only [← hmn.out]; omega
        · simp only [← hmx'.out]; omega
      obtain ⟨pp, hpp⟩ : ∃ pp, Hid (pairT rows (memsM m) last u = pp) := ⟨_, rfl⟩
      rw [hpp.out] at hP bp
      obtain ⟨p1, p2⟩ := pp
      simp only at hP bp
      obtain ⟨su, hsu⟩ : ∃ su, Hid (su = sumL ((inL pre).map fun u => (pairT rows (memsM m) last u).1 + (pairT rows (memsM m) last u).2)) := ⟨_, rfl⟩
      obtain ⟨fr, hfr⟩ : ∃ fr, Hid (fr = leastN (fun u => costAt rows last u) (-1) (inL pre)) := ⟨_, rfl⟩
      obtain ⟨tq, hto⟩ : ∃ tq, Hid (tq = leastN (fun u => costAt rows u 0) (-1) (inL pre)) := ⟨_, rfl⟩
      rw [← hsu.out] at hO
      rw [← hfr.out] at hF
      rw [← hto.out] at hTo
      have bsu : 0 ≤ su ∧ su ≤ 4294967294 * 64 := by
        have h1 : ∀ l : List Nat, (∀ c ∈ l, c < rows.length) → 0 ≤ sumL (l.map fun u => (pairT rows (memsM m) last u).1 + (pairT rows (memsM m) last u).2) ∧ sumL (l.map fun u => (pairT rows (memsM m) last u).1 + (pairT rows (memsM m) last u).2) ≤ 4294967294 * (l.length : Int) := by
          intro l
          induction l with
          | nil => intro _; simp [sumL]
          | cons y l ih =>
            intro h
            have h2 := ih fun s hs => h s (by simp [hs])
            have hy := h y (by simp)
            have k1 := hcost.out y last hy hla
            have k2 := hcost.out y 0 hy (by omega)
            have h3 := foldP_bd (B := 2147483647) (f := fun v => costAt rows y v) ((memsM m).filter fun j => decide (y ≠ j)) (min (costAt rows y last) (costAt rows y 0), max (costAt rows y last) (costAt rows y 0)) (by simp only; omega) (by simp only; omega) fun v hv => hcost.out y v hy (hmr.out v (List.mem_filter.1 hv).1)
            have h4 : pairT rows (memsM m) last y = ((memsM m).filter fun j => decide (y ≠ j)).foldl (fun p v => putP p (costAt rows y v)) (min (costAt rows y last) (costAt rows y 0), max (costAt rows y last) (costAt rows y 0)) := rfl
            rw [← h4] at h3
            simp only [List.map_cons, sumL, List.length_cons]
            omega
        have h2 := h1 (inL pre) fun c hc => by
          obtain ⟨c', _, rfl⟩ := List.mem_map.1 hc
          exact hmr.out c'.1 c'.2
        have h3 : (inL pre).length ≤ 64 := by
          have := memsM_le m
          simp [inL]
          omega
        rw [hsu.out]
        omega
      have eS : Hid (sumL ((inL (pre ++ [x])).map fun u => (pairT rows (memsM m) last u).1 + (pairT rows (memsM m) last u).2) = su + (p1 + p2)) := by
        have h : sumL ((inL (pre ++ [x])).map fun u => (pairT rows (memsM m) last u).1 + (pairT rows (memsM m) last u).2) = su + (p1 + p2) := by
          rw [inx, List.map_append, List.map_cons, List.map_nil, sumA_snoc, ← hsu.out, hpp.out]
        exact h
      have cost1 := hcost.out last u hla hu
      obtain ⟨y3, hy3⟩ : ∃ y3, Hid (costAt rows last u = y3) := ⟨_, rfl⟩
      rw [hy3.out] at cost1
      have eFr : Hid (leastN (fun u => costAt rows last u) (-1) (inL (pre ++ [x])) = if fr < 0 then y3 else if y3 < fr then y3 else fr) := by
        have h : leastN (fun u => costAt rows last u) (-1) (inL (pre ++ [x])) = if fr < 0 then y3 else if y3 < fr then y3 else fr := by
          rw [inx, leastN_snoc, ← hfr.out, hy3.out]
        exact h
      have eTo : Hid (leastN (fun u => costAt rows u 0) (-1) (inL (pre ++ [x])) = if tq < 0 then y2 else if y2 < tq then y2 else tq) := by
        have h : leastN (fun u => costAt rows u 0) (-1) (inL (pre ++ [x])) = if tq < 0 then y2 else if y2 < tq then y2 else tq := by
          rw [inx, leastN_snoc, ← hto.out, e2.out]
        exact h
      have erl : rows[last]? = some rows[last] := List.getElem?_eq_getElem hla
      obtain ⟨DL, dl, hul, oDL⟩ := hR.out.2 _ _ erl
      have lrl := ok.row _ (List.getElem_mem hla)
      have ecl : costAt rows last u = (rows[last]).getD u 0 := by unfold costAt; rw [getD_some erl]
      generalize rows[last] = rowL at *
      have hw1 : IntKind.i64.wrap (p1 + p2) = p1 + p2 := IntWalk.i64_in _ (by omega)
      have hw2 : IntKind.i64.wrap (su + (p1 + p2)) = su + (p1 + p2) := IntWalk.i64_in _ (by omega)
      have zW' : w3.heap.size + 1 ≤ W'.heap.size := by have := hH2.1; simpa using this
      have G0 : EndG w W0 W su fr tq W' := by
        refine ⟨⟨by omega, fun k o hk h1 h2 => ?_⟩, ⟨hBW2, ?_⟩, ⟨hH2.blk (hO.out.ext xW3.out) (by omega), hH2.blk (hF.out.ext xW3.out) (by omega), hH2.blk (hTo.out.ext xW3.out) (by omega)⟩, ⟨by omega, fun b h1 h2 => ?_⟩, hBW.out.trans hBW2⟩
        · have hk1 : k < W.heap.size := (Array.getElem?_eq_some_iff.1 h1).1
          exact ((hH2.2 k (by simp; omega) (by omega)).trans (xW3.out.block k hk1)).trans h1
        · exact (hH2.2 _ (by simp; omega) (by omega)).trans (xW3.out.block _ (by omega))
        · exact ((hH2.2 b (by simp; omega) (by omega)).trans (xW3.out.block b (by omega))).trans (hH.out.2 b h1 h2)
      have G1 := G0.set2 (su + (p1 + p2))
      have cP0 : W'.cell? ⟨W1.heap.size, 0, none⟩ = some (.int .i64 p1) := hP.cell 0
      have cP1 : W'.cell? ⟨W1.heap.size, 1, none⟩ = some (.int .i64 p2) := hP.cell 1
      have cS : W'.cell? ⟨w.heap.size + 1 + 1, 0, none⟩ = some (.int .i64 su) := G0.2.2.1.1.cell 0
      have fS := G0.2.2.1.1.free 0
      have kW' := (hH2.blk kW3.out (by omega)).far (p := ⟨w.heap.size + 1 + 1, 0, none⟩) (by simp <;> omega) (.int .i64 (su + (p1 + p2)))
      have wW' := (hH2.blk (wW.out.ext xW3.out) (by omega)).far (p := ⟨w.heap.size + 1 + 1, 0, none⟩) (by simp <;> omega) (.int .i64 (su + (p1 + p2)))
      have xW' := (hH2.blk bX3.out (by omega)).far (p := ⟨w.heap.size + 1 + 1, 0, none⟩) (by simp <;> omega) (.int .i64 (su + (p1 + p2)))
      replace hP := Lib.hid hP
      clear bsu bp hH2 hBW2 G0
      gi_wp2
      replace kW' := Lib.hid kW'
      replace wW' := Lib.hid wW'
      replace xW' := Lib.hid xW'
      have zV1 : w.heap.size + 1 + 1 + 1 + 1 + 1 < (W'.setCell ⟨w.heap.size + 1 + 1, 0, none⟩ (.int .i64 (su + (p1 + p2)))).heap.size := by simp; omega
      replace G1 := Lib.hid G1
      clear cP0 cP1 cS fS hr3 hP
      generalize W'.setCell ⟨w.heap.size + 1 + 1, 0, none⟩ (.int .i64 (su + (p1 + p2))) = V1 at *
      have cG1 : V1.cell? ⟨g, 0, none⟩ = some (.slice (some ⟨ab, ao, none⟩) rows.length cc) := (hB.out.ext G1.out.2.2.2.2).cell 0
      have cK1 : V1.cell? ⟨w.heap.size, 0, none⟩ = some (.pointer (some ⟨g, 0, none⟩)) := kW'.out.cell 0
      have cW1 : V1.cell? ⟨w.heap.size + 1, 2, none⟩ = some (.int .i64 last) := wW'.out.cell 2
      have cX1 : V1.cell? ⟨Bx, 0, none⟩ = some (.int .i64 (u : Int)) := xW'.out.cell 0
      obtain ⟨ab', ao', vv, hC5, zv5, cv5, ev5⟩ := (hV.out.read.ext G1.out.2.2.2.2).at (j := last) (by rw [lus.out]; exact hla)
      obtain ⟨rfl, rfl⟩ : ab = ab' ∧ ao = ao' := by simpa using hC5
      obtain rfl : .slice DL rowL.length dl = vv := by
        have h := ev5.out
        rw [hul] at h
        exact Option.some.inj h
      obtain ⟨lb', lo', y3x, rfl, zy3x, cy3x, ey3x, _⟩ := (oDL.read.ext G1.out.2.2.2.2).at (k := u) (by omega)
      have e35 : y3x = y3 := by rw [← hy3.out, ecl, getD_some ey3x.out]
      obtain rfl := e35
      have q6 : (last : Int) < (rows.length : Int) := by omega
      have q7 : (u : Int) < (rowL.length : Int) := by omega
      replace ecl := Lib.hid ecl
      clear ey3x ev5 hC5
      by_cases hneg : fr < 0
      · rw [if_pos hneg] at eFr
        gi_wp2
        refine wpIn_region_quiet_r (by kernel_rfl) (by kernel_rfl) (by kernel_rfl) ?_
        repeat (gi_big_quiet_step (fail))
        refine wpQuietIn_nil ?_
        rintro _ ⟨nq, rfl⟩
        have XV : Hid (Ext V1 (V1.drewN nq)) := (Ext.rf V1).drewN nq
        have zV2 : w.heap.size + 1 + 1 + 1 + 1 + 1 < (V1.drewN nq).heap.size := by have := XV.out.size; omega
        have G2 := Lib.hid (G1.out.ext (by omega) XV.out)
        have kV2 := Lib.hid (kW'.out.ext XV.out)
        have xV2 := Lib.hid (xW'.out.ext XV.out)
        obtain ⟨V2, hV2⟩ : ∃ V2, V1.drewN nq = V2 := ⟨_, rfl⟩
        rw [hV2] at G2 kV2 xV2 zV2 ⊢
        clear hV2 XV cG1 cK1 cW1 cX1 cv5 cy3x
        have cFr : V2.cell? ⟨w.heap.size + 1 + 1 + 1, 0, none⟩ = some (.int .i64 fr) := G2.out.2.2.1.2.1.cell 0
        have fFr := G2.out.2.2.1.2.1.free 0
        gi_wp2
        have G3 := G2.out.set3 y3x
        have kV3 := Lib.hid (kV2.out.far (p := ⟨w.heap.size + 1 + 1 + 1, 0, none⟩) (by simp <;> omega) (.int .i64 y3x))
        have xV3 := Lib.hid (xV2.out.far (p := ⟨w.heap.size + 1 + 1 + 1, 0, none⟩) (by simp <;> omega) (.int .i64 y3x))
        have zV3 : w.heap.size + 1 + 1 + 1 + 1 + 1 < (V2.setCell ⟨w.heap.size + 1 + 1 + 1, 0, none⟩ (.int .i64 y3x)).heap.size := by simpa using zV2
        generalize V2.setCell ⟨w.heap.size + 1 + 1 + 1, 0, none⟩ (.int .i64 y3x) = V3 at *
        clear cFr fFr
        have G3 := Lib.hid G3
        have cT : V3.cell? ⟨w.heap.size + 1 + 1 + 1 + 1, 0, none⟩ = some (.int .i64 tq) := G3.out.2.2.1.2.2.cell 0
        have fT := G3.out.2.2.1.2.2.free 0
        have cG3 : V3.cell? ⟨g, 0, none⟩ = some (.slice (some ⟨ab, ao, none⟩) rows.length cc) := (hB.out.ext G3.out.2.2.2.2).cell 0
        have cK3 : V3.cell? ⟨w.heap.size, 0, none⟩ = some (.pointer (some ⟨g, 0, none⟩)) := kV3.out.cell 0
        have cX3 : V3.cell? ⟨Bx, 0, none⟩ = some (.int .i64 (u : Int)) := xV3.out.cell 0
        obtain ⟨ab', ao', vv, hC4, zv4, cv4, ev4⟩ := (hV.out.read.ext G3.out.2.2.2.2).at (j := u) (by rw [lus.out]; exact hu)
        obtain ⟨rfl, rfl⟩ : ab = ab' ∧ ao = ao' := by simpa using hC4
        obtain rfl : .slice (some ⟨cb, co, none⟩) row.length d = vv := by
          have h := ev4.out
          rw [hud] at h
          exact Option.some.inj h
        obtain ⟨cb', co', z4, hD4, zz4, cz4, ez4, _⟩ := (oD.out.read.ext G3.out.2.2.2.2).at (k := 0) (by omega)
        obtain ⟨rfl, rfl⟩ : cb = cb' ∧ co = co' := by simpa using hD4
        obtain rfl : z4 = y2 := by
          have h := ecost.out 0
          rw [e2.out, getD_some ez4.out] at h
          exact h.symm
        replace cz4 : V3.cell? ⟨cb, co, none⟩ = some (.int .i64 z4) := cz4
        clear ez4 ev4 hC4 hD4
        by_cases hneg2 : tq < 0
        · rw [if_pos hneg2] at eTo
          gi_wp2
          refine wpIn_region_quiet_r (by kernel_rfl) (by kernel_rfl) (by kernel_rfl) ?_
          repeat (gi_big_quiet_step (fail))
          refine wpQuietIn_nil ?_
          rintro _ ⟨nq, rfl⟩
          gi_wp2
          have E := (G3.out.ext (by omega) ((Ext.rf V3).drewN nq)).set4 z4
          exact ⟨E.1, E.2.1, ⟨by rw [eS.out]; exact E.2.2.1.1, by rw [eFr.out]; exact E.2.2.1.2.1, by rw [eTo.out]; exact E.2.2.1.2.2⟩, E.2.2.2.1, E.2.2.2.2⟩
        · rw [if_neg hneg2] at eTo
          by_cases hlt2 : z4 < tq
          · rw [if_pos hlt2] at eTo
            gi_wp2
            refine wpIn_region_quiet_r (by kernel_rfl) (by kernel_rfl) (by kernel_rfl) ?_
            repeat (gi_big_quiet_step (fail))
            refine wpQuietIn_nil ?_
            rintro _ ⟨nq, rfl⟩
            gi_wp2
            have E := (G3.out.ext (by omega) ((Ext.rf V3).drewN nq)).set4 z4
            exact ⟨E.1, E.2.1, ⟨by rw [eS.out]; exact E.2.2.1.1, by rw [eFr.out]; exact E.2.2.1.2.1, by rw [eTo.out]; exact E.2.2.1.2.2⟩, E.2.2.2.1, E.2.2.2.2⟩
          · rw [if_neg hlt2] at eTo
            gi_wp2
            refine wpIn_region_quiet_r (by kernel_rfl) (by kernel_rfl) (by kernel_rfl) ?_
            repeat (gi_big_quiet_step (fail))
            refine wpQuietIn_nil ?_
            rintro _ ⟨nq, rfl⟩
            gi_wp2
            have E := G3.out.ext (by omega) ((Ext.rf V3).drewN nq)
            exact ⟨E.1, E.2.1, ⟨by rw [eS.out]; exact E.2.2.1.1, by rw [eFr.out]; exact E.2.2.1.2.1, by rw [eTo.out]; exact E.2.2.1.2.2⟩, E.2.2.2.1, E.2.2.2.2⟩
      · rw [if_neg hneg] at eFr
        by_cases hlt1 : y3x < fr
        · rw [if_pos hlt1] at eFr
          gi_wp2
          refine wpIn_region_quiet_r (by kernel_rfl) (by kernel_rfl) (by kernel_rfl) ?_
          repeat (gi_big_quiet_step (fail))
          refine wpQuietIn_nil ?_
          rintro _ ⟨nq, rfl⟩
          have XV : Hid (Ext V1 (V1.drewN nq)) := (Ext.rf V1).drewN nq
          have zV2 : w.heap.size + 1 + 1 + 1 + 1 + 1 < (V1.drewN nq).heap.size := by have := XV.out.size; omega
          have G2 := Lib.hid (G1.out.ext (by omega) XV.out)
          have kV2 := Lib.hid (kW'.out.ext XV.out)
          have xV2 := Lib.hid (xW'.out.ext XV.out)
          obtain ⟨V2, hV2⟩ : ∃ V2, V1.drewN nq = V2 := ⟨_, rfl⟩
          rw [hV2] at G2 kV2 xV2 zV2 ⊢
          clear hV2 XV cG1 cK1 cW1 cX1 cv5 cy3x
          have cFr : V2.cell? ⟨w.heap.size + 1 + 1 + 1, 0, none⟩ = some (.int .i64 fr) := G2.out.2.2.1.2.1.cell 0
          have fFr := G2.out.2.2.1.2.1.free 0
          gi_wp2
          have G3 := G2.out.set3 y3x
          have kV3 := Lib.hid (kV2.out.far (p := ⟨w.heap.size + 1 + 1 + 1, 0, none⟩) (by simp <;> omega) (.int .i64 y3x))
          have xV3 := Lib.hid (xV2.out.far (p := ⟨w.heap.size + 1 + 1 + 1, 0, none⟩) (by simp <;> omega) (.int .i64 y3x))
          have zV3 : w.heap.size + 1 + 1 + 1 + 1 + 1 < (V2.setCell ⟨w.heap.size + 1 + 1 + 1, 0, none⟩ (.int .i64 y3x)).heap.size := by simpa using zV2
          generalize V2.setCell ⟨w.heap.size + 1 + 1 + 1, 0, none⟩ (.int .i64 y3x) = V3 at *
          clear cFr fFr
          have G3 := Lib.hid G3
          have cT : V3.cell? ⟨w.heap.size + 1 + 1 + 1 + 1, 0, none⟩ = some (.int .i64 tq) := G3.out.2.2.1.2.2.cell 0
          have fT := G3.out.2.2.1.2.2.free 0
          have cG3 : V3.cell? ⟨g, 0, none⟩ = some (.slice (some ⟨ab, ao, none⟩) rows.length cc) := (hB.out.ext G3.out.2.2.2.2).cell 0
          have cK3 : V3.cell? ⟨w.heap.size, 0, none⟩ = some (.pointer (some ⟨g, 0, none⟩)) := kV3.out.cell 0
          have cX3 : V3.cell? ⟨Bx, 0, none⟩ = some (.int .i64 (u : Int)) := xV3.out.cell 0
          obtain ⟨ab', ao', vv, hC4, zv4, cv4, ev4⟩ := (hV.out.read.ext G3.out.2.2.2.2).at (j := u) (by rw [lus.out]; exact hu)
          obtain ⟨rfl, rfl⟩ : ab = ab' ∧ ao = ao' := by simpa using hC4
          obtain rfl : .slice (some ⟨cb, co, none⟩) row.length d = vv := by
            have h := ev4.out
            rw [hud] at h
            exact Option.some.inj h
          obtain ⟨cb', co', z4, hD4, zz4, cz4, ez4, _⟩ := (oD.out.read.ext G3.out.2.2.2.2).at (k := 0) (by omega)
          obtain ⟨rfl, rfl⟩ : cb = cb' ∧ co = co' := by simpa using hD4
          obtain rfl : z4 = y2 := by
            have h := ecost.out 0
            rw [e2.out, getD_some ez4.out] at h
            exact h.symm
          replace cz4 : V3.cell? ⟨cb, co, none⟩ = some (.int .i64 z4) := cz4
          clear ez4 ev4 hC4 hD4
          by_cases hneg2 : tq < 0
          · rw [if_pos hneg2] at eTo
            gi_wp2
            refine wpIn_region_quiet_r (by kernel_rfl) (by kernel_rfl) (by kernel_rfl) ?_
            repeat (gi_big_quiet_step (fail))
            refine wpQuietIn_nil ?_
            rintro _ ⟨nq, rfl⟩
            gi_wp2
            have E := (G3.out.ext (by omega) ((Ext.rf V3).drewN nq)).set4 z4
            exact ⟨E.1, E.2.1, ⟨by rw [eS.out]; exact E.2.2.1.1, by rw [eFr.out]; exact E.2.2.1.2.1, by rw [eTo.out]; exact E.2.2.1.2.2⟩, E.2.2.2.1, E.2.2.2.2⟩
          · rw [if_neg hneg2] at eTo
            by_cases hlt2 : z4 < tq
            · rw [if_pos hlt2] at eTo
              gi_wp2
              refine wpIn_region_quiet_r (by kernel_rfl) (by kernel_rfl) (by kernel_rfl) ?_
              repeat (gi_big_quiet_step (fail))
              refine wpQuietIn_nil ?_
              rintro _ ⟨nq, rfl⟩
              gi_wp2
              have E := (G3.out.ext (by omega) ((Ext.rf V3).drewN nq)).set4 z4
              exact ⟨E.1, E.2.1, ⟨by rw [eS.out]; exact E.2.2.1.1, by rw [eFr.out]; exact E.2.2.1.2.1, by rw [eTo.out]; exact E.2.2.1.2.2⟩, E.2.2.2.1, E.2.2.2.2⟩
            · rw [if_neg hlt2] at eTo
              gi_wp2
              refine wpIn_region_quiet_r (by kernel_rfl) (by kernel_rfl) (by kernel_rfl) ?_
              repeat (gi_big_quiet_step (fail))
              refine wpQuietIn_nil ?_
              rintro _ ⟨nq, rfl⟩
              gi_wp2
              have E := G3.out.ext (by omega) ((Ext.rf V3).drewN nq)
              exact ⟨E.1, E.2.1, ⟨by rw [eS.out]; exact E.2.2.1.1, by rw [eFr.out]; exact E.2.2.1.2.1, by rw [eTo.out]; exact E.2.2.1.2.2⟩, E.2.2.2.1, E.2.2.2.2⟩
        · rw [if_neg hlt1] at eFr
          gi_wp2
          refine wpIn_region_quiet_r (by kernel_rfl) (by kernel_rfl) (by kernel_rfl) ?_
          repeat (gi_big_quiet_step (fail))
          refine wpQuietIn_nil ?_
          rintro _ ⟨nq, rfl⟩
          have XV : Hid (Ext V1 (V1.drewN nq)) := (Ext.rf V1).drewN nq
          have zV2 : w.heap.size + 1 + 1 + 1 + 1 + 1 < (V1.drewN nq).heap.size := by have := XV.out.size; omega
          have G2 := Lib.hid (G1.out.ext (by omega) XV.out)
          have kV2 := Lib.hid (kW'.out.ext XV.out)
          have xV2 := Lib.hid (xW'.out.ext XV.out)
          obtain ⟨V2, hV2⟩ : ∃ V2, V1.drewN nq = V2 := ⟨_, rfl⟩
          rw [hV2] at G2 kV2 xV2 zV2 ⊢
          clear hV2 XV cG1 cK1 cW1 cX1 cv5 cy3x
          have cFr : V2.cell? ⟨w.heap.size + 1 + 1 + 1, 0, none⟩ = some (.int .i64 fr) := G2.out.2.2.1.2.1.cell 0
          have fFr := G2.out.2.2.1.2.1.free 0
          gi_wp2
          have G3 := G2.out
          have kV3 := kV2
          have xV3 := xV2
          have zV3 := zV2
          obtain ⟨V3, hV3⟩ : ∃ V3, V2 = V3 := ⟨_, rfl⟩
          rw [hV3] at G3 kV3 xV3 zV3 ⊢
          clear hV3
          clear cFr fFr
          have G3 := Lib.hid G3
          have cT : V3.cell? ⟨w.heap.size + 1 + 1 + 1 + 1, 0, none⟩ = some (.int .i64 tq) := G3.out.2.2.1.2.2.cell 0
          have fT := G3.out.2.2.1.2.2.free 0
          have cG3 : V3.cell? ⟨g, 0, none⟩ = some (.slice (some ⟨ab, ao, none⟩) rows.length cc) := (hB.out.ext G3.out.2.2.2.2).cell 0
          have cK3 : V3.cell? ⟨w.heap.size, 0, none⟩ = some (.pointer (some ⟨g, 0, none⟩)) := kV3.out.cell 0
          have cX3 : V3.cell? ⟨Bx, 0, none⟩ = some (.int .i64 (u : Int)) := xV3.out.cell 0
          obtain ⟨ab', ao', vv, hC4, zv4, cv4, ev4⟩ := (hV.out.read.ext G3.out.2.2.2.2).at (j := u) (by rw [lus.out]; exact hu)
          obtain ⟨rfl, rfl⟩ : ab = ab' ∧ ao = ao' := by simpa using hC4
          obtain rfl : .slice (some ⟨cb, co, none⟩) row.length d = vv := by
            have h := ev4.out
            rw [hud] at h
            exact Option.some.inj h
          obtain ⟨cb', co', z4, hD4, zz4, cz4, ez4, _⟩ := (oD.out.read.ext G3.out.2.2.2.2).at (k := 0) (by omega)
          obtain ⟨rfl, rfl⟩ : cb = cb' ∧ co = co' := by simpa using hD4
          obtain rfl : z4 = y2 := by
            have h := ecost.out 0
            rw [e2.out, getD_some ez4.out] at h
            exact h.symm
          replace cz4 : V3.cell? ⟨cb, co, none⟩ = some (.int .i64 z4) := cz4
          clear ez4 ev4 hC4 hD4
          by_cases hneg2 : tq < 0
          · rw [if_pos hneg2] at eTo
            gi_wp2
            refine wpIn_region_quiet_r (by kernel_rfl) (by kernel_rfl) (by kernel_rfl) ?_
            repeat (gi_big_quiet_step (fail))
            refine wpQuietIn_nil ?_
            rintro _ ⟨nq, rfl⟩
            gi_wp2
            have E := (G3.out.ext (by omega) ((Ext.rf V3).drewN nq)).set4 z4
            exact ⟨E.1, E.2.1, ⟨by rw [eS.out]; exact E.2.2.1.1, by rw [eFr.out]; exact E.2.2.1.2.1, by rw [eTo.out]; exact E.2.2.1.2.2⟩, E.2.2.2.1, E.2.2.2.2⟩
          · rw [if_neg hneg2] at eTo
            by_cases hlt2 : z4 < tq
            · rw [if_pos hlt2] at eTo
              gi_wp2
              refine wpIn_region_quiet_r (by kernel_rfl) (by kernel_rfl) (by kernel_rfl) ?_
              repeat (gi_big_quiet_step (fail))
              refine wpQuietIn_nil ?_
              rintro _ ⟨nq, rfl⟩
              gi_wp2
              have E := (G3.out.ext (by omega) ((Ext.rf V3).drewN nq)).set4 z4
              exact ⟨E.1, E.2.1, ⟨by rw [eS.out]; exact E.2.2.1.1, by rw [eFr.out]; exact E.2.2.1.2.1, by rw [eTo.out]; exact E.2.2.1.2.2⟩, E.2.2.2.1, E.2.2.2.2⟩
            · rw [if_neg hlt2] at eTo
              gi_wp2
              refine wpIn_region_quiet_r (by kernel_rfl) (by kernel_rfl) (by kernel_rfl) ?_
              repeat (gi_big_quiet_step (fail))
              refine wpQuietIn_nil ?_
              rintro _ ⟨nq, rfl⟩
              gi_wp2
              have E := G3.out.ext (by omega) ((Ext.rf V3).drewN nq)
              exact ⟨E.1, E.2.1, ⟨by rw [eS.out]; exact E.2.2.1.1, by rw [eFr.out]; exact E.2.2.1.2.1, by rw [eTo.out]; exact E.2.2.1.2.2⟩, E.2.2.2.1, E.2.2.2.2⟩
    case stop2 =>
      rintro c pre' W' _ h
      exact h.elim
  case done =>
    rintro D ys W hD rfl ⟨⟨hO, hF, hTo⟩, hH, hBW⟩ hK
    rw [inL_attach] at hO hF hTo
    obtain ⟨su, hsu⟩ : ∃ su, Hid (su = sumL ((memsM m).map fun u => (pairT rows (memsM m) last u).1 + (pairT rows (memsM m) last u).2)) := ⟨_, rfl⟩
    obtain ⟨fr, hfr⟩ : ∃ fr, Hid (fr = leastN (fun u => costAt rows last u) (-1) (memsM m)) := ⟨_, rfl⟩
    obtain ⟨tq, hto⟩ : ∃ tq, Hid (tq = leastN (fun u => costAt rows u 0) (-1) (memsM m)) := ⟨_, rfl⟩
    rw [← hsu.out] at hO
    rw [← hfr.out] at hF
    rw [← hto.out] at hTo
    have bsu : 0 ≤ su ∧ su ≤ 4294967294 * 64 := by
      have h1 : ∀ l : List Nat, (∀ c ∈ l, c < rows.length) → 0 ≤ sumL (l.map fun u => (pairT rows (memsM m) last u).1 + (pairT rows (memsM m) last u).2) ∧ sumL (l.map fun u => (pairT rows (memsM m) last u).1 + (pairT rows (memsM m) last u).2) ≤ 4294967294 * (l.length : Int) := by
        intro l
        induction l with
        | nil => intro _; simp [sumL]
        | cons y l ih =>
          intro h
          have h2 := ih fun s hs => h s (by simp [hs])
          have hy := h y (by simp)
          have k1 := hcost.out y last hy hla
          have k2 := hcost.out y 0 hy (by omega)
          have h3 := foldP_bd (B := 2147483647) (f := fun v => costAt rows y v) ((memsM m).filter fun j => decide (y ≠ j)) (min (costAt rows y last) (costAt rows y 0), max (costAt rows y last) (costAt rows y 0)) (by simp only; omega) (by simp only; omega) fun v hv => hcost.out y v hy (hmr.out v (List.mem_filter.1 hv).1)
          have h4 : pairT rows (memsM m) last y = ((memsM m).filter fun j => decide (y ≠ j)).foldl (fun p v => putP p (costAt rows y v)) (min (costAt rows y last) (costAt rows y 0), max (costAt rows y last) (costAt rows y 0)) := rfl
          rw [← h4] at h3
          simp only [List.map_cons, sumL, List.length_cons]
          omega
      have h2 := h1 (memsM m) fun c hc => hmr.out c hc
      have h3 := memsM_le m
      rw [hsu.out]
      omega
    have bfr : -2147483647 ≤ fr ∧ fr ≤ 2147483647 := by
      rw [hfr.out]
      exact leastN_bd (fun c hc => by have := hcost.out last c hla (hmr.out c hc); omega) (by omega) (by omega)
    have btq : -2147483647 ≤ tq ∧ tq ≤ 2147483647 := by
      rw [hto.out]
      exact leastN_bd (fun c hc => by have := hcost.out c 0 (hmr.out c hc) (by omega); omega) (by omega) (by omega)
    have hw1 : IntKind.i64.wrap (su + fr) = su + fr := IntWalk.i64_in _ (by omega)
    have hw2 : IntKind.i64.wrap (su + fr + tq) = su + fr + tq := IntWalk.i64_in _ (by omega)
    have cS : W.cell? ⟨w.heap.size + 1 + 1, 0, none⟩ = some (.int .i64 su) := hO.cell 0
    have cF : W.cell? ⟨w.heap.size + 1 + 1 + 1, 0, none⟩ = some (.int .i64 fr) := hF.cell 0
    have cT : W.cell? ⟨w.heap.size + 1 + 1 + 1 + 1, 0, none⟩ = some (.int .i64 tq) := hTo.cell 0
    gi_wp2
    refine ⟨by simp, .inl ⟨_, _, rfl, run_takeDeferred hK, ?_⟩⟩
    refine ⟨_, results_tmp rfl _ _ _, ?_, hBW.trans (belowK_b (w := w) (Nat.le_refl _) W D _ _ (by omega) hK rfl rfl)⟩
    rw [hsu.out, hfr.out, hto.out]
    rfl
  case stop =>
    rintro D c pre W _ _ h _
    exact h.elim
theorem endst_any {base g : Nat} {rows : List (List Int)} {mi : Bool} (m last : Nat) (cost : Int) (ok : RowsOk rows) (hS : SubN rows.length m) (hla : last < rows.length) (w : World) (hT : Tab w) (H : KernT w base g rows mi) :
    Calls Tryd.prog 63 #[.pointer (some ⟨g, 0, none⟩), wayT m last cost] w fun e W' => e = .returned (.int .i64 (endsT rows (memsM m) last)) ∧ Ext w W' :=
  callsIn_wide.1 (endst_in m last cost ok hS hla w hT H)
end Go.Proofs.YtpngflmngnjjoaaDoor
