/-
  A knapsack's kernel: what New leaves alone of other problems; what a problem in form says.
  A knapsack's kernel as New makes it: its first half, the memory of it.
  A knapsack's kernel as New makes it: what an append and a store do to it.
-/
import Derived.Test.YtleckhbmciiooaaCheckE
import Derived.Test.YtleckhbmciiooaaOrderD
namespace Go.Proofs.Ytleckhbmciiooaa
open Go.RowKit Go.ChangeShapes Go.WideShapes Go.ChangeAt Go.Deep

theorem numP_zero {n : Int} (h : numP n = 0) : 0 ≤ n ∧ n ≤ 2147483647 := by
  unfold numP at h
  split at h
  · cases h
  · split at h
    · cases h
    · omega
theorem firstBad_zero : ∀ {l : List Int}, firstBad l = 0 → ∀ x ∈ l, 0 ≤ x ∧ x ≤ 2147483647
  | [], _, x, hx => by cases hx
  | y :: l, h, x, hx => by
    unfold firstBad at h
    split at h
    · rename_i h0
      rcases List.mem_cons.1 hx with rfl | hx
      · exact numP_zero h0
      · exact firstBad_zero h x hx
    · exact absurd h ‹_›
theorem inter_mem : ∀ {xs ys : List Int}, xs.length = ys.length → (∀ x ∈ xs, x ∈ inter xs ys) ∧ (∀ y ∈ ys, y ∈ inter xs ys)
  | [], [], _ => by simp
  | x :: xs, y :: ys, h => by
    obtain ⟨h1, h2⟩ := inter_mem (xs := xs) (ys := ys) (by simpa using h)
    simp only [inter]
    refine ⟨fun z hz => ?_, fun z hz => ?_⟩
    · rcases List.mem_cons.1 hz with rfl | hz
      · simp
      · simp [h1 z hz]
    · rcases List.mem_cons.1 hz with rfl | hz
      · simp
      · simp [h2 z hz]
  | [], _ :: _, h => by simp at h
  | _ :: _, [], h => by simp at h
structure KnapOk (i : InstP) : Prop where
  n1 : 1 ≤ i.n
  n2 : i.n ≤ 64
  w : (i.weight.length : Int) = i.n
  v : (i.value.length : Int) = i.n
  cap : 0 ≤ i.cap ∧ i.cap ≤ 2147483647
  sw : Small31 i.weight
  sv : Small31 i.value
  cost : i.cost = []
theorem knap_ok {i : InstP} (h : checkP i = 0) (hk : i.kind = 1) : KnapOk i := by
  unfold checkP at h
  by_cases hs : sizeP i.kind i.n = 0
  · rw [if_pos hs] at h
    by_cases hsh : shapeP i = true
    · rw [if_pos hsh, if_pos hk] at h
      unfold shapeP at hsh
      rw [if_pos hk] at hsh
      simp only [Bool.and_eq_true, beq_iff_eq] at hsh
      obtain ⟨⟨h1, h2⟩, h3⟩ := hsh
      unfold sizeP at hs
      rw [if_pos hk] at hs
      have hn : 1 ≤ i.n ∧ i.n ≤ 64 := by
        split at hs
        · cases hs
        · split at hs
          · cases hs
          · omega
      have hl : i.weight.length = i.value.length := by omega
      unfold itemsP at h
      rw [List.take_length, hl, List.take_length] at h
      have hb := firstBad_zero h
      obtain ⟨m1, m2⟩ := inter_mem hl
      exact ⟨hn.1, hn.2, h1, h2, hb _ (by simp), fun x hx => hb x (by simp [m1 x hx]), fun x hx => hb x (by simp [m2 x hx]), List.eq_nil_of_length_eq_zero (by omega)⟩
    · rw [if_neg hsh] at h
      cases h
  · rw [if_neg hs] at h
    exact absurd h hs
theorem numP_bd (n : Int) : 0 ≤ numP n ∧ numP n ≤ 14 := by unfold numP; split <;> (try split) <;> omega
set_option maxRecDepth 100000 in
set_option maxHeartbeats 2000000 in
theorem new_bad (i : InstP) (vs : List Value) (w : World) (H : RInst w vs i) (lw : i.weight.length ≤ 1000000000) (lv : i.value.length ≤ 1000000000) (hc : checkP i ≠ 0) :
    Calls Try.prog 13 #[.agg (List.toArray vs)] w fun e w' => e = .returned (.tuple #[.pointer none, .int .i64 (checkP i)]) ∧ Ext w w' := by
  have C := fun (W : World) (x : Ext w W) => check_any i vs W (H.ext x) lw lv
  obtain ⟨A, a, B, b, D, d, rfl, -, -, -⟩ := H
  have hc' : (checkP i != 0) = true := by simpa using hc
  replace C := Lib.hid C
  generalize checkP i = r at *
  clear hc
  go_enter Try.func13, Try.ntmps13
  go_wp2_with (fail)
  refine (C.out _ (by (repeat (first | assumption | exact Ext.rf _ | apply Ext.drew | apply Ext.drewN | apply Ext.alloc)))).mono ?_
  rintro e w2 ⟨rfl, x2⟩
  have X := Ext.tr (a := w) (by (repeat (first | assumption | exact Ext.rf _ | apply Ext.drew | apply Ext.drewN | apply Ext.alloc))) x2
  go_wp2
  go_ret2
  exact ⟨rfl, X⟩
set_option maxRecDepth 100000 in
set_option maxHeartbeats 2000000 in
theorem new_kind (i : InstP) (vs : List Value) (w : World) (H : RInst w vs i) (lw : i.weight.length ≤ 1000000000) (lv : i.value.length ≤ 1000000000) (hc : checkP i = 0) (hk : i.kind ≠ 1) :
    Calls Try.prog 13 #[.agg (List.toArray vs)] w fun e w' => e = .returned (.tuple #[.pointer none, .int .i64 14]) ∧ Ext w w' := by
  have C := fun (W : World) (x : Ext w W) => check_any i vs W (H.ext x) lw lv
  simp only [hc] at C
  obtain ⟨A, a, B, b, D, d, rfl, -, -, -⟩ := H
  have hk' : (i.kind != 1) = true := by simpa using hk
  replace C := Lib.hid C
  clear hc hk
  have B1 : Hid (Blk (w.alloc (.cells #[.int .i64 i.kind, .int .i64 i.n, .int .i64 i.cap, .slice A i.weight.length a, .slice B i.value.length b, .slice D i.cost.length d] 25)) w.heap.size 25 #[.int .i64 i.kind, .int .i64 i.n, .int .i64 i.cap, .slice A i.weight.length a, .slice B i.value.length b, .slice D i.cost.length d]) := .new rfl
  go_enter Try.func13, Try.ntmps13
  go_wp2_with (fail)
  refine (C.out _ (by (repeat (first | assumption | exact Ext.rf _ | apply Ext.drew | apply Ext.drewN | apply Ext.alloc)))).mono ?_
  rintro e w2 ⟨rfl, x2⟩
  have X := Ext.tr (a := w) (by (repeat (first | assumption | exact Ext.rf _ | apply Ext.drew | apply Ext.drewN | apply Ext.alloc))) x2
  have c0 : w2.cell? ⟨w.heap.size, 0, none⟩ = some (.int .i64 i.kind) := (B1.out.ext x2).cell 0
  go_wp2
  go_ret2
  exact ⟨rfl, X⟩
end Go.Proofs.Ytleckhbmciiooaa
namespace Go.Proofs.Ytleckhbmciiooaa
open Go.RowKit Go.ChangeShapes Go.WideShapes Go.ChangeAt Go.Deep

section
variable {ops : Array Oper} {i : Nat} {t : TypeId} {d : Option Tmp} {a : Act} {w : World} {K : Act → World → Prop} {Q : Exit → Act → World → Prop}
/-- make([]int, n), as a step -/
theorem op_make_i {x y : Operand} (hi : opAt ops i = some (none, .makeSlice 22 x y, t, d)) (base n : Nat) (L : Int) (hx : a.eval x = .int .i64 L) (hy : a.eval y = .int .i64 L) (hL : L = (n : Int)) (hn : n ≤ 2 ^ 44) (hb : base ≤ w.heap.size)
    (hK : ∀ w', OwI w' base (some ⟨w.heap.size, 0, none⟩) n (List.replicate n 0) → w.grownBy w' none → K (a.put d (.slice (some ⟨w.heap.size, 0, none⟩) n n)) w') : wpOp Try.prog ops Q i K a w := by
  obtain ⟨i0, hi0, hz0, hz1, hz2⟩ := info_parts int_info
  subst hL
  obtain ⟨w', hrun, h2, h3⟩ := run_make_full (P := Try.prog) w base 22 3 i0 _ 1 Try.underlying22 hi0 hz0 hz1 .i64 .i64 n (by rw [hz2]; omega) (by simp only [maxLen]; omega) hb
  refine op_run hi _ (by simp [exec2, execOp, hx, hy, hrun]) (hK w' ?_ h3)
  have e : (madeCells (Value.int .i64 0).cells (n * 1)).toList = (List.replicate n (0 : Int)).map (Value.int .i64) := by
    simp [madeCells, Value.cells, List.map_const', Nat.mod_one]
  rw [e] at h2
  simpa [OwI] using h2
end
/-- a kernel: block g, and what its slices read as; all of it from base on -/
def KernB (w : World) (base g : Nat) (cap : Int) (l : List Nat) (ws vs bs : List Int) : Prop :=
  ∃ (PA : Option Addr) (pc : Nat) (WA : Option Addr) (wc : Nat) (VA : Option Addr) (vc : Nat) (HA : Option Addr) (hc : Nat),
    Blk w g 101 #[.int .i64 cap, .slice PA l.length pc, .slice WA ws.length wc, .slice VA vs.length vc, .slice HA bs.length hc] ∧ base ≤ g ∧
    (RdI w PA (nl l) ∧ ∀ k, bl PA = some k → base ≤ k) ∧ (RdI w WA ws ∧ ∀ k, bl WA = some k → base ≤ k) ∧ (RdI w VA vs ∧ ∀ k, bl VA = some k → base ≤ k) ∧ (RdI w HA bs ∧ ∀ k, bl HA = some k → base ≤ k)
theorem KernB.ext {w w' : World} {base g : Nat} {cap : Int} {l : List Nat} {ws vs bs : List Int} (h : KernB w base g cap l ws vs bs) (x : Ext w w') : KernB w' base g cap l ws vs bs := by
  obtain ⟨PA, pc, WA, wc, VA, vc, HA, hc, h1, h2, h3, h4, h5, h6⟩ := h
  exact ⟨PA, pc, WA, wc, VA, vc, HA, hc, h1.ext x, h2, ⟨h3.1.ext x, h3.2⟩, ⟨h4.1.ext x, h4.2⟩, ⟨h5.1.ext x, h5.2⟩, ⟨h6.1.ext x, h6.2⟩⟩
theorem RdI.mod {S : Nat → Prop} {w w' : World} {A : Option Addr} {xs : List Int} (h : RdI w A xs) (k : Mod S w w') (hb : ∀ b, bl A = some b → ¬ S b) : RdI w' A xs := by
  rcases h with rfl | ⟨b, off, rfl, hlt, hc⟩
  · exact .inl rfl
  · refine .inr ⟨b, off, rfl, Nat.lt_of_lt_of_le hlt k.size, fun j x hj => ?_⟩
    rw [← hc j x hj]
    exact World.cell?_of_block (k.block b hlt (hb b rfl))
theorem KernB.mod {S : Nat → Prop} {w w' : World} {base g : Nat} {cap : Int} {l : List Nat} {ws vs bs : List Int} (h : KernB w base g cap l ws vs bs) (x : Mod S w w') (hS : ∀ k, base ≤ k → ¬ S k) : KernB w' base g cap l ws vs bs := by
  obtain ⟨PA, pc, WA, wc, VA, vc, HA, hc, h1, h2, h3, h4, h5, h6⟩ := h
  exact ⟨PA, pc, WA, wc, VA, vc, HA, hc, h1.mod x (hS _ h2), h2, ⟨h3.1.mod x fun b hb => hS _ (h3.2 b hb), h3.2⟩, ⟨h4.1.mod x fun b hb => hS _ (h4.2 b hb), h4.2⟩, ⟨h5.1.mod x fun b hb => hS _ (h5.2 b hb), h5.2⟩, ⟨h6.1.mod x fun b hb => hS _ (h6.2 b hb), h6.2⟩⟩
/-- two slices of their own in blocks that are not the same -/
def Dis (A B : Option Addr) : Prop := ∀ k, bl A = some k → bl B ≠ some k
theorem Dis.symm {A B : Option Addr} (h : Dis A B) : Dis B A := fun k hk hA => h k hA hk
theorem Dis.none (B : Option Addr) : Dis none B := fun k hk => by simp [bl] at hk
/-- New's memory as it is being filled -/
def Fill (w : World) (base g : Nat) (cap : Int) (PA : Option Addr) (pn pc : Nat) (ws vs bs : List Int) : Prop :=
  ∃ (WA : Option Addr) (wc : Nat) (VA : Option Addr) (vc : Nat) (HA : Option Addr) (hc : Nat),
    Blk w g 101 #[.int .i64 cap, .slice PA pn pc, .slice WA ws.length wc, .slice VA vs.length vc, .slice HA bs.length hc] ∧ base ≤ g ∧
    OwI w base WA wc ws ∧ OwI w base VA vc vs ∧ OwI w base HA hc bs ∧ Dis WA VA ∧ Dis WA HA ∧ Dis VA HA
/-- behind an append to the one, with its new head stored -/
theorem append_mod {w w' : World} {base : Nat} {A : Option Addr} {c : Nat} {xs : List Int} (h : OwI w base A c xs) (hg : w.grownBy w' (bl A)) : Mod (fun k => bl A = some k) w w' := Mod.grown hg fun g hA => hA
theorem Dis.after {w : World} {base : Nat} {A A' B : Option Addr} {c : Nat} {ys : List Int} (h : Dis A B) (hB : OwI w base B c ys) (hA : bl A' = bl A ∨ ∃ g, bl A' = some g ∧ w.heap.size ≤ g) : Dis A' B := by
  intro k hk hb
  rcases hA with hA | ⟨g, hg, hlt⟩
  · exact h k (hA ▸ hk) hb
  · rw [hk] at hg
    obtain rfl := Option.some.inj hg
    have := (hB.lt k hb).2
    omega
theorem Fill.ext {w w' : World} {base g : Nat} {cap : Int} {PA : Option Addr} {pn pc : Nat} {ws vs bs : List Int} (h : Fill w base g cap PA pn pc ws vs bs) (x : Ext w w') : Fill w' base g cap PA pn pc ws vs bs := by
  obtain ⟨WA, wc, VA, vc, HA, hc, h1, h2, h3, h4, h5, h6⟩ := h
  exact ⟨WA, wc, VA, vc, HA, hc, h1.ext x, h2, h3.ext x, h4.ext x, h5.ext x, h6⟩
end Go.Proofs.Ytleckhbmciiooaa
namespace Go.Proofs.Ytleckhbmciiooaa
open Go.RowKit Go.ChangeShapes Go.WideShapes Go.ChangeAt Go.Deep

section
variable {w w2 : World} {base g pn pc wc vc hc c' : Nat} {cap x : Int} {PA WA VA HA A' : Option Addr} {ws vs bs : List Int}
theorem fill_w (hB : Blk w g 101 #[.int .i64 cap, .slice PA pn pc, .slice WA ws.length wc, .slice VA vs.length vc, .slice HA bs.length hc]) (hg : base ≤ g)
    (hW : OwI w base WA wc ws) (hV : OwI w base VA vc vs) (hH : OwI w base HA hc bs) (d1 : Dis WA VA) (d2 : Dis WA HA) (d3 : Dis VA HA)
    (hgr : w.grownBy w2 (bl WA)) (o2 : OwI w2 base A' c' (ws ++ [x])) (alt : bl A' = bl WA ∨ ∃ g, bl A' = some g ∧ w.heap.size ≤ g) :
    Blk w2 g 101 #[.int .i64 cap, .slice PA pn pc, .slice WA ws.length wc, .slice VA vs.length vc, .slice HA bs.length hc] ∧
    Fill (w2.setCell ⟨g, 2, none⟩ (.slice A' (ws.length + 1) c')) base g cap PA pn pc (ws ++ [x]) vs bs := by
  have M : Mod (fun k => bl WA = some k) w w2 := append_mod hW hgr
  have hB2 := hB.mod M fun h => hW.ne hB (by decide) g h rfl
  have hV2 := hV.mod M fun k hk h => d1 k h hk
  have hH2 := hH.mod M fun k hk h => d2 k h hk
  refine ⟨hB2, A', c', VA, vc, HA, hc, ?_, hg, o2.far hB2 (by decide) 2 _, hV2.far hB2 (by decide) 2 _, hH2.far hB2 (by decide) 2 _, d1.after hV alt, d2.after hH alt, d3⟩
  rw [List.length_append]
  exact hB2.set 2 _
theorem fill_v (hB : Blk w g 101 #[.int .i64 cap, .slice PA pn pc, .slice WA ws.length wc, .slice VA vs.length vc, .slice HA bs.length hc]) (hg : base ≤ g)
    (hW : OwI w base WA wc ws) (hV : OwI w base VA vc vs) (hH : OwI w base HA hc bs) (d1 : Dis WA VA) (d2 : Dis WA HA) (d3 : Dis VA HA)
    (hgr : w.grownBy w2 (bl VA)) (o2 : OwI w2 base A' c' (vs ++ [x])) (alt : bl A' = bl VA ∨ ∃ g, bl A' = some g ∧ w.heap.size ≤ g) :
    Blk w2 g 101 #[.int .i64 cap, .slice PA pn pc, .slice WA ws.length wc, .slice VA vs.length vc, .slice HA bs.length hc] ∧
    Fill (w2.setCell ⟨g, 3, none⟩ (.slice A' (vs.length + 1) c')) base g cap PA pn pc ws (vs ++ [x]) bs := by
  have M : Mod (fun k => bl VA = some k) w w2 := append_mod hV hgr
  have hB2 := hB.mod M fun h => hV.ne hB (by decide) g h rfl
  have hW2 := hW.mod M fun k hk h => d1.symm k h hk
  have hH2 := hH.mod M fun k hk h => d3 k h hk
  refine ⟨hB2, WA, wc, A', c', HA, hc, ?_, hg, hW2.far hB2 (by decide) 3 _, o2.far hB2 (by decide) 3 _, hH2.far hB2 (by decide) 3 _, (d1.symm.after hW alt).symm, d2, d3.after hH alt⟩
  rw [List.length_append]
  exact hB2.set 3 _
end
/-- one of the sums from behind -/
theorem fill_b {w : World} {base g pn pc wc vc hc hb k : Nat} {cap y : Int} {PA WA VA : Option Addr} {ws vs bs : List Int} (hB : Blk w g 101 #[.int .i64 cap, .slice PA pn pc, .slice WA ws.length wc, .slice VA vs.length vc, .slice (some ⟨hb, 0, none⟩) bs.length hc]) (hg : base ≤ g)
    (hW : OwI w base WA wc ws) (hV : OwI w base VA vc vs) (hH : OwI w base (some ⟨hb, 0, none⟩) hc bs) (d1 : Dis WA VA) (d2 : Dis WA (some ⟨hb, 0, none⟩)) (d3 : Dis VA (some ⟨hb, 0, none⟩))
    (hs : OwI (w.setCell ⟨hb, k, none⟩ (.int .i64 y)) base (some ⟨hb, 0, none⟩) hc (bs.set k y)) :
    Fill (w.setCell ⟨hb, k, none⟩ (.int .i64 y)) base g cap PA pn pc ws vs (bs.set k y) := by
  have M : Mod (fun q => q = hb) w (w.setCell ⟨hb, k, none⟩ (.int .i64 y)) := Mod.set (S := fun q => q = hb) (p := ⟨hb, k, none⟩) (Mod.rf w) (.inl rfl) _
  have hne : ¬ g = hb := fun h => hH.ne hB (by decide) hb rfl h.symm
  refine ⟨WA, wc, VA, vc, _, hc, ?_, hg, hW.mod M fun q hq h => d2 q hq (by subst h; rfl), hV.mod M fun q hq h => d3 q hq (by subst h; rfl), hs, d1, d2, d3⟩
  rw [List.length_set]
  exact hB.mod M hne
/-- the sums from behind: nought before place k, and from there on -/
def sumsL (vs : List Int) (k : Nat) : List Int := (List.range (vs.length + 1)).map fun i => if i < k then 0 else sumL (vs.drop i)
theorem sumsL_len (vs : List Int) (k : Nat) : (sumsL vs k).length = vs.length + 1 := by simp [sumsL]
theorem sumsL_full (vs : List Int) : sumsL vs vs.length = List.replicate (vs.length + 1) 0 := by
  refine List.ext_getElem (by simp [sumsL]) fun i h1 h2 => ?_
  simp only [sumsL, List.getElem_map, List.getElem_range, List.getElem_replicate]
  split
  · rfl
  · rw [List.drop_of_length_le (by omega)]; rfl
theorem sumsL_get {vs : List Int} {k i : Nat} (hi : i ≤ vs.length) (hk : k ≤ i) : (sumsL vs k)[i]? = some (sumL (vs.drop i)) := by
  unfold sumsL
  rw [List.getElem?_map, List.getElem?_range (by omega)]
  simp [show ¬ i < k by omega]
theorem sumsL_set {vs : List Int} {k : Nat} {v : Int} (hv : vs[k]? = some v) : (sumsL vs (k + 1)).set k (sumL (vs.drop (k + 1)) + v) = sumsL vs k := by
  obtain ⟨hk, hv⟩ := List.getElem?_eq_some_iff.1 hv
  refine List.ext_getElem (by simp [sumsL]) fun i h1 h2 => ?_
  rw [List.getElem_set]
  simp only [sumsL, List.getElem_map, List.getElem_range]
  by_cases h : k = i
  · subst h
    rw [if_pos rfl, if_neg (by omega), List.drop_eq_getElem_cons hk, hv]
    simp only [sumL]
    omega
  · rw [if_neg h]
    by_cases h3 : i < k
    · rw [if_pos (by omega), if_pos h3]
    · rw [if_neg (by omega), if_neg h3]
theorem sumL_bd {vs : List Int} (h : Small31 vs) (k : Nat) : 0 ≤ sumL (vs.drop k) ∧ sumL (vs.drop k) ≤ 2147483647 * vs.length := by
  have key : ∀ l : List Int, (∀ x ∈ l, 0 ≤ x ∧ x ≤ 2147483647) → 0 ≤ sumL l ∧ sumL l ≤ 2147483647 * l.length := by
    intro l
    induction l with
    | nil => intro _; simp [sumL]
    | cons x l ih =>
      intro hl
      have h1 := hl x (by simp)
      have h2 := ih fun y hy => hl y (by simp [hy])
      simp only [sumL, List.length_cons, Int.natCast_add, Int.natCast_one]
      omega
  have h1 := key (vs.drop k) fun x hx => h x (List.mem_of_mem_drop hx)
  have h2 : (vs.drop k).length ≤ vs.length := by simp
  omega
theorem inOrder_len (l : List Nat) (v : List Int) : (inOrder l v).length = l.length := by simp [inOrder]
theorem inOrder_succ {l : List Nat} {k n : Nat} {v : List Int} {x : Int} (h : l[k]? = some n) (hx : v[n]? = some x) : inOrder (l.take (k + 1)) v = inOrder (l.take k) v ++ [x] := by
  obtain ⟨hk, h⟩ := List.getElem?_eq_some_iff.1 h
  unfold inOrder
  rw [List.take_succ_eq_append_getElem hk, List.map_append, h]
  simp [List.getD, hx]
theorem inOrder_get {l : List Nat} {k n : Nat} {v : List Int} {x : Int} (h : l[k]? = some n) (hx : v[n]? = some x) : (inOrder l v)[k]? = some x := by
  unfold inOrder
  rw [List.getElem?_map, h]
  simp [List.getD, hx]
end Go.Proofs.Ytleckhbmciiooaa
