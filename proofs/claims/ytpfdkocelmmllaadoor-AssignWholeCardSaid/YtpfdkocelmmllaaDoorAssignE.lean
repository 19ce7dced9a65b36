/-
  An assignment's kernel: what rows cost at least, walked.
-/
import Derived.Test.YtpfdkocelmmllaaDoorRoundQuiet
namespace Go.Proofs.YtpfdkocelmmllaaDoor
open Go.RowKit Go.ChangeShapes Go.WideShapes Go.ChangeAt Go.Deep Go.Shelf
attribute [local go_sem] Oper.semAt_some

theorem owned_ge {W : World} {n₀ k size : Nat} {e : TypeId} {v : Value} {xs : List Value} (hrow : W.ownsRow n₀ e size v k xs) {b : Nat} (hb : b < n₀) : v.ownBlock ≠ some b := by
  rcases hrow.2 with ⟨rfl, _⟩ | ⟨g', cap, cur, rfl, h, _⟩
  · simp [Value.ownBlock]
  · intro e'
    obtain rfl : g' = b := by simpa [Value.ownBlock] using e'
    omega
/-- but for one block, what was there is as it was -/
def Held (w0 : World) (sb : Nat) (w : World) : Prop := w0.heap.size ≤ w.heap.size ∧ ∀ b, b < w0.heap.size → b ≠ sb → w.heap[b]? = w0.heap[b]?
theorem Held.blk {w0 w : World} {sb g : Nat} {t : TypeId} {cs : Array Value} (h : Held w0 sb w) (hb : Blk w0 g t cs) (hne : g ≠ sb) : Blk w g t cs := (h.2 g hb.lt hne).trans hb
theorem Held.set {w0 w : World} {sb : Nat} (h : Held w0 sb w) (u : Value) : Held w0 sb (w.setCell ⟨sb, 0, none⟩ u) := ⟨by simp; exact h.1, fun b h1 h2 => (Below.heap_setCell w ⟨sb, 0, none⟩ u b h2).trans (h.2 b h1 h2)⟩
theorem Held.ext {w0 w w' : World} {sb : Nat} (h : Held w0 sb w) (x : Ext w w') : Held w0 sb w' := ⟨Nat.le_trans h.1 x.size, fun b h1 h2 => (x.block b (Nat.lt_of_lt_of_le h1 h.1)).trans (h.2 b h1 h2)⟩
theorem ownFrom_held {β : Type} {w0 : World} {B sb : Nat} (hB : w0.heap.size ≤ B) : OwnFrom B (fun (_ : β) W => Held w0 sb W) := fun _ W W' row hs hg hr =>
  ⟨Nat.le_trans hs.1 hg.size, fun b h1 h2 => (hg.block b (Nat.lt_of_lt_of_le h1 hs.1) (fun e => by have := (hr b e.symm).1; omega)).trans (hs.2 b h1 h2)⟩
theorem KeepsFrom.of_ext {B : Nat} {W W' : World} (x : Ext W W') : KeepsFrom B W W' := ⟨x.size, fun k _ _ hk _ => (x.block k (Array.getElem?_eq_some_iff.1 hk).1).trans hk⟩
/-- the boxes of reduce -/
def RedS (w wr : World) (A : Option Addr) (n rc m : Nat) (sum : Int) (OA : Option Addr) (k oc : Nat) (offs : List Int) : Prop :=
  Ext w wr ∧ Blk wr w.heap.size 23 #[.slice A n rc] ∧ Blk wr (w.heap.size + 1) 51 #[.int .u64 m, .int .u64 0] ∧ Blk wr (w.heap.size + 1 + 1) 3 #[.int .i64 sum] ∧ Blk wr (w.heap.size + 1 + 1 + 1) 22 #[.slice OA k oc] ∧ wr.ownsRow (w.heap.size + 1 + 1 + 1 + 1) 3 1 (.slice OA k oc) k (offs.map (Value.int .i64)) ∧ w.heap.size + 1 + 1 + 1 + 1 ≤ wr.heap.size
set_option maxRecDepth 100000 in
set_option maxHeartbeats 4000000 in
theorem reduce_in {base : Nat} (A : Option Addr) (rc : Nat) (us : List Value) (rows : List (List Int)) (m : Nat) (hm : m < 18446744073709551616) (h63 : ∀ x ∈ memsM m, x < 63) (hlen : ∀ row ∈ rows, ∀ x ∈ memsM m, x < row.length) (hbd : ∀ row ∈ rows, ∀ x ∈ row, 0 ≤ x ∧ x ≤ 2147483647) (hr64 : rows.length ≤ 64)
    (w : World) (hT : Tab w) (hV : RdV w 22 A us) (hR : RowsO w base us rows) :
    CallsIn Fence.wide 3 Tryd.prog 31 #[.slice A rows.length rc, setV m] w fun e W' => e = .returned (.int .i64 (reduceP rows (memsM m))) ∧ Ext w W' := by
  obtain ⟨i0, hi, hz0, hz1, hz2⟩ := info_parts int_info
  have hg := tab_low hT
  have lus : us.length = rows.length := hR.1
  obtain ⟨offs, hoffs⟩ : ∃ offs, Hid (offs = offL rows (memsM m)) := ⟨_, rfl⟩
  have loff : offs.length = rows.length := by rw [hoffs.out]; simp [offL]
  have eoff : ∀ (k : Nat) (row : List Int), rows[k]? = some row → offs[k]? = some (leastN (fun c => row.getD c 0) (-1) (memsM m)) := fun k row h => by rw [hoffs.out, offL, List.getElem?_map, h]; rfl
  have hget : ∀ row ∈ rows, ∀ c ∈ memsM m, 0 ≤ row.getD c 0 ∧ row.getD c 0 ≤ 2147483647 := fun row hr c hc => by
    have h1 := hlen row hr c hc
    have h2 : row.getD c 0 = row[c] := by simp [List.getD, List.getElem?_eq_getElem h1]
    rw [h2]
    exact hbd row hr _ (List.getElem_mem _)
  have boff : ∀ o ∈ offs, -2147483647 ≤ o ∧ o ≤ 2147483647 := fun o ho => by
    rw [hoffs.out] at ho
    obtain ⟨row, hr, rfl⟩ := List.mem_map.1 ho
    exact leastN_bd (fun c hc => by have := hget row hr c hc; omega) (by omega) (by omega)
  have bsum : ∀ k, -(2147483647 * 64) ≤ sumL (offs.take k) ∧ sumL (offs.take k) ≤ 2147483647 * 64 := fun k => by
    have h1 := sumA_bd (B := 2147483647) (l := offs.take k) fun x hx => boff x (List.mem_of_mem_take hx)
    have h2 : (offs.take k).length ≤ 64 := by rw [List.length_take]; omega
    omega
  have LE := fun (B : Option Addr) (c : Nat) (row : List Int) (hrow : row ∈ rows) (W : World) (x : Ext w W) (h : RdI W B row) => least_any B c row m hm h63 (hlen row hrow) W (hT.ext x) h
  unfold setV at LE ⊢
  replace LE := Lib.hid LE
  replace hV := Lib.hid hV
  replace hR := Lib.hid hR
  replace hget := Lib.hid hget
  replace hbd := Lib.hid hbd
  replace hlen := Lib.hid hlen
  replace boff := Lib.hid boff
  replace bsum := Lib.hid bsum
  replace eoff := Lib.hid eoff
  replace lus := Lib.hid lus
  replace loff := Lib.hid loff
  refine callsIn_of_wp_marks Tryd.func31 rfl trivial ?_ rfl
  simp only [Tryd.ntmps31, List.size_toArray, List.length_cons, List.length_nil, Nat.reduceAdd, Nat.reduceSub, Array.replicate_succ, Array.replicate_zero, List.push_toArray, List.append_toArray, List.nil_append, List.cons_append]
  gi_wp2
  have START : Hid (RedS w ((((w.alloc (.cells #[.slice A rows.length rc] 23)).alloc (.cells #[.int .u64 m, .int .u64 0] 51)).alloc (.cells #[.int .i64 0] 3)).alloc (.cells #[.slice none 0 0] 22)) A rows.length rc m (sumL (offs.take 0)) none 0 0 (offs.take 0)) :=
    ⟨((((Ext.rf w).alloc _).alloc _).alloc _).alloc _, .alloc (.alloc (.alloc (.new rfl) _) _) _, .alloc (.alloc (.new (by simp)) _) _, .alloc (.new (by simp)) _, .new (by simp), World.ownsRow_nil _ _ _ _, by simp⟩
  gi_loopw [17] (fun v wr => ∃ (k : Nat) (OA : Option Addr) (oc : Nat), v = .int .i64 k ∧ k ≤ rows.length ∧ Hid (RedS w wr A rows.length rc m (sumL (offs.take k)) OA k oc (offs.take k))) (fun v _ => rows.length - (intOf v).toNat)
  case atStart => exact ⟨0, none, 0, rfl, by omega, START⟩
  case round =>
    obtain ⟨wo, rfl⟩ : ∃ wo : World, wo = wr := ⟨_, rfl⟩
    clear START
    obtain ⟨k, OA, oc, rfl, hk, HH⟩ := hrel
    obtain ⟨Y, bR, bS, bU, bO, oO, zO⟩ := HH.out
    by_cases hlt : k < rows.length
    · have hlu : k < us.length := by rw [lus.out]; exact hlt
      have er : rows[k]? = some rows[k] := List.getElem?_eq_getElem hlt
      obtain ⟨D, d, hu, oD⟩ := hR.out.2 k _ er
      have hmem : rows[k] ∈ rows := List.getElem_mem hlt
      generalize rows[k] = row at *
      obtain ⟨ab, ao, vv, rfl, zv, cv, ev⟩ := (hV.out.ext Y).at hlu
      obtain rfl : .slice D row.length d = vv := by
        have h := ev.out
        rw [hu] at h
        exact Option.some.inj h
      obtain ⟨ob, hob⟩ : ∃ ob, Hid (ob = leastN (fun c => row.getD c 0) (-1) (memsM m)) := ⟨_, rfl⟩
      have eo := eoff.out k row er
      rw [← hob.out] at eo
      have et : Hid (offs.take (k + 1) = offs.take k ++ [ob]) := by
        have h : offs.take (k + 1) = offs.take k ++ [ob] := by rw [List.take_add_one, eo]; rfl
        exact h
      have es : sumL (offs.take (k + 1)) = sumL (offs.take k) + ob := by rw [et.out, sumA_snoc]
      have b1 := bsum.out k
      have b2 := bsum.out (k + 1)
      have lk : (offs.take k).length = k := by rw [List.length_take, loff.out]; omega
      obtain ⟨su, hsu⟩ : ∃ su, Hid (su = sumL (offs.take k)) := ⟨_, rfl⟩
      rw [← hsu.out] at bU es b1
      rw [es] at b2
      have hw : IntKind.i64.wrap (su + ob) = su + ob := IntWalk.i64_in _ (by omega)
      have L1 := Lib.hid (LE.out D d row hmem wo Y (oD.read.ext Y))
      rw [← hob.out] at L1
      have cS0 : wo.cell? ⟨w.heap.size + 1, 0, none⟩ = some (.int .u64 m) := bS.cell 0
      have cS1 : wo.cell? ⟨w.heap.size + 1, 1, none⟩ = some (.int .u64 0) := bS.cell 1
      have q1 : (k : Int) < (rows.length : Int) := by omega
      replace es := Lib.hid es
      replace Y := Lib.hid Y
      replace bR := Lib.hid bR
      replace bS := Lib.hid bS
      replace bU := Lib.hid bU
      replace bO := Lib.hid bO
      replace oO := Lib.hid oO
      replace lk := Lib.hid lk
      clear HH ev eo hu oD er b1 b2
      gi_wp2
      refine ⟨trivial, ?_⟩
      refine (callsIn_wide.2 L1.out).mono ?_
      rintro e w1 ⟨rfl, x1⟩
      have U1 := bU.out.ext x1
      have O1 := bO.out.ext x1
      have cU : w1.cell? ⟨w.heap.size + 1 + 1, 0, none⟩ = some (.int .i64 su) := U1.cell 0
      have fU := U1.free 0
      have hrow : (w1.setCell ⟨w.heap.size + 1 + 1, 0, none⟩ (.int .i64 (su + ob))).ownsRow (w.heap.size + 1 + 1 + 1 + 1) 3 1 (.slice OA k oc) k ((offs.take k).map (Value.int .i64)) := by
        have h1 : w1.ownsRow (w.heap.size + 1 + 1 + 1 + 1) 3 1 (.slice OA k oc) k ((offs.take k).map (Value.int .i64)) := OwV.ext (n := k) oO.out x1
        exact OwV.keep (n := k) h1 (fun g hg => by
          have := OwV.lt (n := k) h1 g hg
          exact Below.heap_setCell w1 ⟨w.heap.size + 1 + 1, 0, none⟩ _ g (by simp; omega))
      have cO : (w1.setCell ⟨w.heap.size + 1 + 1, 0, none⟩ (.int .i64 (su + ob))).cell? ⟨w.heap.size + 1 + 1 + 1, 0, none⟩ = some (.slice OA k oc) := (O1.far (p := ⟨w.heap.size + 1 + 1, 0, none⟩) (by simp) _).cell 0
      gi_wp2_with (gi_at_builtin; go_loud (refine wpListIn_append_own _ rfl _ _ 22 rfl (w.heap.size + 1 + 1 + 1 + 1) 3 i0 (.int .i64 0) 1 8 Tryd.underlying22 hi hz0 hz1 hz2 rfl (by decide) _ _ _ rfl (hrow.alloc _) ⟨w1.heap.size, 0, none⟩ 1 1 [.int .i64 ob] rfl rfl (by simpa using cell_one_new (w1.setCell ⟨w.heap.size + 1 + 1, 0, none⟩ (.int .i64 (su + ob))) (.int .i64 ob) 3) (by simp [Value.oneCell']) (by simp only [maxLen]; omega) (by omega) (by have := x1.size; simp; omega) ?_; intro v' w3 hown' hgrow _; obtain ⟨g', cap', rfl⟩ := ownsRow_succ hown'; have hO3 := ((O1.far (p := ⟨w.heap.size + 1 + 1, 0, none⟩) (by simp) (.int .i64 (su + ob))).alloc _).grown hgrow (owned_ge hrow (by omega)); have hc3 := hO3.cell 0; have hf3 := hO3.free 0))
      have Y3 : Hid (Ext w w3) := (((Y.out.tr x1).setNew (by simp <;> omega) (.int .i64 (su + ob))).alloc _).grow hgrow (fun b hb => Classical.byContradiction fun hn => owned_ge hrow (b := b) (by omega) hb)
      have hR3 := Lib.hid ((((bR.out.ext x1).far (p := ⟨w.heap.size + 1 + 1, 0, none⟩) (by simp <;> omega) (.int .i64 (su + ob))).alloc _).grown hgrow (owned_ge hrow (by omega)))
      have hS3 : Hid (Blk w3 (w.heap.size + 1) 51 #[.int .u64 m, .int .u64 0]) := (((bS.out.ext x1).far (p := ⟨w.heap.size + 1 + 1, 0, none⟩) (by simp <;> omega) (.int .i64 (su + ob))).alloc _).grown hgrow (owned_ge hrow (by omega))
      have hU3 : Hid (Blk w3 (w.heap.size + 1 + 1) 3 #[.int .i64 (su + ob)]) := (((U1.set 0 (.int .i64 (su + ob))).alloc _).grown hgrow (owned_ge hrow (by omega)))
      have hown3 : Hid (w3.ownsRow (w.heap.size + 1 + 1 + 1 + 1) 3 1 (.slice (some ⟨g', 0, none⟩) (k + 1) cap') (k + 1) ((offs.take (k + 1)).map (Value.int .i64))) := by
        have h : w3.ownsRow (w.heap.size + 1 + 1 + 1 + 1) 3 1 (.slice (some ⟨g', 0, none⟩) (k + 1) cap') (k + 1) ((offs.take (k + 1)).map (Value.int .i64)) := by
          rw [et.out, List.map_append]
          exact hown'
        exact h
      have FIN : Hid (RedS w (w3.setCell ⟨w.heap.size + 1 + 1 + 1, 0, none⟩ (.slice (some ⟨g', 0, none⟩) (k + 1) cap')) (some ⟨ab, ao, none⟩) rows.length rc m (sumL (offs.take (k + 1))) (some ⟨g', 0, none⟩) (k + 1) cap' (offs.take (k + 1))) := by
        refine ⟨Y3.out.setNew (by simp <;> omega) _, hR3.out.far (by simp <;> omega) _, hS3.out.far (by simp <;> omega) _, ?_, hO3.set 0 _, ?_, ?_⟩
        · rw [es.out]
          exact hU3.out.far (by simp <;> omega) _
        · exact OwV.keep (n := k + 1) hown3.out (fun g hg => by
            have := OwV.lt (n := k + 1) hown3.out g hg
            exact Below.heap_setCell w3 ⟨w.heap.size + 1 + 1 + 1, 0, none⟩ _ g (by simp; omega))
        · have h1 := OwV.lt (n := k + 1) hown3.out g' (by simp [bl])
          simp
          omega
      go_roundw
      case rel => exact ⟨k + 1, some ⟨g', 0, none⟩, cap', by go_num, by omega, FIN⟩
      case measure =>
        simp only [intOf]
        omega
    · obtain rfl : k = rows.length := by omega
      have q0 : ¬ ((rows.length : Int) < (rows.length : Int)) := by omega
      have et : offs.take rows.length = offs := List.take_of_length_le (by rw [loff.out]; exact Nat.le_refl _)
      rw [et] at bU oO
      have cS0 : wo.cell? ⟨w.heap.size + 1, 0, none⟩ = some (.int .u64 m) := bS.cell 0
      have cS1 : wo.cell? ⟨w.heap.size + 1, 1, none⟩ = some (.int .u64 0) := bS.cell 1
      replace Y := Lib.hid Y
      replace bR := Lib.hid bR
      replace bS := Lib.hid bS
      replace bU := Lib.hid bU
      replace bO := Lib.hid bO
      replace oO := Lib.hid oO
      clear HH et
      gi_wp2
      refine ⟨trivial, ?_⟩
      refine (callsIn_wide.2 (all_any m _)).mono ?_
      rintro e w' ⟨rfl, rfl⟩
      gi_wp2
      have loO : OwI wo (w.heap.size + 1 + 1 + 1 + 1) OA oc offs := by
        unfold OwI
        rw [loff.out]
        exact oO.out
      have bB : Blk (wo.alloc (.cells #[.int .u64 m, .int .u64 0] 51)) wo.heap.size 51 #[.int .u64 m, .int .u64 0] := .new rfl
      have hB0 : Ext w (wo.alloc (.cells #[.int .u64 m, .int .u64 0] 51)) := Y.out.alloc _
      refine wpIn_rangeFunc_ownG rfl (by omega) (gf := 55) (lb := #[.pointer (some ⟨wo.heap.size, 0, none⟩)]) rfl trivial (enters_of Tryd.func55 (by kernel_rfl) rfl)
        (all_stops 2 m hm h63 wo.heap.size w.heap.size _ bB (hT.ext hB0) hB0.size hg) SetKp.tr (setKp_b (cs := #[.int .u64 m, .int .u64 0]) hB0.size bB) (Below.refl _ _) (fun _ => rfl)
        (fun pre W => Blk W (w.heap.size + 1 + 1) 3 #[.int .i64 (sumL offs + sumL ((inL pre).map fun c => colF c (-1) rows offs))] ∧ Held (wo.alloc (.cells #[.int .u64 m, .int .u64 0] 51)) (w.heap.size + 1 + 1) W ∧ Below w.heap.size w W)
        (fun _ _ _ => False)
        (OwnFrom.and (ownFrom_blk (by simp <;> omega) _ _) (OwnFrom.and (ownFrom_held (Nat.le_refl _)) (ownFrom_below (Nat.le_refl _) (by simp <;> omega))))
        (fun _ _ _ _ _ hs _ _ => hs)
        ⟨by simpa [inL, sumL] using bU.out.alloc _, ⟨Nat.le_refl _, fun _ _ _ => rfl⟩, hB0⟩
        (fun x => { tmps := #[.slice A rows.length rc, .agg #[.int .u64 m, .int .u64 0], .pointer (some ⟨w.heap.size, 0, none⟩), .pointer (some ⟨w.heap.size + 1, 0, none⟩), .int .i64 0, .pointer (some ⟨w.heap.size + 1 + 1, 0, none⟩), .pointer (some ⟨w.heap.size + 1 + 1 + 1, 0, none⟩), undef, u8, u9, .int .i64 ((x.1 : Nat) : Int), undef, undef, undef, undef, .slice A rows.length rc, .int .i64 rows.length, .int .i64 rows.length, .bool false, u19, u20, u21, u22, u23, u24, u25, u26, u27, u28, u29, u30, u31, .agg #[.int .u64 m, .int .u64 0], .func (.func 55) #[] #[.pointer (some ⟨wo.heap.size, 0, none⟩)], .int .i64 ((x.1 : Nat) : Int), undef, undef, undef, undef, undef, undef, undef, undef, undef, undef, undef, undef, undef, undef, undef, undef, undef, undef, undef, undef, undef, undef, undef, undef, undef, undef, undef, undef, undef], defers := [] }) ?assign ?body ?done ?stop
      case assign =>
        intro l x W K hK
        gi_wp2
        exact hK
      case body =>
        rintro l pre x W ⟨hO, hH, hB⟩ hlt
        obtain ⟨su, hsu⟩ : ∃ su, Hid (su = sumL offs + sumL ((inL pre).map fun c => colF c (-1) rows offs)) := ⟨_, rfl⟩
        obtain ⟨cf, hcf⟩ : ∃ cf, Hid (cf = colF x.1 (-1) rows offs) := ⟨_, rfl⟩
        rw [← hsu.out] at hO
        have cO : W.cell? ⟨w.heap.size + 1 + 1, 0, none⟩ = some (.int .i64 su) := hO.cell 0
        have fO := hO.free 0
        have cR : W.cell? ⟨w.heap.size, 0, none⟩ = some (.slice A rows.length rc) := (hH.blk (bR.out.alloc _) (by omega)).cell 0
        have bF := Lib.hid (hH.blk (bO.out.alloc _) (by omega))
        have rO : Hid (RdI W OA offs) := by
          have h : OwI W (w.heap.size + 1 + 1 + 1 + 1) OA oc offs := OwV.keep (n := offs.length) loO (fun g hg => by
            have := OwV.lt (n := offs.length) loO g hg
            exact (hH.2 g (by simp; omega) (by omega)).trans (Below.heap_alloc _ _ g (by omega)))
          exact h.read
        have eN : Hid (sumL offs + sumL ((inL (pre ++ [x])).map fun c => colF c (-1) rows offs) = su + cf) := by
          have h : sumL offs + sumL ((inL (pre ++ [x])).map fun c => colF c (-1) rows offs) = su + cf := by
            rw [inL_snoc, List.map_append, List.map_cons, List.map_nil, sumA_snoc, hsu.out, hcf.out]
            omega
          exact h
        have bdS : Hid (-(2147483647 * 64) + -(2 * 2147483647 * 64) ≤ su ∧ su ≤ 2147483647 * 64 + 2 * 2147483647 * 64) := by
          have h1 := bsum.out rows.length
          rw [List.take_of_length_le (by rw [loff.out]; exact Nat.le_refl _)] at h1
          have h2 := sumA_bd (B := 2 * 2147483647) (l := (inL pre).map fun c => colF c (-1) rows offs) fun z hz => by
            obtain ⟨c, hc, rfl⟩ := List.mem_map.1 hz
            obtain ⟨c', _, rfl⟩ := List.mem_map.1 hc
            exact colF_bd (fun row hr => hget.out row hr c'.1 c'.2) boff.out (by omega) (by omega) (by omega)
          have h3 : ((inL pre).map fun c => colF c (-1) rows offs).length ≤ 64 := by
            have := memsM_le m
            simp [inL]
            omega
          have h : -(2147483647 * 64) + -(2 * 2147483647 * 64) ≤ su ∧ su ≤ 2147483647 * 64 + 2 * 2147483647 * 64 := by
            rw [hsu.out]
            omega
          exact h
        have bdC : Hid (-(2 * 2147483647) ≤ cf ∧ cf ≤ 2 * 2147483647) := by
          have h := colF_bd (c := x.1) (B := 2147483647) (rows := rows) (off := offs) (b := -1) (fun row hr => hget.out row hr x.1 x.2) boff.out (by omega) (by omega) (by omega)
          rw [← hcf.out] at h
          exact h
        have hmx : Tryd.prog.follows .mixedOrders = true := by kernel_rfl
        have x63 := h63 x.1 x.2
        have HH' := Lib.hid hH
        have HB' := Lib.hid hB
        have HO' := Lib.hid hO
        have START2 : Hid (colF x.1 (-1) (rows.drop 0) (offs.drop 0) = cf) := hcf.out.symm
        clear hsu hH hB hO loO bB hB0
        gi_wp2
        gi_loopw [11, 37] (fun b v wr => ∃ (k : Nat) (bb : Int), v = .int .i64 k ∧ b = .int .i64 bb ∧ k ≤ rows.length ∧ Hid (colF x.1 bb (rows.drop k) (offs.drop k) = cf) ∧ Hid (Ext W wr)) (fun _ v _ => rows.length - (intOf v).toNat)
        case atStart => exact ⟨0, -1, rfl, rfl, by omega, START2, Ext.rf W⟩
        case round =>
          obtain ⟨k, bb, rfl, rfl, hk', hcol, xr⟩ := hrel
          by_cases hlt' : k < rows.length
          · have er : rows[k]? = some rows[k] := List.getElem?_eq_getElem hlt'
            obtain ⟨D, d, hu, oD⟩ := hR.out.2 k _ er
            have hmem : rows[k] ∈ rows := List.getElem_mem hlt'
            have edr : rows.drop k = rows[k] :: rows.drop (k + 1) := List.drop_eq_getElem_cons hlt'
            generalize rows[k] = row at *
            have xw : Hid (Ext w wr) := Below.trans HB'.out (xr.out.mono HB'.out.size)
            obtain ⟨ab, ao, vv, rfl, zv, cv, ev⟩ := (hV.out.ext xw.out).at (j := k) (by rw [lus.out]; exact hlt')
            obtain rfl : .slice D row.length d = vv := by
              have h := ev.out
              rw [hu] at h
              exact Option.some.inj h
            have hxr := hlen.out row hmem x.1 x.2
            obtain ⟨cb, co, y, rfl, zy, cy, ey, _⟩ := (oD.read.ext xw.out).at (k := x.1) hxr
            obtain ⟨ob, oo, o, rfl, zo, co', eo, edo⟩ := (rO.out.ext xr.out).at (k := k) (by rw [loff.out]; exact hlt')
            have cOF : wr.cell? ⟨w.heap.size + 1 + 1 + 1, 0, none⟩ = some (.slice (some ⟨ob, oo, none⟩) rows.length oc) := (bF.out.ext xr.out).cell 0
            have yb := hget.out row hmem x.1 x.2
            have ob' := boff.out o (List.mem_of_getElem? eo.out)
            rw [getD_some ey.out] at yb
            have hw : IntKind.i64.wrap (y - o) = y - o := IntWalk.i64_in _ (by omega)
            have hcol2 := hcol.out
            rw [edr, edo.out, colF, getD_some ey.out] at hcol2
            replace hcol2 := Lib.hid hcol2
            have q1 : (k : Int) < (rows.length : Int) := by omega
            have qx : ((x.1 : Nat) : Int) < (row.length : Int) := by omega
            clear hcol ev hu oD edr er eo edo ey yb ob' hcf
            by_cases hneg : bb < 0
            · rw [if_pos hneg] at hcol2
              gi_wp2
              refine wpIn_region_quiet_r (by kernel_rfl) (by kernel_rfl) (by kernel_rfl) ?_
              repeat (gi_big_quiet_step (fail))
              refine wpQuietIn_nil ?_
              rintro _ ⟨nq, rfl⟩
              gi_wp2
              exact ⟨⟨k + 1, y - o, by go_num, rfl, by omega, hcol2, xr.out.drewN nq⟩, by simp only [intOf]; omega⟩
            · rw [if_neg hneg] at hcol2
              by_cases hy : y - o < bb
              · rw [if_pos hy] at hcol2
                gi_wp2
                refine wpIn_region_quiet_r (by kernel_rfl) (by kernel_rfl) (by kernel_rfl) ?_
                repeat (gi_big_quiet_step (fail))
                refine wpQuietIn_nil ?_
                rintro _ ⟨nq, rfl⟩
                gi_wp2
                exact ⟨⟨k + 1, y - o, by go_num, rfl, by omega, hcol2, xr.out.drewN nq⟩, by simp only [intOf]; omega⟩
              · rw [if_neg hy] at hcol2
                gi_wp2
                refine wpIn_region_quiet_r (by kernel_rfl) (by kernel_rfl) (by kernel_rfl) ?_
                repeat (gi_big_quiet_step (fail))
                refine wpQuietIn_nil ?_
                rintro _ ⟨nq, rfl⟩
                gi_wp2
                exact ⟨⟨k + 1, bb, by go_num, rfl, by omega, hcol2, xr.out.drewN nq⟩, by simp only [intOf]; omega⟩
          · obtain rfl : k = rows.length := by omega
            have e1 : rows.drop rows.length = [] := List.drop_length
            have hcol2 := hcol.out
            rw [e1] at hcol2
            obtain rfl : bb = cf := by
              rw [← hcol2]
              cases offs.drop rows.length <;> rfl
            have hw2 : IntKind.i64.wrap (su + bb) = su + bb := IntWalk.i64_in _ (by have := bdS.out; have := bdC.out; omega)
            have zW : wo.heap.size + 1 ≤ W.heap.size := by simpa using HH'.out.1
            have q0 : ¬ ((rows.length : Int) < (rows.length : Int)) := by omega
            have F1 : Hid (KeepsFrom (wo.heap.size + 1) W (wr.setCell ⟨w.heap.size + 1 + 1, 0, none⟩ (.int .i64 (su + bb)))) := (KeepsFrom.of_ext xr.out).trans ((KeepsOthers.setCell _ _ _).from _)
            have F2 : Hid (SetKp w.heap.size wo.heap.size W (wr.setCell ⟨w.heap.size + 1 + 1, 0, none⟩ (.int .i64 (su + bb)))) := ⟨(xr.out.mono (by omega)).setCell (by simp <;> omega) _, (Below.heap_setCell wr ⟨w.heap.size + 1 + 1, 0, none⟩ _ wo.heap.size (by simp; omega)).trans (xr.out.block wo.heap.size (by omega))⟩
            have F3 : Hid (Blk (wr.setCell ⟨w.heap.size + 1 + 1, 0, none⟩ (.int .i64 (su + bb))) (w.heap.size + 1 + 1) 3 #[.int .i64 (su + bb)]) := (HO'.out.ext xr.out).set 0 _
            have F4 := Lib.hid ((HH'.out.ext xr.out).set (.int .i64 (su + bb)))
            have F5 : Hid (Ext w (wr.setCell ⟨w.heap.size + 1 + 1, 0, none⟩ (.int .i64 (su + bb)))) := (Below.trans HB'.out (xr.out.mono HB'.out.size)).setCell (by simp <;> omega) _
            have cO2 : wr.cell? ⟨w.heap.size + 1 + 1, 0, none⟩ = some (.int .i64 su) := (HO'.out.ext xr.out).cell 0
            have fO2 := (HO'.out.ext xr.out).free 0
            clear hcol hcol2 e1 hcf START2
            gi_wp2
            exact ⟨F1.out, F2.out, by rw [eN.out]; exact F3.out, F4.out, F5.out⟩
      case done =>
        rintro D ys W hD rfl ⟨hO, _, hB⟩ hK
        rw [inL_attach] at hO
        have cO := hO.cell 0
        gi_wp2
        refine ⟨by simp, .inl ⟨_, _, rfl, run_takeDeferred hK, ?_⟩⟩
        refine ⟨_, results_tmp rfl _ _ _, ?_, hB.trans (belowK_b (w := w) (Nat.le_refl _) W D _ _ (by simp at hD; omega) hK rfl rfl)⟩
        rw [hoffs.out]
        rfl
      case stop =>
        rintro D c pre W _ _ h _
        exact h.elim
theorem reduce_any {base : Nat} (A : Option Addr) (rc : Nat) (us : List Value) (rows : List (List Int)) (m : Nat) (hm : m < 18446744073709551616) (h63 : ∀ x ∈ memsM m, x < 63) (hlen : ∀ row ∈ rows, ∀ x ∈ memsM m, x < row.length) (hbd : ∀ row ∈ rows, ∀ x ∈ row, 0 ≤ x ∧ x ≤ 2147483647) (hr64 : rows.length ≤ 64)
    (w : World) (hT : Tab w) (hV : RdV w 22 A us) (hR : RowsO w base us rows) :
    Calls Tryd.prog 31 #[.slice A rows.length rc, setV m] w fun e W' => e = .returned (.int .i64 (reduceP rows (memsM m))) ∧ Ext w W' :=
  callsIn_wide.1 (reduce_in A rc us rows m hm h63 hlen hbd hr64 w hT hV hR)
end Go.Proofs.YtpfdkocelmmllaaDoor
