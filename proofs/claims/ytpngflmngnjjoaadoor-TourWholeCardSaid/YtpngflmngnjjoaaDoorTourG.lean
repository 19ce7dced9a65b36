/-
  A tour's kernel: where one may go to from a city; the two least numbers.
  A tour's kernel: the two least numbers.
  A tour's kernel: what rows cost at least, then columns.
-/
import Derived.Test.YtpngflmngnjjoaaDoorTourB
import Derived.Test.YtpngflmngnjjoaaDoorSetW
import Derived.Test.YtpngflmngnjjoaaDoorAssignW1
import Derived.Test.YtpngflmngnjjoaaDoorRegIn
import Derived.Test.YtpngflmngnjjoaaDoorTourM
namespace Go.Proofs.YtpngflmngnjjoaaDoor
open Go.RowKit Go.ChangeShapes Go.WideShapes Go.ChangeAt Go.Deep

def colsM (m last src : Nat) : Nat := if src = last then m else clrM m src ||| 2 ^ 0
theorem colsM_mems {m last src : Nat} (h : m < 18446744073709551616) (h0 : 0 ∉ memsM m) : memsM (colsM m last src) = colsT (memsM m) last src := by
  unfold colsM colsT
  split
  · rfl
  · rw [memsM_home, memsM_clr h]
    intro hm
    rw [memsM_clr h] at hm
    exact h0 (List.mem_filter.1 hm).1
theorem colsM_lt {m last src : Nat} (h : m < 18446744073709551616) : colsM m last src < 18446744073709551616 := by
  unfold colsM
  split
  · exact h
  · exact withM_lt (clrM_lt m src) (by omega)
set_option maxRecDepth 100000 in
theorem columns_any (m last : Nat) (cost : Int) (src : Nat) (hm : m < 18446744073709551616) (hs : src < 64) (w : World) : Calls Tryd.prog 78 #[wayT m last cost, .int .i64 src] w fun e w' => e = .returned (setV (colsM m last src)) ∧ Ext w w' := by
  have B1 : Blk ((w.alloc (.cells #[.int .u64 m, .int .u64 0, .int .i64 last, .int .i64 cost] 70)).alloc (.cells #[.int .u64 0, .int .u64 0] 55)) (w.heap.size + 1) 55 #[.int .u64 0, .int .u64 0] := .new (by simp)
  have f0 := B1.free 0
  have f1 := B1.free 1
  have c0 : ((w.alloc (.cells #[.int .u64 m, .int .u64 0, .int .i64 last, .int .i64 cost] 70)).alloc (.cells #[.int .u64 0, .int .u64 0] 55)).cell? ⟨w.heap.size + 1, 0, none⟩ = some (.int .u64 0) := B1.cell 0
  have c1 : ((w.alloc (.cells #[.int .u64 m, .int .u64 0, .int .i64 last, .int .i64 cost] 70)).alloc (.cells #[.int .u64 0, .int .u64 0] 55)).cell? ⟨w.heap.size + 1, 1, none⟩ = some (.int .u64 0) := B1.cell 1
  have X0 : Hid (Ext w ((w.alloc (.cells #[.int .u64 m, .int .u64 0, .int .i64 last, .int .i64 cost] 70)).alloc (.cells #[.int .u64 0, .int .u64 0] 55))) := ((Ext.rf _).alloc _).alloc _
  unfold colsM
  by_cases e : src = last
  · rw [if_pos e]
    have t0 : ((src : Int) == (last : Int)) = true := by rw [e]; simp
    clear e
    unfold setV
    go_enter Tryd.func78, Tryd.ntmps78
    go_wp2_with (fail)
    refine bodyPost_ret (v := .agg #[.int .u64 m, .int .u64 0]) (by simp [results, Tryd.results78, go_sem, *]) rfl ⟨rfl, ?_⟩
    exact ((Ext.rf _).alloc _).alloc _
  · rw [if_neg e]
    have t0 : ((src : Int) == (last : Int)) = false := by rw [beq_eq_false_iff_ne]; omega
    have WO := fun (W : World) => without_any m src hm hs W
    have WI := fun (W : World) => with_any (clrM m src) 0 (clrM_lt m src) (by omega) W
    generalize clrM m src ||| 2 ^ 0 = m2 at *
    generalize clrM m src = m1 at *
    unfold setV at WO WI ⊢
    replace WO := Lib.hid WO
    replace WI := Lib.hid WI
    replace B1 := Lib.hid B1
    clear e hm
    go_enter Tryd.func78, Tryd.ntmps78
    go_wp2_with (fail)
    refine (WO.out _).mono ?_
    rintro e w1 ⟨rfl, x1⟩
    have X1 := Lib.hid (X0.out.tr x1)
    have b1 := Lib.hid (B1.out.ext x1)
    clear x1 c0 c1 f0 f1
    go_wp2_with (fail)
    refine (WI.out _).mono ?_
    rintro e w2 ⟨rfl, x2⟩
    have X2 := Lib.hid (X1.out.tr x2)
    have b2 := b1.out.ext x2
    have c0 : w2.cell? ⟨w.heap.size + 1, 0, none⟩ = some (.int .u64 0) := b2.cell 0
    have c1 : w2.cell? ⟨w.heap.size + 1, 1, none⟩ = some (.int .u64 0) := b2.cell 1
    have f0 := b2.free 0
    have f1 := b2.free 1
    clear x2
    go_wp2_with (fail)
    refine bodyPost_ret (v := .agg #[.int .u64 m2, .int .u64 0]) (by simp [results, Tryd.results78, go_sem, *]) rfl ⟨rfl, ?_⟩
    exact (X2.out.setNew (p := ⟨w.heap.size + 1, 0, none⟩) (by simp) _).setNew (p := ⟨w.heap.size + 1, 1, none⟩) (by simp) _
end Go.Proofs.YtpngflmngnjjoaaDoor
namespace Go.Proofs.YtpngflmngnjjoaaDoor
open Go.RowKit Go.ChangeShapes Go.WideShapes Go.ChangeAt Go.Deep

abbrev twoV (p : Int × Int) : Value := .agg #[.int .i64 p.1, .int .i64 p.2]
set_option maxRecDepth 100000 in
theorem put_any (p : Int × Int) (n : Int) (w : World) : Calls Tryd.prog 80 #[twoV p, .int .i64 n] w fun e w' => e = .returned (twoV (putP p n)) ∧ Ext w w' := by
  obtain ⟨a, b⟩ := p
  unfold putP
  simp only [twoV]
  have X : ∀ c d : Value, Ext w ((w.alloc (.cells #[.int .i64 a, .int .i64 b] 86)).alloc (.cells #[c, d] 86)) := fun _ _ => ((Ext.rf _).alloc _).alloc _
  by_cases h1 : n < a
  · rw [if_pos h1]
    go_enter Tryd.func80, Tryd.ntmps80
    go_wp2_with (fail)
    refine bodyPost_ret (v := .agg #[.int .i64 n, .int .i64 a]) (by simp [results, Tryd.results80, go_sem, *]) rfl ⟨rfl, ?_⟩
    exact X _ _
  · rw [if_neg h1]
    by_cases h2 : n < b
    · rw [if_pos h2]
      go_enter Tryd.func80, Tryd.ntmps80
      go_wp2_with (fail)
      refine bodyPost_ret (v := .agg #[.int .i64 a, .int .i64 n]) (by simp [results, Tryd.results80, go_sem, *]) rfl ⟨rfl, ?_⟩
      exact X _ _
    · rw [if_neg h2]
      go_enter Tryd.func80, Tryd.ntmps80
      go_wp2_with (fail)
      refine bodyPost_ret (v := .agg #[.int .i64 a, .int .i64 b]) (by simp [results, Tryd.results80, go_sem, *]) rfl ⟨rfl, ?_⟩
      exact X _ _
end Go.Proofs.YtpngflmngnjjoaaDoor
namespace Go.Proofs.YtpngflmngnjjoaaDoor
open Go.RowKit Go.ChangeShapes Go.WideShapes Go.ChangeAt Go.Deep Go.Shelf
attribute [local go_sem] Oper.semAt_some

/-- a fenced walk makes a slice of noughts -/
theorem wplIn_make_i {F : Fence} {nn : Nat} {w : World} {ops : Array Oper} {rest : List Oper} {o : Oper} {a : Act} {Q : Exit → Act → World → Prop} (hg : o.guard = none) (l c : Operand) (hop : o.op = Op.makeSlice 22 l c)
    (base : Nat) (n : Nat) (hl : a.eval l = .int .i64 (n : Int)) (hc : a.eval c = .int .i64 (n : Int)) (hn : n ≤ 2 ^ 44) (hbase : base ≤ w.heap.size)
    (hK : ∀ w', OwI w' base (some ⟨w.heap.size, 0, none⟩) n (List.replicate n 0) → w.grownBy w' none → wpListIn F nn Tryd.prog ops Q rest (a.put o.dst (.slice (some ⟨w.heap.size, 0, none⟩) n n)) w') :
    wpListIn F nn Tryd.prog ops Q (o :: rest) a w := by
  obtain ⟨i0, hi, hz0, hz1, hz2⟩ := info_parts int_info
  refine wpListIn_plain hg fun K hK' => ?_
  obtain ⟨w', hrun, r1, r2⟩ := run_make_full (P := Tryd.prog) w base 22 3 i0 _ 1 Tryd.underlying22 hi hz0 hz1 .i64 .i64 n (by rw [hz2]; omega) (by simp only [maxLen]; omega) hbase
  have e : (madeCells (Value.int .i64 0).cells (n * 1)).toList = (List.replicate n (0 : Int)).map (Value.int .i64) := by
    simp [madeCells, Value.cells, List.map_const', Nat.mod_one]
  rw [e] at r1
  unfold Oper.wpIn
  refine ⟨?_, ?_⟩
  · simp [Oper.about, hop]
  · rw [Oper.semAt_plain F _ _ (by rw [hop]; intro c hc'; cases hc')]
    simp [execOp, hop, hl, hc, hrun, Result.andThen]
    exact hK' _ _ (hK w' (by simpa [OwI] using r1) r2)
theorem ibs1g_run (u : World) (x : Int) : (Instr.buildSlice 22 1 #[(0, .int .i64 x)]).run Tryd.prog u = .ok (.slice (some ⟨u.heap.size, 0, none⟩) 1 1) (u.alloc (.cells #[.int .i64 x] 3)) := by go_simp
theorem RdI.toRdC {w : World} {A : Option Addr} {xs : List Int} (h : RdI w A xs) : RdC w A (xs.map (Value.int .i64)) := by
  rcases h with rfl | ⟨b, off, rfl, hb, hc⟩
  · exact .inl rfl
  · refine .inr ⟨b, off, rfl, hb, fun j v hj => ?_⟩
    rw [List.getElem?_map] at hj
    obtain ⟨x, hx, rfl⟩ := Option.map_eq_some_iff.1 hj
    exact hc j x hx
/-- append([]int{y}, ys...) -/
theorem run_fresh_i (w : World) (base : Nat) (ty : TypeId) (g : Nat) (y : Int) (ys : List Int) (B : Option Addr) (c : Nat) (hg : Blk w g 3 #[.int .i64 y]) (hb : base ≤ g) (hr : RdI w B ys) (hlen : ys.length ≤ 2 ^ 40) :
    ∃ A' c' w', (Builtin.append_ #[22, 22] ty #[.slice (some ⟨g, 0, none⟩) 1 1, .slice B ys.length c]).run Tryd.prog w = .ok (.slice A' (y :: ys).length c') w' ∧ OwI w' base A' c' (y :: ys) ∧ Ext w w' := by
  obtain ⟨i0, hi, hz0, hz1, hz2⟩ := info_parts int_info
  obtain ⟨A', c', w', h1, h2, h3⟩ := run_fresh_v w (e := 3) Tryd.underlying22 hi hz0 hz1 hz2 (by simp [Value.cells]) (by omega) base ty g 1 #[.int .i64 y] B ys.length c (ys.map (Value.int .i64)) hg hb (by simp) hr.toRdC (by simp) (fun u hu => by
    obtain ⟨x, _, rfl⟩ := List.mem_map.1 hu
    rfl) (by simp only [maxLen]; omega) (by omega)
  have e : 1 + ys.length = (y :: ys).length := by simp; omega
  rw [e] at h1 h2
  exact ⟨A', c', w', h1, h2, h3⟩
/-- marks of loops over functions that are over: nothing is left to be done -/
def Marks (B : Nat) (ds : List Deferred) (W : World) : Prop := ∃ rs : List Nat, ds = rs.map (fun r => { target := .collected r, args := #[] }) ∧ rs.Nodup ∧ ∀ r ∈ rs, B ≤ r ∧ W.heap[r]? = some (.deferred (some []))
theorem leaves_marks {n : Nat} {fn : Func} {tmps : Array Value} {R : Ending → World → Prop} (w : World) : ∀ (rs : List Nat) (W : World), rs.Nodup → (∀ r ∈ rs, w.heap.size ≤ r ∧ W.heap[r]? = some (.deferred (some []))) → Ext w W →
    (∀ W', Ext w W' → LeavesIn Fence.wide n Tryd.prog fn tmps R [] .returning W') → LeavesInM Fence.wide n Tryd.prog fn tmps R (rs.map fun r => { target := .collected r, args := #[] }) .returning W
  | [], W, _, _, hx, h => h W hx
  | r :: rs, W, hn, hr, hx, h => by
    have h1 := hr r (by simp)
    have hn' := List.nodup_cons.1 hn
    refine ⟨by simp, .inl ⟨r, _, rfl, run_takeDeferred h1.2, leaves_marks w rs _ hn'.2 (fun k hk => ?_) (hx.trans (belowK_b (w := w) (Nat.le_refl _) W r _ _ h1.1 h1.2 rfl rfl)) h⟩⟩
    have h2 := hr k (by simp [hk])
    refine ⟨h2.1, (World.putObj_heap_other ?_).trans h2.2⟩
    rintro rfl
    exact hn'.1 hk
theorem Marks.leaves {n : Nat} {fn : Func} {tmps : Array Value} {R : Ending → World → Prop} {w W : World} {ds : List Deferred} (h : Marks w.heap.size ds W) (hx : Ext w W)
    (hR : ∀ W', Ext w W' → LeavesIn Fence.wide n Tryd.prog fn tmps R [] .returning W') : LeavesInM Fence.wide n Tryd.prog fn tmps R ds .returning W := by
  obtain ⟨rs, rfl, hn, hr⟩ := h
  exact leaves_marks w rs W hn hr hx hR
theorem Marks.nil (B : Nat) (W : World) : Marks B [] W := ⟨[], rfl, List.nodup_nil, fun _ h => by cases h⟩
theorem Marks.keep {B : Nat} {ds : List Deferred} {W W' : World} (h : Marks B ds W) (k : ∀ b : Nat, W.heap[b]? = some (Obj.deferred (some [])) → W'.heap[b]? = W.heap[b]?) : Marks B ds W' := by
  obtain ⟨rs, h1, h2, h3⟩ := h
  exact ⟨rs, h1, h2, fun r hr => ⟨(h3 r hr).1, (k r (h3 r hr).2).trans (h3 r hr).2⟩⟩
theorem Marks.lt {B : Nat} {ds : List Deferred} {W : World} (h : Marks B ds W) : ∀ d ∈ ds, ∃ r, d = { target := .collected r, args := #[] } ∧ r < W.heap.size := by
  obtain ⟨rs, rfl, _, h3⟩ := h
  intro d hd
  obtain ⟨r, hr, rfl⟩ := List.mem_map.1 hd
  exact ⟨r, rfl, (Array.getElem?_eq_some_iff.1 (h3 r hr).2).1⟩
theorem Marks.cons {B D : Nat} {ds : List Deferred} {W0 W : World} (h : Marks B ds W0) (hD : W0.heap.size ≤ D) (hB : B ≤ D) (k : ∀ b : Nat, W0.heap[b]? = some (Obj.deferred (some [])) → W.heap[b]? = W0.heap[b]?) (hK : W.heap[D]? = some (.deferred (some []))) : Marks B ({ target := .collected D, args := #[] } :: ds) W := by
  obtain ⟨rs, rfl, h2, h3⟩ := h
  refine ⟨D :: rs, rfl, List.nodup_cons.2 ⟨fun hm => ?_, h2⟩, fun r hr => ?_⟩
  · have := (Array.getElem?_eq_some_iff.1 (h3 D hm).2).1
    omega
  · rcases List.mem_cons.1 hr with rfl | hr
    · exact ⟨hB, hK⟩
    · exact ⟨(h3 r hr).1, (k r (h3 r hr).2).trans (h3 r hr).2⟩
theorem Marks.more {B B' : Nat} {ds : List Deferred} {W : World} (h : Marks B ds W) (hB : B' ≤ B) : Marks B' ds W := by
  obtain ⟨rs, h1, h2, h3⟩ := h
  exact ⟨rs, h1, h2, fun r hr => ⟨Nat.le_trans hB (h3 r hr).1, (h3 r hr).2⟩⟩
/-- what has been put down so far -/
def offA (rows : List (List Int)) (us : List Nat) (last : Nat) (done : List Nat) : List Int := (List.range rows.length).map fun x => if x ∈ done then offT rows us last x else 0
theorem offA_len (rows : List (List Int)) (us : List Nat) (last : Nat) (done : List Nat) : (offA rows us last done).length = rows.length := by simp [offA]
theorem offA_nil (rows : List (List Int)) (us : List Nat) (last : Nat) : offA rows us last [] = List.replicate rows.length 0 := by simp [offA, List.map_const']
theorem offA_get {rows : List (List Int)} {us : List Nat} {last : Nat} {done : List Nat} {x : Nat} (hx : x < rows.length) : (offA rows us last done)[x]? = some (if x ∈ done then offT rows us last x else 0) := by
  simp [offA, hx]
theorem offA_snoc {rows : List (List Int)} {us : List Nat} {last : Nat} {done : List Nat} {x : Nat} : (offA rows us last done).set x (offT rows us last x) = offA rows us last (done ++ [x]) := by
  apply List.ext_getElem?
  intro j
  by_cases hj : j < rows.length
  · rw [offA_get hj, List.getElem?_set, offA_len, offA_get hj]
    by_cases e : x = j
    · subst e
      simp [hj]
    · rw [if_neg e]
      have e' : ¬ j = x := fun h => e h.symm
      simp [e']
  · rw [List.getElem?_eq_none (by rw [List.length_set, offA_len]; omega), List.getElem?_eq_none (by rw [offA_len]; omega)]
/-- the boxes of the first loop -/
def TurnT (w w5 : World) (sb ob : Nat) (sum : Int) (n : Nat) (offs : List Int) (ds : List Deferred) (wr : World) : Prop :=
  w5.heap.size ≤ wr.heap.size ∧ Ext w wr ∧ (∀ b, b < w5.heap.size → b ≠ sb → b ≠ ob → wr.heap[b]? = w5.heap[b]?) ∧ Blk wr sb 3 #[.int .i64 sum] ∧ OwI wr 0 (some ⟨ob, 0, none⟩) n offs ∧ Marks w5.heap.size ds wr
set_option maxRecDepth 100000 in
set_option maxHeartbeats 4000000 in
theorem reducet_in {base g : Nat} {rows : List (List Int)} {mi : Bool} (m last : Nat) (cost : Int) (ok : RowsOk rows) (hS : SubN rows.length m) (h0 : 0 ∉ memsM m) (hla : last < rows.length) (w : World) (hT : Tab w) (H : KernT w base g rows mi) :
    CallsIn Fence.wide 3 Tryd.prog 62 #[.pointer (some ⟨g, 0, none⟩), wayT m last cost] w fun e W' => e = .returned (.int .i64 (reduceT rows (memsM m) last)) ∧ Ext w W' := by
  obtain ⟨C, cc, us, hB, _, hV, hR⟩ := H
  have l1 := ok.n1
  have l2 := ok.n2
  have lus : Hid (us.length = rows.length) := hR.1
  have cK := ((((hB.alloc (.cells #[.pointer (some ⟨g, 0, none⟩)] 47)).alloc (.cells #[.int .u64 m, .int .u64 0, .int .i64 last, .int .i64 cost] 70)).alloc (.cells #[.int .i64 0] 3)).cell 0)
  simp only [List.getElem?_toArray, List.getElem?_cons_zero] at cK
  have zg := hB.lt
  have hg := tab_low hT
  have h63 : ∀ x ∈ memsM m, x < 63 := fun x hx => by have := hS.2 x hx; omega
  have LI := Lib.hid (fun (W : World) (hW : Tab W) => list_any m hS.1 h63 W hW)
  unfold setV at LI
  replace hB := Lib.hid hB
  replace hV := Lib.hid hV
  replace hR := Lib.hid hR
  refine callsIn_of_wp_marks Tryd.func62 rfl trivial ?_ rfl
  simp only [Tryd.ntmps62, List.size_toArray, List.length_cons, List.length_nil, Nat.reduceAdd, Nat.reduceSub, Array.replicate_succ, Array.replicate_zero, List.push_toArray, List.append_toArray, List.nil_append, List.cons_append]
  gi_wp2_with (gi_at_make; go_loud (refine wplIn_make_i rfl _ _ rfl w.heap.size rows.length rfl rfl (by omega) (by simp; omega) ?_; intro w1 o1 g1))
  have bK1 := Lib.hid ((Blk.new (w := w) (t := 47) (cs := #[.pointer (some ⟨g, 0, none⟩)]) rfl).alloc (.cells #[.int .u64 m, .int .u64 0, .int .i64 last, .int .i64 cost] 70) |>.alloc (.cells #[.int .i64 0] 3) |>.grown g1 (by simp))
  have bW1 := Lib.hid ((Blk.new (w := w.alloc (.cells #[.pointer (some ⟨g, 0, none⟩)] 47)) (t := 70) (cs := #[.int .u64 m, .int .u64 0, .int .i64 last, .int .i64 cost]) rfl).alloc (.cells #[.int .i64 0] 3) |>.grown g1 (by simp))
  have bS1 := Lib.hid ((Blk.new (w := (w.alloc (.cells #[.pointer (some ⟨g, 0, none⟩)] 47)).alloc (.cells #[.int .u64 m, .int .u64 0, .int .i64 last, .int .i64 cost] 70)) (t := 3) (cs := #[.int .i64 0]) rfl).grown g1 (by simp))
  simp only [World.size_alloc] at bK1 bW1 bS1 o1
  have X1 := Lib.hid (((((Ext.rf w).alloc (.cells #[.pointer (some ⟨g, 0, none⟩)] 47)).alloc (.cells #[.int .u64 m, .int .u64 0, .int .i64 last, .int .i64 cost] 70)).alloc (.cells #[.int .i64 0] 3)).grow g1 (by simp))
  obtain ⟨sf, hsf⟩ : ∃ sf, Hid (sf = w1.heap.size) := ⟨_, rfl⟩
  have zf : w.heap.size + 1 + 1 + 1 < sf := by rw [hsf.out]; exact (OwI.lt o1 _ rfl).2
  have o2 := Lib.hid (o1.ext ((Ext.rf w1).alloc (.cells #[.slice (some ⟨w.heap.size + 1 + 1 + 1, 0, none⟩) rows.length rows.length] 22)))
  have bF2 : Hid (Blk (w1.alloc (.cells #[.slice (some ⟨w.heap.size + 1 + 1 + 1, 0, none⟩) rows.length rows.length] 22)) sf 22 #[.slice (some ⟨w.heap.size + 1 + 1 + 1, 0, none⟩) rows.length rows.length]) := .new hsf.out
  have bK2 := Lib.hid (bK1.out.alloc (.cells #[.slice (some ⟨w.heap.size + 1 + 1 + 1, 0, none⟩) rows.length rows.length] 22))
  have bW2 := Lib.hid (bW1.out.alloc (.cells #[.slice (some ⟨w.heap.size + 1 + 1 + 1, 0, none⟩) rows.length rows.length] 22))
  have bS2 := Lib.hid (bS1.out.alloc (.cells #[.slice (some ⟨w.heap.size + 1 + 1 + 1, 0, none⟩) rows.length rows.length] 22))
  have X2 := Lib.hid (X1.out.alloc (.cells #[.slice (some ⟨w.heap.size + 1 + 1 + 1, 0, none⟩) rows.length rows.length] 22))
  try simp only [World.size_alloc]
  rw [← hsf.out]
  generalize w1.alloc (.cells #[.slice (some ⟨w.heap.size + 1 + 1 + 1, 0, none⟩) rows.length rows.length] 22) = w2 at *
  clear bK1 bW1 bS1 X1 o1 g1 cK
  have T2 := Lib.hid (hT.ext X2.out)
  refine wpIn_region_open (by kernel_rfl) (by kernel_rfl) (fun _ => trivial) rfl rfl ?_
  change wpAny _ _ _ _ _ _ _ (World.drew _)
  refine wpAny_T (i := 0) (op := Op.fieldAddr 70 (Operand.tmp 3) 1) (t := 0) (d := some 24) (v := ?_) rfl (by decide +kernel) (by decide +kernel) (by decide +kernel) (fun _ _ _ h => h) ?_ ?_
  case refine_2 => (intro _; unfold exec2; go_simp; try with_reducible rfl)
  try simp only [Act.put, List.setIfInBounds_toArray, List.set_cons_zero, List.set_cons_succ]
  refine wpAny_T (i := 3) (op := Op.fieldAddr 70 (Operand.tmp 3) 0) (t := 0) (d := some 27) (v := ?_) rfl (by decide +kernel) (by decide +kernel) (by decide +kernel) (fun _ _ _ h => h) ?_ ?_
  case refine_2 => (intro _; unfold exec2; go_simp; try with_reducible rfl)
  try simp only [Act.put, List.setIfInBounds_toArray, List.set_cons_zero, List.set_cons_succ]
  refine wpAny_core (n := 1) [(1, some 25), (2, some 26), (4, some 28), (5, some 29), (6, some 30), (7, some 7)] (Ext w2)
    (VF (fun | 1 => some (.int .i64 last) | 4 => some (.agg #[.int .u64 m, .int .u64 0]) | _ => none)
      (fun i v W => (i = 2 → ∃ q, v = .slice (some ⟨q, 0, none⟩) 1 1 ∧ Blk W q 3 #[.int .i64 last] ∧ w2.heap.size ≤ q) ∧ (i = 5 → ∃ A c, v = .slice A (intsN (memsM m)).length c ∧ RdI W A (intsN (memsM m))) ∧ (i = 6 → ∃ A c, v = .slice A ((last : Int) :: intsN (memsM m)).length c ∧ OwI W w2.heap.size A c ((last : Int) :: intsN (memsM m))) ∧ (i = 7 → ∃ q, v = .pointer (some ⟨q, 0, none⟩) ∧ Blk W q 22 #[.slice none 0 0] ∧ w2.heap.size ≤ q)))
    Ext #[true, true, true, true, true, true, true, true, false] (by decide +kernel) (VF.stab ?_) ?_ ?_ ((Ext.rf _).drew)
  · intro j v W W' _ h hx
    refine ⟨fun e => ?_, fun e => ?_, fun e => ?_, fun e => ?_⟩
    · obtain ⟨q, h1, h2, h3⟩ := h.1 e
      exact ⟨q, h1, h2.ext hx, h3⟩
    · obtain ⟨A, c, h1, h2⟩ := h.2.1 e
      exact ⟨A, c, h1, h2.ext hx⟩
    · obtain ⟨A, c, h1, h2⟩ := h.2.2.1 e
      exact ⟨A, c, h1, h2.ext hx⟩
    · obtain ⟨q, h1, h2, h3⟩ := h.2.2.2 e
      exact ⟨q, h1, h2.ext hx, h3⟩
  · intro pq hpm u w4 hR4 hD K hK
    have bw := bW2.out.ext hR4
    have r0 : w4.cell? ⟨w.heap.size + 1, 0, none⟩ = some (.int .u64 m) := bw.cell 0
    have r1 : w4.cell? ⟨w.heap.size + 1, 1, none⟩ = some (.int .u64 0) := bw.cell 1
    have r2 : w4.cell? ⟨w.heap.size + 1, 2, none⟩ = some (.int .i64 last) := bw.cell 2
    simp only [List.mem_cons, List.not_mem_nil, or_false] at hpm
    rcases hpm with rfl | rfl | rfl | rfl | rfl | rfl
    · exact op_ld (T := 3) rfl (.pointer (some ⟨w.heap.size + 1, 2, none⟩)) (by kernel_rfl) (.int .i64 last) (by go_simp) (hK _ _ (VF.mk rfl) hR4 (Ext.rf _))
    · have h1 := (hD 1 (depIn (by kernel_rfl))).k rfl
      exact op_bs1 rfl _ (Eq.trans (b := u 1) (by kernel_rfl) h1) _ (ibs1g_run _ _) (hK _ _ (VF.mg rfl ⟨fun _ => ⟨_, rfl, .new rfl, hR4.size⟩, (fun h => by cases h), (fun h => by cases h), (fun h => by cases h)⟩) (hR4.alloc _) ((Ext.rf _).alloc _))
    · exact op_ld (T := 55) rfl (.pointer (some ⟨w.heap.size + 1, 0, none⟩)) (by kernel_rfl) (.agg #[.int .u64 m, .int .u64 0]) (by go_simp) (hK _ _ (VF.mk rfl) hR4 (Ext.rf _))
    · have h4 := (hD 4 (depIn (by kernel_rfl))).k rfl
      refine op_call rfl #[.agg #[.int .u64 m, .int .u64 0]] (by go_simp) (by rw [← h4]; kernel_rfl) _ (LI.out _ (T2.out.ext hR4)) ?_
      rintro e w3 ⟨A3, c3, rfl, o3, x3⟩
      exact ⟨_, rfl, hK _ _ (VF.mg rfl ⟨(fun h => by cases h), fun _ => ⟨A3, c3, rfl, o3.read⟩, (fun h => by cases h), (fun h => by cases h)⟩) (hR4.tr x3) x3⟩
    · obtain ⟨q, h2, b2, z2⟩ := ((hD 2 (depIn (by kernel_rfl))).g rfl).1 rfl
      obtain ⟨A, c, h5, o5⟩ := ((hD 5 (depIn (by kernel_rfl))).g rfl).2.1 rfl
      obtain ⟨A6, c6, w6, hrun, o6, x6⟩ := run_fresh_i w4 w2.heap.size 22 q (last : Int) (intsN (memsM m)) A c b2 z2 o5 (by rw [intsN_len]; have := memsM_le m; omega)
      exact op_app rfl _ _ (Eq.trans (b := u 2) (by kernel_rfl) h2) (Eq.trans (b := u 5) (by kernel_rfl) h5) _ hrun (hK _ _ (VF.mg rfl ⟨(fun h => by cases h), (fun h => by cases h), fun _ => ⟨A6, c6, rfl, o6⟩, (fun h => by cases h)⟩) (hR4.tr x6) x6)
    · exact op_run (op := .alloc 22) rfl (.pointer (some ⟨w4.heap.size, 0, none⟩)) (w' := w4.alloc (.cells #[.slice none 0 0] 22)) (by unfold exec2; go_simp) (hK _ _ (VF.mg rfl ⟨(fun h => by cases h), (fun h => by cases h), (fun h => by cases h), fun _ => ⟨_, rfl, .new rfl, hR4.size⟩⟩) (hR4.alloc _) ((Ext.rf _).alloc _))
  · intro u w4 hR4 hV4
    have h1 := (hV4 (1, some 25) (by simp)).k rfl
    have h4 := (hV4 (4, some 28) (by simp)).k rfl
    obtain ⟨A6, c6, h6, o6⟩ := ((hV4 (6, some 30) (by simp)).g rfl).2.2.1 rfl
    obtain ⟨q, h7, hq, hqz⟩ := ((hV4 (7, some 7) (by simp)).g rfl).2.2.2 rfl
    generalize u 2 = y2 at *
    generalize u 5 = y5 at *
    simp only [putAll, h1, h4, h6, h7]
    clear h1 h4 h6 h7 hV4
    have cq : w4.cell? ⟨q, 0, none⟩ = some (.slice none 0 0) := hq.cell 0
    have fq := hq.free 0
    obtain ⟨srcs, hsr⟩ : ∃ srcs, Hid (srcs = last :: memsM m) := ⟨_, rfl⟩
    have esr : (last : Int) :: intsN (memsM m) = intsN srcs := by rw [hsr.out]; rfl
    rw [esr] at o6 ⊢
    rw [intsN_len]
    have rb : Hid (Blk (w4.setCell ⟨q, 0, none⟩ (.slice A6 srcs.length c6)) q 22 #[.slice A6 srcs.length c6]) := hq.set 0 (.slice A6 srcs.length c6)
    have X5 : Ext w2 (w4.setCell ⟨q, 0, none⟩ (.slice A6 srcs.length c6)) := hR4.setNew (p := ⟨q, 0, none⟩) hqz _
    have o7 : Hid (OwI (w4.setCell ⟨q, 0, none⟩ (.slice A6 srcs.length c6)) w2.heap.size A6 c6 (intsN srcs)) := o6.far hq (by decide) 0 _
    refine wpAny_next 8 (by decide +kernel) (op_st rfl (.pointer (some ⟨q, 0, none⟩)) (.slice A6 srcs.length c6) (by kernel_rfl) (by kernel_rfl) (by go_simp; rfl) ?_)
    refine wpAny_done (by kernel_rfl) (onNormal_i ?_) _
    clear cq fq hq hR4 o6 esr
    generalize w4.setCell ⟨q, 0, none⟩ (.slice A6 srcs.length c6) = w5 at *
    clear w4
    have X6 := Lib.hid (X2.out.tr X5)
    have bK5 := Lib.hid (bK2.out.ext X5)
    have bW5 := Lib.hid (bW2.out.ext X5)
    have bS5 := Lib.hid (bS2.out.ext X5)
    have bF5 := Lib.hid (bF2.out.ext X5)
    have o5 := Lib.hid (o2.out.ext X5)
    have z2 := bF2.out.lt
    have z25 := X5.size
    clear X2 bK2 bW2 bS2 bF2 o2 X5 T2
    have cR := rb.out.cell 0
    simp only [List.getElem?_toArray, List.getElem?_cons_zero] at cR
    go_simp
    gi_wp2
    have hsl : Hid (∀ s ∈ srcs, s < rows.length) := fun s h => by
      rw [hsr.out] at h
      rcases List.mem_cons.1 h with rfl | h
      · exact hla
      · exact hS.2 s h
    have lsr : srcs.length ≤ 65 := by rw [hsr.out]; have := memsM_le m; simp; omega
    have COLS : Hid (∀ s, s < rows.length → memsM (colsM m last s) = colsT (memsM m) last s ∧ colsM m last s < 18446744073709551616 ∧ ∀ x ∈ memsM (colsM m last s), x < rows.length) := fun s hs => by
      have e := colsM_mems (last := last) (src := s) hS.1 h0
      refine ⟨e, colsM_lt hS.1, fun x hx => ?_⟩
      rw [e] at hx
      unfold colsT at hx
      split at hx
      · exact hS.2 x hx
      · rcases List.mem_cons.1 hx with rfl | hx
        · omega
        · exact hS.2 x (List.mem_filter.1 hx).1
    have hcost : Hid (∀ a b, a < rows.length → b < rows.length → 0 ≤ costAt rows a b ∧ costAt rows a b ≤ 2147483647) := fun a b ha hb => by
      have e1 : rows[a]? = some rows[a] := List.getElem?_eq_getElem ha
      have e2 := ok.row _ (List.getElem_mem ha)
      have e3 : (rows[a])[b]? = some (rows[a])[b] := List.getElem?_eq_getElem (by omega)
      unfold costAt
      rw [getD_some e1, getD_some e3]
      exact ok.num _ (List.getElem_mem ha) _ (List.getElem_mem _)
    have hoff : Hid (∀ s, s < rows.length → 0 ≤ offT rows (memsM m) last s ∧ offT rows (memsM m) last s ≤ 2147483647) := fun s hs => by
      have h1 := leastN_bd (f := fun dst => costAt rows s dst) (B := 2147483647) (l := colsT (memsM m) last s) (b := -1) (fun c hc => by
        have h2 := (COLS.out s hs).2.2 c (by rw [(COLS.out s hs).1]; exact hc)
        have := hcost.out s c hs h2
        omega) (by omega) (by omega)
      unfold offT
      omega
    have bsum : Hid (∀ k, 0 ≤ sumL ((srcs.take k).map fun s => offT rows (memsM m) last s) ∧ sumL ((srcs.take k).map fun s => offT rows (memsM m) last s) ≤ 2147483647 * 65) := fun k => by
      have h1 : ∀ l : List Nat, (∀ s ∈ l, s < rows.length) → 0 ≤ sumL (l.map fun s => offT rows (memsM m) last s) ∧ sumL (l.map fun s => offT rows (memsM m) last s) ≤ 2147483647 * (l.length : Int) := by
        intro l
        induction l with
        | nil => intro _; simp [sumL]
        | cons x l ih =>
          intro h
          have h2 := ih fun s hs => h s (by simp [hs])
          have h3 := hoff.out x (h x (by simp))
          simp only [List.map_cons, sumL, List.length_cons]
          omega
      have h2 := h1 (srcs.take k) fun s hs => hsl.out s (List.mem_of_mem_take hs)
      have h3 : (srcs.take k).length ≤ 65 := by rw [List.length_take]; omega
      omega
    have START : Hid (TurnT w w5 (w.heap.size + 1 + 1) (w.heap.size + 1 + 1 + 1) (sumL ((srcs.take 0).map fun s => offT rows (memsM m) last s)) rows.length (offA rows (memsM m) last (srcs.take 0)) [] w5) :=
      ⟨Nat.le_refl _, X6.out, fun _ _ _ _ => rfl, bS5.out, by rw [List.take_zero, offA_nil]; exact o5.out.more (Nat.zero_le _), .nil _ _⟩
    refine wpIn_loop (fun a' wr => ∃ (k : Nat) (ds : List Deferred) (u9 u10 u34 u35 u36 u37 u38 u39 u40 u60 u61 u62 u63 u64 u65 u66 u67 u68 u69 u70 u71 : Value), (k ≤ srcs.length ∧ Hid (TurnT w w5 (w.heap.size + 1 + 1) (w.heap.size + 1 + 1 + 1) (sumL ((srcs.take k).map fun s => offT rows (memsM m) last s)) rows.length (offA rows (memsM m) last (srcs.take k)) ds wr)) ∧
        a' = { tmps := #[.pointer (some ⟨g, 0, none⟩), .agg #[.int .u64 m, .int .u64 0, .int .i64 last, .int .i64 cost], .pointer (some ⟨w.heap.size, 0, none⟩), .pointer (some ⟨w.heap.size + 1, 0, none⟩), .int .i64 0, .pointer (some ⟨w.heap.size + 1 + 1, 0, none⟩), .pointer (some ⟨sf, 0, none⟩), .pointer (some ⟨q, 0, none⟩), undef, u9, u10, undef, undef, undef, undef, undef, undef, undef, .pointer (some ⟨g, 0, none⟩), .pointer (some ⟨g, 0, none⟩), .pointer (some ⟨g, 0, none⟩), .slice C rows.length cc, .int .i64 rows.length, .slice (some ⟨w.heap.size + 1 + 1 + 1, 0, none⟩) rows.length rows.length, .pointer (some ⟨w.heap.size + 1, 2, none⟩), .int .i64 last, u 2, .pointer (some ⟨w.heap.size + 1, 0, none⟩), .agg #[.int .u64 m, .int .u64 0], u 5, .slice A6 srcs.length c6, .slice A6 srcs.length c6, .int .i64 srcs.length, .int .i64 k, u34, u35, u36, u37, u38, u39, u40, undef, undef, undef, undef, undef, undef, undef, undef, undef, undef, undef, undef, undef, undef, undef, undef, undef, undef, undef, u60, u61, u62, u63, u64, u65, u66, u67, u68, u69, u70, u71, undef, undef, undef, undef, undef, undef, undef, undef, undef, undef, undef, undef, undef, undef, undef, undef, undef, undef, undef, undef, undef, undef, undef, undef, undef, undef, undef, undef, undef, undef, undef, undef, undef, undef, undef, undef, undef, undef, undef, undef, undef, undef, undef, undef, undef, undef], defers := ds }) (fun a' _ => srcs.length - (intOf (a'.tmps.getD 33 undef)).toNat) ?_ ?_
    · exact ⟨0, [], _, _, _, _, _, _, _, _, _, _, _, _, _, _, _, _, _, _, _, _, _, ⟨by omega, START⟩, rfl⟩
    intro _ wr hinv
    obtain ⟨k, ds, u9, u10, u34, u35, u36, u37, u38, u39, u40, u60, u61, u62, u63, u64, u65, u66, u67, u68, u69, u70, u71, ⟨hk, HH⟩, rfl⟩ := hinv
    obtain ⟨wo, rfl⟩ : ∃ wo : World, wo = wr := ⟨_, rfl⟩
    clear START
    obtain ⟨z5, Y, hB5, bU, oO, hM⟩ := HH.out
    by_cases hlt : k < srcs.length
    · have er : srcs[k]? = some srcs[k] := List.getElem?_eq_getElem hlt
      have hmem : srcs[k] ∈ srcs := List.getElem_mem hlt
      have hs := hsl.out _ hmem
      have etk : srcs.take (k + 1) = srcs.take k ++ [srcs[k]] := by rw [List.take_add_one, er]; rfl
      have hcols := COLS.out _ hs
      have CO := Lib.hid (fun (W : World) => columns_any m last cost srcs[k] hS.1 (by omega) W)
      have bo := Lib.hid (hoff.out _ hs)
      have o7w : Hid (OwI wo w2.heap.size A6 c6 (intsN srcs)) := o7.out.keep fun g hg => by
        have h1 := OwI.lt o7.out g hg
        exact hB5 g h1.2 (by omega) (by omega)
      obtain ⟨ab, ao, xs, rfl, zab, cA, eA, -⟩ := (OwI.read o7w.out).at (k := k) (by rw [intsN_len]; exact hlt)
      have exs : xs = ((srcs[k] : Nat) : Int) := by
        have h := eA.out
        rw [intsN_get er] at h
        exact (Option.some.inj h).symm
      subst exs
      generalize srcs[k] = src at *
      have erow : rows[src]? = some rows[src] := List.getElem?_eq_getElem hs
      obtain ⟨D, d, hu, oD⟩ := hR.out.2 _ _ erow
      have lrow := ok.row _ (List.getElem_mem hs)
      have nrow := ok.num _ (List.getElem_mem hs)
      have ecost : ∀ b, costAt rows src b = (rows[src]).getD b 0 := fun b => by unfold costAt; rw [getD_some erow]
      generalize rows[src] = row at *
      replace oD := Lib.hid oD
      replace nrow := Lib.hid nrow
      replace ecost := Lib.hid ecost
      replace etk := Lib.hid etk
      obtain ⟨mc, hmc⟩ : ∃ mc, Hid (colsM m last src = mc) := ⟨_, rfl⟩
      rw [hmc.out] at hcols CO
      obtain ⟨emc, hmc1, hmc2⟩ := hcols
      replace emc := Lib.hid emc
      replace hmc2 := Lib.hid hmc2
      have kb : Hid (Blk wo w.heap.size 47 #[.pointer (some ⟨g, 0, none⟩)]) := (hB5 _ (by omega) (by omega) (by omega)).trans bK5.out
      have fb : Hid (Blk wo sf 22 #[.slice (some ⟨w.heap.size + 1 + 1 + 1, 0, none⟩) rows.length rows.length]) := (hB5 _ (by omega) (by omega) (by omega)).trans bF5.out
      have wb : Blk wo (w.heap.size + 1) 70 #[.int .u64 m, .int .u64 0, .int .i64 last, .int .i64 cost] := (hB5 _ (by omega) (by omega) (by omega)).trans bW5.out
      replace wb := (wb.alloc (.cells #[.int .i64 src] 3)).alloc (.cells #[.int .i64 (-1)] 3)
      have c0 : ((wo.alloc (.cells #[.int .i64 src] 3)).alloc (.cells #[.int .i64 (-1)] 3)).cell? ⟨w.heap.size + 1, 0, none⟩ = some (.int .u64 m) := wb.cell 0
      have c1 : ((wo.alloc (.cells #[.int .i64 src] 3)).alloc (.cells #[.int .i64 (-1)] 3)).cell? ⟨w.heap.size + 1, 1, none⟩ = some (.int .u64 0) := wb.cell 1
      have c2 : ((wo.alloc (.cells #[.int .i64 src] 3)).alloc (.cells #[.int .i64 (-1)] 3)).cell? ⟨w.heap.size + 1, 2, none⟩ = some (.int .i64 last) := wb.cell 2
      have c3 : ((wo.alloc (.cells #[.int .i64 src] 3)).alloc (.cells #[.int .i64 (-1)] 3)).cell? ⟨w.heap.size + 1, 3, none⟩ = some (.int .i64 cost) := wb.cell 3
      have q1 : (k : Int) < (srcs.length : Int) := by omega
      have zO : w.heap.size + 1 + 1 + 1 + 1 ≤ wo.heap.size := by omega
      replace Y := Lib.hid Y
      replace hB5 := Lib.hid hB5
      replace bU := Lib.hid bU
      replace oO := Lib.hid oO
      replace hM := Lib.hid hM
      replace hu := Lib.hid hu
      replace erow := Lib.hid erow
      unfold setV at CO
      clear HH eA er wb
      gi_wp2
      refine ⟨trivial, ?_⟩
      refine (callsIn_wide.2 (CO.out _)).mono ?_
      rintro e w6 ⟨rfl, x6⟩
      gi_wp2
      refine ⟨trivial, ?_⟩
      refine (callsIn_wide.2 (all_any mc _)).mono ?_
      rintro e w7 ⟨rfl, rfl⟩
      gi_wp2
      have zO6 : wo.heap.size + 1 + 1 ≤ w6.heap.size := by have := x6.size; simpa using this
      have xo6 : Hid (Ext wo (w6.alloc (.cells #[.int .u64 mc, .int .u64 0] 55))) := (Ext.tr (((Ext.rf wo).alloc _).alloc _) x6).alloc _
      have bB : Blk (w6.alloc (.cells #[.int .u64 mc, .int .u64 0] 55)) w6.heap.size 55 #[.int .u64 mc, .int .u64 0] := .new rfl
      have hB0 : Ext w (w6.alloc (.cells #[.int .u64 mc, .int .u64 0] 55)) := Y.out.tr xo6.out
      have bL : Blk (w6.alloc (.cells #[.int .u64 mc, .int .u64 0] 55)) (wo.heap.size + 1) 3 #[.int .i64 (-1)] := ((Blk.new (by simp)).ext x6).alloc _
      have bN : Hid (Blk (w6.alloc (.cells #[.int .u64 mc, .int .u64 0] 55)) wo.heap.size 3 #[.int .i64 src]) := (((Blk.new (by simp)).alloc _).ext x6).alloc _
      have h63c : ∀ x ∈ memsM mc, x < 63 := fun x hx => by have := hmc2.out x hx; omega
      refine wpIn_rangeFunc_ownG rfl (by omega) (gf := 85) (lb := #[.pointer (some ⟨w6.heap.size, 0, none⟩)]) rfl trivial (enters_of Tryd.func85 (by kernel_rfl) rfl)
        (all_stops 2 mc hmc1 h63c w6.heap.size w.heap.size _ bB (hT.ext hB0) hB0.size hg) SetKp.tr (setKp_b (cs := #[.int .u64 mc, .int .u64 0]) hB0.size bB) (Below.refl _ _) (fun _ => rfl)
        (fun pre W => Blk W (wo.heap.size + 1) 3 #[.int .i64 (leastN (fun dst => costAt rows src dst) (-1) (inL pre))] ∧ Held (w6.alloc (.cells #[.int .u64 mc, .int .u64 0] 55)) (wo.heap.size + 1) W ∧ Below w.heap.size w W)
        (fun _ _ _ => False)
        (OwnFrom.and (ownFrom_blk (by simp <;> omega) _ _) (OwnFrom.and (ownFrom_held (Nat.le_refl _)) (ownFrom_below (Nat.le_refl _) (by simp <;> omega))))
        (fun _ _ _ _ _ hs _ _ => hs)
        ⟨by simpa [inL, leastN] using bL, ⟨Nat.le_refl _, fun _ _ _ => rfl⟩, hB0⟩
        (fun x => { tmps := #[.pointer (some ⟨g, 0, none⟩), .agg #[.int .u64 m, .int .u64 0, .int .i64 last, .int .i64 cost], .pointer (some ⟨w.heap.size, 0, none⟩), .pointer (some ⟨w.heap.size + 1, 0, none⟩), .int .i64 0, .pointer (some ⟨w.heap.size + 1 + 1, 0, none⟩), .pointer (some ⟨sf, 0, none⟩), .pointer (some ⟨q, 0, none⟩), undef, .pointer (some ⟨wo.heap.size, 0, none⟩), .pointer (some ⟨wo.heap.size + 1, 0, none⟩), .int .i64 ((x.1 : Nat) : Int), undef, undef, undef, undef, undef, undef, .pointer (some ⟨g, 0, none⟩), .pointer (some ⟨g, 0, none⟩), .pointer (some ⟨g, 0, none⟩), .slice C rows.length cc, .int .i64 rows.length, .slice (some ⟨w.heap.size + 1 + 1 + 1, 0, none⟩) rows.length rows.length, .pointer (some ⟨w.heap.size + 1, 2, none⟩), .int .i64 last, u 2, .pointer (some ⟨w.heap.size + 1, 0, none⟩), .agg #[.int .u64 m, .int .u64 0], u 5, .slice (some ⟨ab, ao, none⟩) srcs.length c6, .slice (some ⟨ab, ao, none⟩) srcs.length c6, .int .i64 srcs.length, .int .i64 k, .bool true, .pointer (some ⟨ab, ao + k, none⟩), .int .i64 src, .agg #[.int .u64 m, .int .u64 0, .int .i64 last, .int .i64 cost], .int .i64 src, .agg #[.int .u64 mc, .int .u64 0], .func (.func 85) #[] #[.pointer (some ⟨w6.heap.size, 0, none⟩)], .int .i64 ((x.1 : Nat) : Int), undef, undef, undef, undef, undef, undef, undef, undef, undef, undef, undef, undef, undef, undef, undef, undef, undef, undef, u60, u61, u62, u63, u64, u65, u66, u67, u68, u69, u70, u71, undef, undef, undef, undef, undef, undef, undef, undef, undef, undef, undef, undef, undef, undef, undef, undef, undef, undef, undef, undef, undef, undef, undef, undef, undef, undef, undef, undef, undef, undef, undef, undef, undef, undef, undef, undef, undef, undef, undef, undef, undef, undef, undef, undef, undef, undef], defers := [] }) ?assign ?body ?done ?stop
      case assign =>
        intro l x W K hK
        gi_wp2
        exact hK
      case body =>
        rintro l pre x W ⟨hO, hH, hBW⟩ hlt
        obtain ⟨bb, hbb⟩ : ∃ bb, Hid (bb = leastN (fun dst => costAt rows src dst) (-1) (inL pre)) := ⟨_, rfl⟩
        rw [← hbb.out] at hO
        have hxr := hmc2.out x.1 x.2
        have cKb : W.cell? ⟨w.heap.size, 0, none⟩ = some (.pointer (some ⟨g, 0, none⟩)) := (hH.blk (kb.out.ext xo6.out) (by omega)).cell 0
        have cN : W.cell? ⟨wo.heap.size, 0, none⟩ = some (.int .i64 src) := (hH.blk bN.out (by omega)).cell 0
        have cL : W.cell? ⟨wo.heap.size + 1, 0, none⟩ = some (.int .i64 bb) := hO.cell 0
        have fL := hO.free 0
        obtain ⟨rb, ro, vv, rfl, zv, cv, ev⟩ := (hV.out.read.ext hBW).at (j := src) (by rw [lus.out]; exact hs)
        obtain rfl : .slice D row.length d = vv := by
          have h := ev.out
          rw [hu.out] at h
          exact Option.some.inj h
        obtain ⟨cb, co, y, rfl, zy, cy, ey, _⟩ := (oD.out.read.ext hBW).at (k := x.1) (by omega)
        have cG : W.cell? ⟨g, 0, none⟩ = some (.slice (some ⟨rb, ro, none⟩) rows.length cc) := (hB.out.ext hBW).cell 0
        have eN : Hid (leastN (fun dst => costAt rows src dst) (-1) (inL (pre ++ [x])) = if bb < 0 then y else if y < bb then y else bb) := by
          have h : leastN (fun dst => costAt rows src dst) (-1) (inL (pre ++ [x])) = if bb < 0 then y else if y < bb then y else bb := by
            rw [inL_snoc, leastN_snoc, ← hbb.out, ecost.out, getD_some ey.out]
          exact h
        have q2 : (src : Int) < (rows.length : Int) := by omega
        have q3 : ((x.1 : Nat) : Int) < (row.length : Int) := by omega
        have zW : w6.heap.size + 1 ≤ W.heap.size := by have := hH.1; simpa using this
        have E0 : Hid (∀ nq : Nat, KeepsFrom (w6.heap.size + 1) W (W.drewN nq) ∧ SetKp w.heap.size w6.heap.size W (W.drewN nq) ∧ Blk (W.drewN nq) (wo.heap.size + 1) 3 #[.int .i64 bb] ∧ Held (w6.alloc (.cells #[.int .u64 mc, .int .u64 0] 55)) (wo.heap.size + 1) (W.drewN nq) ∧ Below w.heap.size w (W.drewN nq)) := fun nq =>
          have xr : Ext W (W.drewN nq) := (Ext.rf W).drewN nq
          ⟨KeepsFrom.of_ext xr, ⟨xr.mono (by omega), rfl⟩, hO.drewN nq, hH.ext xr, hBW.trans (xr.mono (by omega))⟩
        have E1 : Hid (∀ nq : Nat, KeepsFrom (w6.heap.size + 1) W ((W.drewN nq).setCell ⟨wo.heap.size + 1, 0, none⟩ (.int .i64 y)) ∧ SetKp w.heap.size w6.heap.size W ((W.drewN nq).setCell ⟨wo.heap.size + 1, 0, none⟩ (.int .i64 y)) ∧ Blk ((W.drewN nq).setCell ⟨wo.heap.size + 1, 0, none⟩ (.int .i64 y)) (wo.heap.size + 1) 3 #[.int .i64 y] ∧ Held (w6.alloc (.cells #[.int .u64 mc, .int .u64 0] 55)) (wo.heap.size + 1) ((W.drewN nq).setCell ⟨wo.heap.size + 1, 0, none⟩ (.int .i64 y)) ∧ Below w.heap.size w ((W.drewN nq).setCell ⟨wo.heap.size + 1, 0, none⟩ (.int .i64 y))) := fun nq =>
          have xr : Ext W (W.drewN nq) := (Ext.rf W).drewN nq
          ⟨(KeepsFrom.of_ext xr).trans ((KeepsOthers.setCell _ _ _).from _), ⟨(xr.mono (by omega)).setCell (by simp <;> omega) _, Below.heap_setCell (W.drewN nq) ⟨wo.heap.size + 1, 0, none⟩ _ w6.heap.size (by simp; omega)⟩, (hO.drewN nq).set 0 _, (hH.ext xr).set _, (hBW.trans (xr.mono (by omega))).setCell (by simp <;> omega) _⟩
        have hmx : Tryd.prog.follows .mixedOrders = true := by kernel_rfl
        clear ev ey hbb
        replace hO := Lib.hid hO
        replace hH := Lib.hid hH
        replace hBW := Lib.hid hBW
        by_cases hneg : bb < 0
        · rw [if_pos hneg] at eN
          gi_wp2
          refine wpIn_region_quiet_r (by kernel_rfl) (by kernel_rfl) (by kernel_rfl) ?_
          repeat (gi_big_quiet_step (fail))
          refine wpQuietIn_nil ?_
          rintro _ ⟨nq, rfl⟩
          gi_wp2
          obtain ⟨e1, e2, e3, e4, e5⟩ := E1.out nq
          exact ⟨by rw [World.size_alloc]; exact e1, e2, by rw [eN.out]; exact e3, e4, e5⟩
        · rw [if_neg hneg] at eN
          by_cases hy : y < bb
          · rw [if_pos hy] at eN
            gi_wp2
            refine wpIn_region_quiet_r (by kernel_rfl) (by kernel_rfl) (by kernel_rfl) ?_
            repeat (gi_big_quiet_step (fail))
            refine wpQuietIn_nil ?_
            rintro _ ⟨nq, rfl⟩
            gi_wp2
            obtain ⟨e1, e2, e3, e4, e5⟩ := E1.out nq
            exact ⟨by rw [World.size_alloc]; exact e1, e2, by rw [eN.out]; exact e3, e4, e5⟩
          · rw [if_neg hy] at eN
            gi_wp2
            refine wpIn_region_quiet_r (by kernel_rfl) (by kernel_rfl) (by kernel_rfl) ?_
            repeat (gi_big_quiet_step (fail))
            refine wpQuietIn_nil ?_
            rintro _ ⟨nq, rfl⟩
            gi_wp2
            obtain ⟨e1, e2, e3, e4, e5⟩ := E0.out nq
            exact ⟨by rw [World.size_alloc]; exact e1, e2, by rw [eN.out]; exact e3, e4, e5⟩
      case done =>
        rintro D ys W hD rfl ⟨hO, hH, hBW⟩ hK
        rw [inL_attach, emc.out] at hO
        obtain ⟨bb, hbb⟩ : ∃ bb, Hid (bb = leastN (fun dst => costAt rows src dst) (-1) (colsT (memsM m) last src)) := ⟨_, rfl⟩
        rw [← hbb.out] at hO
        have eoff : Hid (offT rows (memsM m) last src = max bb 0) := by
          have h : offT rows (memsM m) last src = max bb 0 := by unfold offT; rw [hbb.out]
          exact h
        obtain ⟨ov, hov⟩ : ∃ ov, Hid (ov = offT rows (memsM m) last src) := ⟨_, rfl⟩
        rw [← hov.out] at eoff bo
        have emax : (if bb < 0 then 0 else bb) = ov := by rw [eoff.out]; split <;> omega
        rw [World.size_alloc] at hD
        have cL : W.cell? ⟨wo.heap.size + 1, 0, none⟩ = some (.int .i64 bb) := hO.cell 0
        have cN : W.cell? ⟨wo.heap.size, 0, none⟩ = some (.int .i64 src) := (hH.blk bN.out (by omega)).cell 0
        have cF : W.cell? ⟨sf, 0, none⟩ = some (.slice (some ⟨w.heap.size + 1 + 1 + 1, 0, none⟩) rows.length rows.length) := (hH.blk (fb.out.ext xo6.out) (by omega)).cell 0
        have oW : OwI W 0 (some ⟨w.heap.size + 1 + 1 + 1, 0, none⟩) rows.length (offA rows (memsM m) last (srcs.take k)) := (oO.out.ext xo6.out).keep fun z hz => by
          obtain rfl : w.heap.size + 1 + 1 + 1 = z := by simpa [bl] using hz
          exact hH.2 _ (by simp; omega) (by omega)
        obtain ⟨old, cOb, fOb, -, -, sOb⟩ := OwI.cell oW (k := src) (by rw [offA_len]; exact hs)
        have bUW := hH.blk (bU.out.ext xo6.out) (by omega)
        have bb1 := bsum.out k
        have bb2 := bsum.out (k + 1)
        rw [etk.out, List.map_append, List.map_cons, List.map_nil, sumA_snoc, ← hov.out] at bb2
        obtain ⟨su, hsu⟩ : ∃ su, Hid (su = sumL ((srcs.take k).map fun s => offT rows (memsM m) last s)) := ⟨_, rfl⟩
        rw [← hsu.out] at bUW bb1 bb2
        have hw : IntKind.i64.wrap (su + ov) = su + ov := IntWalk.i64_in _ (by omega)
        have oW1 := sOb.out ov
        obtain ⟨ov2, cOb1, -, -, eOb1, -⟩ := OwI.cell oW1 (k := src) (by rw [List.length_set, offA_len]; exact hs)
        obtain rfl : ov = ov2 := by
          have h := eOb1.out
          rw [List.getElem?_set_self (by rw [offA_len]; exact hs)] at h
          exact Option.some.inj h
        have cU1 : (W.setCell ⟨w.heap.size + 1 + 1 + 1, src, none⟩ (.int .i64 ov)).cell? ⟨w.heap.size + 1 + 1, 0, none⟩ = some (.int .i64 su) := (bUW.far (p := ⟨w.heap.size + 1 + 1 + 1, src, none⟩) (by simp) _).cell 0
        have fU1 : (W.setCell ⟨w.heap.size + 1 + 1 + 1, src, none⟩ (.int .i64 ov)).frozen? ⟨w.heap.size + 1 + 1, 0, none⟩ = false := (bUW.far (p := ⟨w.heap.size + 1 + 1 + 1, src, none⟩) (by simp) _).free 0
        have cN1 : (W.setCell ⟨w.heap.size + 1 + 1 + 1, src, none⟩ (.int .i64 ov)).cell? ⟨wo.heap.size, 0, none⟩ = some (.int .i64 src) := ((hH.blk bN.out (by omega)).far (p := ⟨w.heap.size + 1 + 1 + 1, src, none⟩) (by simp; omega) _).cell 0
        have cF1 : (W.setCell ⟨w.heap.size + 1 + 1 + 1, src, none⟩ (.int .i64 ov)).cell? ⟨sf, 0, none⟩ = some (.slice (some ⟨w.heap.size + 1 + 1 + 1, 0, none⟩) rows.length rows.length) := ((hH.blk (fb.out.ext xo6.out) (by omega)).far (p := ⟨w.heap.size + 1 + 1 + 1, src, none⟩) (by simp; omega) _).cell 0
        have q2 : (src : Int) < (rows.length : Int) := by omega
        have zW : w6.heap.size + 1 ≤ W.heap.size := by have := hH.1; simpa using this
        have NOW : Hid (TurnT w w5 (w.heap.size + 1 + 1) (w.heap.size + 1 + 1 + 1) (sumL ((srcs.take (k + 1)).map fun s => offT rows (memsM m) last s)) rows.length (offA rows (memsM m) last (srcs.take (k + 1))) ({ target := .collected D, args := #[] } :: ds) (((W.setCell ⟨w.heap.size + 1 + 1 + 1, src, none⟩ (.int .i64 ov)).setCell ⟨w.heap.size + 1 + 1, 0, none⟩ (.int .i64 (su + ov))).drew)) := by
          have key : ∀ b, b ≠ w.heap.size + 1 + 1 → b ≠ w.heap.size + 1 + 1 + 1 → (((W.setCell ⟨w.heap.size + 1 + 1 + 1, src, none⟩ (.int .i64 ov)).setCell ⟨w.heap.size + 1 + 1, 0, none⟩ (.int .i64 (su + ov))).drew).heap[b]? = W.heap[b]? := fun b h1 h2 =>
            (Below.heap_setCell _ ⟨w.heap.size + 1 + 1, 0, none⟩ _ b (by simpa using h1)).trans (Below.heap_setCell W ⟨w.heap.size + 1 + 1 + 1, src, none⟩ _ b (by simpa using h2))
          have key2 : ∀ b, b < wo.heap.size → b ≠ w.heap.size + 1 + 1 → b ≠ w.heap.size + 1 + 1 + 1 → (((W.setCell ⟨w.heap.size + 1 + 1 + 1, src, none⟩ (.int .i64 ov)).setCell ⟨w.heap.size + 1 + 1, 0, none⟩ (.int .i64 (su + ov))).drew).heap[b]? = wo.heap[b]? := fun b h0 h1 h2 =>
            (key b h1 h2).trans ((hH.2 b (by simp; omega) (by omega)).trans (xo6.out.block b h0))
          refine ⟨by simp [World.drew]; omega, ((hBW.setCell (by simp <;> omega) _).setCell (by simp <;> omega) _).drew, fun b h0 h1 h2 => (key2 b (by omega) h1 h2).trans (hB5.out b h0 h1 h2), ?_, ?_, ?_⟩
          · rw [etk.out, List.map_append, List.map_cons, List.map_nil, sumA_snoc, ← hov.out, ← hsu.out]
            exact ((bUW.far (p := ⟨w.heap.size + 1 + 1 + 1, src, none⟩) (by simp) _).set 0 _).drew
          · rw [etk.out, ← offA_snoc, ← hov.out]
            refine oW1.keep fun z hz => ?_
            obtain rfl : w.heap.size + 1 + 1 + 1 = z := by simpa [bl] using hz
            exact Below.heap_setCell _ ⟨w.heap.size + 1 + 1, 0, none⟩ _ _ (by simp)
          · have bOb : ∃ cs, Blk wo (w.heap.size + 1 + 1 + 1) 3 cs := by
              rcases OwI.cases oO.out with ⟨h, _⟩ | ⟨z, cur, h, _, h2, _⟩
              · cases h
              · injection h with h
                injection h with h
                subst h
                exact ⟨cur, h2⟩
            obtain ⟨cs, bOb⟩ := bOb
            refine hM.out.cons (D := D) (by omega) (by omega) (fun b hb => key2 b (Array.getElem?_eq_some_iff.1 hb).1 (fun e => ?_) (fun e => ?_)) ((key D (by omega) (by omega)).trans hK)
            · subst e
              have h := bU.out
              unfold Blk at h
              rw [h] at hb
              cases hb
            · subst e
              unfold Blk at bOb
              rw [bOb] at hb
              cases hb
        have mk : Hid (srcs.length - (k + 1) < srcs.length - k) := by
          have h : srcs.length - (k + 1) < srcs.length - k := by omega
          exact h
        replace bUW := Lib.hid bUW
        replace oW1 := Lib.hid oW1
        replace hH := Lib.hid hH
        replace hBW := Lib.hid hBW
        replace hK := Lib.hid hK
        clear eOb1 oW hO bb1 bb2
        gi_wp2
        refine wpIn_region_open (by kernel_rfl) (by kernel_rfl) (fun _ => trivial) rfl rfl ?_
        change wpAny _ _ _ _ _ _ _ (World.drew _)
        refine wpAny_reads (n := 1) [(0, some 65), (1, some 66), (2, some 67), (3, some 68), (4, some 69), (5, some 70)] (fun | 0 => .int .i64 su | 1 => .slice (some ⟨w.heap.size + 1 + 1 + 1, 0, none⟩) rows.length rows.length | 2 => .int .i64 src | 3 => .pointer (some ⟨w.heap.size + 1 + 1 + 1, src, none⟩) | 4 => .int .i64 ov | 5 => .int .i64 (su + ov) | _ => undef) #[true, true, true, true, true, true, false] (by decide +kernel) ?_ ?_
        · intro pS hpm uS hD K hK
          simp only [List.mem_cons, List.not_mem_nil, or_false] at hpm
          rcases hpm with rfl | rfl | rfl | rfl | rfl | rfl
          · exact op_ld (T := 3) (x := Operand.tmp 5) (t := 3) (d := some 65) rfl (.pointer (some ⟨w.heap.size + 1 + 1, 0, none⟩)) (by kernel_rfl) (.int .i64 su) (by go_simp) hK
          · exact op_ld (T := 22) (x := Operand.tmp 6) (t := 22) (d := some 66) rfl (.pointer (some ⟨sf, 0, none⟩)) (by kernel_rfl) (.slice (some ⟨w.heap.size + 1 + 1 + 1, 0, none⟩) rows.length rows.length) (by go_simp) hK
          · exact op_ld (T := 3) (x := Operand.tmp 9) (t := 3) (d := some 67) rfl (.pointer (some ⟨wo.heap.size, 0, none⟩)) (by kernel_rfl) (.int .i64 src) (by go_simp) hK
          · exact op_ix (T := 22) (x := Operand.tmp 66) (y := Operand.tmp 67) (t := 0) (d := some 68) rfl (.slice (some ⟨w.heap.size + 1 + 1 + 1, 0, none⟩) rows.length rows.length) (.int .i64 src) (Eq.trans (b := uS 1) (by kernel_rfl) (hD 1 (depIn (by kernel_rfl)))) (Eq.trans (b := uS 2) (by kernel_rfl) (hD 2 (depIn (by kernel_rfl)))) (.pointer (some ⟨w.heap.size + 1 + 1 + 1, src, none⟩)) (by go_simp) hK
          · exact op_ld (T := 3) (x := Operand.tmp 68) (t := 3) (d := some 69) rfl (.pointer (some ⟨w.heap.size + 1 + 1 + 1, src, none⟩)) (Eq.trans (b := uS 3) (by kernel_rfl) (hD 3 (depIn (by kernel_rfl)))) (.int .i64 ov) (by go_simp) hK
          · (have e0 : uS 0 = .int .i64 su := hD 0 (depIn (by kernel_rfl)); have e4 : uS 4 = .int .i64 ov := hD 4 (depIn (by kernel_rfl)); exact op_run (op := Op.binOp BinOp.add 3 (Operand.tmp 65) (Operand.tmp 69) 3) (t := 3) (d := some 70) rfl (.int .i64 (su + ov)) (by simp only [putAll, Act.put, List.setIfInBounds_toArray, List.set_cons_zero, List.set_cons_succ]; unfold exec2; go_simp; try simp only [e0, e4]; try go_simp) hK)
        simp only [putAll, Act.put, List.setIfInBounds_toArray, List.set_cons_zero, List.set_cons_succ]
        refine wpAny_next 6 (by decide +kernel) (op_st rfl (.pointer (some ⟨w.heap.size + 1 + 1, 0, none⟩)) (.int .i64 (su + ov)) (by kernel_rfl) (by kernel_rfl) (by go_simp; rfl) ?_)
        try simp only [Act.put, List.setIfInBounds_toArray, List.set_cons_zero, List.set_cons_succ]
        refine wpAny_done (by kernel_rfl) (onNormal_i ?_) _
        clear cOb1 cU1 fU1 cN1 cF1 cOb fOb sOb
        gi_wp2
        have ek : (k : Int) + 1 = ((k + 1 : Nat) : Int) := by omega
        rw [ek]
        refine ⟨⟨k + 1, _, _, _, _, _, _, _, _, _, _, _, _, _, _, _, _, _, _, _, _, _, _, ⟨by omega, NOW⟩, rfl⟩, ?_⟩
        show srcs.length - (intOf (.int .i64 ((k + 1 : Nat) : Int))).toNat < srcs.length - (intOf (.int .i64 (k : Int))).toNat
        simp only [intOf, Int.toNat_natCast]
        exact mk.out
      case stop =>
        rintro D c pre W _ _ h _
        exact h.elim
    · obtain rfl : k = srcs.length := by omega
      rw [List.take_length] at bU oO
      have WI := Lib.hid (fun (W : World) => with_any m 0 hS.1 (by omega) W)
      have emh := memsM_home h0
      have hmh1 := withM_lt hS.1 (i := 0) (by omega)
      obtain ⟨mh, hmh⟩ : ∃ mh, Hid (m ||| 2 ^ 0 = mh) := ⟨m ||| 2 ^ 0, rfl⟩
      rw [hmh.out] at WI emh hmh1
      replace emh := Lib.hid emh
      have hmh2 : Hid (∀ x ∈ memsM mh, x < rows.length) := fun x hx => by
        rw [emh.out] at hx
        rcases List.mem_cons.1 hx with rfl | hx
        · omega
        · exact hS.2 x hx
      have kb : Hid (Blk wo w.heap.size 47 #[.pointer (some ⟨g, 0, none⟩)]) := (hB5 _ (by omega) (by omega) (by omega)).trans bK5.out
      have fb : Hid (Blk wo sf 22 #[.slice (some ⟨w.heap.size + 1 + 1 + 1, 0, none⟩) rows.length rows.length]) := (hB5 _ (by omega) (by omega) (by omega)).trans bF5.out
      have qb : Hid (Blk wo q 22 #[.slice A6 srcs.length c6]) := (hB5 _ rb.out.lt (by omega) (by omega)).trans rb.out
      have wb : Hid (Blk wo (w.heap.size + 1) 70 #[.int .u64 m, .int .u64 0, .int .i64 last, .int .i64 cost]) := (hB5 _ (by omega) (by omega) (by omega)).trans bW5.out
      have o7w : Hid (OwI wo w2.heap.size A6 c6 (intsN srcs)) := o7.out.keep fun z hz => by
        have h1 := OwI.lt o7.out z hz
        exact hB5 z h1.2 (by omega) (by omega)
      have c0 : wo.cell? ⟨w.heap.size + 1, 0, none⟩ = some (.int .u64 m) := wb.out.cell 0
      have c1 : wo.cell? ⟨w.heap.size + 1, 1, none⟩ = some (.int .u64 0) := wb.out.cell 1
      have q0 : ¬ ((srcs.length : Int) < (srcs.length : Int)) := by omega
      have zO : w.heap.size + 1 + 1 + 1 + 1 ≤ wo.heap.size := by omega
      have zq : q < wo.heap.size := qb.out.lt
      have zsf : sf < wo.heap.size := fb.out.lt
      replace Y := Lib.hid Y
      replace bU := Lib.hid bU
      replace oO := Lib.hid oO
      replace hM := Lib.hid hM
      replace hB5 := Lib.hid hB5
      unfold setV at WI
      clear HH
      gi_wp2
      refine ⟨trivial, ?_⟩
      refine (callsIn_wide.2 (WI.out _)).mono ?_
      rintro e w6 ⟨rfl, x6⟩
      gi_wp2
      refine ⟨trivial, ?_⟩
      refine (callsIn_wide.2 (all_any mh _)).mono ?_
      rintro e w7 ⟨rfl, rfl⟩
      gi_wp2
      have xo6 : Hid (Ext wo (w6.alloc (.cells #[.int .u64 mh, .int .u64 0] 55))) := Ext.alloc x6 _
      have bB : Blk (w6.alloc (.cells #[.int .u64 mh, .int .u64 0] 55)) w6.heap.size 55 #[.int .u64 mh, .int .u64 0] := .new rfl
      have hB0 : Ext w (w6.alloc (.cells #[.int .u64 mh, .int .u64 0] 55)) := Y.out.tr xo6.out
      have h63c : ∀ x ∈ memsM mh, x < 63 := fun x hx => by have := hmh2.out x hx; omega
      have zO6 : wo.heap.size ≤ w6.heap.size := x6.size
      obtain ⟨so, hso⟩ : ∃ so, Hid (so = sumL (srcs.map fun s => offT rows (memsM m) last s)) := ⟨_, rfl⟩
      have bso := bsum.out srcs.length
      rw [List.take_length] at bso
      rw [← hso.out] at bU bso
      replace bso := Lib.hid bso
      refine wpIn_rangeFunc_ownG rfl (by omega) (gf := 85) (lb := #[.pointer (some ⟨w6.heap.size, 0, none⟩)]) rfl trivial (enters_of Tryd.func85 (by kernel_rfl) rfl)
        (all_stops 2 mh hmh1 h63c w6.heap.size w.heap.size _ bB (hT.ext hB0) hB0.size hg) SetKp.tr (setKp_b (cs := #[.int .u64 mh, .int .u64 0]) hB0.size bB) (Below.refl _ _) (fun _ => rfl)
        (fun pre W => Blk W (w.heap.size + 1 + 1) 3 #[.int .i64 (so + sumL ((inL pre).map fun dst => max (colT rows (memsM m) last dst) 0))] ∧ Held (w6.alloc (.cells #[.int .u64 mh, .int .u64 0] 55)) (w.heap.size + 1 + 1) W ∧ Below w.heap.size w W)
        (fun _ _ _ => False)
        (OwnFrom.and (ownFrom_blk (by simp <;> omega) _ _) (OwnFrom.and (ownFrom_held (Nat.le_refl _)) (ownFrom_below (Nat.le_refl _) (by simp <;> omega))))
        (fun _ _ _ _ _ hs _ _ => hs)
        ⟨by simpa [inL, sumL] using bU.out.ext xo6.out, ⟨Nat.le_refl _, fun _ _ _ => rfl⟩, hB0⟩
        (fun x => { tmps := #[.pointer (some ⟨g, 0, none⟩), .agg #[.int .u64 m, .int .u64 0, .int .i64 last, .int .i64 cost], .pointer (some ⟨w.heap.size, 0, none⟩), .pointer (some ⟨w.heap.size + 1, 0, none⟩), .int .i64 0, .pointer (some ⟨w.heap.size + 1 + 1, 0, none⟩), .pointer (some ⟨sf, 0, none⟩), .pointer (some ⟨q, 0, none⟩), undef, u9, u10, undef, undef, .int .i64 ((x.1 : Nat) : Int), undef, undef, undef, undef, .pointer (some ⟨g, 0, none⟩), .pointer (some ⟨g, 0, none⟩), .pointer (some ⟨g, 0, none⟩), .slice C rows.length cc, .int .i64 rows.length, .slice (some ⟨w.heap.size + 1 + 1 + 1, 0, none⟩) rows.length rows.length, .pointer (some ⟨w.heap.size + 1, 2, none⟩), .int .i64 last, u 2, .pointer (some ⟨w.heap.size + 1, 0, none⟩), .agg #[.int .u64 m, .int .u64 0], u 5, .slice A6 srcs.length c6, .slice A6 srcs.length c6, .int .i64 srcs.length, .int .i64 srcs.length, .bool false, u35, u36, u37, u38, u39, u40, undef, undef, undef, undef, undef, undef, undef, undef, undef, undef, undef, undef, undef, undef, undef, undef, undef, undef, undef, u60, u61, u62, u63, u64, u65, u66, u67, u68, u69, u70, u71, .pointer (some ⟨w.heap.size + 1, 0, none⟩), .agg #[.int .u64 m, .int .u64 0], .agg #[.int .u64 mh, .int .u64 0], .func (.func 85) #[] #[.pointer (some ⟨w6.heap.size, 0, none⟩)], .int .i64 ((x.1 : Nat) : Int), undef, undef, undef, undef, undef, undef, undef, undef, undef, undef, undef, undef, undef, undef, undef, undef, undef, undef, undef, undef, undef, undef, undef, undef, undef, undef, undef, undef, undef, undef, undef, undef, undef, undef, undef, undef, undef, undef, undef, undef, undef], defers := [] }) ?assign2 ?body2 ?done2 ?stop2
      case assign2 =>
        intro l x W K hK
        gi_wp2
        exact hK
      case body2 =>
        rintro l pre x W ⟨hO, hH, hBW⟩ hlt2
        obtain ⟨su, hsu⟩ : ∃ su, Hid (su = so + sumL ((inL pre).map fun dst => max (colT rows (memsM m) last dst) 0)) := ⟨_, rfl⟩
        rw [← hsu.out] at hO
        have hxr := hmh2.out x.1 x.2
        obtain ⟨cf, hcf⟩ : ∃ cf, Hid (colT rows (memsM m) last x.1 = cf) := ⟨_, rfl⟩
        have eN : Hid (so + sumL ((inL (pre ++ [x])).map fun dst => max (colT rows (memsM m) last dst) 0) = su + max cf 0) := by
          have h : so + sumL ((inL (pre ++ [x])).map fun dst => max (colT rows (memsM m) last dst) 0) = su + max cf 0 := by
            rw [inL_snoc, List.map_append, List.map_cons, List.map_nil, sumA_snoc, hsu.out, hcf.out]
            omega
          exact h
        have START2 : Hid (leastN (fun s => costAt rows s x.1 - offT rows (memsM m) last s) (-1) ((srcs.drop 0).filter fun s => decide (x.1 ∈ colsT (memsM m) last s)) = cf) := by
          have h : leastN (fun s => costAt rows s x.1 - offT rows (memsM m) last s) (-1) ((srcs.drop 0).filter fun s => decide (x.1 ∈ colsT (memsM m) last s)) = cf := by
            rw [List.drop_zero, ← hcf.out, hsr.out]
            rfl
          exact h
        have bdc : Hid (∀ dst, dst < rows.length → -4294967294 ≤ colT rows (memsM m) last dst ∧ colT rows (memsM m) last dst ≤ 4294967294) := fun dst hd => by
          unfold colT
          refine leastN_bd (fun c hc => ?_) (by omega) (by omega)
          have h1 := hsl.out c (by rw [hsr.out]; exact (List.mem_filter.1 hc).1)
          have h2 := hcost.out c dst h1 hd
          have h3 := hoff.out c h1
          omega
        have bdS : Hid (0 ≤ su ∧ su ≤ 2147483647 * 65 + 4294967294 * 64) := by
          have h1 : ∀ l : List Nat, (∀ c ∈ l, c < rows.length) → 0 ≤ sumL (l.map fun dst => max (colT rows (memsM m) last dst) 0) ∧ sumL (l.map fun dst => max (colT rows (memsM m) last dst) 0) ≤ 4294967294 * (l.length : Int) := by
            intro l
            induction l with
            | nil => intro _; simp [sumL]
            | cons x l ih =>
              intro h
              have h2 := ih fun s hs => h s (by simp [hs])
              have h3 := bdc.out x (h x (by simp))
              simp only [List.map_cons, sumL, List.length_cons]
              omega
          have h2 := h1 (inL pre) fun c hc => by
            obtain ⟨c', _, rfl⟩ := List.mem_map.1 hc
            exact hmh2.out c'.1 c'.2
          have h3 : (inL pre).length ≤ 64 := by
            have := memsM_le mh
            simp [inL]
            omega
          have h4 := bso.out
          have h : 0 ≤ su ∧ su ≤ 2147483647 * 65 + 4294967294 * 64 := by rw [hsu.out]; omega
          exact h
        have bdC := bdc.out x.1 hxr
        rw [hcf.out] at bdC
        replace bdC := Lib.hid bdC
        have kW := Lib.hid (hH.blk (kb.out.ext xo6.out) (by omega))
        have fW := Lib.hid (hH.blk (fb.out.ext xo6.out) (by omega))
        have qW := Lib.hid (hH.blk (qb.out.ext xo6.out) (by omega))
        have wW := Lib.hid (hH.blk (wb.out.ext xo6.out) (by omega))
        have oW : Hid (OwI W 0 (some ⟨w.heap.size + 1 + 1 + 1, 0, none⟩) rows.length (offA rows (memsM m) last srcs)) := (oO.out.ext xo6.out).keep fun z hz => by
          obtain rfl : w.heap.size + 1 + 1 + 1 = z := by simpa [bl] using hz
          exact hH.2 _ (by simp; omega) (by omega)
        have aW : Hid (OwI W w2.heap.size A6 c6 (intsN srcs)) := (o7w.out.ext xo6.out).keep fun z hz => by
          have h1 := OwI.lt o7w.out z hz
          exact hH.2 z (by simp; omega) (by omega)
        have cQ : W.cell? ⟨q, 0, none⟩ = some (.slice A6 srcs.length c6) := qW.out.cell 0
        have hmx : Tryd.prog.follows .mixedOrders = true := by kernel_rfl
        have zW : w6.heap.size + 1 ≤ W.heap.size := by have := hH.1; simpa using this
        have HH' := Lib.hid hH
        have HB' := Lib.hid hBW
        have HO' := Lib.hid hO
        clear hsu hH hBW hO bB hB0
        gi_wp2
        gi_loopw [14, 79] (fun b v wr => ∃ (k : Nat) (bb : Int), v = .int .i64 k ∧ b = .int .i64 bb ∧ k ≤ srcs.length ∧ Hid (leastN (fun s => costAt rows s x.1 - offT rows (memsM m) last s) bb ((srcs.drop k).filter fun s => decide (x.1 ∈ colsT (memsM m) last s)) = cf) ∧ Hid (Ext W wr)) (fun _ v _ => srcs.length - (intOf v).toNat)
        case atStart => exact ⟨0, -1, rfl, rfl, by omega, START2, Ext.rf W⟩
        case round =>
          obtain ⟨k, bb, rfl, rfl, hk', hcol, xr⟩ := hrel
          obtain ⟨wi, rfl⟩ : ∃ wi : World, wi = wr := ⟨_, rfl⟩
          by_cases hlt' : k < srcs.length
          · have er : srcs[k]? = some srcs[k] := List.getElem?_eq_getElem hlt'
            have hmem : srcs[k] ∈ srcs := List.getElem_mem hlt'
            have hs := hsl.out _ hmem
            have edr : srcs.drop k = srcs[k] :: srcs.drop (k + 1) := List.drop_eq_getElem_cons hlt'
            have hcols := COLS.out _ hs
            have CO := Lib.hid (fun (W : World) => columns_any m last cost srcs[k] hS.1 (by omega) W)
            have bo := Lib.hid (hoff.out _ hs)
            obtain ⟨ab, ao, xs, rfl, zab, cA, eA, -⟩ := (OwI.read (aW.out.ext xr.out)).at (k := k) (by rw [intsN_len]; exact hlt')
            have exs : xs = ((srcs[k] : Nat) : Int) := by
              have h := eA.out
              rw [intsN_get er] at h
              exact (Option.some.inj h).symm
            subst exs
            have hcol2 := hcol.out
            rw [edr, List.filter_cons] at hcol2
            generalize srcs[k] = src at *
            obtain ⟨mc, hmc⟩ : ∃ mc, Hid (colsM m last src = mc) := ⟨_, rfl⟩
            rw [hmc.out] at hcols CO
            obtain ⟨emc, hmc1, -⟩ := hcols
            have HA := Lib.hid (fun (W : World) => has_any mc ((x.1 : Nat) : Int) hmc1 W)
            have eH : (decide (0 ≤ ((x.1 : Nat) : Int) ∧ ((x.1 : Nat) : Int) < 64) && mc.testBit ((x.1 : Nat) : Int).toNat) = decide (x.1 ∈ colsT (memsM m) last src) := by
              rw [← emc]
              have h1 : x.1 < 64 := by omega
              have h2 : decide (0 ≤ ((x.1 : Nat) : Int) ∧ ((x.1 : Nat) : Int) < 64) = true := decide_eq_true ⟨by omega, by omega⟩
              rw [h2, Bool.true_and, Int.toNat_natCast]
              simp [memsM_mem, h1]
            rw [eH] at HA
            have wb' := wW.out.ext xr.out
            have c0 : wi.cell? ⟨w.heap.size + 1, 0, none⟩ = some (.int .u64 m) := wb'.cell 0
            have c1 : wi.cell? ⟨w.heap.size + 1, 1, none⟩ = some (.int .u64 0) := wb'.cell 1
            have c2 : wi.cell? ⟨w.heap.size + 1, 2, none⟩ = some (.int .i64 last) := wb'.cell 2
            have c3 : wi.cell? ⟨w.heap.size + 1, 3, none⟩ = some (.int .i64 cost) := wb'.cell 3
            have q1 : (k : Int) < (srcs.length : Int) := by omega
            replace hcol2 := Lib.hid hcol2
            unfold setV at CO HA
            clear hcol eA er wb' emc eH edr
            gi_wp2
            refine ⟨trivial, ?_⟩
            refine (callsIn_open (fun _ => trivial) rfl rfl (CO.out _)).mono ?_
            rintro e w8 ⟨rfl, x8⟩
            gi_wp2
            refine ⟨trivial, ?_⟩
            refine (callsIn_open (fun _ => trivial) rfl rfl (HA.out _)).mono ?_
            rintro e w9 ⟨rfl, x9⟩
            have xr9 := Lib.hid ((xr.out.tr x8).tr x9)
            clear x8 x9 c0 c1 c2 c3 cA
            by_cases hin : x.1 ∈ colsT (memsM m) last src
            · have eh : decide (x.1 ∈ colsT (memsM m) last src) = true := decide_eq_true hin
              have erow : rows[src]? = some rows[src] := List.getElem?_eq_getElem hs
              obtain ⟨D, d, hu, oD⟩ := hR.out.2 _ _ erow
              have lrow := ok.row _ (List.getElem_mem hs)
              have nrow := ok.num _ (List.getElem_mem hs)
              have ecost : costAt rows src x.1 = (rows[src]).getD x.1 0 := by unfold costAt; rw [getD_some erow]
              generalize rows[src] = row at *
              have xW9 : Hid (Ext w w9) := Below.trans HB'.out (xr9.out.mono (by omega))
              obtain ⟨rb', ro, vv, rfl, zv, cv, ev⟩ := (hV.out.read.ext xW9.out).at (j := src) (by rw [lus.out]; exact hs)
              obtain rfl : .slice D row.length d = vv := by
                have h := ev.out
                rw [hu] at h
                exact Option.some.inj h
              obtain ⟨cb, co, y, rfl, zy, cy, ey, _⟩ := (oD.read.ext xW9.out).at (k := x.1) (by omega)
              rw [getD_some ey.out] at ecost
              have ny := nrow y (List.mem_of_getElem? ey.out)
              have cG : w9.cell? ⟨g, 0, none⟩ = some (.slice (some ⟨rb', ro, none⟩) rows.length cc) := (hB.out.ext xW9.out).cell 0
              have cK : w9.cell? ⟨w.heap.size, 0, none⟩ = some (.pointer (some ⟨g, 0, none⟩)) := (kW.out.ext xr9.out).cell 0
              have cF : w9.cell? ⟨sf, 0, none⟩ = some (.slice (some ⟨w.heap.size + 1 + 1 + 1, 0, none⟩) rows.length rows.length) := (fW.out.ext xr9.out).cell 0
              obtain ⟨ov, cOb, -, -, eOb, -⟩ := OwI.cell (oW.out.ext xr9.out) (k := src) (by rw [offA_len]; exact hs)
              obtain rfl : offT rows (memsM m) last src = ov := by
                have h := eOb.out
                rw [offA_get hs, if_pos hmem] at h
                exact Option.some.inj h
              have hcol3 : Hid (leastN (fun s => costAt rows s x.1 - offT rows (memsM m) last s) (if bb < 0 then y - offT rows (memsM m) last src else if y - offT rows (memsM m) last src < bb then y - offT rows (memsM m) last src else bb) ((srcs.drop (k + 1)).filter fun s => decide (x.1 ∈ colsT (memsM m) last s)) = cf) := by
                have h := hcol2.out
                rw [eh, if_pos rfl] at h
                rw [← ecost]
                exact h
              have bo2 := bo.out
              obtain ⟨ov, hov⟩ : ∃ ov, Hid (ov = offT rows (memsM m) last src) := ⟨_, rfl⟩
              rw [← hov.out] at hcol3 cOb bo2
              have hw : IntKind.i64.wrap (y - ov) = y - ov := IntWalk.i64_in _ (by omega)
              have q2 : (src : Int) < (rows.length : Int) := by omega
              have q3 : ((x.1 : Nat) : Int) < (row.length : Int) := by omega
              rw [eh]
              clear hcol2 hin eh erow hu oD lrow nrow ecost ev ey ny eOb bo2 bo hov
              by_cases hneg : bb < 0
              · rw [if_pos hneg] at hcol3
                gi_wp2
                refine wpIn_region_quiet_r (by kernel_rfl) (by kernel_rfl) (by kernel_rfl) ?_
                repeat (gi_big_quiet_step (fail))
                refine wpQuietIn_nil ?_
                rintro _ ⟨nq, rfl⟩
                gi_wp2
                exact ⟨⟨k + 1, y - ov, by go_num, rfl, by omega, hcol3, xr9.out.drewN nq⟩, by simp only [intOf]; omega⟩
              · rw [if_neg hneg] at hcol3
                by_cases hy : y - ov < bb
                · rw [if_pos hy] at hcol3
                  gi_wp2
                  refine wpIn_region_quiet_r (by kernel_rfl) (by kernel_rfl) (by kernel_rfl) ?_
                  repeat (gi_big_quiet_step (fail))
                  refine wpQuietIn_nil ?_
                  rintro _ ⟨nq, rfl⟩
                  gi_wp2
                  exact ⟨⟨k + 1, y - ov, by go_num, rfl, by omega, hcol3, xr9.out.drewN nq⟩, by simp only [intOf]; omega⟩
                · rw [if_neg hy] at hcol3
                  gi_wp2
                  refine wpIn_region_quiet_r (by kernel_rfl) (by kernel_rfl) (by kernel_rfl) ?_
                  repeat (gi_big_quiet_step (fail))
                  refine wpQuietIn_nil ?_
                  rintro _ ⟨nq, rfl⟩
                  gi_wp2
                  exact ⟨⟨k + 1, bb, by go_num, rfl, by omega, hcol3, xr9.out.drewN nq⟩, by simp only [intOf]; omega⟩
            · have eh : decide (x.1 ∈ colsT (memsM m) last src) = false := decide_eq_false hin
              have hcol3 : Hid (leastN (fun s => costAt rows s x.1 - offT rows (memsM m) last s) bb ((srcs.drop (k + 1)).filter fun s => decide (x.1 ∈ colsT (memsM m) last s)) = cf) := by
                have h := hcol2.out
                rw [eh] at h
                exact h
              rw [eh]
              gi_wp2
              exact ⟨⟨k + 1, bb, by go_num, rfl, by omega, hcol3, xr9.out⟩, by simp only [intOf]; omega⟩
          · obtain rfl : k = srcs.length := by omega
            have e1 : srcs.drop srcs.length = [] := List.drop_length
            have hcol2 := hcol.out
            rw [e1] at hcol2
            obtain rfl : bb = cf := hcol2
            have emax : (if bb < 0 then 0 else bb) = max bb 0 := by split <;> omega
            have bdm : 0 ≤ max bb 0 ∧ max bb 0 ≤ 4294967294 := by have := bdC.out; omega
            obtain ⟨ov, hov⟩ : ∃ ov, Hid (ov = max bb 0) := ⟨_, rfl⟩
            rw [← hov.out] at emax bdm eN
            have hw2 : IntKind.i64.wrap (su + ov) = su + ov := IntWalk.i64_in _ (by have := bdS.out; omega)
            have q0' : ¬ ((srcs.length : Int) < (srcs.length : Int)) := by omega
            have F1 : Hid (KeepsFrom (w6.heap.size + 1) W (wi.setCell ⟨w.heap.size + 1 + 1, 0, none⟩ (.int .i64 (su + ov)))) := (KeepsFrom.of_ext xr.out).trans ((KeepsOthers.setCell _ _ _).from _)
            have F2 : Hid (SetKp w.heap.size w6.heap.size W (wi.setCell ⟨w.heap.size + 1 + 1, 0, none⟩ (.int .i64 (su + ov)))) := ⟨(xr.out.mono (by omega)).setCell (by simp <;> omega) _, (Below.heap_setCell wi ⟨w.heap.size + 1 + 1, 0, none⟩ _ w6.heap.size (by simp; omega)).trans (xr.out.block w6.heap.size (by omega))⟩
            have F3 : Hid (Blk (wi.setCell ⟨w.heap.size + 1 + 1, 0, none⟩ (.int .i64 (su + ov))) (w.heap.size + 1 + 1) 3 #[.int .i64 (su + ov)]) := (HO'.out.ext xr.out).set 0 _
            have F4 := Lib.hid ((HH'.out.ext xr.out).set (.int .i64 (su + ov)))
            have F5 : Hid (Ext w (wi.setCell ⟨w.heap.size + 1 + 1, 0, none⟩ (.int .i64 (su + ov)))) := (Below.trans HB'.out (xr.out.mono (by omega))).setCell (by simp <;> omega) _
            have cO2 : wi.cell? ⟨w.heap.size + 1 + 1, 0, none⟩ = some (.int .i64 su) := (HO'.out.ext xr.out).cell 0
            have fO2 := (HO'.out.ext xr.out).free 0
            clear hcol e1 hcf START2
            gi_wp2
            exact ⟨F1.out, F2.out, by rw [eN.out]; exact F3.out, F4.out, F5.out⟩
      case done2 =>
        rintro D ys W hD rfl ⟨hO, hH, hBW⟩ hK
        rw [inL_attach, emh.out] at hO
        have cO := hO.cell 0
        rw [World.size_alloc] at hD
        have bOb : ∃ cs, Blk wo (w.heap.size + 1 + 1 + 1) 3 cs := by
          rcases OwI.cases oO.out with ⟨h, _⟩ | ⟨z, cur, h, _, h2, _⟩
          · cases h
          · injection h with h
            injection h with h
            subst h
            exact ⟨cur, h2⟩
        have MA : Marks w.heap.size ({ target := .collected D, args := #[] } :: ds) W := (hM.out.more (by omega)).cons (D := D) (by omega) (by omega) (fun b hb => by
          have hb1 : b < wo.heap.size := (Array.getElem?_eq_some_iff.1 hb).1
          refine (hH.2 b (by simp; omega) (fun e => ?_)).trans (xo6.out.block b hb1)
          subst e
          have h := bU.out
          unfold Blk at h
          rw [h] at hb
          cases hb) hK
        have eR : Hid (reduceT rows (memsM m) last = so + sumL ((0 :: memsM m).map fun dst => max (colT rows (memsM m) last dst) 0)) := by
          have h : reduceT rows (memsM m) last = so + sumL ((0 :: memsM m).map fun dst => max (colT rows (memsM m) last dst) 0) := by rw [hso.out, hsr.out]; rfl
          exact h
        obtain ⟨rv, hrv⟩ : ∃ rv, Hid (rv = so + sumL ((0 :: memsM m).map fun dst => max (colT rows (memsM m) last dst) 0)) := ⟨_, rfl⟩
        rw [← hrv.out] at cO eR
        simp only [List.getElem?_toArray, List.getElem?_cons_zero] at cO
        replace MA := Lib.hid MA
        gi_wp2
        refine Marks.leaves MA.out hBW fun W' x' => ⟨_, results_tmp rfl _ _ _, ?_, x'⟩
        rw [eR.out]
        rfl
      case stop2 =>
        rintro D c pre W _ _ h _
        exact h.elim
theorem reducet_any {base g : Nat} {rows : List (List Int)} {mi : Bool} (m last : Nat) (cost : Int) (ok : RowsOk rows) (hS : SubN rows.length m) (h0 : 0 ∉ memsM m) (hla : last < rows.length) (w : World) (hT : Tab w) (H : KernT w base g rows mi) :
    Calls Tryd.prog 62 #[.pointer (some ⟨g, 0, none⟩), wayT m last cost] w fun e W' => e = .returned (.int .i64 (reduceT rows (memsM m) last)) ∧ Ext w W' :=
  callsIn_wide.1 (reducet_in m last cost ok hS h0 hla w hT H)
end Go.Proofs.YtpngflmngnjjoaaDoor
