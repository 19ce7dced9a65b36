/-
  A tour's kernel: what no answer that begins so is below.
-/
import Derived.Test.YtpngflmngnjjoaaDoorTourH
import Derived.Test.YtpngflmngnjjoaaDoorTourC
namespace Go.Proofs.YtpngflmngnjjoaaDoor
open Go.RowKit Go.ChangeShapes Go.WideShapes Go.ChangeAt Go.Deep

theorem sumL_map_bd {f : Nat → Int} {B : Int} : ∀ (l : List Nat), (∀ x ∈ l, 0 ≤ f x ∧ f x ≤ B) → 0 ≤ sumL (l.map f) ∧ sumL (l.map f) ≤ B * (l.length : Int)
  | [], _ => by simp [sumL]
  | x :: l, h => by
    have h1 := h x (by simp)
    have h2 := sumL_map_bd l fun y hy => h y (by simp [hy])
    have h3 : B * ((l.length : Int) + 1) = B * (l.length : Int) + B := by rw [Int.mul_add, Int.mul_one]
    simp only [List.map_cons, sumL, List.length_cons, Int.natCast_add, Int.natCast_one]
    omega
theorem wayC_bd {rows : List (List Int)} (num : ∀ a b, a < rows.length → b < rows.length → 0 ≤ costAt rows a b ∧ costAt rows a b ≤ 2147483647) : ∀ (l : List Nat) (s : Nat), s < rows.length → (∀ x ∈ l, x < rows.length) → 0 ≤ wayC rows s (intsN l) ∧ wayC rows s (intsN l) ≤ 2147483647 * (l.length : Int)
  | [], _, _, _ => by simp [wayC, intsN]
  | x :: l, s, hs, h => by
    have h1 := num s x hs (h x (by simp))
    have h2 := wayC_bd num l x (h x (by simp)) fun y hy => h y (by simp [hy])
    have e : wayC rows s (intsN (x :: l)) = costAt rows s x + wayC rows x (intsN l) := by simp [intsN, wayC]
    rw [e]
    simp only [List.length_cons, Int.natCast_add, Int.natCast_one]
    omega
section
variable {rows : List (List Int)} {us : List Nat} {last : Nat}
theorem reduceT_bd (num : ∀ a b, a < rows.length → b < rows.length → 0 ≤ costAt rows a b ∧ costAt rows a b ≤ 2147483647) (h0 : 0 < rows.length) (hl : last < rows.length) (hu : ∀ x ∈ us, x < rows.length) (hlen : us.length ≤ 24) : 0 ≤ reduceT rows us last ∧ reduceT rows us last ≤ 2147483647 * 100 := by
  have hcol : ∀ {s : Nat}, ∀ d ∈ colsT us last s, d < rows.length := fun {s} d h => by
    unfold colsT at h
    split at h
    · exact hu d h
    · rcases List.mem_cons.1 h with rfl | h
      · exact h0
      · exact hu d (List.mem_filter.1 h).1
  have hsrc : ∀ s ∈ last :: us, s < rows.length := fun s h => by
    rcases List.mem_cons.1 h with rfl | h
    · exact hl
    · exact hu s h
  have hoff : ∀ s ∈ last :: us, 0 ≤ offT rows us last s ∧ offT rows us last s ≤ 2147483647 := fun s hs => by
    have h1 := leastN_bd (f := fun dst => costAt rows s dst) (B := 2147483647) (l := colsT us last s) (b := -1) (fun c hc => by
      have := num s c (hsrc s hs) (hcol c hc)
      omega) (by omega) (by omega)
    unfold offT
    omega
  have h1 := sumL_map_bd (f := fun src => offT rows us last src) (last :: us) hoff
  have h2 := sumL_map_bd (f := fun dst => max (colT rows us last dst) 0) (B := 4294967294) (0 :: us) fun d hd => by
    have hd' : d < rows.length := by
      rcases List.mem_cons.1 hd with rfl | hd
      · exact h0
      · exact hu d hd
    have h3 : -4294967294 ≤ colT rows us last d ∧ colT rows us last d ≤ 4294967294 := by
      unfold colT
      refine leastN_bd (fun s hs => ?_) (by omega) (by omega)
      have h4 := num s d (hsrc s (List.mem_filter.1 hs).1) hd'
      have h5 := hoff s (List.mem_filter.1 hs).1
      omega
    omega
  unfold reduceT
  simp only [List.length_cons] at h1 h2
  omega
theorem endsT_bd (num : ∀ a b, a < rows.length → b < rows.length → 0 ≤ costAt rows a b ∧ costAt rows a b ≤ 2147483647) (h0 : 0 < rows.length) (hl : last < rows.length) (hu : ∀ x ∈ us, x < rows.length) (hlen : us.length ≤ 24) (hne : us ≠ []) : 0 ≤ endsT rows us last ∧ endsT rows us last ≤ 4294967294 * 30 := by
  have h1 := sumL_map_bd (f := fun u => (pairT rows us last u).1 + (pairT rows us last u).2) (B := 4294967294) us fun y hy => by
    have k0 := hu y hy
    have k1 := num y last k0 hl
    have k2 := num y 0 k0 h0
    have h3 := foldP_bd (B := 2147483647) (f := fun v => costAt rows y v) (us.filter fun j => decide (y ≠ j)) (min (costAt rows y last) (costAt rows y 0), max (costAt rows y last) (costAt rows y 0)) (by simp only; omega) (by simp only; omega) fun v hv => num y v k0 (hu v (List.mem_filter.1 hv).1)
    have h4 : pairT rows us last y = (us.filter fun j => decide (y ≠ j)).foldl (fun p v => putP p (costAt rows y v)) (min (costAt rows y last) (costAt rows y 0), max (costAt rows y last) (costAt rows y 0)) := rfl
    rw [← h4] at h3
    omega
  have h2 := leastN_pos (f := fun u => costAt rows last u) (B := 2147483647) (l := us) (fun x hx => num last x hl (hu x hx)) hne (by omega)
  have h3 := leastN_pos (f := fun u => costAt rows u 0) (B := 2147483647) (l := us) (fun x hx => num x 0 (hu x hx) h0) hne (by omega)
  unfold endsT
  omega
end
theorem memsM_nil {m : Nat} (hm : m < 18446744073709551616) : memsM m = [] ↔ m = 0 := by
  constructor
  · intro h
    by_cases e : m = 0
    · exact e
    · have := memsM_head e hm
      rw [h] at this
      cases this
  · rintro rfl
    exact memsM_zero
set_option maxRecDepth 100000 in
theorem eq_set (x : Int) (u : World) : (Op.equalIn 10000 55 (.agg #[.int .u64 x, .int .u64 0]) (.agg #[.int .u64 0, .int .u64 0])).run Tryd.prog u = .ok (x == 0) u := by
  unfold Op.equalIn
  simp only [Sem.run_bind, run_underlying Tryd.underlying55, Result.andThen_ok]
  have e9 : List.range' 0 2 1 = [0, 1] := rfl
  simp only [Std.Legacy.Range.forIn_eq_forIn_range', Std.Legacy.Range.size, Nat.sub_zero, Nat.add_one_sub_one, Nat.div_one, e9, List.forIn_cons, List.forIn_nil]
  by_cases hx : x = 0
  · subst hx
    go_simp
  · have hx' : (x == 0) = false := by simpa using hx
    go_simp
set_option maxRecDepth 100000 in
set_option maxHeartbeats 4000000 in
theorem boundt_any {base g : Nat} {rows : List (List Int)} {mi : Bool} (P : Option Addr) (pc : Nat) (p : List Int) (w : World) (hT : Tab w) (H : KernT w base g rows mi) (ok : RowsOk rows) (hP : RdI w P p) (lp : p.length ≤ 1000000000) :
    Calls Tryd.prog 35 #[.pointer (some ⟨g, 0, none⟩), .slice P p.length pc] w fun e w' => e = .returned (.tuple #[.int .i64 (boundT rows mi p).1, .int .i64 (boundT rows mi p).2]) ∧ Ext w w' := by
  have FR := fun (W : World) (x : Ext w W) => walkt_any P pc p W (H.ext x) ok (hP.ext x) lp
  have l1 := ok.n1
  have l2 := ok.n2
  have H0 := H
  obtain ⟨C, cc, us, hB, _, hV, hR⟩ := H
  have lus : Hid (us.length = rows.length) := hR.1
  obtain ⟨r, hr⟩ : ∃ r, Hid (walkP rows p = r) := ⟨_, rfl⟩
  rw [hr.out] at FR
  cases r with
  | none =>
    have e : boundT rows mi p = (0, 1) := by unfold boundT; rw [hr.out]
    rw [e]
    simp only [wayV, wayT] at FR
    replace FR := Lib.hid FR
    go_enter Tryd.func35, Tryd.ntmps35
    go_wp2_with (fail)
    refine (FR.out _ (Ext.rf w)).mono ?_
    rintro e w1 ⟨rfl, x1⟩
    have X := Lib.hid (x1.alloc (.cells #[.int .u64 0, .int .u64 0, .int .i64 0, .int .i64 0] 70))
    go_wp2_with (fail)
    go_ret2
    exact ⟨rfl, by have := X.out; first | exact x1 | exact this⟩
  | some s =>
    obtain ⟨m, last, cost⟩ := s
    obtain ⟨pl, WO⟩ := walk_ok l1 l2 hr.out
    have hS := WO.sub
    have hla := walk_last l1 WO
    have h0m : 0 ∉ memsM m := fun h => ((WO.rest 0).1 h).1.2 rfl
    have hlen : (memsM m).length ≤ 24 := by have := WO.len; omega
    have num : ∀ a b, a < rows.length → b < rows.length → 0 ≤ costAt rows a b ∧ costAt rows a b ≤ 2147483647 := fun a b ha hb => by
      have e1 : rows[a]? = some rows[a] := List.getElem?_eq_getElem ha
      have e2 := ok.row _ (List.getElem_mem ha)
      have e3 : (rows[a])[b]? = some (rows[a])[b] := List.getElem?_eq_getElem (by omega)
      unfold costAt
      rw [getD_some e1, getD_some e3]
      exact ok.num _ (List.getElem_mem ha) _ (List.getElem_mem _)
    have bcost : 0 ≤ cost ∧ cost ≤ 2147483647 * 24 := by
      have h1 := wayC_bd num pl 0 (by omega) fun x hx => (WO.inn x hx).1
      have h2 := WO.len
      rw [WO.cost]
      omega
    have RD := Lib.hid (fun (W : World) (x : Ext w W) => reducet_any m last cost ok hS h0m hla W (hT.ext x) (H0.ext x))
    have EN := Lib.hid (fun (W : World) (x : Ext w W) => endst_any m last cost ok hS hla W (hT.ext x) (H0.ext x))
    have bred := reduceT_bd num (by omega) hla hS.2 hlen
    have e : boundT rows mi p = (cost + (if memsM m = [] then costAt rows last 0 else if mi = true then max (reduceT rows (memsM m) last) ((endsT rows (memsM m) last + 1) / 2) else reduceT rows (memsM m) last), 0) := by unfold boundT; rw [hr.out]
    obtain ⟨tot, ht⟩ : ∃ tot, Hid (tot = cost + (if memsM m = [] then costAt rows last 0 else if mi = true then max (reduceT rows (memsM m) last) ((endsT rows (memsM m) last + 1) / 2) else reduceT rows (memsM m) last)) := ⟨_, rfl⟩
    rw [e, ← ht.out]
    clear e
    simp only [wayV, wayT] at FR
    replace FR := Lib.hid FR
    replace hB := Lib.hid hB
    replace hV := Lib.hid hV
    replace hR := Lib.hid hR
    by_cases hm0 : m = 0
    · subst hm0
      have erow : rows[last]? = some rows[last] := List.getElem?_eq_getElem hla
      obtain ⟨D, d, hu, oD⟩ := hR.out.2 _ _ erow
      have lrow := ok.row _ (List.getElem_mem hla)
      have ec : costAt rows last 0 = (rows[last]).getD 0 0 := by unfold costAt; rw [getD_some erow]
      have nb := num last 0 hla (by omega)
      generalize rows[last] = row at *
      have ht2 : Hid (tot = cost + row.getD 0 0) := by
        have h := ht.out
        rw [if_pos memsM_zero, ec] at h
        exact h
      rw [ec] at nb
      clear ht RD EN bred ec erow hr WO
      have EQ := fun u : World => eq_set 0 u
      go_enter Tryd.func35, Tryd.ntmps35
      go_wp2_with (fail)
      refine (FR.out _ (Ext.rf w)).mono ?_
      rintro e w1 ⟨rfl, x1⟩
      have X := Lib.hid (x1.alloc (.cells #[.int .u64 ((0 : Nat) : Int), .int .u64 0, .int .i64 last, .int .i64 cost] 70))
      obtain ⟨ab, ao, vv, rfl, zv, cv, ev⟩ := (hV.out.read.ext X.out).at (j := last) (by rw [lus.out]; exact hla)
      obtain rfl : .slice D row.length d = vv := by
        have h := ev.out
        rw [hu] at h
        exact Option.some.inj h
      obtain ⟨cb, co, y, rfl, zy, cy, ey, _⟩ := (oD.read.ext X.out).at (k := 0) (by omega)
      have ey2 := getD_some (d := 0) ey.out
      rw [ey2] at nb
      have ht3 : Hid (tot = cost + y) := by
        have h := ht2.out
        rw [ey2] at h
        exact h
      have cG : (w1.alloc (.cells #[.int .u64 ((0 : Nat) : Int), .int .u64 0, .int .i64 last, .int .i64 cost] 70)).cell? ⟨g, 0, none⟩ = some (.slice (some ⟨ab, ao, none⟩) rows.length cc) := (hB.out.ext X.out).cell 0
      replace cy : (w1.alloc (.cells #[.int .u64 ((0 : Nat) : Int), .int .u64 0, .int .i64 last, .int .i64 cost] 70)).cell? ⟨cb, co, none⟩ = some (.int .i64 y) := cy
      have q1 : (last : Int) < (rows.length : Int) := by omega
      have q2 : (0 : Int) < (row.length : Int) := by omega
      have hw : IntKind.i64.wrap (cost + y) = cost + y := IntWalk.i64_in _ (by omega)
      clear ev ey ey2 ht2
      have bW : Blk (w1.alloc (.cells #[.int .u64 ((0 : Nat) : Int), .int .u64 0, .int .i64 last, .int .i64 cost] 70)) w1.heap.size 70 #[.int .u64 ((0 : Nat) : Int), .int .u64 0, .int .i64 last, .int .i64 cost] := .new rfl
      have c2 := bW.cell 2
      have c3 := bW.cell 3
      simp only [List.getElem?_toArray, List.getElem?_cons_zero, List.getElem?_cons_succ, Int.natCast_zero] at c2 c3 cG cy
      have X' := X
      simp only [Int.natCast_zero] at X'
      go_wp2_with (fail)
      try simp only [Int.natCast_zero]
      generalize w1.alloc (.cells #[.int .u64 0, .int .u64 0, .int .i64 last, .int .i64 cost] 70) = w2 at *
      go_quiet (fail)
      go_wp2_with (fail)
      go_ret2
      rw [ht3.out]
      exact ⟨rfl, X'.out.drewN _⟩
    · have hne : memsM m ≠ [] := fun h => hm0 ((memsM_nil hS.1).1 h)
      have bend := endsT_bd num (by omega) hla hS.2 hlen hne
      have EQ := fun u : World => eq_set (m : Int) u
      have em : ((m : Int) == 0) = false := by simp; omega
      rw [em] at EQ
      obtain ⟨rv, hrv⟩ : ∃ rv, Hid (reduceT rows (memsM m) last = rv) := ⟨_, rfl⟩
      obtain ⟨ev, hev⟩ : ∃ ev, Hid (endsT rows (memsM m) last = ev) := ⟨_, rfl⟩
      rw [hrv.out] at RD bred
      rw [hev.out] at EN bend
      have ht2 : Hid (tot = cost + (if mi = true then max rv ((ev + 1) / 2) else rv)) := by
        have h := ht.out
        rw [if_neg hne, hrv.out, hev.out] at h
        exact h
      have B1 : ∀ W : World, Blk (W.alloc (.cells #[.int .u64 m, .int .u64 0, .int .i64 last, .int .i64 cost] 70)) W.heap.size 70 #[.int .u64 m, .int .u64 0, .int .i64 last, .int .i64 cost] := fun W => .new rfl
      replace B1 := Lib.hid B1
      clear ht hr WO hm0 hne num H0 hT
      go_enter Tryd.func35, Tryd.ntmps35
      go_wp2_with (fail)
      refine (FR.out _ (Ext.rf w)).mono ?_
      rintro e w1 ⟨rfl, x1⟩
      have X := Lib.hid (x1.alloc (.cells #[.int .u64 m, .int .u64 0, .int .i64 last, .int .i64 cost] 70))
      clear x1
      go_wp2_with (fail)
      refine (RD.out _ X.out).mono ?_
      rintro e w2 ⟨rfl, x2⟩
      have X2 := Lib.hid (X.out.tr x2)
      have bW := (B1.out w1).ext x2
      have c0 : w2.cell? ⟨w1.heap.size, 0, none⟩ = some (.int .u64 m) := bW.cell 0
      have c1 : w2.cell? ⟨w1.heap.size, 1, none⟩ = some (.int .u64 0) := bW.cell 1
      have c2 : w2.cell? ⟨w1.heap.size, 2, none⟩ = some (.int .i64 last) := bW.cell 2
      have c3 : w2.cell? ⟨w1.heap.size, 3, none⟩ = some (.int .i64 cost) := bW.cell 3
      have cM : w2.cell? ⟨g, 1, none⟩ = some (.bool mi) := (hB.out.ext X2.out).cell 1
      clear x2
      cases mi with
      | false =>
        have ht3 : Hid (tot = cost + rv) := ht2.out
        have hw : IntKind.i64.wrap (cost + rv) = cost + rv := IntWalk.i64_in _ (by omega)
        go_wp2_with (fail)
        go_ret2
        rw [ht3.out]
        exact ⟨rfl, X2.out⟩
      | true =>
        have ht3 : Hid (tot = cost + max rv ((ev + 1) / 2)) := ht2.out
        have hw1 : IntKind.i64.wrap (ev + 1) = ev + 1 := IntWalk.i64_in _ (by omega)
        have hq : (ev + 1).tdiv 2 = (ev + 1) / 2 := Int.tdiv_eq_ediv_of_nonneg (by omega)
        have hw2 : IntKind.i64.wrap ((ev + 1) / 2) = (ev + 1) / 2 := IntWalk.i64_in _ (by omega)
        have hmax : (if rv < (ev + 1) / 2 then (ev + 1) / 2 else rv) = max rv ((ev + 1) / 2) := by split <;> omega
        obtain ⟨mv, hmv⟩ : ∃ mv, Hid (max rv ((ev + 1) / 2) = mv) := ⟨_, rfl⟩
        have bmv : 0 ≤ mv ∧ mv ≤ 4294967294 * 100 := by rw [← hmv.out]; omega
        rw [hmv.out] at ht3 hmax
        have hw3 : IntKind.i64.wrap (cost + mv) = cost + mv := IntWalk.i64_in _ (by omega)
        replace bW := Lib.hid bW
        go_wp2_with (fail)
        refine (EN.out _ X2.out).mono ?_
        rintro e w3 ⟨rfl, x3⟩
        have X3 := Lib.hid (X2.out.tr x3)
        have k2 : w3.cell? ⟨w1.heap.size, 2, none⟩ = some (.int .i64 last) := (bW.out.ext x3).cell 2
        have k3 : w3.cell? ⟨w1.heap.size, 3, none⟩ = some (.int .i64 cost) := (bW.out.ext x3).cell 3
        clear x3
        go_wp2_with (fail)
        go_ret2
        rw [ht3.out]
        exact ⟨rfl, X3.out⟩
end Go.Proofs.YtpngflmngnjjoaaDoor
