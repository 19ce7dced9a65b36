/-
  exact.Knapsack: a best answer.
  An assignment by prices, plainly: bounds of the prices; turning a way; the answer at the end costs least.
  An assignment by prices, plainly: the two loops of a round; how many are not seen yet.
  An assignment by prices: what a row and a column cost beyond their prices; a way is turned.
  An assignment by prices: a way grows.
  An assignment by prices: a way grows: the walk.
  exact.Assignment: the best assignment, and what it costs.
  An assignment's least cost, plainly: rows that cost so much more; rows as columns.
  exact.Assignment: the best assignment, and what it costs: the walk.
  exact's four functions, of all problems: what is taken, what is told, Best; what the document says to it.
  exact's functions, of all problems: an answer that is best, or why there is none.
  An assignment's kernel: New, Depth, free.
    An assignment's kernel: which columns a beginning leaves.
    An assignment's kernel: the least of a row's numbers in some columns.
    An assignment's kernel: what rows cost at least, in some columns.
    A region that draws its order and only reads, walked once inside a round of a loop over a function.
    An assignment's kernel: what rows cost at least, walked.
    An assignment's kernel: what no answer that begins so is below.
  The library's stable sort of ints: exchanges of two ranges, a rotation.
    The library's stable sort of ints: insertion.
    The library's stable sort of ints: a merge in place where one of the two is a single one.
    The library's stable sort of ints: a merge in place where the second of the two is a single one.
  An assignment's kernel: the order of the kids.
    An assignment's kernel: what may follow a beginning.
    The law's own example: a kernel of two rows.
  The document's kernel of an assignment: which columns a beginning leaves.
    The document's kernel of an assignment: Kids.
  The document's kernel of an assignment: what a square of numbers costs at least, by rows and then by columns.
    The document's kernel of an assignment: Bound, Answer, Depth.
  An assignment, plainly: what the columns of a beginning are; no answer that begins so costs less than the bound; the least cost by trying.
  An assignment's beginnings as a tree, plainly: as many leaves as there are orders, each once.
-/
import Derived.Test.YtleckhbmciiooaaDoorExactBestP3
import Derived.Sort.BigQuietIn
import Derived.Deep.QuietTactic
import Derived.BigQuiet
namespace Go.Proofs.YtleckhbmciiooaaDoor
open Go.RowKit Go.ChangeShapes Go.WideShapes Go.ChangeAt Go.Deep Go.Shelf
attribute [local go_sem] Oper.semAt_some

def KnapPost (i : InstP) (n : Nat) (w : World) (e : Ending) (w' : World) : Prop :=
  ∃ A c m, e = .returned (.tuple #[.slice A n c, .int .i64 (sumN (atF i.value) n m), .int .i64 0]) ∧ RdI w' A (xB m n) ∧ m < 2 ^ n ∧ sumB (atF i.weight) n m ≤ i.cap ∧ n ≤ c ∧ c ≤ maxLen ∧ (∀ s, s < 2 ^ n → sumB (atF i.weight) n s ≤ i.cap → sumN (atF i.value) n m ≤ sumN (atF i.value) n s) ∧ Ext w w'
theorem pow18 {k n : Nat} (h : k ≤ n) (hn : n ≤ 18) : 2 ^ k ≤ 262144 := by
  have : 2 ^ k ≤ 2 ^ 18 := Nat.pow_le_pow_right (by omega) (by omega)
  omega
theorem withP_mem {l : List Ld} {k : Nat} {wt vl room : Int} {d : Ld} (h : d ∈ withP l k wt vl room) : ∃ q ∈ l, q.1 + wt ≤ room ∧ d = (q.1 + wt, q.2.1 + vl, q.2.2 ||| 2 ^ k) := by
  obtain ⟨q, hq, rfl⟩ := List.mem_map.1 h
  obtain ⟨hq, hf⟩ := List.mem_filter.1 hq
  exact ⟨q, hq, by simpa using hf, rfl⟩
theorem sumB_zero (f : Nat → Int) : ∀ k, sumB f k 0 = 0
  | 0 => rfl
  | k + 1 => by rw [sumB_succ, sumB_zero f k]; simp
theorem OwV.some_of {w : World} {base : Nat} {e : TypeId} {size : Nat} {A : Option Addr} {n c : Nat} {vs : List Value} (h : OwV w base e size A n c vs) (hn : vs ≠ []) : ∃ g, A = some ⟨g, 0, none⟩ := by
  rcases h.cases with ⟨_, _, _, h0⟩ | ⟨g, cur, rfl, _⟩
  · exact absurd h0 hn
  · exact ⟨g, rfl⟩
/-- what a body must achieve that does not panic: deferred calls, marks and all -/
def bodyPostN (F : Fence) (n : Nat) (P : Program) (fn : Func) (R : Ending → World → Prop) : Exit → Act → World → Prop
  | .normal, a, w | .ret, a, w => LeavesInM F n P fn a.tmps R a.defers .returning w
  | _, _, _ => False
theorem bodyPostN_le {F : Fence} {n : Nat} {P : Program} {fn : Func} {R : Ending → World → Prop} (e : Exit) (a : Act) (w : World) (h : bodyPostN F n P fn R e a w) : bodyPostM F n P fn R e a w := by
  cases e <;> first | exact h | exact h.elim
/-- a row of ones and noughts -/
def mkX (n : Nat) (l : List Nat) : List Int := (List.range n).map fun j => if j ∈ l then 1 else 0
theorem mkX_len (n : Nat) (l : List Nat) : (mkX n l).length = n := by simp [mkX]
theorem mkX_nil (n : Nat) : mkX n [] = List.replicate n 0 := by simp [mkX, List.map_const']
theorem mkX_get {n j : Nat} (l : List Nat) (h : j < n) : (mkX n l)[j]? = some (if j ∈ l then 1 else 0) := by
  rw [mkX, List.getElem?_map, List.getElem?_range h]
  rfl
theorem mkX_snoc {n x : Nat} (l : List Nat) (h : x < n) : mkX n (l ++ [x]) = (mkX n l).set x 1 := by
  apply List.ext_getElem?
  intro j
  by_cases hj : j < n
  · rw [mkX_get _ hj, List.getElem?_set, mkX_get _ hj]
    by_cases e : x = j
    · subst e
      simp [mkX_len, h]
    · rw [if_neg e]
      have : ¬ j = x := fun h => e h.symm
      simp [this]
  · rw [List.getElem?_eq_none (by rw [mkX_len]; omega), List.getElem?_eq_none (by rw [List.length_set, mkX_len]; omega)]
theorem mkX_mems {m n : Nat} (h : n ≤ 64) : mkX n (memsM m) = xB m n := by
  unfold mkX xB
  refine List.map_congr_left fun j hj => ?_
  have := List.mem_range.1 hj
  by_cases hb : m.testBit j = true
  · rw [if_pos hb, if_pos (memsM_mem.2 ⟨by omega, hb⟩)]
  · rw [if_neg hb, if_neg (fun h => hb (memsM_mem.1 h).2)]
def rowA (xs : List Int) : Array Value := (xs.map (Value.int .i64)).toArray
theorem OwI.blkOf {w : World} {base g c : Nat} {xs : List Int} (h : OwI w base (some ⟨g, 0, none⟩) c xs) (hc : c = xs.length) : Blk w g 3 (rowA xs) := by
  rcases OwI.cases h with ⟨h, _⟩ | ⟨g', cur, hA, hb, hg, hn, hm, hs, ht⟩
  · cases h
  · obtain rfl : g = g' := by simpa using hA
    rw [List.take_of_length_le (by rw [Array.length_toList, hs, hc]; exact Nat.le_refl _)] at ht
    have : cur = rowA xs := by unfold rowA; rw [← ht]
    rw [← this]
    exact hg
theorem rowA_set (xs : List Int) (x : Nat) (v : Int) : (rowA xs).setIfInBounds x (.int .i64 v) = rowA (xs.set x v) := by
  unfold rowA
  rw [List.setIfInBounds_toArray, List.map_set]
theorem Held.setAt {w0 w : World} {sb : Nat} (h : Held w0 sb w) (i : Nat) (u : Value) : Held w0 sb (w.setCell ⟨sb, i, none⟩ u) := ⟨by simp; exact h.1, fun b h1 h2 => (Below.heap_setCell w ⟨sb, i, none⟩ u b h2).trans (h.2 b h1 h2)⟩
set_option maxRecDepth 100000 in
set_option maxHeartbeats 4000000 in
theorem knapsack_in (i : InstP) (us : List Value) (n : Nat) (w : World) (H : RInst w us i) (hT : Tab w) (hc : checkP i = 0) (hk : i.kind = 1) (hn : i.n = n) (h18 : n ≤ 18) :
    CallsIn Fence.wide 3 Tryd.prog 30 #[.agg (List.toArray us)] w (KnapPost i n w) := by
  have ok := knap_ok hc hk
  have okcap := ok.cap
  have okn := ok.n1
  have okw := ok.w
  have okv := ok.v
  have TK := fun (W : World) (x : Ext w W) => takes1_any i us W (H.ext x) hc hk (by omega)
  have TO := fun (P : Option Addr) (c m : Nat) (W : World) (x : Ext w W) (hP : RdI W P (xB m n)) (hcap : sumB (atF i.weight) n m ≤ i.cap) => told1_any i us P c m n W (H.ext x) hc hk hn hP hcap
  have BW := fun (m k : Nat) (hk : k ≤ n) => (sums_bd (f := atF i.weight) (n := n) (fun j _ => atF_bd ok.sw j) m k hk).1
  have BV := fun (m k : Nat) (hk : k ≤ n) => (sums_bd (f := atF i.value) (n := n) (fun j _ => atF_bd ok.sv j) m k hk).1
  have SW := fun (j : Nat) => atF_bd ok.sw j
  have SV := fun (j : Nat) => atF_bd ok.sv j
  obtain ⟨kind, nn, cap, xw, xv, co⟩ := i
  obtain ⟨A, a, B, b, D, d, rfl, ⟨rA, -⟩, ⟨rB, -⟩, -⟩ := H
  simp only at *
  subst hk hn
  have lw : xw.length = n := by omega
  have lv : xv.length = n := by omega
  simp only [lw, lv] at TK TO
  rw [lw, lv]
  have GW : ∀ j, j < n → ∃ b' o', A = some ⟨b', o', none⟩ ∧ b' < w.heap.size ∧ w.cell? ⟨b', o' + j, none⟩ = some (.int .i64 (atF xw j)) := fun j hj => by
    obtain ⟨b', o', x, h1, h2, h3, h4, _⟩ := rA.at (k := j) (by omega)
    exact ⟨b', o', h1, h2, by rw [h3]; unfold atF; rw [getD_some h4.out]⟩
  have GV : ∀ j, j < n → ∃ b' o', B = some ⟨b', o', none⟩ ∧ b' < w.heap.size ∧ w.cell? ⟨b', o' + j, none⟩ = some (.int .i64 (atF xv j)) := fun j hj => by
    obtain ⟨b', o', x, h1, h2, h3, h4, _⟩ := rB.at (k := j) (by omega)
    exact ⟨b', o', h1, h2, by rw [h3]; unfold atF; rw [getD_some h4.out]⟩
  have B1 : Hid (Blk (w.alloc (.cells #[.int .i64 1, .int .i64 n, .int .i64 cap, .slice A n a, .slice B n b, .slice D co.length d] 25)) w.heap.size 25 #[.int .i64 1, .int .i64 n, .int .i64 cap, .slice A n a, .slice B n b, .slice D co.length d]) := .new rfl
  have X0 : Hid (Ext w (w.alloc (.cells #[.int .i64 1, .int .i64 n, .int .i64 cap, .slice A n a, .slice B n b, .slice D co.length d] 25))) := (Ext.rf _).alloc _
  obtain ⟨i0, hi, hz0, hz1, hz2⟩ := info_parts ld_info
  replace hi := Lib.hid hi
  replace hz0 := Lib.hid hz0
  replace hz1 := Lib.hid hz1
  replace hz2 := Lib.hid hz2
  replace GW := Lib.hid GW
  replace GV := Lib.hid GV
  replace BW := Lib.hid BW
  replace BV := Lib.hid BV
  replace SW := Lib.hid SW
  replace SV := Lib.hid SV
  replace TK := Lib.hid TK
  replace TO := Lib.hid TO
  clear hc ok rA rB okw okv lw lv
  refine callsIn_of_wp_marks Tryd.func30 rfl trivial ?_ rfl
  simp only [Tryd.ntmps30, List.size_toArray, List.length_cons, List.length_nil, Nat.reduceAdd, Nat.reduceSub, Array.replicate_succ, Array.replicate_zero, List.push_toArray, List.append_toArray, List.nil_append, List.cons_append]
  refine wpIn_wide.2 (wp_mono ?_ bodyPostN_le)
  go_wp2_with (fail)
  refine (TK.out _ X0.out).mono ?_
  rintro e w1 ⟨rfl, x1⟩
  have Bi := Lib.hid (B1.out.ext x1)
  have X1 := Lib.hid (X0.out.tr x1)
  have z1 := Bi.out.lt
  have t1 : w1.cell? ⟨w.heap.size, 1, none⟩ = some (.int .i64 n) := Bi.out.cell 1
  clear B1 X0 x1
  go_wp2_with (fail)
  have bS : Blk (w1.alloc (.cells #[.int .i64 0, .int .i64 0, .int .u64 0, .int .u64 0] 96)) w1.heap.size 96 #[.int .i64 0, .int .i64 0, .int .u64 0, .int .u64 0] := .new rfl
  have O0 : Hid (OwV (w1.alloc (.cells #[.int .i64 0, .int .i64 0, .int .u64 0, .int .u64 0] 96)) w1.heap.size 96 4 (some ⟨w1.heap.size, 0, none⟩) 1 1 (flatL [(0, 0, 0)])) := OwV.full bS (Nat.le_refl _) rfl (by simp [maxLen])
  have X2 : Hid (Ext w1 (w1.alloc (.cells #[.int .i64 0, .int .i64 0, .int .u64 0, .int .u64 0] 96))) := (Ext.rf _).alloc _
  have G0 : Hid (Good 0 (atF xw) (atF xv) cap [(0, 0, 0)]) := Good.start okcap.1
  clear bS
  go_loopw [6, 22] (fun v6 v22 wr => ∃ (k m : Nat) (Bl : Option Addr) (cl : Nat) (l : List Ld), v6 = .slice Bl m cl ∧ v22 = .int .i64 k ∧ k ≤ n ∧ Hid (m = l.length) ∧ Hid (Good k (atF xw) (atF xv) cap l) ∧ Hid (OwV wr w1.heap.size 96 4 Bl m cl (flatL l)) ∧ Hid (Ext w1 wr)) (fun _ v22 _ => n - (intOf v22).toNat)
  case atStart => exact ⟨0, 1, _, 1, [(0, 0, 0)], rfl, rfl, by omega, rfl, G0, O0, X2⟩
  case round =>
    clear O0 X2 G0 t1
    obtain ⟨wo, rfl⟩ : ∃ wo : World, wo = wr := ⟨_, rfl⟩
    obtain ⟨k, m, Bl, cl, l, rfl, rfl, hk, hm, hG, hO, X⟩ := hrel
    have XW := X1.out.tr X.out
    have Bw := Lib.hid (Bi.out.ext X.out)
    have LB : Hid (∀ d ∈ l, LdOk d ∧ d.2.2 < 2 ^ k) := fun d hd => by
      obtain ⟨h1, h2, h3, h4⟩ := hG.out.each d hd
      have b1 := BW.out d.2.2 k hk
      have b2 := BV.out d.2.2 k hk
      unfold LdOk
      exact ⟨by omega, h1⟩
    have LN : Hid (l ≠ []) := by
      have h9 : l ≠ [] := by
        obtain ⟨d, hd, _⟩ := hG.out.dom 0 (Nat.two_pow_pos k) (by rw [sumB_zero]; exact okcap.1)
        intro e
        rw [e] at hd
        cases hd
      exact h9
    have p18 := pow18 hk h18
    have ll : l.length ≤ 262144 := Nat.le_trans hG.out.len p18
    by_cases hlt : k < n
    · obtain ⟨b1', o1, rfl, z1', c1⟩ := GW.out k hlt
      obtain ⟨b2', o2, rfl, z2', c2⟩ := GV.out k hlt
      have k1 := keepEL XW z1' c1
      have k2 := keepEL XW z2' c2
      have t2 : wo.cell? ⟨w.heap.size, 2, none⟩ = some (.int .i64 cap) := Bw.out.cell 2
      have t3 : wo.cell? ⟨w.heap.size, 3, none⟩ = some (.slice (some ⟨b1', o1, none⟩) n a) := Bw.out.cell 3
      have t4 : wo.cell? ⟨w.heap.size, 4, none⟩ = some (.slice (some ⟨b2', o2, none⟩) n b) := Bw.out.cell 4
      have q1 : (k : Int) < (n : Int) := by omega
      have sw := SW.out k
      have sv := SV.out k
      have ST := Lib.hid (fun (l2 : List Ld) (h : l2.Perm (l ++ withP l k (atF xw k) (atF xv k) cap)) => hG.out.step (l2 := l2) sw.1 h)
      have WL := Lib.hid (fun (W : World) (h : RdV W 96 Bl (flatL l)) => withl_any (c := cl) h hm.out.symm (fun d hd => by have := LB.out d hd; exact ⟨this.1, by omega⟩) (by rw [hm.out]; omega) k (by omega) (atF xw k) (atF xv k) cap sw sv okcap)
      have WB : Hid (∀ d ∈ l ++ withP l k (atF xw k) (atF xv k) cap, LdOk d) := fun d hd => by
        rcases List.mem_append.1 hd with hd | hd
        · exact (LB.out d hd).1
        · obtain ⟨q, hq, h1, rfl⟩ := withP_mem hd
          have h2 := (LB.out q hq).1
          obtain ⟨_, _, h3, _⟩ := hG.out.each q hq
          have b2 := BV.out q.2.2 k hk
          unfold LdOk at h2 ⊢
          simp only
          omega
      have wl := withP_len l k (atF xw k) (atF xv k) cap
      generalize withP l k (atF xw k) (atF xv k) cap = lw at *
      generalize atF xw k = aw at *
      generalize atF xv k = av at *
      replace XW := Lib.hid XW
      clear c1 c2 sw sv
      go_wp2_with (fail)
      refine wp_region_any (by kernel_rfl) ?_
      change wpAny _ _ _ _ _ _ _ (World.drew _)
      refine wpAny_T (i := 0) (op := Op.move (Operand.tmp 6)) (t := 97) (d := some 25) (v := ?_) rfl (by decide +kernel) (by decide +kernel) (by decide +kernel) (fun _ _ _ h => h) ?_ ?_
      case refine_2 => (intro _; unfold exec2; go_simp; try with_reducible rfl)
      try simp only [Act.put, List.setIfInBounds_toArray, List.set_cons_zero, List.set_cons_succ]
      refine wpAny_T (i := 1) (op := Op.move (Operand.tmp 6)) (t := 97) (d := some 26) (v := ?_) rfl (by decide +kernel) (by decide +kernel) (by decide +kernel) (fun _ _ _ h => h) ?_ ?_
      case refine_2 => (intro _; unfold exec2; go_simp; try with_reducible rfl)
      try simp only [Act.put, List.setIfInBounds_toArray, List.set_cons_zero, List.set_cons_succ]
      refine wpAny_T (i := 2) (op := Op.move (Operand.tmp 7)) (t := 3) (d := some 27) (v := ?_) rfl (by decide +kernel) (by decide +kernel) (by decide +kernel) (fun _ _ _ h => h) ?_ ?_
      case refine_2 => (intro _; unfold exec2; go_simp; try with_reducible rfl)
      try simp only [Act.put, List.setIfInBounds_toArray, List.set_cons_zero, List.set_cons_succ]
      refine wpAny_T (i := 3) (op := Op.fieldAddr 25 (Operand.tmp 1) 3) (t := 0) (d := some 28) (v := ?_) rfl (by decide +kernel) (by decide +kernel) (by decide +kernel) (fun _ _ _ h => h) ?_ ?_
      case refine_2 => (intro _; unfold exec2; go_simp; try with_reducible rfl)
      try simp only [Act.put, List.setIfInBounds_toArray, List.set_cons_zero, List.set_cons_succ]
      refine wpAny_T (i := 5) (op := Op.move (Operand.tmp 7)) (t := 3) (d := some 30) (v := ?_) rfl (by decide +kernel) (by decide +kernel) (by decide +kernel) (fun _ _ _ h => h) ?_ ?_
      case refine_2 => (intro _; unfold exec2; go_simp; try with_reducible rfl)
      try simp only [Act.put, List.setIfInBounds_toArray, List.set_cons_zero, List.set_cons_succ]
      refine wpAny_T (i := 8) (op := Op.fieldAddr 25 (Operand.tmp 1) 4) (t := 0) (d := some 33) (v := ?_) rfl (by decide +kernel) (by decide +kernel) (by decide +kernel) (fun _ _ _ h => h) ?_ ?_
      case refine_2 => (intro _; unfold exec2; go_simp; try with_reducible rfl)
      try simp only [Act.put, List.setIfInBounds_toArray, List.set_cons_zero, List.set_cons_succ]
      refine wpAny_T (i := 10) (op := Op.move (Operand.tmp 7)) (t := 3) (d := some 35) (v := ?_) rfl (by decide +kernel) (by decide +kernel) (by decide +kernel) (fun _ _ _ h => h) ?_ ?_
      case refine_2 => (intro _; unfold exec2; go_simp; try with_reducible rfl)
      try simp only [Act.put, List.setIfInBounds_toArray, List.set_cons_zero, List.set_cons_succ]
      refine wpAny_T (i := 13) (op := Op.fieldAddr 25 (Operand.tmp 1) 2) (t := 0) (d := some 38) (v := ?_) rfl (by decide +kernel) (by decide +kernel) (by decide +kernel) (fun _ _ _ h => h) ?_ ?_
      case refine_2 => (intro _; unfold exec2; go_simp; try with_reducible rfl)
      try simp only [Act.put, List.setIfInBounds_toArray, List.set_cons_zero, List.set_cons_succ]
      refine wpAny_reads2 (n := 4) [(4, some 29), (6, some 31), (7, some 32), (9, some 34), (11, some 36), (12, some 37), (14, some 39)] (fun | 4 => .slice (some ⟨b1', o1, none⟩) n a | 6 => .pointer (some ⟨b1', o1 + k, none⟩) | 7 => .int .i64 aw | 9 => .slice (some ⟨b2', o2, none⟩) n b | 11 => .pointer (some ⟨b2', o2 + k, none⟩) | 12 => .int .i64 av | 14 => .int .i64 cap | _ => undef) #[true, true, true, true, true, true, true, true, true, true, true, true, true, true, true, false, false, false, false] (by decide +kernel) ?_ ?_
      · intro pS hpm uS hD K hK
        simp only [List.mem_cons, List.not_mem_nil, or_false] at hpm
        rcases hpm with rfl | rfl | rfl | rfl | rfl | rfl | rfl
        · exact op_ld (T := 22) (x := Operand.tmp 28) (t := 22) (d := some 29) rfl (.pointer (some ⟨w.heap.size, 3, none⟩)) (by kernel_rfl) (.slice (some ⟨b1', o1, none⟩) n a) (by go_simp) hK
        · exact op_ix (T := 22) (x := Operand.tmp 29) (y := Operand.tmp 30) (t := 0) (d := some 31) rfl (.slice (some ⟨b1', o1, none⟩) n a) (.int .i64 k) (Eq.trans (b := uS 4) (by kernel_rfl) (hD 4 (depIn (by kernel_rfl)))) (by kernel_rfl) (.pointer (some ⟨b1', o1 + k, none⟩)) (by go_simp) hK
        · exact op_ld (T := 3) (x := Operand.tmp 31) (t := 3) (d := some 32) rfl (.pointer (some ⟨b1', o1 + k, none⟩)) (Eq.trans (b := uS 6) (by kernel_rfl) (hD 6 (depIn (by kernel_rfl)))) (.int .i64 aw) (by go_simp) hK
        · exact op_ld (T := 22) (x := Operand.tmp 33) (t := 22) (d := some 34) rfl (.pointer (some ⟨w.heap.size, 4, none⟩)) (by kernel_rfl) (.slice (some ⟨b2', o2, none⟩) n b) (by go_simp) hK
        · exact op_ix (T := 22) (x := Operand.tmp 34) (y := Operand.tmp 35) (t := 0) (d := some 36) rfl (.slice (some ⟨b2', o2, none⟩) n b) (.int .i64 k) (Eq.trans (b := uS 9) (by kernel_rfl) (hD 9 (depIn (by kernel_rfl)))) (by kernel_rfl) (.pointer (some ⟨b2', o2 + k, none⟩)) (by go_simp) hK
        · exact op_ld (T := 3) (x := Operand.tmp 36) (t := 3) (d := some 37) rfl (.pointer (some ⟨b2', o2 + k, none⟩)) (Eq.trans (b := uS 11) (by kernel_rfl) (hD 11 (depIn (by kernel_rfl)))) (.int .i64 av) (by go_simp) hK
        · exact op_ld (T := 3) (x := Operand.tmp 38) (t := 3) (d := some 39) rfl (.pointer (some ⟨w.heap.size, 2, none⟩)) (by kernel_rfl) (.int .i64 cap) (by go_simp) hK
      simp only [putAll, Act.put, List.setIfInBounds_toArray, List.set_cons_zero, List.set_cons_succ]
      refine wpAny_next 15 (by decide +kernel) (op_call (f := 64) (xs := #[Operand.tmp 26, Operand.tmp 27, Operand.tmp 32, Operand.tmp 37, Operand.tmp 39]) (ts := #[97, 3, 3, 3, 3]) (t := 97) (d := some 40) rfl #[.slice Bl m cl, .int .i64 k, .int .i64 aw, .int .i64 av, .int .i64 cap] (by go_simp) (by kernel_rfl) _ (WL.out _ (hO.out.ext ((Ext.rf _).drew)).read) ?_)
      rintro e w2 ⟨B2, c2, rfl, o2', x2⟩
      refine ⟨_, rfl, ?_⟩
      try simp only [Act.put, List.setIfInBounds_toArray, List.set_cons_zero, List.set_cons_succ]
      have x2' : Hid (Ext wo w2) := Ext.tr ((Ext.rf wo).drew) x2
      have hO2 := hO.out.ext x2'.out
      obtain ⟨A9, c9, w9, hrun, o9, g9, _⟩ := run_app_v w2 (e := 96) Tryd.underlying97 hi.out hz0.out hz1.out hz2.out (by simp [Value.cells]) (by omega) w1.heap.size 97 Bl m cl (flatL l) B2 lw.length c2 (flatL lw) hO2 o2'.read.rdC (flatL_len lw) (flatL_one lw) (by have := hm.out; simp only [maxLen]; omega) (by have := hm.out; omega) (Nat.le_trans X.out.size x2'.out.size)
      have x9 : Hid (Ext w1 w9) := Ext.grow (X.out.tr x2'.out) g9 (fun q hq => (hO2.lt q hq).1)
      rw [← flatL_append] at o9
      have hne : flatL (l ++ lw) ≠ [] := by
        intro e
        have h1 := flatL_len (l ++ lw)
        rw [e] at h1
        simp only [List.length_nil, List.length_append] at h1
        have h2 := List.length_pos_iff.2 LN.out
        omega
      obtain ⟨g, rfl⟩ := o9.some_of hne
      have gb := (o9.lt g rfl).1
      have BB := best_any o9 (by rw [List.length_append, hm.out]) WB.out (by have := hm.out; omega)
      clear hne hO2 g9 x2 o2'
      refine wpAny_next 16 (by kernel_rfl) (op_app rfl (.slice Bl m cl) (.slice B2 lw.length c2) (by kernel_rfl) (by kernel_rfl) _ hrun ?_)
      try simp only [Act.put, List.setIfInBounds_toArray, List.set_cons_zero, List.set_cons_succ]
      refine wpAny_next 17 (by decide +kernel) (op_call (f := 63) (xs := #[Operand.tmp 41]) (ts := #[97]) (t := 97) (d := some 42) rfl #[.slice (some ⟨g, 0, none⟩) (m + lw.length) c9] (by go_simp) (by kernel_rfl) _ (BB) ?_)
      rintro e w3 ⟨L, l2, B3, c3, hp, hL, he, o3, M3⟩
      replace hL := Lib.hid hL
      subst he
      refine ⟨_, rfl, ?_⟩
      try simp only [Act.put, List.setIfInBounds_toArray, List.set_cons_zero, List.set_cons_succ]
      refine wpAny_T (i := 18) (op := Op.assign (Operand.tmp 42)) (t := 97) (d := some 6) (v := ?_) rfl (by decide +kernel) (by decide +kernel) (by decide +kernel) (fun _ _ _ h => h) ?_ ?_
      case refine_2 => (intro _; unfold exec2; go_simp; try with_reducible rfl)
      try simp only [Act.put, List.setIfInBounds_toArray, List.set_cons_zero, List.set_cons_succ]
      refine wpAny_done (by kernel_rfl) ?_ _
      have x3 : Hid (Ext w1 w3) := x9.out.mod M3 (fun j hj e => by subst e; omega)
      have G3 : Hid (Good (k + 1) (atF xw) (atF xv) cap L) := by
        have h9 : Good (k + 1) (atF xw) (atF xv) cap L := by rw [hL.out]; exact ST.out l2 hp
        exact h9
      have O3 : Hid (OwV w3 w1.heap.size 96 4 B3 L.length c3 (flatL L)) := o3.more x9.out.size
      clear hrun o9 BB M3 o3 x9 x2' k1 k2 t2 t3 t4 hL
      go_simp
      go_wp2_with (fail)
      go_roundw
      case rel => exact ⟨k + 1, L.length, B3, c3, L, rfl, by go_num, by omega, rfl, G3, O3, x3⟩
      case measure => simp [intOf]; omega
    · obtain rfl : n = k := by omega
      obtain ⟨d0, hd0⟩ : ∃ d0, Hid (l[0]? = some d0) := ⟨l[0]'(List.length_pos_iff.2 LN.out), List.getElem?_eq_getElem _⟩
      have hne : flatL l ≠ [] := by
        intro e
        have h1 := flatL_len l
        rw [e] at h1
        simp only [List.length_nil] at h1
        have h2 := List.length_pos_iff.2 LN.out
        omega
      have m0 : 0 < m := by rw [hm.out]; exact List.length_pos_iff.2 LN.out
      obtain ⟨g, rfl⟩ := hO.out.some_of hne
      obtain ⟨gb, ob, hA, zb, hcell⟩ := hO.out.read.form hne
      obtain ⟨rfl, rfl⟩ : g = gb ∧ 0 = ob := by simpa using hA
      obtain ⟨g0, g1, g2, g3⟩ := flatL_get hd0.out
      have c0 : wo.cell? ⟨g, 0, none⟩ = some (.int .i64 d0.1) := by simpa using hcell _ _ g0
      have c1 : wo.cell? ⟨g, 1, none⟩ = some (.int .i64 d0.2.1) := by simpa using hcell _ _ g1
      have c2 : wo.cell? ⟨g, 2, none⟩ = some (.int .u64 d0.2.2) := by simpa using hcell _ _ g2
      have c3 : wo.cell? ⟨g, 3, none⟩ = some (.int .u64 0) := by simpa using hcell _ _ g3
      have q0 : ¬ ((n : Int) < (n : Int)) := by omega
      have q1 : (0 : Int) < (m : Int) := by omega
      have xx : Ext wo (wo.alloc (.cells #[.int .i64 d0.1, .int .i64 d0.2.1, .int .u64 d0.2.2, .int .u64 0] 96)) := (Ext.rf _).alloc _
      have BX : Hid (Blk (wo.alloc (.cells #[.int .i64 d0.1, .int .i64 d0.2.1, .int .u64 d0.2.2, .int .u64 0] 96)) wo.heap.size 96 #[.int .i64 d0.1, .int .i64 d0.2.1, .int .u64 d0.2.2, .int .u64 0]) := .new rfl
      have XZ := Lib.hid (X.out.tr xx)
      have hO2 := Lib.hid (hO.out.ext xx)
      obtain ⟨G, hG2⟩ : ∃ G, Hid (topL d0 (l.drop 0) = G) := ⟨_, rfl⟩
      have GT : Hid (G ∈ l ∧ ∀ d ∈ l, d.2.1 ≤ G.2.1) := by
        have h1 := topL_ge (l := l) (t := d0)
        have h2 := hG2.out
        rw [List.drop_zero] at h2
        rw [h2] at h1
        refine ⟨?_, h1.2.1⟩
        rcases h1.2.2 with h3 | h3
        · rw [h3]; exact List.mem_of_getElem? hd0.out
        · exact h3
      have zx : g < wo.heap.size := zb
      obtain ⟨dw, dv, dm⟩ := d0
      simp only at c0 c1 c2 c3 BX XZ hO2
      have zn := Lib.hid X.out.size
      clear XW hcell hne g0 g1 g2 g3 hA xx LN hO X zb hlt
      go_wp2_with (fail)
      generalize wo.alloc (.cells #[.int .i64 dw, .int .i64 dv, .int .u64 dm, .int .u64 0] 96) = wz at *
      obtain ⟨gx, hgx⟩ : ∃ gx, gx = wo.heap.size := ⟨_, rfl⟩
      rw [← hgx] at BX zx zn ⊢
      replace hgx := Lib.hid hgx
      have zx0 : w1.heap.size ≤ gx := zn.out
      go_loopw [49] (fun v49 wr => ∃ (j : Nat) (t : Ld), v49 = .int .i64 j ∧ j ≤ m ∧ Hid (topL t (l.drop j) = G) ∧ Hid (Blk wr gx 96 #[.int .i64 t.1, .int .i64 t.2.1, .int .u64 t.2.2, .int .u64 0]) ∧ Hid (Mod (fun b => b = gx) wz wr)) (fun v49 _ => m - (intOf v49).toNat)
      case atStart => exact ⟨0, (dw, dv, dm), rfl, by omega, hG2, BX, Mod.rf _⟩
      case round =>
        clear hG2 BX c0 c1 c2 c3
        obtain ⟨wp, rfl⟩ : ∃ wp : World, wp = wr := ⟨_, rfl⟩
        obtain ⟨j, t, rfl, hj, hT2, bX, hM⟩ := hrel
        by_cases hlt : j < m
        · have hjl : j < l.length := by rw [← hm.out]; exact hlt
          obtain ⟨d, hd⟩ : ∃ d, Hid (l[j]? = some d) := ⟨l[j], List.getElem?_eq_getElem hjl⟩
          have hne : flatL l ≠ [] := by
            intro e
            have := flatL_len l
            rw [e] at this
            simp at this
            omega
          have RO := (hO2.out.mod hM.out (fun q hq e => by
            have h1 : g = q := by simpa [bl] using hq
            omega)).read
          obtain ⟨gb, ob, hA, zb, hcell⟩ := RO.form hne
          obtain ⟨rfl, rfl⟩ : g = gb ∧ 0 = ob := by simpa using hA
          obtain ⟨g0, g1, g2, g3⟩ := flatL_get hd.out
          have c0 := hcell _ _ g0
          have c1 := hcell _ _ g1
          have c2 := hcell _ _ g2
          have c3 := hcell _ _ g3
          rw [Nat.zero_add] at c0 c1 c2 c3
          have TN : Hid (topL (if t.2.1 < d.2.1 then d else t) (l.drop (j + 1)) = G) := by
            have h1 := hT2.out
            obtain ⟨_, hv⟩ := List.getElem?_eq_some_iff.1 hd.out
            rw [List.drop_eq_getElem_cons hjl, hv] at h1
            exact h1
          have q3 : (j : Int) < (m : Int) := by omega
          have zp := bX.out.lt
          have bw := bX.out.alloc (.cells #[.int .i64 d.1, .int .i64 d.2.1, .int .u64 d.2.2, .int .u64 0] 96)
          obtain ⟨tw, tv, tm⟩ := t
          obtain ⟨ew, ev, em⟩ := d
          simp only at c0 c1 c2 c3 TN bX bw
          have by' : Blk (wp.alloc (.cells #[.int .i64 ew, .int .i64 ev, .int .u64 em, .int .u64 0] 96)) wp.heap.size 96 #[.int .i64 ew, .int .i64 ev, .int .u64 em, .int .u64 0] := .new rfl
          have MO := Lib.hid (hM.out.alloc (.cells #[.int .i64 ew, .int .i64 ev, .int .u64 em, .int .u64 0] 96))
          clear hcell hne g0 g1 g2 g3 hA RO bX hM hT2
          go_upto_region 14 with (fail)
          clear c0 c1 c2 c3
          generalize (wp.alloc (.cells #[.int .i64 ew, .int .i64 ev, .int .u64 em, .int .u64 0] 96)) = wy at *
          have hne2 : wp.heap.size ≠ gx := by omega
          generalize wp.heap.size = gy at *
          have c0 : wy.cell? ⟨gy, 0, none⟩ = some (.int .i64 ew) := by'.cell 0
          have c1 : wy.cell? ⟨gy, 1, none⟩ = some (.int .i64 ev) := by'.cell 1
          have c2 : wy.cell? ⟨gy, 2, none⟩ = some (.int .u64 em) := by'.cell 2
          have c3 : wy.cell? ⟨gy, 3, none⟩ = some (.int .u64 0) := by'.cell 3
          have k0 : wy.cell? ⟨gx, 0, none⟩ = some (.int .i64 tw) := bw.cell 0
          have k1 : wy.cell? ⟨gx, 1, none⟩ = some (.int .i64 tv) := bw.cell 1
          have k2 : wy.cell? ⟨gx, 2, none⟩ = some (.int .u64 tm) := bw.cell 2
          have k3 : wy.cell? ⟨gx, 3, none⟩ = some (.int .u64 0) := bw.cell 3
          have f0 := bw.free 0
          have f1 := bw.free 1
          have f2 := bw.free 2
          have f3 := bw.free 3
          have BN : Hid (Blk ((((wy.setCell ⟨gx, 0, none⟩ (.int .i64 ew)).setCell ⟨gx, 1, none⟩ (.int .i64 ev)).setCell ⟨gx, 2, none⟩ (.int .u64 em)).setCell ⟨gx, 3, none⟩ (.int .u64 0)) gx 96 #[.int .i64 ew, .int .i64 ev, .int .u64 em, .int .u64 0]) := (((bw.set 0 (.int .i64 ew)).set 1 (.int .i64 ev)).set 2 (.int .u64 em)).set 3 (.int .u64 0)
          have MN : Hid (Mod (fun b => b = gx) wz ((((wy.setCell ⟨gx, 0, none⟩ (.int .i64 ew)).setCell ⟨gx, 1, none⟩ (.int .i64 ev)).setCell ⟨gx, 2, none⟩ (.int .u64 em)).setCell ⟨gx, 3, none⟩ (.int .u64 0))) := (((MO.out.set (p := ⟨gx, 0, none⟩) (.inl rfl) _).set (p := ⟨gx, 1, none⟩) (.inl rfl) _).set (p := ⟨gx, 2, none⟩) (.inl rfl) _).set (p := ⟨gx, 3, none⟩) (.inl rfl) _
          have BO := Lib.hid bw
          clear bw by'
          by_cases hv : tv < ev
          · rw [if_pos hv] at TN
            go_wp2_with (fail)
            go_roundw
            case rel => exact ⟨j + 1, (ew, ev, em), by go_num, by omega, TN, BN, MN⟩
            case measure => simp [intOf]; omega
          · rw [if_neg hv] at TN
            clear BN MN
            go_wp2_with (fail)
            go_roundw
            case rel => exact ⟨j + 1, (tw, tv, tm), by go_num, by omega, TN, BO, MO⟩
            case measure => simp [intOf]; omega
        · obtain rfl : m = j := by omega
          obtain rfl : t = G := by
            have h1 := hT2.out
            rw [List.drop_of_length_le (by have := hm.out; omega)] at h1
            exact h1
          have ME := hG.out.each t GT.out.1
          have OPT : Hid (∀ s, s < 2 ^ n → sumB (atF xw) n s ≤ cap → sumN (atF xv) n t.2.2 ≤ sumN (atF xv) n s) := fun s h1 h2 => by
            obtain ⟨q, q1, q2, q3⟩ := hG.out.dom s h1 h2
            have h3 := GT.out.2 q q1
            have h4 := sums_all (atF xv) s n
            have h5 := sums_all (atF xv) t.2.2 n
            omega
          have XP : Hid (Ext w1 wp) := XZ.out.mod hM.out (fun q h1 e => by omega)
          have Bq := Bi.out.ext XP.out
          have t1 : wp.cell? ⟨w.heap.size, 1, none⟩ = some (.int .i64 n) := Bq.cell 1
          have k2 : wp.cell? ⟨gx, 2, none⟩ = some (.int .u64 t.2.2) := bX.out.cell 2
          have k3 : wp.cell? ⟨gx, 3, none⟩ = some (.int .u64 0) := bX.out.cell 3
          have MB : Hid (t.2.2 < 2 ^ n ∧ sumB (atF xw) n t.2.2 ≤ cap) := ⟨ME.1, by rw [← ME.2.1]; exact ME.2.2.2⟩
          have q4 : ¬ ((m : Int) < (m : Int)) := by omega
          have zxp := bX.out.lt
          generalize t.2.2 = msk at *
          go_upto_region 18 with (at_make; refine wpl_make_i _ rfl _ _ rfl wp.heap.size _ _ n rfl rfl rfl rfl (by omega) (Nat.le_refl _) ?_; rintro w5 o5 g5; replace o5 := Lib.hid o5; replace g5 := Lib.hid g5)
          have x5 := Ext.grow (Ext.rf wp) g5.out (by simp)
          have bA : Blk (w5.alloc (.cells #[.slice (some ⟨wp.heap.size, 0, none⟩) n n] 22)) w5.heap.size 22 #[.slice (some ⟨wp.heap.size, 0, none⟩) n n] := .new rfl
          have x6 : Ext w5 (w5.alloc (.cells #[.slice (some ⟨wp.heap.size, 0, none⟩) n n] 22)) := (Ext.rf _).alloc _
          have zz5 := o5.out.lt _ rfl
          have o6 := Lib.hid (o5.out.ext x6)
          have X6 := Lib.hid (x5.tr x6)
          generalize w5.alloc (.cells #[.slice (some ⟨wp.heap.size, 0, none⟩) n n] 22) = w6 at *
          have l2 := keepEL X6.out zxp k2
          have l3 := keepEL X6.out zxp k3
          obtain ⟨gy, hgy⟩ : ∃ gy, gy = wp.heap.size := ⟨_, rfl⟩
          obtain ⟨ga, hga⟩ : ∃ ga, ga = w5.heap.size := ⟨_, rfl⟩
          rw [← hgy] at o6 bA zz5 zxp ⊢
          rw [← hga] at bA zz5 ⊢
          have zA := bA.lt
          replace bA := Lib.hid bA
          have zi7 : w.heap.size < gy := by
            have := (Bi.out.lt); have := XP.out.size; omega
          have zyx : gx < gy := by omega
          replace hgy := Lib.hid hgy
          clear o5 g5 x5 x6 hga k2 k3
          go_wp2_with (fail)
          refine (all_any msk _).mono ?_
          rintro e w' ⟨rfl, rfl⟩
          go_wp2_with (fail)
          have bB : Blk (w6.alloc (.cells #[.int .u64 msk, .int .u64 0] 94)) w6.heap.size 94 #[.int .u64 msk, .int .u64 0] := .new rfl
          have x7 : Ext w6 (w6.alloc (.cells #[.int .u64 msk, .int .u64 0] 94)) := (Ext.rf _).alloc _
          have hB0 : Ext w (w6.alloc (.cells #[.int .u64 msk, .int .u64 0] 94)) := ((X1.out.tr XP.out).tr X6.out).tr x7
          have b18 : 2 ^ n ≤ 262144 := pow18 (Nat.le_refl n) h18
          have hm64 : msk < 18446744073709551616 := by have := MB.out.1; omega
          have hmn : Hid (∀ x ∈ memsM msk, x < n) := fun x hx => by
            have h1 := (memsM_mem.1 hx).2
            have h3 := MB.out.1
            by_cases h : x < n
            · exact h
            · have := Nat.pow_le_pow_right (n := 2) (by omega) (by omega : n ≤ x)
              rw [Nat.testBit_lt_two_pow (by omega)] at h1
              cases h1
          have h63 : ∀ x ∈ memsM msk, x < 63 := fun x hx => by have := hmn.out x hx; omega
          have hg := tab_low hT
          have b0 : Blk (w6.alloc (.cells #[.int .u64 msk, .int .u64 0] 94)) gy 3 (rowA (mkX n [])) := by
            have h1 := (OwI.blkOf o6.out (by simp)).ext x7
            rw [mkX_nil]
            exact h1
          have bA7 := Lib.hid (bA.out.ext x7)
          have Bi7 := Lib.hid ((Bq.ext X6.out).ext x7)
          have zy6 : gy < w6.heap.size := by omega
          have zy7 : gy ≠ ga := by omega
          generalize hw7 : w6.alloc (.cells #[.int .u64 msk, .int .u64 0] 94) = w7 at *
          have z7 : w7.heap.size = w6.heap.size + 1 := by rw [← hw7]; simp
          clear hw7
          refine (wpIn_wide (n := 3)).1 ?_
          refine wpIn_rangeFunc_ownG rfl (by omega) (gf := 95) (lb := #[.pointer (some ⟨w6.heap.size, 0, none⟩)]) rfl trivial (enters_of Tryd.func95 (by kernel_rfl) rfl)
            (all_stops 2 msk hm64 h63 w6.heap.size w.heap.size _ bB (hT.ext hB0) hB0.size hg) SetKp.tr (setKp_b (cs := #[.int .u64 msk, .int .u64 0]) hB0.size bB) (Below.refl _ _) (fun _ => rfl)
            (fun pre W => Blk W gy 3 (rowA (mkX n (inL pre))) ∧ Held w7 gy W ∧ Below w.heap.size w W)
            (fun _ _ _ => False)
            (OwnFrom.and (ownFrom_blk (by omega) _ _) (OwnFrom.and (ownFrom_held (Nat.le_refl _)) (ownFrom_below (Nat.le_refl _) (by omega))))
            (fun _ _ _ _ _ hs _ _ => hs)
            ⟨by simpa [inL] using b0, ⟨Nat.le_refl _, fun _ _ _ => rfl⟩, hB0⟩
            (fun x => { tmps := #[.agg #[.int .i64 1, .int .i64 n, .int .i64 cap, .slice A n a, .slice B n b, .slice D co.length d], .pointer (some ⟨w.heap.size, 0, none⟩), .slice none 0 0, .int .i64 0, .int .i64 0, .int .i64 0, .slice (some ⟨g, 0, none⟩) m cl, u7, .pointer (some ⟨gx, 0, none⟩), undef, u10, .pointer (some ⟨ga, 0, none⟩), .int .i64 ((x.1 : Nat) : Int), .agg #[.int .i64 1, .int .i64 n, .int .i64 cap, .slice A n a, .slice B n b, .slice D co.length d], .int .i64 0, .int .i64 0, .bool false, undef, .agg #[.int .i64 0, .int .i64 0, .int .u64 0, .int .u64 0], .slice (some ⟨w1.heap.size, 0, none⟩) 1 1, .pointer (some ⟨w.heap.size, 1, none⟩), .int .i64 n, .int .i64 n, .bool false, u24, u25, u26, u27, u28, u29, u30, u31, u32, u33, u34, u35, u36, u37, u38, u39, u40, u41, u42, u43, .slice (some ⟨g, 0, none⟩) m cl, .pointer (some ⟨g, 0, none⟩), .agg #[.int .i64 dw, .int .i64 dv, .int .u64 dm, .int .u64 0], .slice (some ⟨g, 0, none⟩) m cl, .int .i64 m, .int .i64 m, .bool false, u51, u52, u53, u54, u55, u56, u57, u58, u59, .pointer (some ⟨w.heap.size, 1, none⟩), .int .i64 n, .slice (some ⟨gy, 0, none⟩) n n, .pointer (some ⟨gx, 2, none⟩), .agg #[.int .u64 msk, .int .u64 0], .func (.func 95) #[] #[.pointer (some ⟨w6.heap.size, 0, none⟩)], .int .i64 ((x.1 : Nat) : Int), undef, undef, undef, undef, undef, undef, undef, undef, undef], defers := [] }) ?assign ?body ?done ?stop
          case assign =>
            intro l x W K hK
            gi_wp2
            exact hK
          case body =>
            rintro l pre x W ⟨hX, hH, hBW⟩ hlt2
            have hxn := hmn.out x.1 x.2
            have cA : W.cell? ⟨ga, 0, none⟩ = some (.slice (some ⟨gy, 0, none⟩) n n) := (hH.blk bA7.out (by omega)).cell 0
            have cX : W.cell? ⟨gy, x.1, none⟩ = some (.int .i64 (if x.1 ∈ inL pre then 1 else 0)) := by
              rw [hX.cell]
              unfold rowA
              rw [List.getElem?_toArray, List.getElem?_map, mkX_get _ hxn]
              rfl
            have fX := hX.free x.1
            have q5 : ((x.1 : Nat) : Int) < (n : Int) := by omega
            have zW : w6.heap.size + 1 ≤ W.heap.size := by have := hH.1; omega
            have E1 : KeepsFrom w7.heap.size W (W.setCell ⟨gy, x.1, none⟩ (.int .i64 1)) ∧ SetKp w.heap.size w6.heap.size W (W.setCell ⟨gy, x.1, none⟩ (.int .i64 1)) ∧ Blk (W.setCell ⟨gy, x.1, none⟩ (.int .i64 1)) gy 3 (rowA (mkX n (inL (pre ++ [x])))) ∧ Held w7 gy (W.setCell ⟨gy, x.1, none⟩ (.int .i64 1)) ∧ Below w.heap.size w (W.setCell ⟨gy, x.1, none⟩ (.int .i64 1)) := by
              refine ⟨(KeepsOthers.setCell _ _ _).from _, ⟨(Below.refl _ _).setCell (by simp <;> omega) _, Below.heap_setCell W ⟨gy, x.1, none⟩ _ w6.heap.size (by simp; omega)⟩, ?_, hH.setAt _ _, hBW.setCell (by simp <;> omega) _⟩
              rw [inL_snoc, mkX_snoc _ hxn, ← rowA_set]
              exact hX.set x.1 (.int .i64 1)
            replace E1 := Lib.hid E1
            replace hX := Lib.hid hX
            replace hH := Lib.hid hH
            replace hBW := Lib.hid hBW
            gi_wp2
            exact E1.out
          case done =>
            rintro D' ys W hD rfl ⟨hX, hH, hBW⟩ hK
            rw [inL_attach, mkX_mems (by omega)] at hX
            have BiW := hH.blk Bi7.out (by omega)
            have bAW := hH.blk bA7.out (by omega)
            have t0 : W.cell? ⟨w.heap.size, 0, none⟩ = some (.int .i64 1) := BiW.cell 0
            have t1 : W.cell? ⟨w.heap.size, 1, none⟩ = some (.int .i64 n) := BiW.cell 1
            have t2 : W.cell? ⟨w.heap.size, 2, none⟩ = some (.int .i64 cap) := BiW.cell 2
            have t3 : W.cell? ⟨w.heap.size, 3, none⟩ = some (.slice A n a) := BiW.cell 3
            have t4 : W.cell? ⟨w.heap.size, 4, none⟩ = some (.slice B n b) := BiW.cell 4
            have t5 : W.cell? ⟨w.heap.size, 5, none⟩ = some (.slice D co.length d) := BiW.cell 5
            have cA : W.cell? ⟨ga, 0, none⟩ = some (.slice (some ⟨gy, 0, none⟩) n n) := bAW.cell 0
            have RX : RdI W (some ⟨gy, 0, none⟩) (xB msk n) := .blk hX (by unfold rowA; simp)
            replace TO := Lib.hid (TO.out (some ⟨gy, 0, none⟩) n msk W hBW RX MB.out.2)
            go_simp
            go_wp2_with (fail)
            refine TO.out.mono ?_
            rintro e w8 ⟨rfl, x8⟩
            go_wp2_with (fail)
            have zD : w7.heap.size ≤ D' := hD
            have hKD : w8.heap[D']? = some (.deferred (some [])) := (x8.block D' (Array.getElem?_eq_some_iff.1 hK).1).trans hK
            have neD : gy ≠ D' := by omega
            refine ⟨by simp, .inl ⟨_, _, rfl, run_takeDeferred hKD, ?_⟩⟩
            refine ⟨.tuple #[.slice (some ⟨gy, 0, none⟩) n n, .int .i64 (sumN (atF xv) n msk), .int .i64 0], by simp [results, Tryd.results30, go_sem], ?_⟩
            have hz7 := hB0.size
            have hzW := hH.1
            have E8 : Ext w w8 := hBW.trans (x8.mono (by omega))
            exact ⟨some ⟨gy, 0, none⟩, n, msk, rfl, .blk ((World.putObj_heap_other neD).trans (hX.ext x8)) (by unfold rowA; simp), MB.out.1, MB.out.2, Nat.le_refl _, (by simp only [maxLen]; omega), OPT.out, E8.trans (belowK_b (w := w) (Nat.le_refl _) w8 D' _ _ (by omega) hKD rfl rfl)⟩
          case stop =>
            rintro D c pre W _ _ h _
            exact h.elim
theorem knapsack_any (i : InstP) (us : List Value) (n : Nat) (w : World) (H : RInst w us i) (hT : Tab w) (hc : checkP i = 0) (hk : i.kind = 1) (hn : i.n = n) (h18 : n ≤ 18) :
    Calls Tryd.prog 30 #[.agg (List.toArray us)] w (KnapPost i n w) := callsIn_wide.1 (knapsack_in i us n w H hT hc hk hn h18)
end Go.Proofs.YtleckhbmciiooaaDoor
namespace Go.Proofs.YtleckhbmciiooaaDoor

section
variable {n R : Nat} {cst : Nat → Nat → Int} {far M : Int} {has frm : Nat → Nat} {L : List Nat} {a : Nat} {u v least : Nat → Int}
theorem GI.bound (h : GI n cst far R has L a u v least frm) (ho : HasOk n R has) (hRn : R ≤ n) (hf : ∃ c, 1 ≤ c ∧ c ≤ n ∧ has c = 0) (num : ∀ i c, 1 ≤ i → i ≤ n → 1 ≤ c → c ≤ n → 0 ≤ cst i c ∧ cst i c ≤ M) :
    (∀ i, 1 ≤ i → i ≤ n → 0 ≤ u i ∧ u i ≤ M) ∧ ∀ c, 1 ≤ c → c ≤ n → -M ≤ v c ∧ v c ≤ 0 := by
  obtain ⟨c0, k1, k2, k3⟩ := hf
  have hu : ∀ i, 1 ≤ i → i ≤ n → 0 ≤ u i ∧ u i ≤ M := fun i h1 h2 => by
    have a1 := h.slack i c0 h1 h2 k1 k2
    have a2 := h.free c0 k1 k2 k3
    have a3 := (num i c0 h1 h2 k1 k2).2
    have a4 := h.pos i
    omega
  refine ⟨hu, fun c h1 h2 => ?_⟩
  have hM : 0 ≤ M := by
    have := num 1 c0 (by omega) (by omega) k1 k2
    omega
  have a1 := h.neg c h1 h2
  by_cases hc : has c = 0
  · have := h.free c h1 h2 hc
    omega
  · have a2 := h.tight c h1 h2 hc
    have a3 := ho.le c h2
    have a4 := hu (has c) (by omega) (by omega)
    have a5 := num (has c) c (by omega) (by omega) h1 h2
    omega
end
/-- while a way is turned: at the hole nobody stands -/
structure TI (n : Nat) (cst : Nat → Nat → Int) (R : Nat) (u v : Nat → Int) (has : Nat → Nat) (hole : Nat) : Prop where
  all : ∀ i, 1 ≤ i → i ≤ R → ∃ c, c ≤ n ∧ c ≠ hole ∧ has c = i
  inj : ∀ c c', c ≤ n → c' ≤ n → c ≠ hole → c' ≠ hole → has c = has c' → has c ≠ 0 → c = c'
  le : ∀ c, c ≤ n → c ≠ hole → has c ≤ R
  tight : ∀ c, 1 ≤ c → c ≤ n → c ≠ hole → has c ≠ 0 → cst (has c) c = u (has c) + v c
  free : ∀ c, 1 ≤ c → c ≤ n → c ≠ hole → has c = 0 → v c = 0
section
variable {n R : Nat} {cst : Nat → Nat → Int} {far : Int} {has has' hs frm : Nat → Nat} {L : List Nat} {a hole : Nat} {u v least : Nat → Int}
theorem GI.turn (h : GI n cst far R has L a u v least frm) (ho : HasOk n R has) (ha : has a = 0) : TI n cst R u v has a where
  all := fun i h1 h2 => by
    obtain ⟨c, k1, k2⟩ := ho.all i h1 h2
    refine ⟨c, k1, ?_, k2⟩
    rintro rfl
    omega
  inj := fun c c' h1 h2 _ _ => ho.inj c c' h1 h2
  le := fun c h1 _ => ho.le c h1
  tight := fun c h1 h2 _ => h.tight c h1 h2
  free := fun c h1 h2 _ => h.free c h1 h2
/-- the hole goes back by one -/
theorem TI.back {p : Nat} (h : TI n cst R u v hs hole) (hh : hole ≤ n) (hp : p ≤ n) (hne : p ≠ hole) (hp0 : hs p ≠ 0) (ht : cst (hs p) hole = u (hs p) + v hole) (hn : ∀ c, has' c = if c = hole then hs p else hs c) : TI n cst R u v has' p where
  all := fun i h1 h2 => by
    obtain ⟨c, k1, k2, k3⟩ := h.all i h1 h2
    by_cases e : c = p
    · subst e
      exact ⟨hole, hh, fun e => hne e.symm, by rw [hn, if_pos rfl, k3]⟩
    · exact ⟨c, k1, e, by rw [hn, if_neg k2, k3]⟩
  inj := fun c c' h1 h2 h3 h4 e h0 => by
    rw [hn] at e h0
    rw [hn c'] at e
    by_cases e1 : c = hole
    · by_cases e2 : c' = hole
      · rw [e1, e2]
      · rw [if_pos e1, if_neg e2] at e
        exact absurd (h.inj p c' hp h2 hne e2 e hp0).symm h4
    · by_cases e2 : c' = hole
      · rw [if_neg e1, if_pos e2] at e
        rw [if_neg e1] at h0
        exact absurd (h.inj c p h1 hp e1 hne e h0) h3
      · rw [if_neg e1, if_neg e2] at e
        rw [if_neg e1] at h0
        exact h.inj c c' h1 h2 e1 e2 e h0
  le := fun c h1 h2 => by
    rw [hn]
    split
    · exact h.le p hp hne
    · rename_i e
      exact h.le c h1 e
  tight := fun c h1 h2 h3 h4 => by
    rw [hn] at h4 ⊢
    by_cases e : c = hole
    · subst e
      rw [if_pos rfl]
      exact ht
    · rw [if_neg e] at h4 ⊢
      exact h.tight c h1 h2 e h4
  free := fun c h1 h2 h3 h4 => by
    rw [hn] at h4
    by_cases e : c = hole
    · rw [if_pos e] at h4
      exact absurd h4 hp0
    · rw [if_neg e] at h4
      exact h.free c h1 h2 e h4
theorem TI.done (h : TI n cst R u v hs 0) (slack : ∀ i c, 1 ≤ i → i ≤ n → 1 ≤ c → c ≤ n → u i + v c ≤ cst i c) (neg : ∀ c, 1 ≤ c → c ≤ n → v c ≤ 0) (pos : ∀ i, 0 ≤ u i) (fresh : ∀ i, R < i → u i = 0) : HI n cst R u v hs where
  le := fun c h1 h2 => h.le c h2 (by omega)
  all := fun i h1 h2 => by
    obtain ⟨c, k1, k2, k3⟩ := h.all i h1 h2
    exact ⟨c, by omega, k1, k3⟩
  inj := fun c c' h1 h2 h3 h4 => h.inj c c' h2 h4 (by omega) (by omega)
  slack := slack
  tight := fun c h1 h2 => h.tight c h1 h2 (by omega)
  free := fun c h1 h2 => h.free c h1 h2 (by omega)
  neg := neg
  pos := pos
  fresh := fresh
/-- the way back: what is still as it was -/
structure BackI (n : Nat) (has : Nat → Nat) (full : List Nat) (hs : Nat → Nat) (hole : Nat) : Prop where
  path : ∃ A B, full = A ++ hole :: B ∧ ∀ c ∈ A, hs c = has c
theorem GI.back (h : GI n cst far R has L a u v least frm) (ho : HasOk n R has) (hb : BackI n has (L ++ [a]) hs hole) (ht : TI n cst R u v hs hole) (h0 : hole ≠ 0) (hn : ∀ c, has' c = if c = hole then hs (frm hole) else hs c) :
    frm hole ≤ n ∧ TI n cst R u v has' (frm hole) ∧ BackI n has (L ++ [a]) has' (frm hole) ∧ ∃ A B, L ++ [a] = A ++ hole :: B ∧ frm hole ∈ A := by
  obtain ⟨A, B, e, hA⟩ := hb.path
  have hA0 : A ≠ [] := by
    rintro rfl
    have := h.first
    rw [e] at this
    simp at this
    exact h0 this
  obtain ⟨m1, m2⟩ := h.way A B hole e hA0
  have hmem : ∀ c ∈ A ++ hole :: B, c ≤ n := fun c hc => h.le c (by rw [e]; exact hc)
  have hp : frm hole ≤ n := hmem _ (by simp [m1])
  have hnd := h.nodup
  rw [e] at hnd
  have hne : frm hole ≠ hole := fun e2 => (List.nodup_append.1 hnd).2.2 (frm hole) m1 hole (by simp) e2
  have hseen : has (frm hole) ≠ 0 := by
    have hAL : ∀ c ∈ A, c ∈ L := by
      intro c hc
      have h1 : c ∈ L ++ [a] := by rw [e]; simp [hc]
      rcases List.mem_append.1 h1 with h2 | h2
      · exact h2
      · obtain rfl := List.mem_singleton.1 h2
        exfalso
        -- c = a stands last, but A is ahead of something
        rcases List.eq_nil_or_concat B with rfl | ⟨B', b, rfl⟩
        · have e' : L ++ [c] = A ++ [hole] := e
          have := (List.append_inj' e' rfl).2
          have e3 : c = hole := by simpa using this
          exact (List.nodup_append.1 hnd).2.2 c hc hole (by simp) e3
        · rw [List.concat_eq_append] at e hnd
          have e' : L ++ [c] = (A ++ hole :: B') ++ [b] := by simpa using e
          have := (List.append_inj' e' rfl).2
          have e3 : c = b := by simpa using this
          exact (List.nodup_append.1 hnd).2.2 c hc b (by simp) e3
    exact h.seen _ (hAL _ m1)
  have e1 : hs (frm hole) = has (frm hole) := hA _ m1
  refine ⟨hp, ht.back (hmem hole (by simp)) hp hne (by rw [e1]; exact hseen) (by rw [e1]; exact m2) hn, ⟨?_⟩, A, B, e, m1⟩
  obtain ⟨A1, A2, e2⟩ := List.append_of_mem m1
  refine ⟨A1, A2 ++ hole :: B, by rw [e, e2]; simp, fun c hc => ?_⟩
  have hcA : c ∈ A := by rw [e2]; simp [hc]
  rw [hn, if_neg (fun e3 => (List.nodup_append.1 hnd).2.2 c hcA hole (by simp) e3), hA c hcA]
end
theorem costF_tight {F : Nat → Int} : ∀ {rows : List (List Int)} {off : List Int} {q : List Nat}, rows.length = q.length → off.length = q.length → (∀ (k c : Nat) (x : List Int) (o : Int), rows[k]? = some x → off[k]? = some o → q[k]? = some c → x.getD c 0 = o + F c) → costF rows (intsN q) = sumL off + sumL (q.map F)
  | [], off, q, h1, h2, _ => by
    have : q = [] := List.eq_nil_of_length_eq_zero (by simpa using h1.symm)
    subst this
    have : off = [] := List.eq_nil_of_length_eq_zero (by simpa using h2)
    subst this
    simp [sumL, costF, intsN]
  | r :: rows, [], q, h1, h2, _ => by
    exfalso
    simp at h1 h2
    omega
  | r :: rows, o :: off, [], h1, _, _ => by simp at h1
  | r :: rows, o :: off, c :: q, h1, h2, h => by
    have h3 := h 0 c r o rfl rfl rfl
    have ih := costF_tight (F := F) (rows := rows) (off := off) (q := q) (by simpa using h1) (by simpa using h2) fun k c x o a b d => h (k + 1) c x o a b d
    simp only [intsN, List.map_cons, sumL, costF] at ih ⊢
    rw [Int.toNat_natCast]
    omega
/-- at the end: no order costs less -/
theorem hung_min {n : Nat} {rows : List (List Int)} {u v : Nat → Int} {has : Nat → Nat} {x : List Nat} (hr : rows.length = n) (h : HI n (fun i c => (rows.getD (i - 1) []).getD (c - 1) 0) n u v has) (hx : x.length = n) (hxc : ∀ c, 1 ≤ c → c ≤ n → x[has c - 1]? = some (c - 1)) :
    x.Perm (List.range n) ∧ ∀ q : List Nat, q.Perm (List.range n) → costF rows (intsN x) ≤ costF rows (intsN q) := by
  have at' : ∀ i, i < n → ∃ c, 1 ≤ c ∧ c ≤ n ∧ has c = i + 1 ∧ x[i]? = some (c - 1) := fun i hi => by
    obtain ⟨c, k1, k2, k3⟩ := h.all (i + 1) (by omega) (by omega)
    have := hxc c k1 k2
    rw [k3, Nat.add_sub_cancel] at this
    exact ⟨c, k1, k2, k3, this⟩
  have hperm : x.Perm (List.range n) := by
    have hd : x.Nodup := by
      refine List.pairwise_iff_getElem.2 fun i j hi hj hij e => ?_
      obtain ⟨c, k1, k2, k3, k4⟩ := at' i (by omega)
      obtain ⟨d, m1, m2, m3, m4⟩ := at' j (by omega)
      rw [List.getElem?_eq_getElem hi] at k4
      rw [List.getElem?_eq_getElem hj] at m4
      have e1 := Option.some.inj k4
      have e2 := Option.some.inj m4
      have : c = d := by omega
      subst this
      omega
    refine (List.perm_ext_iff_of_nodup hd List.nodup_range).2 fun y => ?_
    rw [List.mem_range]
    constructor
    · intro hy
      obtain ⟨i, hi, rfl⟩ := List.mem_iff_getElem.1 hy
      obtain ⟨c, k1, k2, k3, k4⟩ := at' i (by omega)
      rw [List.getElem?_eq_getElem hi] at k4
      have := Option.some.inj k4
      omega
    · intro hy
      have hne : has (y + 1) ≠ 0 := by
        -- every column has a row: as many rows as columns
        intro e0
        have hl := nodup_le (l := (List.range n).map fun i => x.getD i 0) (n := n) ?_ ?_
        · have hs : y ∈ x := by
            cases hd2 : decide (y ∈ x) with
            | true => exact of_decide_eq_true hd2
            | false =>
              exfalso
              have hny := of_decide_eq_false hd2
              have h2 := nodup_le (l := y :: x) (n := n) (List.nodup_cons.2 ⟨hny, hd⟩) ?_
              · rw [List.length_cons, hx] at h2
                omega
              · intro z hz
                rcases List.mem_cons.1 hz with rfl | hz
                · exact hy
                · obtain ⟨i, hi, rfl⟩ := List.mem_iff_getElem.1 hz
                  obtain ⟨c, k1, k2, k3, k4⟩ := at' i (by omega)
                  rw [List.getElem?_eq_getElem hi] at k4
                  have := Option.some.inj k4
                  omega
          obtain ⟨i, hi, e⟩ := List.mem_iff_getElem.1 hs
          obtain ⟨c, k1, k2, k3, k4⟩ := at' i (by omega)
          rw [List.getElem?_eq_getElem hi, e] at k4
          have := Option.some.inj k4
          have e5 : c = y + 1 := by omega
          subst e5
          omega
        · refine List.pairwise_map.2 (List.Pairwise.imp_of_mem ?_ List.nodup_range)
          intro i j hi hj hij e
          have hi := List.mem_range.1 hi
          have hj := List.mem_range.1 hj
          obtain ⟨c, k1, k2, k3, k4⟩ := at' i hi
          obtain ⟨d, m1, m2, m3, m4⟩ := at' j hj
          rw [getD_some k4, getD_some m4] at e
          have : c = d := by omega
          subst this
          omega
        · intro z hz
          obtain ⟨i, hi, rfl⟩ := List.mem_map.1 hz
          obtain ⟨c, k1, k2, k3, k4⟩ := at' i (List.mem_range.1 hi)
          rw [getD_some k4]
          omega
      have := hxc (y + 1) (by omega) (by omega)
      rw [Nat.add_sub_cancel] at this
      exact List.mem_of_getElem? this
  refine ⟨hperm, fun q hq => ?_⟩
  have hoff : ∀ k, ((List.range n).map fun i => u (i + 1))[k]? = if k < n then some (u (k + 1)) else none := fun k => by
    rw [List.getElem?_map]
    by_cases hk : k < n
    · rw [List.getElem?_range hk, if_pos hk]; rfl
    · rw [List.getElem?_eq_none (by simp; omega), if_neg hk]; rfl
  have hge := costF_ge (F := fun c => v (c + 1)) (rows := rows) (off := (List.range n).map fun i => u (i + 1)) (q := q) (by rw [hr, hq.length_eq, List.length_range]) (by simp [hq.length_eq]) fun k c r o h1 h2 h3 => by
    have hk : k < n := by rw [← hr]; exact (List.getElem?_eq_some_iff.1 h1).1
    rw [hoff, if_pos hk] at h2
    obtain rfl := Option.some.inj h2
    have hc : c < n := List.mem_range.1 (hq.mem_iff.1 (List.mem_of_getElem? h3))
    have := h.slack (k + 1) (c + 1) (by omega) (by omega) (by omega) (by omega)
    simp only [Nat.add_sub_cancel] at this
    rw [show rows.getD k [] = r from getD_some h1] at this
    exact this
  have hle : costF rows (intsN x) = sumL ((List.range n).map fun i => u (i + 1)) + sumL (x.map fun c => v (c + 1)) := by
    refine costF_tight (by rw [hr, hx]) (by simp [hx]) fun k c r o h1 h2 h3 => ?_
    have hk : k < n := by rw [← hr]; exact (List.getElem?_eq_some_iff.1 h1).1
    rw [hoff, if_pos hk] at h2
    obtain rfl := Option.some.inj h2
    obtain ⟨d, k1, k2, k3, k4⟩ := at' k hk
    rw [h3] at k4
    have e : c = d - 1 := Option.some.inj k4
    subst e
    have := h.tight d k1 k2 (by omega)
    rw [k3] at this
    simp only [Nat.add_sub_cancel] at this
    rw [show rows.getD k [] = r from getD_some h1] at this
    rw [show d - 1 + 1 = d by omega]
    exact this
  have e := sumL_perm ((hperm.trans hq.symm).map fun c => v (c + 1))
  omega
end Go.Proofs.YtleckhbmciiooaaDoor
namespace Go.Proofs.YtleckhbmciiooaaDoor

/-- the columns below k have been looked at: sl is what they cost over the row of where one stands -/
structure LookR (n : Nat) (far : Int) (sl : Nat → Int) (S : Nat → Bool) (a : Nat) (least least' : Nat → Int) (frm frm' : Nat → Nat) (k next : Nat) (step : Int) : Prop where
  done : ∀ c, 1 ≤ c → c < k → S c = false → (sl c < least c ∧ least' c = sl c ∧ frm' c = a) ∨ (least c ≤ sl c ∧ least' c = least c ∧ frm' c = frm c)
  keep : ∀ c, c < 1 ∨ k ≤ c ∨ S c = true → least' c = least c ∧ frm' c = frm c
  best : (step = far ∧ next = 0 ∧ ∀ c, 1 ≤ c → c < k → S c = true) ∨ (1 ≤ next ∧ next < k ∧ S next = false ∧ step = least' next ∧ ∀ c, 1 ≤ c → c < k → S c = false → step ≤ least' c)
section
variable {n : Nat} {far : Int} {sl : Nat → Int} {S : Nat → Bool} {a : Nat} {least least' : Nat → Int} {frm frm' : Nat → Nat} {k next : Nat} {step : Int}
theorem LookR.start : LookR n far sl S a least least frm frm 1 0 far :=
  ⟨fun c h1 h2 => by omega, fun _ _ => ⟨rfl, rfl⟩, .inl ⟨rfl, rfl, fun c h1 h2 => by omega⟩⟩
theorem LookR.skip (h : LookR n far sl S a least least' frm frm' k next step) (hs : S k = true) : LookR n far sl S a least least' frm frm' (k + 1) next step := by
  have lt : ∀ c, c < k + 1 → c ≠ k → c < k := fun c h1 h2 => by omega
  refine ⟨fun c h1 h2 h3 => ?_, fun c hc => ?_, ?_⟩
  · refine h.done c h1 (lt c h2 ?_) h3
    rintro rfl
    rw [hs] at h3
    cases h3
  · refine h.keep c ?_
    rcases hc with hc | hc | hc
    · exact .inl hc
    · exact .inr (.inl (by omega))
    · exact .inr (.inr hc)
  · rcases h.best with ⟨b1, b2, b3⟩ | ⟨b1, b2, b3, b4, b5⟩
    · refine .inl ⟨b1, b2, fun c h1 h2 => ?_⟩
      by_cases e : c = k
      · rw [e]; exact hs
      · exact b3 c h1 (lt c h2 e)
    · refine .inr ⟨b1, by omega, b3, b4, fun c h1 h2 h3 => b5 c h1 (lt c h2 ?_) h3⟩
      rintro rfl
      rw [hs] at h3
      cases h3
/-- a column that isn't seen: its least one is what it was, or what it costs now -/
theorem LookR.look {l2 : Nat → Int} {f2 : Nat → Nat} {x : Int} (h : LookR n far sl S a least least' frm frm' k next step) (hs : S k = false) (k1 : 1 ≤ k) (hx : (sl k < least k ∧ x = sl k ∧ f2 k = a) ∨ (least k ≤ sl k ∧ x = least k ∧ f2 k = frm k))
    (hl : ∀ c, l2 c = if c = k then x else least' c) (hf : ∀ c, c ≠ k → f2 c = frm' c) (hfar : x < far) :
    (x < step → LookR n far sl S a least l2 frm f2 (k + 1) k x) ∧ (step ≤ x → LookR n far sl S a least l2 frm f2 (k + 1) next step) := by
  have d : ∀ c, 1 ≤ c → c < k + 1 → S c = false → (sl c < least c ∧ l2 c = sl c ∧ f2 c = a) ∨ (least c ≤ sl c ∧ l2 c = least c ∧ f2 c = frm c) := fun c h1 h2 h3 => by
    by_cases e : c = k
    · subst e
      rw [hl, if_pos rfl]
      exact hx
    · rw [hl, if_neg e, hf c e]
      exact h.done c h1 (by omega) h3
  have kp : ∀ c, c < 1 ∨ k + 1 ≤ c ∨ S c = true → l2 c = least c ∧ f2 c = frm c := fun c hc => by
    have e : c ≠ k := by
      rintro rfl
      rcases hc with hc | hc | hc
      · omega
      · omega
      · rw [hs] at hc
        cases hc
    rw [hl, if_neg e, hf c e]
    refine h.keep c ?_
    rcases hc with hc | hc | hc
    · exact .inl hc
    · exact .inr (.inl (by omega))
    · exact .inr (.inr hc)
  have ek : l2 k = x := by rw [hl, if_pos rfl]
  refine ⟨fun hlt => ⟨d, kp, .inr ⟨k1, by omega, hs, ek.symm, fun c h1 h2 h3 => ?_⟩⟩, fun hle => ⟨d, kp, ?_⟩⟩
  · by_cases e : c = k
    · subst e; omega
    · rw [hl, if_neg e]
      rcases h.best with ⟨b1, b2, b3⟩ | ⟨b1, b2, b3, b4, b5⟩
      · rw [b3 c h1 (by omega)] at h3
        cases h3
      · have := b5 c h1 (by omega) h3
        omega
  · rcases h.best with ⟨b1, b2, b3⟩ | ⟨b1, b2, b3, b4, b5⟩
    · omega
    · refine .inr ⟨b1, by omega, b3, ?_, fun c h1 h2 h3 => ?_⟩
      · rw [hl, if_neg (by omega)]
        exact b4
      · by_cases e : c = k
        · subst e; omega
        · rw [hl, if_neg e]
          exact b5 c h1 (by omega) h3
end
/-- the columns below k have been turned by a step -/
structure TurnR (S : Nat → Bool) (has : Nat → Nat) (step : Int) (u v least u' v' least' : Nat → Int) (k : Nat) : Prop where
  u : ∀ i, u' i = if ∃ s, s < k ∧ S s = true ∧ has s = i then u i + step else u i
  v : ∀ c, 1 ≤ c → v' c = if c < k ∧ S c = true then v c - step else v c
  l : ∀ c, least' c = if c < k ∧ S c = false then least c - step else least c
section
variable {S : Nat → Bool} {has : Nat → Nat} {step : Int} {u v least u' v' least' : Nat → Int} {k : Nat}
theorem TurnR.start : TurnR S has step u v least u v least 0 :=
  ⟨fun i => by rw [if_neg]; rintro ⟨s, h, _⟩; omega, fun c _ => by rw [if_neg (by omega)], fun c => by rw [if_neg (by omega)]⟩
theorem TurnR.seen {v2 : Nat → Int} (h : TurnR S has step u v least u' v' least' k) (hs : S k = true) (inj : ∀ s, s < k → S s = true → has s ≠ has k) (h2 : ∀ c, 1 ≤ c → v2 c = if c = k then v' k - step else v' c) :
    u' (has k) = u (has k) ∧ (1 ≤ k → v' k = v k) ∧ TurnR S has step u v least (fun i => if i = has k then u' (has k) + step else u' i) v2 least' (k + 1) := by
  have e1 : u' (has k) = u (has k) := by
    rw [h.u, if_neg]
    rintro ⟨s, a, b, c⟩
    exact inj s a b c
  refine ⟨e1, fun h1 => by rw [h.v k h1, if_neg (by omega)], ⟨fun i => ?_, fun c hc => ?_, fun c => ?_⟩⟩
  · by_cases e : i = has k
    · rw [if_pos e, e1, if_pos ⟨k, by omega, hs, e.symm⟩, e]
    · rw [if_neg e, h.u]
      by_cases hx : ∃ s, s < k ∧ S s = true ∧ has s = i
      · obtain ⟨s, a, b, c⟩ := hx
        rw [if_pos ⟨s, a, b, c⟩, if_pos ⟨s, by omega, b, c⟩]
      · rw [if_neg hx, if_neg]
        rintro ⟨s, a, b, c⟩
        by_cases e2 : s = k
        · subst e2; exact e c.symm
        · exact hx ⟨s, by omega, b, c⟩
  · rw [h2 c hc]
    by_cases e : c = k
    · subst e
      rw [if_pos rfl, if_pos ⟨by omega, hs⟩, h.v c hc, if_neg (by omega)]
    · rw [if_neg e, h.v c hc]
      by_cases h3 : c < k ∧ S c = true
      · rw [if_pos h3, if_pos ⟨by omega, h3.2⟩]
      · rw [if_neg h3, if_neg]
        rintro ⟨a, b⟩
        exact h3 ⟨by omega, b⟩
  · rw [h.l]
    by_cases e : c = k
    · subst e
      rw [if_neg (by omega), if_neg]
      rintro ⟨_, b⟩
      rw [hs] at b
      cases b
    · by_cases h3 : c < k ∧ S c = false
      · rw [if_pos h3, if_pos ⟨by omega, h3.2⟩]
      · rw [if_neg h3, if_neg]
        rintro ⟨a, b⟩
        exact h3 ⟨by omega, b⟩
theorem TurnR.unseen (h : TurnR S has step u v least u' v' least' k) (hs : S k = false) :
    least' k = least k ∧ TurnR S has step u v least u' v' (fun c => if c = k then least' k - step else least' c) (k + 1) := by
  have e1 : least' k = least k := by rw [h.l, if_neg (by omega)]
  refine ⟨e1, ⟨fun i => ?_, fun c hc => ?_, fun c => ?_⟩⟩
  · rw [h.u]
    by_cases hx : ∃ s, s < k ∧ S s = true ∧ has s = i
    · obtain ⟨s, a, b, c⟩ := hx
      rw [if_pos ⟨s, a, b, c⟩, if_pos ⟨s, by omega, b, c⟩]
    · rw [if_neg hx, if_neg]
      rintro ⟨s, a, b, c⟩
      by_cases e2 : s = k
      · subst e2
        rw [hs] at b
        cases b
      · exact hx ⟨s, by omega, b, c⟩
  · rw [h.v c hc]
    by_cases h3 : c < k ∧ S c = true
    · rw [if_pos h3, if_pos ⟨by omega, h3.2⟩]
    · rw [if_neg h3, if_neg]
      rintro ⟨a, b⟩
      by_cases e : c = k
      · subst e
        rw [hs] at b
        cases b
      · exact h3 ⟨by omega, b⟩
  · by_cases e : c = k
    · subst e
      rw [if_pos rfl, e1, if_pos ⟨by omega, hs⟩]
    · rw [if_neg e, h.l]
      by_cases h3 : c < k ∧ S c = false
      · rw [if_pos h3, if_pos ⟨by omega, h3.2⟩]
      · rw [if_neg h3, if_neg]
        rintro ⟨a, b⟩
        exact h3 ⟨by omega, b⟩
end
/-- how many truth values of a block are false -/
def leftB (w : World) (g : Nat) : Nat := match w.heap[g]? with
  | some (.cells cs _ _) => cs.toList.countP fun v => match v with | .bool b => !b | _ => false
  | _ => 0
theorem ArrB.left {w : World} {g n : Nat} {S : Nat → Bool} (h : ArrB w g n S) : leftB w g = (List.range n).countP fun i => !S i := by
  unfold ArrB Blk at h
  unfold leftB
  rw [h]
  simp only [List.countP_map]
  rfl
theorem countP_less {α : Type} {p q : α → Bool} {a : α} : ∀ {l : List α}, a ∈ l → p a = true → q a = false → (∀ x, q x = true → p x = true) → l.countP q < l.countP p
  | [], h, _, _, _ => by cases h
  | x :: l, h, hp, hq, hs => by
    have hle : l.countP q ≤ l.countP p := List.countP_mono_left fun y _ hy => hs y hy
    rw [List.countP_cons, List.countP_cons]
    rcases List.mem_cons.1 h with rfl | h
    · rw [hp, hq]
      simp
      omega
    · have ih := countP_less h hp hq hs
      have : (if q x = true then 1 else 0) ≤ (if p x = true then 1 else 0) := by
        cases hqx : q x
        · simp
        · rw [hs x hqx]
          simp
      omega
/-- who is seen now wasn't: fewer are left -/
theorem left_less {n a : Nat} {S S' : Nat → Bool} (ha : a < n) (h1 : S a = false) (h2 : ∀ i, S' i = if i = a then true else S i) : ((List.range n).countP fun i => !S' i) < (List.range n).countP fun i => !S i := by
  refine countP_less (a := a) (List.mem_range.2 ha) (by simp [h1]) (by simp [h2]) fun x hx => ?_
  rw [h2] at hx
  split at hx
  · simp at hx
  · exact hx
end Go.Proofs.YtleckhbmciiooaaDoor
namespace Go.Proofs.YtleckhbmciiooaaDoor
open Go.RowKit Go.ChangeShapes Go.WideShapes Go.ChangeAt Go.Deep

/-- the prices' own cells -/
def PB (w : World) (gp : Nat) (D : Option Addr) (d n N gu gv gh gf : Nat) : Prop :=
  Blk w gp 105 #[.slice D n d, .slice (some ⟨gu, 0, none⟩) N N, .slice (some ⟨gv, 0, none⟩) N N, .slice (some ⟨gh, 0, none⟩) N N, .slice (some ⟨gf, 0, none⟩) N N]
set_option maxRecDepth 100000 in
set_option maxHeartbeats 1000000 in
theorem slack_any {w : World} {gp d n N gu gv gh gf : Nat} {D : Option Addr} {rows : List (List Int)} {u v : Nat → Int} (hP : PB w gp D d n N gu gv gh gf) (hu : Arr w gu N u) (hv : Arr w gv N v)
    (hC : RdE 1 RInts w D rows) (rok : RowsOk rows) (hn : rows.length = n) (hN : N = n + 1) {r c : Nat} (r1 : 1 ≤ r) (r2 : r ≤ n) (c1 : 1 ≤ c) (c2 : c ≤ n) (bu : 0 ≤ u r ∧ u r ≤ 2147483647) (bv : -2147483647 ≤ v c ∧ v c ≤ 0) :
    Calls Tryd.prog 98 #[.pointer (some ⟨gp, 0, none⟩), .int .i64 r, .int .i64 c] w fun e w' => e = .returned (.int .i64 (costAt rows (r - 1) (c - 1) - u r - v c)) ∧ Ext w w' := by
  subst hn
  obtain ⟨rp, hrp⟩ : ∃ rp, Hid (r - 1 = rp) := ⟨_, rfl⟩
  obtain ⟨cp, hcp⟩ : ∃ cp, Hid (c - 1 = cp) := ⟨_, rfl⟩
  rw [hrp.out, hcp.out]
  have e1 : (r : Int) - 1 = (rp : Int) := by rw [← hrp.out]; omega
  have e2 : (c : Int) - 1 = (cp : Int) := by rw [← hcp.out]; omega
  have w1 : IntKind.i64.wrap ((r : Int) - 1) = (rp : Int) := by rw [e1]; exact IntWalk.i64_in _ (by have := rok.n2; omega)
  have w2 : IntKind.i64.wrap ((c : Int) - 1) = (cp : Int) := by rw [e2]; exact IntWalk.i64_in _ (by have := rok.n2; omega)
  have z1 : rp < rows.length := by rw [← hrp.out]; omega
  have z2 : cp < rows.length := by rw [← hcp.out]; omega
  obtain ⟨cb, cof, rb, ro, d', rfl, k1, k2⟩ := cost_at rok hC z1 z2
  have bc := ends_num rok rp cp z1 z2
  have ku := hu.cell (k := r) (by omega)
  have kv := hv.cell (k := c) (by omega)
  generalize costAt rows rp cp = x at *
  generalize u r = ur at *
  generalize v c = vc at *
  have p0 : w.cell? ⟨gp, 0, none⟩ = some (.slice (some ⟨cb, cof, none⟩) rows.length d) := hP.cell 0
  have p1 : w.cell? ⟨gp, 1, none⟩ = some (.slice (some ⟨gu, 0, none⟩) N N) := hP.cell 1
  have p2 : w.cell? ⟨gp, 2, none⟩ = some (.slice (some ⟨gv, 0, none⟩) N N) := hP.cell 2
  have w3 : IntKind.i64.wrap (x - ur) = x - ur := IntWalk.i64_in _ (by omega)
  have w4 : IntKind.i64.wrap (x - ur - vc) = x - ur - vc := IntWalk.i64_in _ (by omega)
  have q1 : (r : Int) < (N : Int) := by omega
  have q2 : (c : Int) < (N : Int) := by omega
  have q3 : (rp : Int) < (rows.length : Int) := by omega
  have q4 : (cp : Int) < (rows.length : Int) := by omega
  replace hN := Lib.hid hN
  clear hP hu hv hC rok e1 e2 bu bv bc
  go_enter Tryd.func98, Tryd.ntmps98
  go_wp2_with (fail)
  go_quiet (fail)
  go_wp2_with (fail)
  go_ret
  exact ⟨rfl, by (repeat (first | assumption | exact Ext.rf _ | apply Ext.drew | apply Ext.drewN | apply Ext.alloc))⟩
/-- which blocks a way turns -/
def PS (gu gv gh gf : Nat) (k : Nat) : Prop := k = gu ∨ k = gv ∨ k = gh ∨ k = gf
set_option maxRecDepth 100000 in
set_option maxHeartbeats 1000000 in
theorem turn_any {w : World} {gp d n N R gu gv gh gf : Nat} {D : Option Addr} {cst : Nat → Nat → Int} {far : Int} {has frm : Nat → Nat} {L : List Nat} {a : Nat} {u v least : Nat → Int}
    (hP : PB w gp D d n N gu gv gh gf) (hh : Arr w gh N fun c => (has c : Int)) (hf : Arr w gf N fun c => (frm c : Int)) (hne : gh ≠ gf) (hN : N = n + 1) (hn : n ≤ 1000)
    (hG : GI n cst far R has L a u v least frm) (ho : HasOk n R has) (ha : has a = 0) :
    Calls Tryd.prog 67 #[.pointer (some ⟨gp, 0, none⟩), .int .i64 a] w fun e w' => e = .returned (.tuple #[]) ∧ (∃ hs, Arr w' gh N (fun c => (hs c : Int)) ∧ HI n cst R u v hs) ∧ Mod (fun k => k = gh) w w' := by
  have hgp : gp ≠ gh := fun e => hh.ne hP (by decide) e.symm
  have T0 := hG.turn ho ha
  have B0 : BackI n has (L ++ [a]) has a := ⟨⟨L, [], by simp, fun _ _ => rfl⟩⟩
  have la : a ≤ n := hG.le a (by simp)
  replace hG := Lib.hid hG
  replace ho := Lib.hid ho
  replace T0 := Lib.hid T0
  replace B0 := Lib.hid B0
  replace hP := Lib.hid hP
  replace hh := Lib.hid hh
  replace hf := Lib.hid hf
  replace hN := Lib.hid hN
  clear ha
  go_enter Tryd.func67, Tryd.ntmps67
  go_wp2_with (fail)
  go_loopw [1] (fun v1 wr => ∃ (hole : Nat) (hs : Nat → Nat), v1 = .int .i64 hole ∧ hole ≤ n ∧ Hid (Arr wr gh N (fun c => (hs c : Int)) ∧ TI n cst R u v hs hole ∧ BackI n has (L ++ [a]) hs hole) ∧ Hid (Mod (fun k => k = gh) w wr)) (fun v1 _ => (L ++ [a]).idxOf (intOf v1).toNat)
  case atStart => exact ⟨a, has, rfl, la, ⟨hh.out, T0.out, B0.out⟩, Mod.rf _⟩
  case round =>
    obtain ⟨wo, rfl⟩ : ∃ wo : World, wo = wr := ⟨_, rfl⟩
    obtain ⟨hole, hs, rfl, hle, HH, HM⟩ := hrel
    by_cases h0 : hole = 0
    · subst h0
      go_wp2_with (fail)
      go_end0
      exact ⟨rfl, ⟨hs, HH.out.1, HH.out.2.1.done hG.out.slack hG.out.neg hG.out.pos hG.out.fresh⟩, HM.out⟩
    · obtain ⟨HA, HT, HB⟩ := HH.out
      obtain ⟨f1, f2, f3, A, B, f4, f5⟩ := hG.out.back ho.out HB HT h0 (has' := fun c => if c = hole then hs (frm hole) else hs c) (fun c => rfl)
      have hP1 : PB wo gp D d n N gu gv gh gf := hP.out.mod HM.out hgp
      have hF1 := hf.out.mod HM.out (fun e => hne e.symm)
      have kf := hF1.cell (k := hole) (by have := hN.out; omega)
      have kh := HA.cell (k := frm hole) (by have := hN.out; omega)
      have fh := HA.free hole
      have S1 := HA.set hole (hs (frm hole) : Int)
      have p3 : wo.cell? ⟨gp, 3, none⟩ = some (.slice (some ⟨gh, 0, none⟩) N N) := hP1.cell 3
      have p4 : wo.cell? ⟨gp, 4, none⟩ = some (.slice (some ⟨gf, 0, none⟩) N N) := hP1.cell 4
      have kh0 := HA.cell (k := hole) (by have := hN.out; omega)
      have S1' : Arr (wo.setCell ⟨gh, hole, none⟩ (.int .i64 (hs (frm hole)))) gh N (fun c => ((if c = hole then hs (frm hole) else hs c : Nat) : Int)) := S1.congr fun i _ => by split <;> rfl
      have FIN := Lib.hid (And.intro S1' (And.intro f2 f3))
      have MM : Hid (Mod (fun k => k = gh) w (wo.setCell ⟨gh, hole, none⟩ (.int .i64 (hs (frm hole))))) := HM.out.set (p := ⟨gh, hole, none⟩) (.inl rfl) _
      have ML : Hid ((L ++ [a]).idxOf (frm hole) < (L ++ [a]).idxOf hole) := by
        have nd := hG.out.nodup
        have h : (L ++ [a]).idxOf (frm hole) < (L ++ [a]).idxOf hole := by
          rw [f4] at nd ⊢
          have h1 : hole ∉ A := fun hm => (List.nodup_append.1 nd).2.2 hole hm hole (by simp) rfl
          rw [List.idxOf_append, if_pos f5, List.idxOf_append, if_neg h1]
          have := List.idxOf_lt_length_of_mem f5
          omega
        exact h
      have q0 : ((hole : Int) != 0) = true := by simp; omega
      have q1 : (hole : Int) < (N : Int) := by have := hN.out; omega
      have q2 : ((frm hole : Nat) : Int) < (N : Int) := by have := hN.out; omega
      clear HA HT HB hF1 hP1 S1 S1' f2 f3 f4 f5 HH HM
      replace f1 := Lib.hid f1
      generalize frm hole = p at *
      generalize hs p = x at *
      go_wp2_with (fail)
      refine wp_region_any (by kernel_rfl) ?_
      change wpAny _ _ _ _ _ _ _ (World.drew _)
      refine wpAny_T (i := 0) (op := Op.move (Operand.tmp 0)) (t := 103) (d := some 14) (v := ?_) rfl (by decide +kernel) (by decide +kernel) (by decide +kernel) (fun _ _ _ h => h) ?_ ?_
      case refine_2 => (intro _; unfold exec2; go_simp; try with_reducible rfl)
      try simp only [Act.put, List.setIfInBounds_toArray, List.set_cons_zero, List.set_cons_succ]
      refine wpAny_T (i := 1) (op := Op.nilCheck (Operand.tmp 14)) (t := 0) (d := some 15) (v := ?_) rfl (by decide +kernel) (by decide +kernel) (by decide +kernel) (fun _ _ _ h => h) ?_ ?_
      case refine_2 => (intro _; unfold exec2; go_simp; try with_reducible rfl)
      try simp only [Act.put, List.setIfInBounds_toArray, List.set_cons_zero, List.set_cons_succ]
      refine wpAny_T (i := 2) (op := Op.fieldAddr 105 (Operand.tmp 15) 3) (t := 0) (d := some 16) (v := ?_) rfl (by decide +kernel) (by decide +kernel) (by decide +kernel) (fun _ _ _ h => h) ?_ ?_
      case refine_2 => (intro _; unfold exec2; go_simp; try with_reducible rfl)
      try simp only [Act.put, List.setIfInBounds_toArray, List.set_cons_zero, List.set_cons_succ]
      refine wpAny_T (i := 4) (op := Op.move (Operand.tmp 1)) (t := 3) (d := some 18) (v := ?_) rfl (by decide +kernel) (by decide +kernel) (by decide +kernel) (fun _ _ _ h => h) ?_ ?_
      case refine_2 => (intro _; unfold exec2; go_simp; try with_reducible rfl)
      try simp only [Act.put, List.setIfInBounds_toArray, List.set_cons_zero, List.set_cons_succ]
      refine wpAny_T (i := 5) (op := Op.move (Operand.tmp 0)) (t := 103) (d := some 19) (v := ?_) rfl (by decide +kernel) (by decide +kernel) (by decide +kernel) (fun _ _ _ h => h) ?_ ?_
      case refine_2 => (intro _; unfold exec2; go_simp; try with_reducible rfl)
      try simp only [Act.put, List.setIfInBounds_toArray, List.set_cons_zero, List.set_cons_succ]
      refine wpAny_T (i := 6) (op := Op.nilCheck (Operand.tmp 19)) (t := 0) (d := some 20) (v := ?_) rfl (by decide +kernel) (by decide +kernel) (by decide +kernel) (fun _ _ _ h => h) ?_ ?_
      case refine_2 => (intro _; unfold exec2; go_simp; try with_reducible rfl)
      try simp only [Act.put, List.setIfInBounds_toArray, List.set_cons_zero, List.set_cons_succ]
      refine wpAny_T (i := 7) (op := Op.fieldAddr 105 (Operand.tmp 20) 3) (t := 0) (d := some 21) (v := ?_) rfl (by decide +kernel) (by decide +kernel) (by decide +kernel) (fun _ _ _ h => h) ?_ ?_
      case refine_2 => (intro _; unfold exec2; go_simp; try with_reducible rfl)
      try simp only [Act.put, List.setIfInBounds_toArray, List.set_cons_zero, List.set_cons_succ]
      refine wpAny_T (i := 9) (op := Op.move (Operand.tmp 4)) (t := 3) (d := some 23) (v := ?_) rfl (by decide +kernel) (by decide +kernel) (by decide +kernel) (fun _ _ _ h => h) ?_ ?_
      case refine_2 => (intro _; unfold exec2; go_simp; try with_reducible rfl)
      try simp only [Act.put, List.setIfInBounds_toArray, List.set_cons_zero, List.set_cons_succ]
      refine wpAny_reads (n := 2) [(3, some 17), (8, some 22), (10, some 24), (11, some 25)] (fun | 3 => .slice (some ⟨gh, 0, none⟩) N N | 8 => .slice (some ⟨gh, 0, none⟩) N N | 10 => .pointer (some ⟨gh, p, none⟩) | 11 => .int .i64 x | _ => undef) #[true, true, true, true, true, true, true, true, true, true, true, true, false, false] (by decide +kernel) ?_ ?_
      · intro pS hpm uS hD K hK
        simp only [List.mem_cons, List.not_mem_nil, or_false] at hpm
        rcases hpm with rfl | rfl | rfl | rfl
        · exact op_ld (T := 22) (x := Operand.tmp 16) (t := 22) (d := some 17) rfl (.pointer (some ⟨gp, 3, none⟩)) (by kernel_rfl) (.slice (some ⟨gh, 0, none⟩) N N) (by go_simp) hK
        · exact op_ld (T := 22) (x := Operand.tmp 21) (t := 22) (d := some 22) rfl (.pointer (some ⟨gp, 3, none⟩)) (by kernel_rfl) (.slice (some ⟨gh, 0, none⟩) N N) (by go_simp) hK
        · exact op_ix (T := 22) (x := Operand.tmp 22) (y := Operand.tmp 23) (t := 0) (d := some 24) rfl (.slice (some ⟨gh, 0, none⟩) N N) (.int .i64 p) (Eq.trans (b := uS 8) (by kernel_rfl) (hD 8 (depIn (by kernel_rfl)))) (by kernel_rfl) (.pointer (some ⟨gh, p, none⟩)) (by go_simp) hK
        · exact op_ld (T := 3) (x := Operand.tmp 24) (t := 3) (d := some 25) rfl (.pointer (some ⟨gh, p, none⟩)) (Eq.trans (b := uS 10) (by kernel_rfl) (hD 10 (depIn (by kernel_rfl)))) (.int .i64 x) (by go_simp) hK
      simp only [putAll, Act.put, List.setIfInBounds_toArray, List.set_cons_zero, List.set_cons_succ]
      refine wpAny_T (i := 12) (op := Op.indexAddr 22 (Operand.tmp 17) (Operand.tmp 18)) (t := 0) (d := some 26) (v := ?_) rfl (by decide +kernel) (by decide +kernel) (by decide +kernel) (fun _ _ _ h => h) ?_ ?_
      case refine_2 => (intro _; unfold exec2; go_simp; try with_reducible rfl)
      try simp only [Act.put, List.setIfInBounds_toArray, List.set_cons_zero, List.set_cons_succ]
      refine wpAny_next 13 (by decide +kernel) (op_st rfl (.pointer (some ⟨gh, hole, none⟩)) (.int .i64 x) (by kernel_rfl) (by kernel_rfl) (by go_simp; rfl) ?_)
      refine wpAny_done (by kernel_rfl) ?_ _
      clear kf kh kh0 fh p3 p4
      generalize wo.setCell ⟨gh, hole, none⟩ (.int .i64 x) = w4 at *
      go_wp2_with (fail)
      go_roundw
      case rel => exact ⟨p, _, rfl, f1.out, ⟨FIN.out.1.ext ((Ext.rf _).drew), FIN.out.2.1, FIN.out.2.2⟩, MM.out.drew⟩
      case measure => exact ML.out
end Go.Proofs.YtleckhbmciiooaaDoor
namespace Go.Proofs.YtleckhbmciiooaaDoor
open Go.RowKit Go.ChangeShapes Go.WideShapes Go.ChangeAt Go.Deep

def cstR (rows : List (List Int)) (i c : Nat) : Int := costAt rows (i - 1) (c - 1)
abbrev farV : Int := 1152921504606846976
/-- all rows of a growing way -/
structure GrowS (w wr : World) (gu gv gh gf gl gs N : Nat) (has : Nat → Nat) (u v least : Nat → Int) (frm : Nat → Nat) (S : Nat → Bool) : Prop where
  u : Arr wr gu N u
  v : Arr wr gv N v
  h : Arr wr gh N fun c => (has c : Int)
  f : Arr wr gf N fun c => (frm c : Int)
  l : Arr wr gl N least
  s : ArrB wr gs N S
  m : Mod (PS gu gv gh gf) w wr
def ApartH (w : World) (gu gv gh gf gl gs : Nat) : Prop := [gu, gv, gh, gf, gl, gs].Nodup ∧ w.heap.size ≤ gl ∧ w.heap.size ≤ gs
section
variable {w wr w' : World} {gu gv gh gf gl gs N : Nat} {has : Nat → Nat} {u v least : Nat → Int} {frm : Nat → Nat} {S : Nat → Bool}
theorem GrowS.ext (h : GrowS w wr gu gv gh gf gl gs N has u v least frm S) (x : Ext wr w') : GrowS w w' gu gv gh gf gl gs N has u v least frm S :=
  ⟨h.u.ext x, h.v.ext x, h.h.ext x, h.f.ext x, h.l.ext x, h.s.ext x, h.m.ext x⟩
theorem ApartH.ne (h : ApartH w gu gv gh gf gl gs) : (gu ≠ gv ∧ gu ≠ gh ∧ gu ≠ gf ∧ gu ≠ gl ∧ gu ≠ gs) ∧ (gv ≠ gh ∧ gv ≠ gf ∧ gv ≠ gl ∧ gv ≠ gs) ∧ (gh ≠ gf ∧ gh ≠ gl ∧ gh ≠ gs) ∧ (gf ≠ gl ∧ gf ≠ gs) ∧ gl ≠ gs := by
  have := h.1
  simp only [List.nodup_cons, List.mem_cons, List.not_mem_nil, or_false, not_or] at this
  obtain ⟨⟨a1, a2, a3, a4, a5⟩, ⟨b1, b2, b3, b4⟩, ⟨c1, c2, c3⟩, ⟨d1, d2⟩, e1, -⟩ := this
  exact ⟨⟨a1, a2, a3, a4, a5⟩, ⟨b1, b2, b3, b4⟩, ⟨c1, c2, c3⟩, ⟨d1, d2⟩, e1⟩
theorem GrowS.setU (h : GrowS w wr gu gv gh gf gl gs N has u v least frm S) (d : ApartH w gu gv gh gf gl gs) (k : Nat) (x : Int) : GrowS w (wr.setCell ⟨gu, k, none⟩ (.int .i64 x)) gu gv gh gf gl gs N has (fun i => if i = k then x else u i) v least frm S := by
  obtain ⟨⟨a1, a2, a3, a4, a5⟩, ⟨b1, b2, b3, b4⟩, ⟨c1, c2, c3⟩, ⟨d1, d2⟩, e1⟩ := d.ne
  exact ⟨h.u.set k x, h.v.far a1.symm _, h.h.far a2.symm _, h.f.far a3.symm _, h.l.far a4.symm _, h.s.far a5.symm _, h.m.set (p := ⟨gu, k, none⟩) (.inl (.inl rfl)) _⟩
theorem GrowS.setV (h : GrowS w wr gu gv gh gf gl gs N has u v least frm S) (d : ApartH w gu gv gh gf gl gs) (k : Nat) (x : Int) : GrowS w (wr.setCell ⟨gv, k, none⟩ (.int .i64 x)) gu gv gh gf gl gs N has u (fun i => if i = k then x else v i) least frm S := by
  obtain ⟨⟨a1, a2, a3, a4, a5⟩, ⟨b1, b2, b3, b4⟩, ⟨c1, c2, c3⟩, ⟨d1, d2⟩, e1⟩ := d.ne
  exact ⟨h.u.far a1 _, h.v.set k x, h.h.far b1.symm _, h.f.far b2.symm _, h.l.far b3.symm _, h.s.far b4.symm _, h.m.set (p := ⟨gv, k, none⟩) (.inl (.inr (.inl rfl))) _⟩
theorem GrowS.setF (h : GrowS w wr gu gv gh gf gl gs N has u v least frm S) (d : ApartH w gu gv gh gf gl gs) (k : Nat) (x : Nat) : GrowS w (wr.setCell ⟨gf, k, none⟩ (.int .i64 x)) gu gv gh gf gl gs N has u v least (fun i => if i = k then x else frm i) S := by
  obtain ⟨⟨a1, a2, a3, a4, a5⟩, ⟨b1, b2, b3, b4⟩, ⟨c1, c2, c3⟩, ⟨d1, d2⟩, e1⟩ := d.ne
  exact ⟨h.u.far a3 _, h.v.far b2 _, h.h.far c1 _, (h.f.set k x).congr fun i _ => by split <;> rfl, h.l.far d1.symm _, h.s.far d2.symm _, h.m.set (p := ⟨gf, k, none⟩) (.inl (.inr (.inr (.inr rfl)))) _⟩
theorem GrowS.setL (h : GrowS w wr gu gv gh gf gl gs N has u v least frm S) (d : ApartH w gu gv gh gf gl gs) (k : Nat) (x : Int) : GrowS w (wr.setCell ⟨gl, k, none⟩ (.int .i64 x)) gu gv gh gf gl gs N has u v (fun i => if i = k then x else least i) frm S := by
  obtain ⟨⟨a1, a2, a3, a4, a5⟩, ⟨b1, b2, b3, b4⟩, ⟨c1, c2, c3⟩, ⟨d1, d2⟩, e1⟩ := d.ne
  exact ⟨h.u.far a4 _, h.v.far b3 _, h.h.far c2 _, h.f.far d1 _, h.l.set k x, h.s.far e1.symm _, h.m.set (p := ⟨gl, k, none⟩) (.inr d.2.1) _⟩
theorem GrowS.setS (h : GrowS w wr gu gv gh gf gl gs N has u v least frm S) (d : ApartH w gu gv gh gf gl gs) (k : Nat) (x : Bool) : GrowS w (wr.setCell ⟨gs, k, none⟩ (.bool x)) gu gv gh gf gl gs N has u v least frm (fun i => if i = k then x else S i) := by
  obtain ⟨⟨a1, a2, a3, a4, a5⟩, ⟨b1, b2, b3, b4⟩, ⟨c1, c2, c3⟩, ⟨d1, d2⟩, e1⟩ := d.ne
  exact ⟨h.u.far a5 _, h.v.far b4 _, h.h.far c3 _, h.f.far d2 _, h.l.far e1 _, h.s.set k x, h.m.set (p := ⟨gs, k, none⟩) (.inr d.2.2) _⟩
theorem GrowS.congL {l2 : Nat → Int} (h : GrowS w wr gu gv gh gf gl gs N has u v least frm S) (e : ∀ i, i < N → least i = l2 i) : GrowS w wr gu gv gh gf gl gs N has u v l2 frm S :=
  ⟨h.u, h.v, h.h, h.f, h.l.congr e, h.s, h.m⟩
end
/-- what a way that has grown is -/
def GrowPost (n N R gu gv gh gf : Nat) (cst : Nat → Nat → Int) (w : World) (e : Ending) (w' : World) : Prop :=
  ∃ (a : Nat) (L : List Nat) (u v least : Nat → Int) (has frm : Nat → Nat), e = .returned (.int .i64 a) ∧ has a = 0 ∧ Arr w' gu N u ∧ Arr w' gv N v ∧ Arr w' gh N (fun c => (has c : Int)) ∧ Arr w' gf N (fun c => (frm c : Int)) ∧ GI n cst farV R has L a u v least frm ∧ HasOk n R has ∧ Mod (PS gu gv gh gf) w w'
theorem near_bd {n R : Nat} {cst : Nat → Nat → Int} {has frm frm' : Nat → Nat} {L : List Nat} {a : Nat} {u v least least' : Nat → Int} {c : Nat} (h : GI n cst farV R has L a u v least frm) (ho : HasOk n R has) (hRn : R ≤ n) (ha : has a ≠ 0)
    (num : ∀ i c, 1 ≤ i → i ≤ n → 1 ≤ c → c ≤ n → 0 ≤ cst i c ∧ cst i c ≤ 2147483647) (bu : ∀ i, 1 ≤ i → i ≤ n → 0 ≤ u i ∧ u i ≤ 2147483647) (bv : ∀ c, 1 ≤ c → c ≤ n → -2147483647 ≤ v c ∧ v c ≤ 0) (c1 : 1 ≤ c) (c2 : c ≤ n) (hc : c ∉ L ++ [a])
    (k1 : (cst (has a) c - u (has a) - v c < least c ∧ least' c = cst (has a) c - u (has a) - v c ∧ frm' c = a) ∨ (least c ≤ cst (has a) c - u (has a) - v c ∧ least' c = least c ∧ frm' c = frm c)) : 0 ≤ least' c ∧ least' c ≤ 4294967294 := by
  have la := h.le a (by simp)
  have h1 := ho.le a la
  have s1 := h.slack (has a) c (by omega) (by omega) c1 c2
  have b1 := num (has a) c (by omega) (by omega) c1 c2
  have b2 := bu (has a) (by omega) (by omega)
  have b3 := bv c c1 c2
  rcases k1 with ⟨_, e, _⟩ | ⟨k, e, _⟩
  · omega
  · by_cases hL : L = []
    · have := h.far0 hL c c1 c2
      have e2 : farV = 1152921504606846976 := rfl
      omega
    · have hcL : c ∉ L := fun hm => hc (List.mem_append_left _ hm)
      obtain ⟨m1, m2⟩ := h.least2 hL c c1 c2 hcL
      have l2 := h.le (frm c) (List.mem_append_left _ m1)
      have h2 := ho.le (frm c) l2
      have h3 := h.seen _ m1
      have s2 := h.slack (has (frm c)) c (by omega) (by omega) c1 c2
      omega
end Go.Proofs.YtleckhbmciiooaaDoor
namespace Go.Proofs.YtleckhbmciiooaaDoor
open Go.RowKit Go.ChangeShapes Go.WideShapes Go.ChangeAt Go.Deep

set_option maxRecDepth 100000 in
set_option maxHeartbeats 4000000 in
theorem grow_any {wb w : World} {gp d n N r R gu gv gh gf : Nat} {D : Option Addr} {rows : List (List Int)} {u v : Nat → Int} {has frm : Nat → Nat}
    (hP : PB w gp D d n N gu gv gh gf) (hu : Arr w gu N u) (hv : Arr w gv N v) (hh : Arr w gh N fun c => (has c : Int)) (hf : Arr w gf N fun c => (frm c : Int)) (hd : [gu, gv, gh, gf].Nodup)
    (hC : RdE 1 RInts wb D rows) (hx : Ext wb w) (hb : ∀ k, k < wb.heap.size → ¬ PS gu gv gh gf k) (rok : RowsOk rows) (hn : rows.length = n) (hN : N = n + 1) (hI : HI n (cstR rows) r u v has) (hr : r < n) (hR : R = r + 1) :
    Calls Tryd.prog 68 #[.pointer (some ⟨gp, 0, none⟩), .int .i64 R] w (GrowPost n N R gu gv gh gf (cstR rows) w) := by
  have num : ∀ i c, 1 ≤ i → i ≤ n → 1 ≤ c → c ≤ n → 0 ≤ cstR rows i c ∧ cstR rows i c ≤ 2147483647 := fun i c h1 h2 h3 h4 => ends_num rok (i - 1) (c - 1) (by omega) (by omega)
  have n24 : n ≤ 24 := by rw [← hn]; exact rok.n2
  have SL := fun (W : World) (u v : Nat → Int) (hp : PB W gp D d n N gu gv gh gf) (a1 : Arr W gu N u) (a2 : Arr W gv N v) (x : Ext wb W) (i c : Nat) (i1 : 1 ≤ i) (i2 : i ≤ n) (c1 : 1 ≤ c) (c2 : c ≤ n) (bu : 0 ≤ u i ∧ u i ≤ 2147483647) (bv : -2147483647 ≤ v c ∧ v c ≤ 0) =>
    slack_any hp a1 a2 (hC.ext x fun _ _ h => h.ext x) rok hn hN i1 i2 c1 c2 bu bv
  have XM := fun (W : World) (m : Mod (PS gu gv gh gf) w W) => hx.mod m hb
  have gpn : ¬ PS gu gv gh gf gp := by
    rintro (h | h | h | h)
    · exact hu.ne hP (by decide) h.symm
    · exact hv.ne hP (by decide) h.symm
    · exact hh.ne hP (by decide) h.symm
    · exact hf.ne hP (by decide) h.symm
  have PM := fun (W : World) (m : Mod (PS gu gv gh gf) w W) => (show PB W gp D d n N gu gv gh gf from hP.mod m gpn)
  have h0 : (fun c => if c = 0 then R else has c) 0 = R := rfl
  obtain ⟨hs, hhs⟩ : ∃ hs : Nat → Nat, hs = fun c => if c = 0 then R else has c := ⟨_, rfl⟩
  have hs0 : hs 0 = R := by rw [hhs]; rfl
  have hs1 : ∀ c, 1 ≤ c → hs c = has c := fun c hc => by rw [hhs]; simp only; rw [if_neg (by omega)]
  have HO : HasOk n R hs := by rw [hR]; exact hI.hasOk (by rw [hs0, hR]) hs1
  obtain ⟨cf, cf1, cf2, cf3⟩ := hI.some_free hr
  have HF : ∃ c, 1 ≤ c ∧ c ≤ n ∧ hs c = 0 := ⟨cf, cf1, cf2, by rw [hs1 cf cf1]; exact cf3⟩
  have HG := fun (least : Nat → Int) (frm : Nat → Nat) (e : ∀ c, 1 ≤ c → c ≤ n → least c = farV) => (show GI n (cstR rows) farV R hs [] 0 u v least frm by rw [hR]; exact hI.grow hs1 e)
  have hRn : R ≤ n := by omega
  have MU := And.intro hd (And.intro hu.lt (And.intro hv.lt (And.intro hh.lt hf.lt)))
  have p0 : w.cell? ⟨gp, 0, none⟩ = some (.slice D n d) := hP.cell 0
  have p3 : w.cell? ⟨gp, 3, none⟩ = some (.slice (some ⟨gh, 0, none⟩) N N) := hP.cell 3
  have f0 := hh.free 0
  have k0 := hh.cell (k := 0) (by omega)
  have A1 := hh.set 0 (R : Int)
  have A1' : Arr (w.setCell ⟨gh, 0, none⟩ (.int .i64 R)) gh N (fun c => (hs c : Int)) := A1.congr fun i _ => by rw [hhs]; simp only; split <;> rfl
  have hne : gu ≠ gh ∧ gv ≠ gh ∧ gf ≠ gh := by
    simp only [List.nodup_cons, List.mem_cons, List.not_mem_nil, or_false, not_or] at hd
    exact ⟨hd.1.2.1, hd.2.1.1, fun e => hd.2.2.1 e.symm⟩
  have AA := And.intro A1' (And.intro (hu.far (a := ⟨gh, 0, none⟩) hne.1 (.int .i64 R)) (And.intro (hv.far (a := ⟨gh, 0, none⟩) hne.2.1 (.int .i64 R)) (And.intro (hf.far (a := ⟨gh, 0, none⟩) hne.2.2 (.int .i64 R)) ((Mod.rf (S := PS gu gv gh gf) w).set (p := ⟨gh, 0, none⟩) (.inl (.inr (.inr (.inl rfl)))) (.int .i64 R)))))
  have z0 : (0 : Int) < (N : Int) := by omega
  have e1 : (n : Int) + 1 = (N : Int) := by omega
  have w1 : IntKind.i64.wrap ((n : Int) + 1) = (N : Int) := by rw [e1]; exact IntWalk.i64_in _ (by omega)
  have szw : (w.setCell ⟨gh, 0, none⟩ (.int .i64 R)).heap.size = w.heap.size := by simp [World.setCell]
  have n24N : N ≤ 25 := by omega
  replace AA := Lib.hid AA
  replace SL := Lib.hid SL
  replace XM := Lib.hid XM
  replace PM := Lib.hid PM
  replace HO := Lib.hid HO
  replace HF := Lib.hid HF
  replace HG := Lib.hid HG
  replace hRn := Lib.hid hRn
  replace MU := Lib.hid MU
  replace num := Lib.hid num
  replace hN := Lib.hid hN
  replace hs0 := Lib.hid hs0
  replace szw := Lib.hid szw
  clear hP hu hv hh hf hd hC hx hb rok hn hI hr hR hhs hs1 h0 A1 A1' hne cf cf1 cf2 cf3
  go_enter Tryd.func68, Tryd.ntmps68
  go_upto_region 3 with (fail)
  generalize w.setCell ⟨gh, 0, none⟩ (.int .i64 R) = w1 at *
  clear p0 p3 f0 k0
  go_wp2_with (first
    | (at_make; refine wpl_make_i _ rfl _ _ rfl w1.heap.size _ _ N rfl rfl (by first | rfl | exact e1) (by first | rfl | exact e1) (by omega) (Nat.le_refl _) ?_; rintro w2 o2 g2; replace o2 := Lib.hid o2; replace g2 := Lib.hid g2)
    | (at_make; refine wpl_make_b _ rfl _ _ rfl _ _ N rfl rfl (by first | rfl | exact e1) (by first | rfl | exact e1) (by omega) ?_; rintro w3 a3 g3; replace a3 := Lib.hid a3; replace g3 := Lib.hid g3))
  replace g3 := g3.out
  replace a3 := a3.out
  have a2 := Lib.hid (Arr.of_own o2.out)
  have x2 := Lib.hid ((Ext.rf w1).grownNone g2.out)
  clear o2 g2
  have x3 := (Ext.rf w2).grownNone g3
  obtain ⟨m1, m2, m3, m4, m5⟩ := AA.out
  have z12 := a2.out.lt
  have x13 := x2.out.tr x3
  have AP : ApartH w gu gv gh gf w1.heap.size w2.heap.size := by
    obtain ⟨q1, q2, q3, q4, q5⟩ := MU.out
    have q6 := szw.out
    refine ⟨?_, by omega, by have := x2.out.size; omega⟩
    simp only [List.nodup_cons, List.mem_cons, List.not_mem_nil, or_false, not_or, not_false_eq_true, List.nodup_nil, and_true] at q1 ⊢
    omega
  have GS : Hid (GrowS w w3 gu gv gh gf w1.heap.size w2.heap.size N hs u v (fun c => if c < 0 then farV else 0) frm (fun _ => false)) :=
    ⟨m2.ext x13, m3.ext x13, m1.ext x13, m4.ext x13, (a2.out.ext x3).congr fun i _ => by rw [if_neg (by omega)], a3, m5.ext x13⟩
  generalize w1.heap.size = gl at *
  generalize w2.heap.size = gs at *
  replace AP := Lib.hid AP
  clear m1 m2 m3 m4 m5 z12 x13 x3 x2 a2 a3 g3 AA szw MU
  clear w1 w2
  go_wp2_with (fail)
  go_loopw [35] (fun i wr => ∃ (k : Nat), i = .int .i64 k ∧ k ≤ N ∧ Hid (GrowS w wr gu gv gh gf gl gs N hs u v (fun c => if c < k then farV else 0) frm (fun _ => false))) (fun i _ => N - (intOf i).toNat)
  case atStart => exact ⟨0, rfl, by omega, GS⟩
  case round =>
    obtain ⟨wo, rfl⟩ : ∃ wo : World, wo = wr := ⟨_, rfl⟩
    obtain ⟨k, rfl, hk, HS⟩ := hrel
    clear GS
    by_cases hlt : k < N
    · have kl := HS.out.l.cell hlt
      have fl := HS.out.l.free k
      have q1 : (k : Int) < (N : Int) := by omega
      have F1 := Lib.hid ((HS.out.setL AP.out k farV).congL (l2 := fun c => if c < k + 1 then farV else 0) fun i _ => by
        by_cases e : i = k
        · rw [if_pos e, if_pos (by omega)]
        · rw [if_neg e]
          by_cases e2 : i < k
          · rw [if_pos e2, if_pos (by omega)]
          · rw [if_neg e2, if_neg (by omega)])
      go_wp2_with (fail)
      go_roundw
      case rel => exact ⟨k + 1, by go_num, by omega, F1⟩
      case measure => simp [intOf]; omega
    · obtain rfl : k = N := by omega
      go_wp2_with (fail)
      have HS1 := Lib.hid (HS.out.congL (l2 := fun _ => farV) fun i hi => if_pos hi)
      have G0 := Lib.hid (HG.out (fun _ => farV) frm fun _ _ _ => rfl)
      clear HS HG hlt hk
      go_loopw [9] (fun v9 wr => ∃ (a : Nat) (L : List Nat) (u v least : Nat → Int) (frm : Nat → Nat) (S : Nat → Bool), v9 = .int .i64 a ∧ a ≤ n ∧ Hid (GI n (cstR rows) farV R hs L a u v least frm) ∧ Hid (GrowS w wr gu gv gh gf gl gs k hs u v least frm S) ∧ Hid (∀ c, c ≤ n → (S c = true ↔ c ∈ L))) (fun _ wr => leftB wr gs)
      case atStart => exact ⟨0, [], u, v, _, frm, _, rfl, by omega, G0, HS1, fun c _ => by simp⟩
      case round =>
        clear G0 HS1
        obtain ⟨wp, rfl⟩ : ∃ wp : World, wp = wr := ⟨_, rfl⟩
        obtain ⟨a, L, u, v, least, frm, S, rfl, ha, GG, G1, HS⟩ := hrel
        have p3 : wp.cell? ⟨gp, 3, none⟩ = some (.slice (some ⟨gh, 0, none⟩) k k) := (PM.out _ G1.out.m).cell 3
        have q1 : (a : Int) < (k : Int) := by have := hN.out; omega
        have ka := G1.out.h.cell (k := a) (by have := hN.out; omega)
        by_cases hz : hs a = 0
        · have e0 : ((hs a : Nat) : Int) = 0 := by omega
          rw [e0] at ka
          go_wp2_with (fail)
          go_ret
          exact ⟨a, L, u, v, least, hs, frm, rfl, hz, G1.out.u, G1.out.v, G1.out.h, G1.out.f, GG.out, HO.out, G1.out.m⟩
        · have e0 : (((hs a : Nat) : Int) != 0) = true := by simp; omega
          obtain ⟨row, hrow⟩ : ∃ row, Hid (hs a = row) := ⟨_, rfl⟩
          have ks := G1.out.s.cell (k := a) (by have := hN.out; omega)
          have fs := G1.out.s.free a
          have SA : S a = false := by
            cases h : S a with
            | false => rfl
            | true => exact absurd ((HS.out a ha).1 h) GG.out.notin
          obtain ⟨S5, hS5⟩ : ∃ S5 : Nat → Bool, S5 = fun i => if i = a then true else S i := ⟨_, rfl⟩
          have G2 := Lib.hid (G1.out.setS AP.out a true)
          rw [← hS5] at G2
          have S2 : Hid (∀ c, c ≤ n → (S5 c = true ↔ c ∈ L ++ [a])) := fun c hc => by
            rw [hS5]
            simp only [List.mem_append, List.mem_singleton]
            by_cases e : c = a
            · simp [e]
            · rw [if_neg e, HS.out c hc]
              simp [e]
          have ML : Hid (∀ W, ArrB W gs k S5 → leftB W gs < leftB wp gs) := fun W h1 => by
            rw [h1.left, G1.out.s.left]
            exact left_less (by have := hN.out; omega) SA fun _ => by rw [hS5]
          have BD := Lib.hid (GG.out.bound HO.out hRn.out HF.out num.out)
          have RB : 1 ≤ row ∧ row ≤ n := by
            have h1 := HO.out.le a ha
            have h2 := hrow.out
            have h3 := hRn.out
            omega
          have hz' : Hid (hs a ≠ 0) := hz
          clear hS5 SA HS hz G1
          rw [hrow.out] at ka e0
          go_upto_region 13 with (fail)
          generalize wp.setCell ⟨gs, a, none⟩ (.bool true) = w5 at *
          clear p3 ka ks fs
          have p3 : w5.cell? ⟨gp, 3, none⟩ = some (.slice (some ⟨gh, 0, none⟩) k k) := (PM.out _ G2.out.m).cell 3
          have ka := G2.out.h.cell (k := a) (by have := hN.out; omega)
          simp only [hrow.out] at ka
          go_wp2_with (fail)
          clear p3 ka
          go_loopw [11, 12, 13] (fun v11 v12 v13 wr => ∃ (c next : Nat) (step : Int) (least2 : Nat → Int) (frm2 : Nat → Nat), v11 = .int .i64 step ∧ v12 = .int .i64 next ∧ v13 = .int .i64 c ∧ 1 ≤ c ∧ c ≤ k ∧ Hid (LookR n farV (fun c => cstR rows row c - u row - v c) S5 a least least2 frm frm2 c next step) ∧ Hid (GrowS w wr gu gv gh gf gl gs k hs u v least2 frm2 S5)) (fun _ _ v13 _ => k - (intOf v13).toNat)
          case atStart => exact ⟨1, 0, farV, least, frm, rfl, rfl, rfl, by omega, by have := hN.out; omega, LookR.start, G2⟩
          case round =>
            clear G2
            obtain ⟨wq, rfl⟩ : ∃ wq : World, wq = wr := ⟨_, rfl⟩
            obtain ⟨c, next, step, least2, frm2, rfl, rfl, rfl, hc1, hck, LR, G3⟩ := hrel
            by_cases hcn : c ≤ n
            · have q2 : (c : Int) ≤ (n : Int) := by omega
              have q3 : (c : Int) < (k : Int) := by have := hN.out; omega
              have wc1 : IntKind.i64.wrap ((c : Int) + 1) = ((c + 1 : Nat) : Int) := IntWalk.i64_in _ (by omega)
              have ks := G3.out.s.cell (k := c) (by have := hN.out; omega)
              obtain ⟨sb, hsb⟩ : ∃ sb, Hid (S5 c = sb) := ⟨_, rfl⟩
              rw [hsb.out] at ks
              cases sb with
              | true =>
                have LR2 := Lib.hid (LR.out.skip hsb.out)
                clear LR
                go_wp2_with (fail)
                go_roundw
                case rel => exact ⟨c + 1, next, step, least2, frm2, rfl, rfl, by go_num, by omega, by have := hN.out; omega, LR2, G3⟩
                case measure => simp [intOf]; omega
              | false =>
                have hb1 := BD.out.1 row RB.1 RB.2
                have hb2 := BD.out.2 c hc1 hcn
                have SC := Lib.hid (SL.out wq u v (PM.out _ G3.out.m) G3.out.u G3.out.v (XM.out _ G3.out.m) row c RB.1 RB.2 hc1 hcn hb1 hb2)
                have nb := num.out row c RB.1 RB.2 hc1 hcn
                go_wp2_with (fail)
                refine SC.out.mono ?_
                rintro e w6 ⟨rfl, x6⟩
                have G4 := Lib.hid (G3.out.ext x6)
                clear G3 x6 SC ks
                obtain ⟨x, hx⟩ : ∃ x, Hid (cstR rows row c - u row - v c = x) := ⟨_, rfl⟩
                rw [show costAt rows (row - 1) (c - 1) - u row - v c = x from hx.out]
                have xb : x < farV := by
                  have := hx.out
                  show x < 1152921504606846976
                  omega
                have lk := (LR.out.keep c (.inr (.inl (Nat.le_refl _))))
                have kl := G4.out.l.cell (k := c) (by have := hN.out; omega)
                have fl := G4.out.l.free c
                clear hb1 hb2 nb
                by_cases h1 : x < least2 c
                · have LK := LR.out.look (l2 := fun i => if i = c then x else least2 i) (f2 := fun i => if i = c then a else frm2 i) (x := x) hsb.out hc1 (.inl ⟨by rw [← lk.1]; exact hx.out ▸ h1, hx.out.symm, if_pos rfl⟩) (fun _ => rfl) (fun i hi => if_neg hi) xb
                  have G5 := Lib.hid ((G4.out.setL AP.out c x).setF AP.out c a)
                  have p4 : w6.cell? ⟨gp, 4, none⟩ = some (.slice (some ⟨gf, 0, none⟩) k k) := (PM.out _ G4.out.m).cell 4
                  have kf := G4.out.f.cell (k := c) (by have := hN.out; omega)
                  have ff := G4.out.f.free c
                  have nlf : gl ≠ gf := AP.out.ne.2.2.2.1.1.symm
                  replace LK := Lib.hid LK
                  replace lk := Lib.hid lk
                  clear LR G4
                  go_upto_region 22 with (go_region)
                  generalize (w6.setCell ⟨gl, c, none⟩ (.int .i64 x)).setCell ⟨gf, c, none⟩ (.int .i64 a) = w7 at *
                  clear kl fl p4 kf ff nlf
                  have kl : w7.cell? ⟨gl, c, none⟩ = some (.int .i64 x) := by
                    have := G5.out.l.cell (k := c) (by have := hN.out; omega)
                    rwa [if_pos rfl] at this
                  by_cases h2 : x < step
                  · have LK2 := Lib.hid (LK.out.1 h2)
                    go_wp2_with (fail)
                    go_roundw
                    case rel => exact ⟨c + 1, c, x, _, _, rfl, rfl, by go_num, by omega, by have := hN.out; omega, LK2, G5⟩
                    case measure => simp [intOf]; omega
                  · have LK2 := Lib.hid (LK.out.2 (by omega))
                    go_wp2_with (fail)
                    go_roundw
                    case rel => exact ⟨c + 1, next, step, _, _, rfl, rfl, by go_num, by omega, by have := hN.out; omega, LK2, G5⟩
                    case measure => simp [intOf]; omega
                · obtain ⟨y, hy⟩ : ∃ y, Hid (least2 c = y) := ⟨_, rfl⟩
                  rw [hy.out] at kl
                  have EL : ∀ i, least2 i = if i = c then y else least2 i := fun i => by
                    by_cases e : i = c
                    · rw [if_pos e, e, hy.out]
                    · rw [if_neg e]
                  have E1 : least c ≤ cstR rows row c - u row - v c := by
                    have := hx.out
                    rw [← lk.1]
                    omega
                  have E2 : y = least c := by rw [← hy.out]; exact lk.1
                  have LK := LR.out.look (l2 := least2) (f2 := frm2) (x := y) hsb.out hc1 (.inr ⟨E1, E2, lk.2⟩) EL (fun _ _ => rfl) (by have := hy.out; omega)
                  clear EL E1 E2
                  replace LK := Lib.hid LK
                  replace lk := Lib.hid lk
                  have h1' : ¬ x < y := by rw [← hy.out]; exact h1
                  clear LR h1
                  by_cases h2 : y < step
                  · have LK2 := Lib.hid (LK.out.1 h2)
                    go_wp2_with (fail)
                    go_roundw
                    case rel => exact ⟨c + 1, c, y, _, _, rfl, rfl, by go_num, by omega, by have := hN.out; omega, LK2, G4⟩
                    case measure => simp [intOf]; omega
                  · have LK2 := Lib.hid (LK.out.2 (by omega))
                    go_wp2_with (fail)
                    go_roundw
                    case rel => exact ⟨c + 1, next, step, _, _, rfl, rfl, by go_num, by omega, by have := hN.out; omega, LK2, G4⟩
                    case measure => simp [intOf]; omega
            · obtain rfl : c = k := by have := hN.out; omega
              have nz : ∀ j, j ≤ n → S5 j = true → hs j ≠ 0 := fun j hj hs => by
                rcases List.mem_append.1 ((S2.out j hj).1 hs) with h | h
                · exact GG.out.seen j h
                · obtain rfl := List.mem_singleton.1 h
                  exact hz'.out
              have un : ∀ j, j ≤ n → j ∉ L ++ [a] → S5 j = false := fun j hj h => by
                cases e : S5 j with
                | false => rfl
                | true => exact absurd ((S2.out j hj).1 e) h
              have K0 : 1 ≤ next ∧ next ≤ n ∧ next ∉ L ++ [a] ∧ step = least2 next ∧ ∀ j, 1 ≤ j → j ≤ n → j ∉ L ++ [a] → step ≤ least2 j := by
                rcases LR.out.best with ⟨_, _, b3⟩ | ⟨b1, b2, b3, b4, b5⟩
                · exfalso
                  obtain ⟨c0, d1, d2, d3⟩ := HF.out
                  exact nz c0 d2 (b3 c0 d1 (by omega)) d3
                · have e := hN.out
                  refine ⟨b1, by omega, fun hm => ?_, b4, fun j j1 j2 j3 => b5 j j1 (by omega) (un j j2 j3)⟩
                  rw [(S2.out next (by omega)).2 hm] at b3
                  cases b3
              have K1 : ∀ j, 1 ≤ j → j ≤ n → j ∉ L ++ [a] → (cstR rows (hs a) j - u (hs a) - v j < least j ∧ least2 j = cstR rows (hs a) j - u (hs a) - v j ∧ frm2 j = a) ∨ (least j ≤ cstR rows (hs a) j - u (hs a) - v j ∧ least2 j = least j ∧ frm2 j = frm j) := fun j j1 j2 j3 => by
                rw [hrow.out]
                exact LR.out.done j j1 (by have := hN.out; omega) (un j j2 j3)
              have K1' : ∀ j, j ∈ L ++ [a] → frm2 j = frm j := fun j hj => (LR.out.keep j (.inr (.inr ((S2.out j (GG.out.le j hj)).2 hj)))).2
              have NB : ∀ j, 1 ≤ j → j ≤ n → S5 j = false → 0 ≤ least2 j ∧ least2 j ≤ 4294967294 := fun j j1 j2 j3 => by
                have hj : j ∉ L ++ [a] := fun hm => by
                  rw [(S2.out j j2).2 hm] at j3
                  cases j3
                exact near_bd GG.out HO.out hRn.out hz'.out num.out BD.out.1 BD.out.2 j1 j2 hj (K1 j j1 j2 hj)
              have sb : 0 ≤ step ∧ step ≤ 4294967294 := by
                rw [K0.2.2.2.1]
                exact NB next K0.1 K0.2.1 (un next K0.2.1 K0.2.2.1)
              have s0 : S5 0 = true := by
                refine (S2.out 0 (by omega)).2 ?_
                have := GG.out.first
                exact List.mem_of_mem_head? this
              replace K0 := Lib.hid K0
              replace K1 := Lib.hid K1
              replace K1' := Lib.hid K1'
              replace NB := Lib.hid NB
              replace nz := Lib.hid nz
              replace un := Lib.hid un
              replace s0 := Lib.hid s0
              clear LR
              go_wp2_with (fail)
              go_loopw [103] (fun i wr => ∃ (j : Nat) (u3 v3 least3 : Nat → Int), i = .int .i64 j ∧ j ≤ c ∧ Hid (TurnR S5 hs step u v least2 u3 v3 least3 j) ∧ Hid (GrowS w wr gu gv gh gf gl gs c hs u3 v3 least3 frm2 S5)) (fun i _ => c - (intOf i).toNat)
              case atStart => exact ⟨0, u, v, least2, rfl, by omega, TurnR.start, G3⟩
              case round =>
                clear G3
                obtain ⟨wr2, rfl⟩ : ∃ wr2 : World, wr2 = wr := ⟨_, rfl⟩
                obtain ⟨j, u3, v3, least3, rfl, hj, TR, G3⟩ := hrel
                by_cases hjc : j < c
                · have q2 : (j : Int) < (c : Int) := by omega
                  have wj : IntKind.i64.wrap ((j : Int) + 1) = ((j + 1 : Nat) : Int) := IntWalk.i64_in _ (by omega)
                  have ks := G3.out.s.cell hjc
                  obtain ⟨sj, hsj⟩ : ∃ sj, Hid (S5 j = sj) := ⟨_, rfl⟩
                  rw [hsj.out] at ks
                  have jn : j ≤ n := by have := hN.out; omega
                  cases sj with
                  | true =>
                    obtain ⟨rw, hrw⟩ : ∃ rw, Hid (hs j = rw) := ⟨_, rfl⟩
                    have rw1 : 1 ≤ rw ∧ rw ≤ n := by
                      have h1 := HO.out.le j jn
                      have h2 := nz.out j jn hsj.out
                      have h3 := hRn.out
                      rw [hrw.out] at h1 h2
                      omega
                    obtain ⟨z, hzz⟩ : ∃ z, Hid (IntKind.i64.wrap (v3 j - step) = z) := ⟨_, rfl⟩
                    have INJ : ∀ s, s < j → S5 s = true → hs s ≠ hs j := fun s h1 h2 h3 => by
                      have := HO.out.inj s j (by omega) jn h3 (nz.out s (by omega) h2)
                      omega
                    have V1 : 1 ≤ j → v3 j = v j := fun h => by rw [TR.out.v j h, if_neg (by omega)]
                    obtain ⟨T1, _, T2⟩ := TR.out.seen (v2 := fun i => if i = j then z else v3 i) hsj.out INJ (fun i hi => by
                      by_cases e : i = j
                      · subst e
                        rw [if_pos rfl, if_pos rfl, ← hzz.out]
                        have h1 := BD.out.2 i hi jn
                        have h2 := V1 hi
                        exact IntWalk.i64_in _ (by omega)
                      · rw [if_neg e, if_neg e])
                    rw [hrw.out] at T1 T2
                    have bu := BD.out.1 rw rw1.1 rw1.2
                    obtain ⟨ur, hur⟩ : ∃ ur, Hid (u3 rw = ur) := ⟨_, rfl⟩
                    have wu : IntKind.i64.wrap (ur + step) = ur + step := IntWalk.i64_in _ (by rw [← hur.out, T1]; omega)
                    have q3 : (rw : Int) < (c : Int) := by omega
                    have q4 : rw < c := by omega
                    have kh := G3.out.h.cell hjc
                    simp only [hrw.out] at kh
                    have ku := G3.out.u.cell q4
                    rw [hur.out] at ku T2
                    have fu := G3.out.u.free rw
                    have p1 : wr2.cell? ⟨gp, 1, none⟩ = some (.slice (some ⟨gu, 0, none⟩) c c) := (PM.out _ G3.out.m).cell 1
                    have p3 : wr2.cell? ⟨gp, 3, none⟩ = some (.slice (some ⟨gh, 0, none⟩) c c) := (PM.out _ G3.out.m).cell 3
                    have G4 := Lib.hid (G3.out.setU AP.out rw (ur + step))
                    replace T2 := Lib.hid T2
                    clear G3 TR T1 INJ V1 bu
                    go_wp2_with (fail)
                    refine wp_region_any (by kernel_rfl) ?_
                    change wpAny _ _ _ _ _ _ _ (World.drew _)
                    refine wpAny_T (i := 0) (op := Op.move (Operand.tmp 0)) (t := 103) (d := some 110) (v := ?_) rfl (by decide +kernel) (by decide +kernel) (by decide +kernel) (fun _ _ _ h => h) ?_ ?_
                    case refine_2 => (intro _; unfold exec2; go_simp; try with_reducible rfl)
                    try simp only [Act.put, List.setIfInBounds_toArray, List.set_cons_zero, List.set_cons_succ]
                    refine wpAny_T (i := 1) (op := Op.nilCheck (Operand.tmp 110)) (t := 0) (d := some 111) (v := ?_) rfl (by decide +kernel) (by decide +kernel) (by decide +kernel) (fun _ _ _ h => h) ?_ ?_
                    case refine_2 => (intro _; unfold exec2; go_simp; try with_reducible rfl)
                    try simp only [Act.put, List.setIfInBounds_toArray, List.set_cons_zero, List.set_cons_succ]
                    refine wpAny_T (i := 2) (op := Op.fieldAddr 105 (Operand.tmp 111) 1) (t := 0) (d := some 112) (v := ?_) rfl (by decide +kernel) (by decide +kernel) (by decide +kernel) (fun _ _ _ h => h) ?_ ?_
                    case refine_2 => (intro _; unfold exec2; go_simp; try with_reducible rfl)
                    try simp only [Act.put, List.setIfInBounds_toArray, List.set_cons_zero, List.set_cons_succ]
                    refine wpAny_T (i := 4) (op := Op.move (Operand.tmp 0)) (t := 103) (d := some 114) (v := ?_) rfl (by decide +kernel) (by decide +kernel) (by decide +kernel) (fun _ _ _ h => h) ?_ ?_
                    case refine_2 => (intro _; unfold exec2; go_simp; try with_reducible rfl)
                    try simp only [Act.put, List.setIfInBounds_toArray, List.set_cons_zero, List.set_cons_succ]
                    refine wpAny_T (i := 5) (op := Op.nilCheck (Operand.tmp 114)) (t := 0) (d := some 115) (v := ?_) rfl (by decide +kernel) (by decide +kernel) (by decide +kernel) (fun _ _ _ h => h) ?_ ?_
                    case refine_2 => (intro _; unfold exec2; go_simp; try with_reducible rfl)
                    try simp only [Act.put, List.setIfInBounds_toArray, List.set_cons_zero, List.set_cons_succ]
                    refine wpAny_T (i := 6) (op := Op.fieldAddr 105 (Operand.tmp 115) 3) (t := 0) (d := some 116) (v := ?_) rfl (by decide +kernel) (by decide +kernel) (by decide +kernel) (fun _ _ _ h => h) ?_ ?_
                    case refine_2 => (intro _; unfold exec2; go_simp; try with_reducible rfl)
                    try simp only [Act.put, List.setIfInBounds_toArray, List.set_cons_zero, List.set_cons_succ]
                    refine wpAny_T (i := 8) (op := Op.move (Operand.tmp 15)) (t := 3) (d := some 118) (v := ?_) rfl (by decide +kernel) (by decide +kernel) (by decide +kernel) (fun _ _ _ h => h) ?_ ?_
                    case refine_2 => (intro _; unfold exec2; go_simp; try with_reducible rfl)
                    try simp only [Act.put, List.setIfInBounds_toArray, List.set_cons_zero, List.set_cons_succ]
                    refine wpAny_T (i := 13) (op := Op.move (Operand.tmp 11)) (t := 3) (d := some 123) (v := ?_) rfl (by decide +kernel) (by decide +kernel) (by decide +kernel) (fun _ _ _ h => h) ?_ ?_
                    case refine_2 => (intro _; unfold exec2; go_simp; try with_reducible rfl)
                    try simp only [Act.put, List.setIfInBounds_toArray, List.set_cons_zero, List.set_cons_succ]
                    refine wpAny_reads (n := 2) [(3, some 113), (7, some 117), (9, some 119), (10, some 120), (11, some 121), (12, some 122), (14, some 124)] (fun | 3 => .slice (some ⟨gu, 0, none⟩) c c | 7 => .slice (some ⟨gh, 0, none⟩) c c | 9 => .pointer (some ⟨gh, j, none⟩) | 10 => .int .i64 rw | 11 => .pointer (some ⟨gu, rw, none⟩) | 12 => .int .i64 ur | 14 => .int .i64 (ur + step) | _ => undef) #[true, true, true, true, true, true, true, true, true, true, true, true, true, true, true, false, false] (by decide +kernel) ?_ ?_
                    · intro pS hpm uS hD K hK
                      simp only [List.mem_cons, List.not_mem_nil, or_false] at hpm
                      rcases hpm with rfl | rfl | rfl | rfl | rfl | rfl | rfl
                      · exact op_ld (T := 22) (x := Operand.tmp 112) (t := 22) (d := some 113) rfl (.pointer (some ⟨gp, 1, none⟩)) (by kernel_rfl) (.slice (some ⟨gu, 0, none⟩) c c) (by go_simp) hK
                      · exact op_ld (T := 22) (x := Operand.tmp 116) (t := 22) (d := some 117) rfl (.pointer (some ⟨gp, 3, none⟩)) (by kernel_rfl) (.slice (some ⟨gh, 0, none⟩) c c) (by go_simp) hK
                      · exact op_ix (T := 22) (x := Operand.tmp 117) (y := Operand.tmp 118) (t := 0) (d := some 119) rfl (.slice (some ⟨gh, 0, none⟩) c c) (.int .i64 j) (Eq.trans (b := uS 7) (by kernel_rfl) (hD 7 (depIn (by kernel_rfl)))) (by kernel_rfl) (.pointer (some ⟨gh, j, none⟩)) (by go_simp) hK
                      · exact op_ld (T := 3) (x := Operand.tmp 119) (t := 3) (d := some 120) rfl (.pointer (some ⟨gh, j, none⟩)) (Eq.trans (b := uS 9) (by kernel_rfl) (hD 9 (depIn (by kernel_rfl)))) (.int .i64 rw) (by go_simp) hK
                      · exact op_ix (T := 22) (x := Operand.tmp 113) (y := Operand.tmp 120) (t := 0) (d := some 121) rfl (.slice (some ⟨gu, 0, none⟩) c c) (.int .i64 rw) (Eq.trans (b := uS 3) (by kernel_rfl) (hD 3 (depIn (by kernel_rfl)))) (Eq.trans (b := uS 10) (by kernel_rfl) (hD 10 (depIn (by kernel_rfl)))) (.pointer (some ⟨gu, rw, none⟩)) (by go_simp) hK
                      · exact op_ld (T := 3) (x := Operand.tmp 121) (t := 3) (d := some 122) rfl (.pointer (some ⟨gu, rw, none⟩)) (Eq.trans (b := uS 11) (by kernel_rfl) (hD 11 (depIn (by kernel_rfl)))) (.int .i64 ur) (by go_simp) hK
                      · (have e12 : uS 12 = .int .i64 ur := hD 12 (depIn (by kernel_rfl)); exact op_run (op := Op.binOp BinOp.add 3 (Operand.tmp 122) (Operand.tmp 123) 3) (t := 3) (d := some 124) rfl (.int .i64 (ur + step)) (by simp only [putAll, Act.put, List.setIfInBounds_toArray, List.set_cons_zero, List.set_cons_succ]; unfold exec2; go_simp; try simp only [e12]; try go_simp) hK)
                    simp only [putAll, Act.put, List.setIfInBounds_toArray, List.set_cons_zero, List.set_cons_succ]
                    refine wpAny_T (i := 15) (op := Op.indexAddr 22 (Operand.tmp 113) (Operand.tmp 120)) (t := 0) (d := some 125) (v := ?_) rfl (by decide +kernel) (by decide +kernel) (by decide +kernel) (fun _ _ _ h => h) ?_ ?_
                    case refine_2 => (intro _; unfold exec2; go_simp; try with_reducible rfl)
                    try simp only [Act.put, List.setIfInBounds_toArray, List.set_cons_zero, List.set_cons_succ]
                    refine wpAny_next 16 (by decide +kernel) (op_st rfl (.pointer (some ⟨gu, rw, none⟩)) (.int .i64 (ur + step)) (by kernel_rfl) (by kernel_rfl) (by go_simp; rfl) ?_)
                    refine wpAny_done (by kernel_rfl) ?_ _
                    clear kh ku fu p1 p3 ks
                    generalize wr2.setCell ⟨gu, rw, none⟩ (.int .i64 (ur + step)) = w8 at *
                    have G5 := Lib.hid (G4.out.ext ((Ext.rf _).drew))
                    have p2 : w8.drew.cell? ⟨gp, 2, none⟩ = some (.slice (some ⟨gv, 0, none⟩) c c) := (PM.out _ G5.out.m).cell 2
                    have kv := G5.out.v.cell hjc
                    have fv := G5.out.v.free j
                    have G6 := Lib.hid (G5.out.setV AP.out j z)
                    have zz := hzz.out
                    clear G4
                    go_simp
                    go_wp2_with (fail)
                    go_roundw
                    case rel => exact ⟨j + 1, _, _, least3, by go_num, by omega, T2, G6⟩
                    case measure => simp [intOf]; omega
                  | false =>
                    have j1 : 1 ≤ j := by
                      rcases Nat.eq_zero_or_pos j with rfl | h
                      · have := s0.out
                        rw [hsj.out] at this
                        cases this
                      · exact h
                    obtain ⟨T1, T2⟩ := TR.out.unseen hsj.out
                    have nb := NB.out j j1 jn hsj.out
                    have kl := G3.out.l.cell hjc
                    have fl := G3.out.l.free j
                    have wl : IntKind.i64.wrap (least3 j - step) = least3 j - step := IntWalk.i64_in _ (by rw [T1]; omega)
                    have G4 := Lib.hid (G3.out.setL AP.out j (least3 j - step))
                    replace T2 := Lib.hid T2
                    replace T1 := Lib.hid T1
                    clear G3 TR nb
                    go_wp2_with (fail)
                    go_roundw
                    case rel => exact ⟨j + 1, u3, v3, _, by go_num, by omega, T2, G4⟩
                    case measure => simp [intOf]; omega
                · obtain rfl : j = c := by omega
                  have RD := GG.out.round (frm' := frm2) (least' := least2) (u' := u3) (v' := v3) (least2 := least3) HO.out hRn.out (fun i c i1 i2 c1 c2 => by
                    have h1 := num.out i c i1 i2 c1 c2
                    have h2 := BD.out.1 i i1 i2
                    have h3 := BD.out.2 c c1 c2
                    show _ < (1152921504606846976 : Int)
                    omega) hz'.out K1.out K1'.out K0.out
                    (fun i => by
                      rw [TR.out.u]
                      by_cases e : ∃ s, s ∈ L ++ [a] ∧ hs s = i
                      · obtain ⟨s, e1, e2⟩ := e
                        have e3 := GG.out.le s e1
                        rw [if_pos (show ∃ s, s < j ∧ S5 s = true ∧ hs s = i from ⟨s, by have := hN.out; omega, (S2.out s e3).2 e1, e2⟩), if_pos (show ∃ s, s ∈ L ++ [a] ∧ hs s = i from ⟨s, e1, e2⟩)]
                      · rw [if_neg e, if_neg (show ¬ ∃ s, s < j ∧ S5 s = true ∧ hs s = i from fun ⟨s, e1, e2, e3⟩ => e ⟨s, (S2.out s (by have := hN.out; omega)).1 e2, e3⟩)])
                    (fun i i1 i2 => by
                      rw [TR.out.v i i1]
                      by_cases e : i ∈ L ++ [a]
                      · rw [if_pos e, if_pos (show i < j ∧ S5 i = true from ⟨by have := hN.out; omega, (S2.out i i2).2 e⟩)]
                      · rw [if_neg e, if_neg (show ¬ (i < j ∧ S5 i = true) from fun ⟨_, e2⟩ => e ((S2.out i i2).1 e2))])
                    (fun i i1 i2 i3 => by rw [TR.out.l, if_pos ⟨by have := hN.out; omega, un.out i i2 i3⟩])
                  have G5 := Lib.hid RD.1
                  clear RD GG TR
                  go_wp2_with (fail)
                  go_roundw
                  case rel => exact ⟨next, L ++ [a], u3, v3, least3, frm2, S5, rfl, K0.out.2.1, G5, G3, S2⟩
                  case measure => exact ML.out _ G3.out.s
end Go.Proofs.YtleckhbmciiooaaDoor
namespace Go.Proofs.YtleckhbmciiooaaDoor
open Go.RowKit Go.ChangeShapes Go.WideShapes Go.ChangeAt Go.Deep

/-- when all rows have columns, each column has a row -/
theorem HI.full {n : Nat} {cst : Nat → Nat → Int} {u v : Nat → Int} {has : Nat → Nat} (h : HI n cst n u v has) {c : Nat} (c1 : 1 ≤ c) (c2 : c ≤ n) : 1 ≤ has c ∧ has c ≤ n := by
  refine ⟨?_, h.le c c1 c2⟩
  rcases Nat.eq_zero_or_pos (has c) with e | e
  · exfalso
    have ex : ∀ i, ∃ d, i < n → 1 ≤ d ∧ d ≤ n ∧ has d = i + 1 := fun i => by
      by_cases hi : i < n
      · obtain ⟨d, h1, h2, h3⟩ := h.all (i + 1) (by omega) (by omega)
        exact ⟨d, fun _ => ⟨h1, h2, h3⟩⟩
      · exact ⟨0, fun h => absurd h hi⟩
    have hf := fun i => Classical.choose_spec (ex i)
    generalize (fun i => Classical.choose (ex i)) = f at *
    have hf' : ∃ f : Nat → Nat, ∀ i, i < n → 1 ≤ f i ∧ f i ≤ n ∧ has (f i) = i + 1 := ⟨fun i => Classical.choose (ex i), fun i hi => Classical.choose_spec (ex i) hi⟩
    obtain ⟨f, hf⟩ := hf'
    have hl := nodup_le (l := (c - 1) :: (List.range n).map fun i => f i - 1) (n := n) ?_ ?_
    · simp at hl
      omega
    · refine List.nodup_cons.2 ⟨?_, List.pairwise_map.2 (List.Pairwise.imp_of_mem ?_ List.nodup_range)⟩
      · intro hm
        obtain ⟨i, hi, e2⟩ := List.mem_map.1 hm
        obtain ⟨h1, h2, h3⟩ := hf i (List.mem_range.1 hi)
        have : f i = c := by omega
        rw [this] at h3
        omega
      · intro a b ha hb hab e2
        obtain ⟨h1, h2, h3⟩ := hf a (List.mem_range.1 ha)
        obtain ⟨k1, k2, k3⟩ := hf b (List.mem_range.1 hb)
        have : f a = f b := by omega
        rw [this] at h3
        omega
    · intro x hx
      rcases List.mem_cons.1 hx with rfl | hx
      · omega
      · obtain ⟨i, hi, rfl⟩ := List.mem_map.1 hx
        have := hf i (List.mem_range.1 hi)
        omega
  · exact e
set_option maxRecDepth 100000 in
set_option maxHeartbeats 1000000 in
theorem takes2_any (i : InstP) (us : List Value) (w : World) (H : RInst w us i) (hc : checkP i = 0) (hk : i.kind = 2) :
    Calls Tryd.prog 62 #[.agg (List.toArray us), .int .i64 2] w fun e w' => e = .returned (.int .i64 0) ∧ Ext w w' := by
  have sq := square_ok hc (by omega)
  have CH := fun (W : World) (x : Ext w W) => check_any i us W (H.ext x) (by rw [sq.w]; simp) (by rw [sq.v]; simp)
  rw [hc] at CH
  obtain ⟨kind, nn, cap, xw, xv, co⟩ := i
  obtain ⟨A, a, B, b, D, d, rfl, -, -, -⟩ := H
  simp only at *
  subst hk
  have B1 : Hid (Blk (w.alloc (.cells #[.int .i64 2, .int .i64 nn, .int .i64 cap, .slice A xw.length a, .slice B xv.length b, .slice D co.length d] 25)) w.heap.size 25 #[.int .i64 2, .int .i64 nn, .int .i64 cap, .slice A xw.length a, .slice B xv.length b, .slice D co.length d]) := .new rfl
  replace CH := Lib.hid CH
  clear hc sq
  go_enter Tryd.func62, Tryd.ntmps62
  go_wp2_with (fail)
  refine (CH.out _ (by (repeat (first | assumption | exact Ext.rf _ | apply Ext.drew | apply Ext.drewN | apply Ext.alloc)))).mono ?_
  rintro e w1 ⟨rfl, x1⟩
  have X1 := Lib.hid (Ext.tr (a := w) (by (repeat (first | assumption | exact Ext.rf _ | apply Ext.drew | apply Ext.drewN | apply Ext.alloc))) x1)
  have b1 := Lib.hid (B1.out.ext x1)
  have t0 : w1.cell? ⟨w.heap.size, 0, none⟩ = some (.int .i64 2) := b1.out.cell 0
  have t1 : w1.cell? ⟨w.heap.size, 1, none⟩ = some (.int .i64 nn) := b1.out.cell 1
  clear x1 B1
  go_wp2_with (fail)
  go_ret
  exact ⟨rfl, X1.out.tr (by (repeat (first | assumption | exact Ext.rf _ | apply Ext.drew | apply Ext.drewN | apply Ext.alloc)))⟩
set_option maxRecDepth 100000 in
set_option maxHeartbeats 1000000 in
theorem told2_any (i : InstP) (us : List Value) (P : Option Addr) (c : Nat) (l : List Nat) (w : World) (H : RInst w us i) (hc : checkP i = 0) (hk : i.kind = 2) (hP : RdI w P (intsN l)) (hl : l.Perm (List.range i.cost.length)) :
    Calls Tryd.prog 66 #[.agg (List.toArray us), .slice P i.cost.length c] w fun e w' => e = .returned (.tuple #[.slice P i.cost.length c, .int .i64 (costF i.cost (intsN l)), .int .i64 0]) ∧ Ext w w' := by
  have VC := fun (W : World) (x : Ext w W) => vcost2_any i us P c l W (H.ext x) hc hk (hP.ext x) hl
  obtain ⟨kind, nn, cap, xw, xv, co⟩ := i
  obtain ⟨A, a, B, b, D, d, rfl, -, -, -⟩ := H
  simp only at *
  generalize costF co (intsN l) = cc at *
  replace VC := Lib.hid VC
  clear hc hk hP hl
  go_enter Tryd.func66, Tryd.ntmps66
  go_wp2_with (fail)
  refine (VC.out _ (by (repeat (first | assumption | exact Ext.rf _ | apply Ext.drew | apply Ext.drewN | apply Ext.alloc)))).mono ?_
  rintro e w1 ⟨rfl, x1⟩
  have X1 := Lib.hid (Ext.tr (a := w) (by (repeat (first | assumption | exact Ext.rf _ | apply Ext.drew | apply Ext.drewN | apply Ext.alloc))) x1)
  clear x1
  go_wp2_with (fail)
  go_ret3
  exact ⟨rfl, X1.out.tr (by (repeat (first | assumption | exact Ext.rf _ | apply Ext.drew | apply Ext.drewN | apply Ext.alloc)))⟩
end Go.Proofs.YtleckhbmciiooaaDoor
namespace Go.Proofs.YtleckhbmciiooaaDoor

/-- no order costs less -/
def Least (rows : List (List Int)) (n : Nat) (c : Int) : Prop := (∃ x : List Nat, x.Perm (List.range n) ∧ costF rows (intsN x) = c) ∧ ∀ q : List Nat, q.Perm (List.range n) → c ≤ costF rows (intsN q)
theorem Least.one {rows : List (List Int)} {n : Nat} {c d : Int} (h : Least rows n c) (k : Least rows n d) : c = d := by
  obtain ⟨x, h1, h2⟩ := h.1
  obtain ⟨y, k1, k2⟩ := k.1
  have a := h.2 y k1
  have b := k.2 x h1
  omega
theorem perm_len {x : List Nat} {n : Nat} (h : x.Perm (List.range n)) : x.length = n := by rw [h.length_eq, List.length_range]
theorem idx_map {x : List Nat} (h : x.Nodup) : (x.map fun c => x.idxOf c) = List.range x.length := by
  refine List.ext_getElem (by simp) fun i h1 h2 => ?_
  simp only [List.getElem_map, List.getElem_range]
  exact h.idxOf_getElem i (by simpa using h1)
theorem cost_turn {rows rowsT : List (List Int)} {n : Nat} (h1 : rows.length = n) (h2 : rowsT.length = n) (h : ∀ a b, a < n → b < n → costAt rowsT b a = costAt rows a b) {x : List Nat} (hx : x.Perm (List.range n)) :
    ∃ y : List Nat, y.Perm (List.range n) ∧ costF rowsT (intsN y) = costF rows (intsN x) := by
  have lx := perm_len hx
  have nd : x.Nodup := hx.symm.nodup List.nodup_range
  have hy : ((List.range n).map fun c => x.idxOf c).Perm (List.range n) := by
    have := (hx.map fun c => x.idxOf c).symm
    rwa [idx_map nd, lx] at this
  refine ⟨(List.range n).map fun c => x.idxOf c, hy, ?_⟩
  rw [costF_range (by rw [h2]; simp), costF_range (by rw [h1, lx]), List.length_map, List.length_range, lx]
  have e1 : ((List.range n).map fun k => costAt rowsT k (((List.range n).map fun c => x.idxOf c).getD k 0)) = (List.range n).map fun c => costAt rows (x.idxOf c) c := by
    refine List.map_congr_left fun c hc => ?_
    have hc := List.mem_range.1 hc
    have hm : c ∈ x := hx.mem_iff.2 (List.mem_range.2 hc)
    have e : ((List.range n).map fun c => x.idxOf c)[c]? = some (x.idxOf c) := by rw [List.getElem?_map, List.getElem?_range hc]; rfl
    rw [List.getD, e, Option.getD_some]
    exact h _ _ (by rw [← lx]; exact List.idxOf_lt_length_of_mem hm) hc
  rw [e1]
  have e2 := sumL_perm ((hx.map fun c => costAt rows (x.idxOf c) c))
  rw [← e2]
  congr 1
  refine List.ext_getElem (by simp [lx]) fun i k1 k2 => ?_
  have hi : i < x.length := by simpa using k1
  simp only [List.getElem_map, List.getElem_range]
  rw [nd.idxOf_getElem i hi, List.getD, List.getElem?_eq_getElem hi, Option.getD_some]
theorem Least.turn {rows rowsT : List (List Int)} {n : Nat} {c : Int} (h1 : rows.length = n) (h2 : rowsT.length = n) (h : ∀ a b, a < n → b < n → costAt rowsT b a = costAt rows a b) (hl : Least rows n c) : Least rowsT n c := by
  refine ⟨?_, fun q hq => ?_⟩
  · obtain ⟨x, k1, k2⟩ := hl.1
    obtain ⟨y, m1, m2⟩ := cost_turn h1 h2 h k1
    exact ⟨y, m1, m2.trans k2⟩
  · obtain ⟨y, m1, m2⟩ := cost_turn h2 h1 (fun a b ha hb => (h b a hb ha).symm) hq
    rw [← m2]
    exact hl.2 y m1
theorem sumL_map_add {α : Type} (f g : α → Int) : ∀ l : List α, sumL (l.map fun k => f k + g k) = sumL (l.map f) + sumL (l.map g)
  | [] => rfl
  | x :: l => by
    have := sumL_map_add f g l
    simp only [List.map_cons, sumL]
    omega
theorem cost_more {rows rowsM : List (List Int)} {n : Nat} {up : Nat → Int} (h1 : rows.length = n) (h2 : rowsM.length = n) (h : ∀ a b, a < n → b < n → costAt rowsM a b = costAt rows a b + up a) {x : List Nat} (hx : x.Perm (List.range n)) :
    costF rowsM (intsN x) = costF rows (intsN x) + sumL ((List.range n).map up) := by
  have lx := perm_len hx
  rw [costF_range (by rw [h2, lx]), costF_range (by rw [h1, lx]), lx, ← sumL_map_add]
  congr 1
  refine List.map_congr_left fun k hk => ?_
  have hk := List.mem_range.1 hk
  refine h _ _ hk ?_
  have : x.getD k 0 ∈ x := by
    rw [List.getD, List.getElem?_eq_getElem (by omega), Option.getD_some]
    exact List.getElem_mem _
  exact List.mem_range.1 (hx.mem_iff.1 this)
theorem Least.more {rows rowsM : List (List Int)} {n : Nat} {c : Int} {up : Nat → Int} (h1 : rows.length = n) (h2 : rowsM.length = n) (h : ∀ a b, a < n → b < n → costAt rowsM a b = costAt rows a b + up a) (hl : Least rows n c) : Least rowsM n (c + sumL ((List.range n).map up)) := by
  refine ⟨?_, fun q hq => ?_⟩
  · obtain ⟨x, k1, k2⟩ := hl.1
    exact ⟨x, k1, by rw [cost_more h1 h2 h k1, k2]⟩
  · rw [cost_more h1 h2 h hq]
    have := hl.2 q hq
    omega
end Go.Proofs.YtleckhbmciiooaaDoor
namespace Go.Proofs.YtleckhbmciiooaaDoor
open Go.RowKit Go.ChangeShapes Go.WideShapes Go.ChangeAt Go.Deep

def AsgPost (rows : List (List Int)) (w : World) (e : Ending) (w' : World) : Prop :=
  ∃ A c l, e = .returned (.tuple #[.slice A rows.length c, .int .i64 (costF rows (intsN l)), .int .i64 0]) ∧ RdI w' A (intsN l) ∧ l.Perm (List.range rows.length) ∧ rows.length ≤ c ∧ c ≤ maxLen ∧ Least rows rows.length (costF rows (intsN l)) ∧ Ext w w'
set_option maxRecDepth 100000 in
set_option maxHeartbeats 4000000 in
theorem asg_any (i : InstP) (us : List Value) (w : World) (H : RInst w us i) (hc : checkP i = 0) (hk : i.kind = 2) :
    Calls Tryd.prog 31 #[.agg (List.toArray us)] w (AsgPost i.cost w) := by
  have sq := square_ok hc (by omega)
  have rok := rows_ok sq
  have hln := sq.len
  have TK := fun (W : World) (x : Ext w W) => takes2_any i us W (H.ext x) hc hk
  have TO := fun (P : Option Addr) (c : Nat) (l : List Nat) (W : World) (x : Ext w W) (hP : RdI W P (intsN l)) (hl : l.Perm (List.range i.cost.length)) => told2_any i us P c l W (H.ext x) hc hk hP hl
  obtain ⟨kind, nn, cap, xw, xv, co⟩ := i
  obtain ⟨A, a, B, b, D, d, rfl, -, -, hC, -⟩ := H
  simp only at *
  subst hk
  have n1 := rok.n1
  have n2 := rok.n2
  obtain ⟨n, hn⟩ : ∃ n, co.length = n := ⟨_, rfl⟩
  rw [hn] at TK TO hln n1 n2 ⊢
  subst hln
  obtain ⟨N, hN⟩ : ∃ N, N = n + 1 := ⟨_, rfl⟩
  have GR := fun (W : World) (gp gu gv gh gf r R : Nat) (u v : Nat → Int) (has frm : Nat → Nat) (hP : PB W gp D d n N gu gv gh gf) (hu : Arr W gu N u) (hv : Arr W gv N v) (hh : Arr W gh N fun c => (has c : Int)) (hf : Arr W gf N fun c => (frm c : Int)) (hd : [gu, gv, gh, gf].Nodup)
    (hx : Ext w W) (hb : ∀ k, k < w.heap.size → ¬ PS gu gv gh gf k) (hI : HI n (cstR co) r u v has) (hr : r < n) (hR : R = r + 1) => grow_any hP hu hv hh hf hd hC hx hb rok hn hN hI hr hR
  have B1 : Hid (Blk (w.alloc (.cells #[.int .i64 2, .int .i64 n, .int .i64 cap, .slice A xw.length a, .slice B xv.length b, .slice D n d] 25)) w.heap.size 25 #[.int .i64 2, .int .i64 n, .int .i64 cap, .slice A xw.length a, .slice B xv.length b, .slice D n d]) := .new rfl
  have num : ∀ i c, 1 ≤ i → i ≤ n → 1 ≤ c → c ≤ n → 0 ≤ cstR co i c := fun i c h1 h2 h3 h4 => (ends_num rok (i - 1) (c - 1) (by omega) (by omega)).1
  have eN : (n : Int) + 1 = (N : Int) := by omega
  have wN : IntKind.i64.wrap ((n : Int) + 1) = (N : Int) := by rw [eN]; exact IntWalk.i64_in _ (by omega)
  clear eN
  replace TK := Lib.hid TK
  replace TO := Lib.hid TO
  replace GR := Lib.hid GR
  replace num := Lib.hid num
  replace hn := Lib.hid hn
  have hN25 : N ≤ 25 := by omega
  replace hN := Lib.hid hN
  clear hc hC rok sq
  go_enter Tryd.func31, Tryd.ntmps31
  go_wp2_with (fail)
  refine (TK.out _ (by (repeat (first | assumption | exact Ext.rf _ | apply Ext.drew | apply Ext.drewN | apply Ext.alloc)))).mono ?_
  rintro e w1 ⟨rfl, x1⟩
  have X1 := Lib.hid (Ext.tr (a := w) (by (repeat (first | assumption | exact Ext.rf _ | apply Ext.drew | apply Ext.drewN | apply Ext.alloc))) x1)
  have b1 := Lib.hid (B1.out.ext x1)
  have t1 : w1.cell? ⟨w.heap.size, 1, none⟩ = some (.int .i64 n) := b1.out.cell 1
  clear x1 B1
  go_wp2_with (fail)
  go_cut [7] (fun v7 wx => ∃ gp gu gv gh gf, v7 = .pointer (some ⟨gp, 0, none⟩) ∧ PB wx gp D d n N gu gv gh gf ∧ [gu, gv, gh, gf].Nodup ∧ (∀ k, k < w1.heap.size → ¬ PS gu gv gh gf k) ∧ Arr wx gu N (fun _ => 0) ∧ Arr wx gv N (fun _ => 0) ∧ Arr wx gh N (fun _ => 0) ∧ Arr wx gf N (fun _ => 0) ∧ Ext w1 wx)
  case first =>
    have zb := b1.out.lt
    refine wp_region_any (by kernel_rfl) ?_
    change wpAny _ _ _ _ _ _ _ (World.drew _)
    refine wpAny_T (i := 0) (op := Op.fieldAddr 25 (Operand.tmp 1) 5) (t := 0) (d := some 18) (v := ?_) rfl (by decide +kernel) (by decide +kernel) (by decide +kernel) (fun _ _ _ h => h) ?_ ?_
    case refine_2 => (intro _; unfold exec2; go_simp; try with_reducible rfl)
    try simp only [Act.put, List.setIfInBounds_toArray, List.set_cons_zero, List.set_cons_succ]
    refine wpAny_T (i := 2) (op := Op.move (Operand.tmp 6)) (t := 3) (d := some 20) (v := ?_) rfl (by decide +kernel) (by decide +kernel) (by decide +kernel) (fun _ _ _ h => h) ?_ ?_
    case refine_2 => (intro _; unfold exec2; go_simp; try with_reducible rfl)
    try simp only [Act.put, List.setIfInBounds_toArray, List.set_cons_zero, List.set_cons_succ]
    refine wpAny_T (i := 3) (op := Op.binOp BinOp.add 3 (Operand.tmp 20) (Operand.const (Value.int IntKind.i64 1)) 3) (t := 3) (d := some 21) (v := ?_) rfl (by decide +kernel) (by decide +kernel) (by decide +kernel) (fun _ _ _ h => h) ?_ ?_
    case refine_2 => (intro _; unfold exec2; go_simp; try with_reducible rfl)
    try simp only [Act.put, List.setIfInBounds_toArray, List.set_cons_zero, List.set_cons_succ]
    refine wpAny_T (i := 5) (op := Op.move (Operand.tmp 6)) (t := 3) (d := some 23) (v := ?_) rfl (by decide +kernel) (by decide +kernel) (by decide +kernel) (fun _ _ _ h => h) ?_ ?_
    case refine_2 => (intro _; unfold exec2; go_simp; try with_reducible rfl)
    try simp only [Act.put, List.setIfInBounds_toArray, List.set_cons_zero, List.set_cons_succ]
    refine wpAny_T (i := 6) (op := Op.binOp BinOp.add 3 (Operand.tmp 23) (Operand.const (Value.int IntKind.i64 1)) 3) (t := 3) (d := some 24) (v := ?_) rfl (by decide +kernel) (by decide +kernel) (by decide +kernel) (fun _ _ _ h => h) ?_ ?_
    case refine_2 => (intro _; unfold exec2; go_simp; try with_reducible rfl)
    try simp only [Act.put, List.setIfInBounds_toArray, List.set_cons_zero, List.set_cons_succ]
    refine wpAny_T (i := 8) (op := Op.move (Operand.tmp 6)) (t := 3) (d := some 26) (v := ?_) rfl (by decide +kernel) (by decide +kernel) (by decide +kernel) (fun _ _ _ h => h) ?_ ?_
    case refine_2 => (intro _; unfold exec2; go_simp; try with_reducible rfl)
    try simp only [Act.put, List.setIfInBounds_toArray, List.set_cons_zero, List.set_cons_succ]
    refine wpAny_T (i := 9) (op := Op.binOp BinOp.add 3 (Operand.tmp 26) (Operand.const (Value.int IntKind.i64 1)) 3) (t := 3) (d := some 27) (v := ?_) rfl (by decide +kernel) (by decide +kernel) (by decide +kernel) (fun _ _ _ h => h) ?_ ?_
    case refine_2 => (intro _; unfold exec2; go_simp; try with_reducible rfl)
    try simp only [Act.put, List.setIfInBounds_toArray, List.set_cons_zero, List.set_cons_succ]
    refine wpAny_T (i := 11) (op := Op.move (Operand.tmp 6)) (t := 3) (d := some 29) (v := ?_) rfl (by decide +kernel) (by decide +kernel) (by decide +kernel) (fun _ _ _ h => h) ?_ ?_
    case refine_2 => (intro _; unfold exec2; go_simp; try with_reducible rfl)
    try simp only [Act.put, List.setIfInBounds_toArray, List.set_cons_zero, List.set_cons_succ]
    refine wpAny_T (i := 12) (op := Op.binOp BinOp.add 3 (Operand.tmp 29) (Operand.const (Value.int IntKind.i64 1)) 3) (t := 3) (d := some 30) (v := ?_) rfl (by decide +kernel) (by decide +kernel) (by decide +kernel) (fun _ _ _ h => h) ?_ ?_
    case refine_2 => (intro _; unfold exec2; go_simp; try with_reducible rfl)
    try simp only [Act.put, List.setIfInBounds_toArray, List.set_cons_zero, List.set_cons_succ]
    refine wpAny_core4 (n := 3) (σ := Nat → Nat) [(1, some 19), (4, some 22), (7, some 25), (10, some 28), (13, some 31)] (fun _ W => Ext w1 W)
      (fun i v T W => (i = 1 → v = .slice D n d) ∧ (i ≠ 1 → ∃ h, v = .slice (some ⟨h, 0, none⟩) N N ∧ Arr W h N (fun _ => 0) ∧ w1.heap.size ≤ h ∧ T h = i))
      (fun T W T' W' => Ext W W' ∧ ∀ h, h < W.heap.size → T' h = T h) #[true, true, true, true, true, true, true, true, true, true, true, true, true, true, false, false, false] (by decide +kernel) ?_ ?_ ?_ (s0 := fun _ => 0) ((Ext.rf _).drew)
    · rintro j v T W T' W' ⟨h1, h2⟩ ⟨hx, hT⟩
      refine ⟨h1, fun hj => ?_⟩
      obtain ⟨h, k1, k2, k3, k4⟩ := h2 hj
      exact ⟨h, k1, k2.ext hx, k3, by rw [hT h k2.lt]; exact k4⟩
    · intro pq hpm u T W hRW hD K hK
      have r5 : W.cell? ⟨w.heap.size, 5, none⟩ = some (.slice D n d) := (b1.out.ext hRW).cell 5
      have MK : ∀ (i : Nat) (W' : World), i ≠ 1 → Arr W' W.heap.size N (fun _ => 0) → Ext W W' → ((i = 1 → Value.slice (some ⟨W.heap.size, 0, none⟩) N N = .slice D n d) ∧ (i ≠ 1 → ∃ h, Value.slice (some ⟨W.heap.size, 0, none⟩) N N = .slice (some ⟨h, 0, none⟩) N N ∧ Arr W' h N (fun _ => 0) ∧ w1.heap.size ≤ h ∧ (fun x => if x = W.heap.size then i else T x) h = i)) ∧ Ext w1 W' ∧ (Ext W W' ∧ ∀ h, h < W.heap.size → (fun x => if x = W.heap.size then i else T x) h = T h) := fun i W' hi a x =>
        ⟨⟨fun h => absurd h hi, fun _ => ⟨_, rfl, a, hRW.size, if_pos rfl⟩⟩, hRW.tr x, x, fun h hh => if_neg (by omega)⟩
      simp only [List.mem_cons, List.not_mem_nil, or_false] at hpm
      rcases hpm with rfl | rfl | rfl | rfl | rfl
      · exact op_ld (T := 23) rfl (.pointer (some ⟨w.heap.size, 5, none⟩)) (by kernel_rfl) (.slice D n d) (by go_simp) (hK _ T W ⟨fun _ => rfl, fun h => absurd rfl h⟩ hRW ⟨Ext.rf _, fun _ _ => rfl⟩)
      · exact op_make_a rfl N (N : Int) (by kernel_rfl) (by kernel_rfl) rfl (by omega) fun W' a x => hK _ _ _ (MK 4 W' (by decide) a x).1 (MK 4 W' (by decide) a x).2.1 (MK 4 W' (by decide) a x).2.2
      · exact op_make_a rfl N (N : Int) (by kernel_rfl) (by kernel_rfl) rfl (by omega) fun W' a x => hK _ _ _ (MK 7 W' (by decide) a x).1 (MK 7 W' (by decide) a x).2.1 (MK 7 W' (by decide) a x).2.2
      · exact op_make_a rfl N (N : Int) (by kernel_rfl) (by kernel_rfl) rfl (by omega) fun W' a x => hK _ _ _ (MK 10 W' (by decide) a x).1 (MK 10 W' (by decide) a x).2.1 (MK 10 W' (by decide) a x).2.2
      · exact op_make_a rfl N (N : Int) (by kernel_rfl) (by kernel_rfl) rfl (by omega) fun W' a x => hK _ _ _ (MK 13 W' (by decide) a x).1 (MK 13 W' (by decide) a x).2.1 (MK 13 W' (by decide) a x).2.2
    · intro u T W hRW hV
      have h1 := (hV (1, some 19) (by simp)).1 rfl
      obtain ⟨gu, h4, a4, z4, e4⟩ := (hV (4, some 22) (by simp)).2 (by decide)
      obtain ⟨gv, h7, a7, z7, e7⟩ := (hV (7, some 25) (by simp)).2 (by decide)
      obtain ⟨gh, h10, a10, z10, e10⟩ := (hV (10, some 28) (by simp)).2 (by decide)
      obtain ⟨gf, h13, a13, z13, e13⟩ := (hV (13, some 31) (by simp)).2 (by decide)
      have ND : Hid ([gu, gv, gh, gf].Nodup ∧ ∀ k, k < w1.heap.size → ¬ PS gu gv gh gf k) := by
        refine ⟨?_, fun k hk => ?_⟩
        · simp only [List.nodup_cons, List.mem_cons, List.not_mem_nil, or_false, not_or, not_false_eq_true, List.nodup_nil, and_true]
          refine ⟨⟨?_, ?_, ?_⟩, ⟨?_, ?_⟩, ?_⟩ <;> (rintro rfl; omega)
        · rintro (h | h | h | h) <;> omega
      simp only [putAll, h1, h4, h7, h10, h13]
      clear hV h1 h4 h7 h10 h13 e4 e7 e10 e13 z4 z7 z10 z13
      try simp only [Act.put, List.setIfInBounds_toArray, List.set_cons_zero, List.set_cons_succ]
      refine wpAny_T (i := 14) (op := Op.build 105 #[(0, Operand.tmp 19), (1, Operand.tmp 22), (2, Operand.tmp 25), (3, Operand.tmp 28), (4, Operand.tmp 31)]) (t := 105) (d := some 32) (v := ?_) rfl (by decide +kernel) (by decide +kernel) (by decide +kernel) (fun _ _ _ h => h) ?_ ?_
      case refine_2 => (intro _; unfold exec2; go_simp; try with_reducible rfl)
      try simp only [Act.put, List.setIfInBounds_toArray, List.set_cons_zero, List.set_cons_succ]
      refine wpAny_next 15 (by decide +kernel) (op_run (op := .box 105 (.tmp 32)) rfl (.pointer (some ⟨W.heap.size, 0, none⟩)) (w' := W.alloc (.cells #[.slice D n d, .slice (some ⟨gu, 0, none⟩) N N, .slice (some ⟨gv, 0, none⟩) N N, .slice (some ⟨gh, 0, none⟩) N N, .slice (some ⟨gf, 0, none⟩) N N] 105)) (by unfold exec2; go_simp) ?_)
      try simp only [Act.put, List.setIfInBounds_toArray, List.set_cons_zero, List.set_cons_succ]
      refine wpAny_T (i := 16) (op := Op.assign (Operand.tmp 33)) (t := 103) (d := some 7) (v := ?_) rfl (by decide +kernel) (by decide +kernel) (by decide +kernel) (fun _ _ _ h => h) ?_ ?_
      case refine_2 => (intro _; unfold exec2; go_simp; try with_reducible rfl)
      try simp only [Act.put, List.setIfInBounds_toArray, List.set_cons_zero, List.set_cons_succ]
      refine wpAny_done (by kernel_rfl) ?_ _
      have xa : Ext W (W.alloc (.cells #[.slice D n d, .slice (some ⟨gu, 0, none⟩) N N, .slice (some ⟨gv, 0, none⟩) N N, .slice (some ⟨gh, 0, none⟩) N N, .slice (some ⟨gf, 0, none⟩) N N] 105)) := (Ext.rf _).alloc _
      go_simp
      go_wp2_with (fail)
      go_meet
      exact ⟨W.heap.size, gu, gv, gh, gf, rfl, .new rfl, ND.out.1, ND.out.2, a4.ext xa, a7.ext xa, a10.ext xa, a13.ext xa, hRW.tr xa⟩
  case rest =>
  obtain ⟨gp, gu, gv, gh, gf, rfl, hP, hd, hb, aU, aV, aH, aF, x5⟩ := hcut
  obtain ⟨w5, rfl⟩ : ∃ w5 : World, w5 = wc := ⟨_, rfl⟩
  have X5 := Lib.hid (X1.out.tr x5)
  have b5 := Lib.hid (b1.out.ext x5)
  have hbw : ∀ k, k < w.heap.size → ¬ PS gu gv gh gf k := fun k hk => hb k (by have := X1.out.size; omega)
  have gpn : ¬ PS gu gv gh gf gp := by
    rintro (h | h | h | h)
    · exact aU.ne hP (by decide) h.symm
    · exact aV.ne hP (by decide) h.symm
    · exact aH.ne hP (by decide) h.symm
    · exact aF.ne hP (by decide) h.symm
  have PM := Lib.hid (fun (W : World) (m : Mod (PS gu gv gh gf) w5 W) => (show PB W gp D d n N gu gv gh gf from hP.mod m gpn))
  have XM := Lib.hid (fun (W : World) (m : Mod (PS gu gv gh gf) w5 W) => X5.out.mod m hbw)
  have GS : Hid (HI n (cstR co) 0 (fun _ => 0) (fun _ => 0) (fun _ => 0) ∧ Arr w5 gu N (fun _ => 0) ∧ Arr w5 gv N (fun _ => 0) ∧ Arr w5 gh N (fun c => (((fun _ => 0) c : Nat) : Int)) ∧ Arr w5 gf N (fun c => (((fun _ => 0) c : Nat) : Int))) := ⟨HI.start num.out, aU, aV, aH, aF⟩
  have hne : gh ≠ gf := by
    simp only [List.nodup_cons, List.mem_cons, List.not_mem_nil, or_false, not_or] at hd
    exact hd.2.2.1
  have nbx : ¬ PS gu gv gh gf w.heap.size := hb _ b1.out.lt
  replace hd := Lib.hid hd
  replace hbw := Lib.hid hbw
  replace hne := Lib.hid hne
  clear hP aU aV aH aF x5 hb gpn t1
  go_wp2_with (fail)
  go_loopw [8] (fun v8 wr => ∃ (r k : Nat) (u v : Nat → Int) (has frm : Nat → Nat), v8 = .int .i64 r ∧ Hid (r = k + 1) ∧ r ≤ n + 1 ∧ Hid (HI n (cstR co) k u v has ∧ Arr wr gu N u ∧ Arr wr gv N v ∧ Arr wr gh N (fun c => (has c : Int)) ∧ Arr wr gf N (fun c => (frm c : Int))) ∧ Hid (Mod (PS gu gv gh gf) w5 wr)) (fun v8 _ => n + 1 - (intOf v8).toNat)
  case atStart => exact ⟨1, 0, fun _ => 0, fun _ => 0, fun _ => 0, fun _ => 0, rfl, rfl, by omega, GS, Mod.rf _⟩
  case round =>
    clear GS
    obtain ⟨wo, rfl⟩ : ∃ wo : World, wo = wr := ⟨_, rfl⟩
    obtain ⟨r, k, u, v, has, frm, rfl, hrk, hr, GS, HM⟩ := hrel
    by_cases hrn : r ≤ n
    · have q1 : (r : Int) ≤ (n : Int) := by omega
      have wr1 : IntKind.i64.wrap ((r : Int) + 1) = ((r + 1 : Nat) : Int) := IntWalk.i64_in _ (by omega)
      obtain ⟨hI, aU, aV, aH, aF⟩ := GS.out
      have G := Lib.hid (GR.out wo gp gu gv gh gf k r u v has frm (PM.out _ HM.out) aU aV aH aF hd.out (XM.out _ HM.out) hbw.out hI (by have := hrk.out; omega) hrk.out)
      clear hI aU aV aH aF GS
      go_wp2_with (fail)
      refine G.out.mono ?_
      rintro e W1 ⟨a1, L, u2, v2, least, has2, frm2, rfl, ha, cU, cV, cH, cF, hG, hO, hM⟩
      have HM1 := Lib.hid (HM.out.tr hM)
      have hI2 := And.intro hG.slack (And.intro hG.neg (And.intro hG.pos hG.fresh))
      have T := Lib.hid (turn_any (PM.out _ HM1.out) cH cF hne.out hN.out (by omega) hG hO ha)
      have FIN := Lib.hid (And.intro cU (And.intro cV cF))
      clear G hM hG hO ha cU cV cH cF hI2 HM
      go_wp2_with (fail)
      refine T.out.mono ?_
      rintro e W2 ⟨rfl, ⟨hs, dH, hI3⟩, hM2⟩
      obtain ⟨cU, cV, cF⟩ := FIN.out
      have nd := hd.out
      simp only [List.nodup_cons, List.mem_cons, List.not_mem_nil, or_false, not_or] at nd
      have HM3 := Lib.hid (HM1.out.tr (hM2.mono fun k _ hk => Or.inr (Or.inr (Or.inl hk))))
      have GS3 : Hid (HI n (cstR co) r u2 v2 hs ∧ Arr W2 gu N u2 ∧ Arr W2 gv N v2 ∧ Arr W2 gh N (fun c => (hs c : Int)) ∧ Arr W2 gf N (fun c => (frm2 c : Int))) :=
        ⟨hI3, cU.mod hM2 nd.1.2.1, cV.mod hM2 nd.2.1.1, dH, cF.mod hM2 (fun e => nd.2.2.1 e.symm)⟩
      clear T dH hI3 hM2 cU cV cF nd HM1 FIN
      go_wp2_with (fail)
      go_roundw
      case rel => exact ⟨r + 1, r, _, _, _, _, by go_num, rfl, by omega, GS3, HM3⟩
      case measure => simp [intOf]; omega
    · obtain rfl : r = n + 1 := by omega
      obtain rfl : k = n := by have := hrk.out; omega
      clear hrk hrn hr
      obtain ⟨hI, -, -, aH, -⟩ := GS.out
      have q1 : ¬ (((k + 1 : Nat) : Int) ≤ (k : Int)) := by omega
      have PH : Hid (PB wo gp D d k N gu gv gh gf) := PM.out _ HM.out
      have XX := Lib.hid (XM.out _ HM.out)
      have BX := Lib.hid (b5.out.mod HM.out nbx)
      have FU := Lib.hid (fun c (c1 : 1 ≤ c) (c2 : c ≤ k) => hI.full c1 c2)
      have INJ := Lib.hid (fun c c' (c1 : 1 ≤ c) (c2 : c ≤ k) (d1 : 1 ≤ c') (d2 : c' ≤ k) (e : has c = has c') => hI.inj c c' c1 c2 d1 d2 e (by have := hI.full c1 c2; omega))
      replace hI := Lib.hid hI
      replace aH := Lib.hid aH
      clear GS HM PM XM b5 X5 b1 X1
      go_wp2_with (at_make; refine wpl_make_i _ rfl _ _ rfl wo.heap.size _ _ k rfl rfl rfl rfl (by omega) (Nat.le_refl _) ?_; rintro w6 o6 g6; replace o6 := Lib.hid o6; replace g6 := Lib.hid g6)
      have x6 := Lib.hid ((Ext.rf wo).grownNone g6.out)
      have a6 := Lib.hid (Arr.of_own o6.out)
      have PH6 := Lib.hid (Blk.ext PH.out x6.out)
      have aH6 := Lib.hid (aH.out.ext x6.out)
      have zx : wo.heap.size ≠ gh ∧ wo.heap.size ≠ gp := by
        have := aH.out.lt
        have := Blk.lt PH.out
        omega
      generalize hgx : wo.heap.size = gx at *
      replace hgx := Lib.hid hgx
      clear o6 g6 PH aH
      go_loopw [10] (fun v10 wr => ∃ (c : Nat) (xf : Nat → Nat), v10 = .int .i64 c ∧ 1 ≤ c ∧ c ≤ k + 1 ∧ Hid (∀ j, 1 ≤ j → j < c → xf (has j - 1) = j - 1) ∧ Hid (Arr wr gx k fun i => (xf i : Int)) ∧ Hid (Mod (fun b => b = gx) w6 wr)) (fun v10 _ => k + 1 - (intOf v10).toNat)
      case atStart => exact ⟨1, fun _ => 0, rfl, by omega, by omega, fun j h1 h2 => by omega, a6.out, Mod.rf _⟩
      case round =>
        clear a6
        obtain ⟨wp, rfl⟩ : ∃ wp : World, wp = wr := ⟨_, rfl⟩
        obtain ⟨c, xf, rfl, hc1, hck, HX, aX, HM⟩ := hrel
        by_cases hcn : c ≤ k
        · have q2 : (c : Int) ≤ (k : Int) := by omega
          have wc1 : IntKind.i64.wrap ((c : Int) + 1) = ((c + 1 : Nat) : Int) := IntWalk.i64_in _ (by omega)
          have fu := FU.out c hc1 hcn
          obtain ⟨h, hh⟩ : ∃ h, Hid (has c = h) := ⟨_, rfl⟩
          rw [hh.out] at fu
          obtain ⟨h1, hh1⟩ : ∃ h1, Hid (h - 1 = h1) := ⟨_, rfl⟩
          obtain ⟨c1, hhc⟩ : ∃ c1, Hid (c - 1 = c1) := ⟨_, rfl⟩
          have w2 : IntKind.i64.wrap ((h : Int) - 1) = (h1 : Int) := by
            have := hh1.out
            rw [show (h : Int) - 1 = (h1 : Int) by omega]
            exact IntWalk.i64_in _ (by omega)
          have w3 : IntKind.i64.wrap ((c : Int) - 1) = (c1 : Int) := by
            have := hhc.out
            rw [show (c : Int) - 1 = (c1 : Int) by omega]
            exact IntWalk.i64_in _ (by omega)
          have p3 : wp.cell? ⟨gp, 3, none⟩ = some (.slice (some ⟨gh, 0, none⟩) N N) := (Blk.mod PH6.out HM.out zx.2.symm).cell 3
          have kh := (aH6.out.mod HM.out zx.1.symm).cell (k := c) (by have := hN.out; omega)
          simp only [hh.out] at kh
          have qh : (h1 : Int) < (k : Int) := by have := hh1.out; omega
          have qh' : h1 < k := by have := hh1.out; omega
          have qc : (c : Int) < (N : Int) := by have := hN.out; omega
          have kx := aX.out.cell qh'
          have fx := aX.out.free h1
          have aX2 : Hid (Arr (wp.setCell ⟨gx, h1, none⟩ (.int .i64 c1)) gx k fun i => ((if i = h1 then c1 else xf i : Nat) : Int)) := (aX.out.set h1 (c1 : Int)).congr fun i _ => by split <;> rfl
          have HM2 := Lib.hid (HM.out.set (p := ⟨gx, h1, none⟩) (.inl rfl) (.int .i64 c1))
          have HX2 : Hid (∀ j, 1 ≤ j → j < c + 1 → (fun i => if i = h1 then c1 else xf i) (has j - 1) = j - 1) := fun j j1 j2 => by
            simp only
            by_cases e : j = c
            · subst e
              rw [hh.out, hh1.out, if_pos rfl, hhc.out]
            · have h3 := FU.out j j1 (by omega)
              have h4 := hh.out
              have h5 := hh1.out
              rw [if_neg (fun e2 => e (INJ.out j c j1 (by omega) hc1 hcn (by omega)))]
              exact HX.out j j1 (by omega)
          clear HX aX HM fu
          go_wp2_with (fail)
          go_roundw
          case rel => exact ⟨c + 1, _, by go_num, by omega, by omega, HX2, aX2, HM2⟩
          case measure => simp [intOf]; omega
        · obtain rfl : c = k + 1 := by omega
          have HU := hung_min (x := (List.range k).map xf) hn.out hI.out (by simp) (fun j j1 j2 => by
            have h3 := FU.out j j1 j2
            rw [List.getElem?_map, List.getElem?_range (by omega), Option.map_some, HX.out j j1 (by omega)])
          have RD : RdI wp (some ⟨gx, 0, none⟩) (intsN ((List.range k).map xf)) := by
            have := aX.out.rdI
            simpa [intsN, Function.comp_def] using this
          have XW : Ext w wp := (XX.out.tr x6.out).mod HM.out (fun b hb e => by
            have h1 := hgx.out
            have h2 := XX.out.size
            omega)
          have LE : Hid (Least co k (costF co (intsN ((List.range k).map xf)))) := ⟨⟨_, HU.1, rfl⟩, HU.2⟩
          have TT := Lib.hid (TO.out (some ⟨gx, 0, none⟩) k ((List.range k).map xf) wp XW RD HU.1)
          have FIN := Lib.hid (And.intro HU.1 (And.intro RD XW))
          have BXp := (BX.out.ext x6.out).mod HM.out (fun e => by
            have h1 := hgx.out
            have h2 := BX.out.lt
            omega)
          have t0 : wp.cell? ⟨w.heap.size, 0, none⟩ = some (.int .i64 2) := BXp.cell 0
          have t1 : wp.cell? ⟨w.heap.size, 1, none⟩ = some (.int .i64 k) := BXp.cell 1
          have t2 : wp.cell? ⟨w.heap.size, 2, none⟩ = some (.int .i64 cap) := BXp.cell 2
          have t3 : wp.cell? ⟨w.heap.size, 3, none⟩ = some (.slice A xw.length a) := BXp.cell 3
          have t4 : wp.cell? ⟨w.heap.size, 4, none⟩ = some (.slice B xv.length b) := BXp.cell 4
          have t5 : wp.cell? ⟨w.heap.size, 5, none⟩ = some (.slice D k d) := BXp.cell 5
          have q2 : ¬ (((k + 1 : Nat) : Int) ≤ (k : Int)) := by omega
          have mk : k ≤ maxLen := by simp only [maxLen]; omega
          clear HU RD XW BXp HX aX HM BX XX INJ FU hI
          generalize (List.range k).map xf = l at *
          go_wp2_with (fail)
          refine TT.out.mono ?_
          rintro e W9 ⟨rfl, x9⟩
          clear t0 t1 t2 t3 t4 t5 TT
          go_wp2_with (fail)
          go_ret3
          unfold AsgPost
          rw [hn.out]
          exact ⟨_, _, l, rfl, FIN.out.2.1.ext x9, FIN.out.1, Nat.le_refl _, mk, LE.out, FIN.out.2.2.tr x9⟩
end Go.Proofs.YtleckhbmciiooaaDoor
namespace Go.Proofs.YtleckhbmciiooaaDoor
open Go.RowKit Go.ChangeShapes Go.WideShapes Go.ChangeAt Go.Deep

/-- whether a problem is taken as one of a kind -/
def takesP (i : InstP) (k : Int) : Int := if checkP i ≠ 0 then checkP i else if i.kind ≠ k then 14 else if (k = 1 ∧ 18 < i.n) ∨ (k = 3 ∧ 12 < i.n) then 5 else 0
/-- the document's word for it; 0: of any kind -/
def rtakesP (i : InstP) (k : Int) : Int := if checkP i ≠ 0 then checkP i else if k ≠ 0 ∧ i.kind ≠ k then 14 else if (i.kind = 1 ∧ 18 < i.n) ∨ (i.kind = 3 ∧ 12 < i.n) then 5 else 0
theorem takes_zero {i : InstP} {k : Int} (h : takesP i k = 0) : checkP i = 0 ∧ i.kind = k ∧ (k = 1 → i.n ≤ 18) ∧ (k = 3 → i.n ≤ 12) := by
  unfold takesP at h
  by_cases hc : checkP i = 0
  · by_cases e : i.kind = k
    · by_cases h2 : (k = 1 ∧ 18 < i.n) ∨ (k = 3 ∧ 12 < i.n)
      · simp [hc, e, h2] at h
      · exact ⟨hc, e, fun h3 => by omega, fun h3 => by omega⟩
    · simp [hc, e] at h
  · simp [hc] at h
set_option maxRecDepth 100000 in
set_option maxHeartbeats 1000000 in
theorem takes_any (i : InstP) (us : List Value) (k : Int) (w : World) (H : RInst w us i) (lw : i.weight.length ≤ 1000000000) (lv : i.value.length ≤ 1000000000) :
    Calls Tryd.prog 62 #[.agg (List.toArray us), .int .i64 k] w fun e w' => e = .returned (.int .i64 (takesP i k)) ∧ Ext w w' := by
  have CH := fun (W : World) (x : Ext w W) => check_any i us W (H.ext x) lw lv
  obtain ⟨c, hcc⟩ : ∃ c, Hid (checkP i = c) := ⟨_, rfl⟩
  have TP : Hid (∀ v, (if c ≠ 0 then c else if i.kind ≠ k then 14 else if (k = 1 ∧ 18 < i.n) ∨ (k = 3 ∧ 12 < i.n) then 5 else 0) = v → takesP i k = v) := fun v h => by
    unfold takesP
    rw [hcc.out]
    exact h
  generalize takesP i k = tp at *
  rw [hcc.out] at CH
  obtain ⟨kind, nn, cap, xw, xv, co⟩ := i
  obtain ⟨A, a, B, b, D, d, rfl, -, -, -⟩ := H
  simp only at *
  have B1 : Hid (Blk (w.alloc (.cells #[.int .i64 kind, .int .i64 nn, .int .i64 cap, .slice A xw.length a, .slice B xv.length b, .slice D co.length d] 25)) w.heap.size 25 #[.int .i64 kind, .int .i64 nn, .int .i64 cap, .slice A xw.length a, .slice B xv.length b, .slice D co.length d]) := .new rfl
  replace CH := Lib.hid CH
  clear hcc lw lv
  go_enter Tryd.func62, Tryd.ntmps62
  go_wp2_with (fail)
  refine (CH.out _ (by (repeat (first | assumption | exact Ext.rf _ | apply Ext.drew | apply Ext.drewN | apply Ext.alloc)))).mono ?_
  rintro e w1 ⟨rfl, x1⟩
  have X1 := Lib.hid (Ext.tr (a := w) (by (repeat (first | assumption | exact Ext.rf _ | apply Ext.drew | apply Ext.drewN | apply Ext.alloc))) x1)
  have b1 := Lib.hid (B1.out.ext x1)
  have t0 : w1.cell? ⟨w.heap.size, 0, none⟩ = some (.int .i64 kind) := b1.out.cell 0
  have t1 : w1.cell? ⟨w.heap.size, 1, none⟩ = some (.int .i64 nn) := b1.out.cell 1
  clear x1 B1
  by_cases hc : c = 0
  · subst hc
    by_cases hk : kind = k
    · subst hk
      have kk : (kind != kind) = false := by simp
      by_cases k1 : kind = 1
      · subst k1
        by_cases hn : 18 < nn
        · have T5 := TP.out 5 (by simp [hn])
          clear TP
          go_wp2_with (fail)
          go_ret
          exact ⟨by rw [T5]; rfl, X1.out.tr (by (repeat (first | assumption | exact Ext.rf _ | apply Ext.drew | apply Ext.drewN | apply Ext.alloc)))⟩
        · have T5 := TP.out 0 (by simp [hn])
          clear TP
          go_wp2_with (fail)
          go_ret
          exact ⟨by rw [T5]; rfl, X1.out.tr (by (repeat (first | assumption | exact Ext.rf _ | apply Ext.drew | apply Ext.drewN | apply Ext.alloc)))⟩
      · by_cases k3 : kind = 3
        · subst k3
          by_cases hn : 12 < nn
          · have T5 := TP.out 5 (by simp [hn])
            clear TP
            go_wp2_with (fail)
            go_ret
            exact ⟨by rw [T5]; rfl, X1.out.tr (by (repeat (first | assumption | exact Ext.rf _ | apply Ext.drew | apply Ext.drewN | apply Ext.alloc)))⟩
          · have T5 := TP.out 0 (by simp [hn])
            clear TP
            go_wp2_with (fail)
            go_ret
            exact ⟨by rw [T5]; rfl, X1.out.tr (by (repeat (first | assumption | exact Ext.rf _ | apply Ext.drew | apply Ext.drewN | apply Ext.alloc)))⟩
        · have T5 := TP.out 0 (by simp [k1, k3])
          have e1 : (kind == 1) = false := by simpa using k1
          have e3 : (kind == 3) = false := by simpa using k3
          clear TP
          go_wp2_with (fail)
          go_ret
          exact ⟨by rw [T5]; rfl, X1.out.tr (by (repeat (first | assumption | exact Ext.rf _ | apply Ext.drew | apply Ext.drewN | apply Ext.alloc)))⟩
    · have T5 := TP.out 14 (by simp [hk])
      have e1 : (kind != k) = true := by simpa using hk
      clear TP
      go_wp2_with (fail)
      go_ret
      exact ⟨by rw [T5]; rfl, X1.out.tr (by (repeat (first | assumption | exact Ext.rf _ | apply Ext.drew | apply Ext.drewN | apply Ext.alloc)))⟩
  · have T5 := TP.out c (by simp [hc])
    have e1 : (c != 0) = true := by simpa using hc
    clear TP
    go_wp2_with (fail)
    go_ret
    exact ⟨by rw [T5]; rfl, X1.out.tr (by (repeat (first | assumption | exact Ext.rf _ | apply Ext.drew | apply Ext.drewN | apply Ext.alloc)))⟩
end Go.Proofs.YtleckhbmciiooaaDoor
namespace Go.Proofs.YtleckhbmciiooaaDoor
open Go.RowKit Go.ChangeShapes Go.WideShapes Go.ChangeAt Go.Deep
attribute [local go_sem] Oper.semAt_some

/-- a best answer of a problem, and what it costs -/
def AnsOk (i : InstP) (x : List Int) (v : Int) : Prop :=
  (i.kind = 1 ∧ ∃ n m : Nat, i.n = n ∧ x = xB m n ∧ m < 2 ^ n ∧ sumB (atF i.weight) n m ≤ i.cap ∧ v = sumN (atF i.value) n m ∧ ∀ s, s < 2 ^ n → sumB (atF i.weight) n s ≤ i.cap → v ≤ sumN (atF i.value) n s) ∨
  (i.kind = 2 ∧ ∃ l : List Nat, x = intsN l ∧ l.Perm (List.range i.cost.length) ∧ v = costF i.cost (intsN l) ∧ Least i.cost i.cost.length v) ∨
  (i.kind = 3 ∧ ∃ q : List Nat, x = intsN (0 :: q) ∧ (0 :: q).Perm (List.range i.cost.length) ∧ v = pathT i.cost 0 q ∧ LeastT i.cost i.cost.length v)
def ExPost (i : InstP) (t : Int) (w : World) (e : Ending) (w' : World) : Prop :=
  (t ≠ 0 ∧ e = .returned (.tuple #[.slice none 0 0, .int .i64 0, .int .i64 t]) ∧ Ext w w') ∨
  (t = 0 ∧ ∃ A x c v, e = .returned (.tuple #[.slice A x.length c, .int .i64 v, .int .i64 0]) ∧ RdI w' A x ∧ AnsOk i x v ∧ x.length ≤ c ∧ c ≤ maxLen ∧ Ext w w')
section
variable (i : InstP) (us : List Value) (w : World) (H : RInst w us i) (lw : i.weight.length ≤ 1000000000) (lv : i.value.length ≤ 1000000000)
include H lw lv
set_option maxRecDepth 100000 in
set_option maxHeartbeats 1000000 in
theorem knap_no (h : takesP i 1 ≠ 0) : CallsIn Fence.wide 3 Tryd.prog 30 #[.agg (List.toArray us)] w fun e w' => e = .returned (.tuple #[.slice none 0 0, .int .i64 0, .int .i64 (takesP i 1)]) ∧ Ext w w' := by
  have TK := fun (W : World) (x : Ext w W) => takes_any i us 1 W (H.ext x) lw lv
  generalize takesP i 1 = tp at *
  have e1 : (tp != 0) = true := by simpa using h
  obtain ⟨kind, nn, cap, xw, xv, co⟩ := i
  obtain ⟨A, a, B, b, D, d, rfl, -, -, -⟩ := H
  simp only at *
  replace TK := Lib.hid TK
  clear h lw lv
  refine callsIn_of_wp_marks Tryd.func30 rfl trivial ?_ rfl
  simp only [Tryd.ntmps30, List.size_toArray, List.length_cons, List.length_nil, Nat.reduceAdd, Nat.reduceSub, Array.replicate_succ, Array.replicate_zero, List.push_toArray, List.append_toArray, List.nil_append, List.cons_append]
  refine wpIn_wide.2 (wp_mono ?_ bodyPostN_le)
  go_wp2_with (fail)
  refine (TK.out _ (by (repeat (first | assumption | exact Ext.rf _ | apply Ext.drew | apply Ext.drewN | apply Ext.alloc)))).mono ?_
  rintro e w1 ⟨rfl, x1⟩
  have X1 := Lib.hid (Ext.tr (a := w) (by (repeat (first | assumption | exact Ext.rf _ | apply Ext.drew | apply Ext.drewN | apply Ext.alloc))) x1)
  clear x1
  go_wp2_with (fail)
  refine ⟨.tuple #[.slice none 0 0, .int .i64 0, .int .i64 tp], by simp [results, Tryd.results30, go_sem], rfl, X1.out.tr (by (repeat (first | assumption | exact Ext.rf _ | apply Ext.drew | apply Ext.drewN | apply Ext.alloc)))⟩
set_option maxRecDepth 100000 in
set_option maxHeartbeats 1000000 in
theorem asg_no (h : takesP i 2 ≠ 0) : Calls Tryd.prog 31 #[.agg (List.toArray us)] w fun e w' => e = .returned (.tuple #[.slice none 0 0, .int .i64 0, .int .i64 (takesP i 2)]) ∧ Ext w w' := by
  have TK := fun (W : World) (x : Ext w W) => takes_any i us 2 W (H.ext x) lw lv
  generalize takesP i 2 = tp at *
  have e1 : (tp != 0) = true := by simpa using h
  obtain ⟨kind, nn, cap, xw, xv, co⟩ := i
  obtain ⟨A, a, B, b, D, d, rfl, -, -, -⟩ := H
  simp only at *
  replace TK := Lib.hid TK
  clear h lw lv
  go_enter Tryd.func31, Tryd.ntmps31
  go_wp2_with (fail)
  refine (TK.out _ (by (repeat (first | assumption | exact Ext.rf _ | apply Ext.drew | apply Ext.drewN | apply Ext.alloc)))).mono ?_
  rintro e w1 ⟨rfl, x1⟩
  have X1 := Lib.hid (Ext.tr (a := w) (by (repeat (first | assumption | exact Ext.rf _ | apply Ext.drew | apply Ext.drewN | apply Ext.alloc))) x1)
  clear x1
  go_wp2_with (fail)
  go_ret3
  exact ⟨rfl, X1.out.tr (by (repeat (first | assumption | exact Ext.rf _ | apply Ext.drew | apply Ext.drewN | apply Ext.alloc)))⟩
set_option maxRecDepth 100000 in
set_option maxHeartbeats 1000000 in
theorem tour_no (h : takesP i 3 ≠ 0) : Calls Tryd.prog 32 #[.agg (List.toArray us)] w fun e w' => e = .returned (.tuple #[.slice none 0 0, .int .i64 0, .int .i64 (takesP i 3)]) ∧ Ext w w' := by
  have TK := fun (W : World) (x : Ext w W) => takes_any i us 3 W (H.ext x) lw lv
  generalize takesP i 3 = tp at *
  have e1 : (tp != 0) = true := by simpa using h
  obtain ⟨kind, nn, cap, xw, xv, co⟩ := i
  obtain ⟨A, a, B, b, D, d, rfl, -, -, -⟩ := H
  simp only at *
  replace TK := Lib.hid TK
  clear h lw lv
  go_enter Tryd.func32, Tryd.ntmps32
  go_wp2_with (fail)
  refine (TK.out _ (by (repeat (first | assumption | exact Ext.rf _ | apply Ext.drew | apply Ext.drewN | apply Ext.alloc)))).mono ?_
  rintro e w1 ⟨rfl, x1⟩
  have X1 := Lib.hid (Ext.tr (a := w) (by (repeat (first | assumption | exact Ext.rf _ | apply Ext.drew | apply Ext.drewN | apply Ext.alloc))) x1)
  clear x1
  go_wp2_with (fail)
  go_ret3
  exact ⟨rfl, X1.out.tr (by (repeat (first | assumption | exact Ext.rf _ | apply Ext.drew | apply Ext.drewN | apply Ext.alloc)))⟩
theorem knap_ex (hT : Tab w) : Calls Tryd.prog 30 #[.agg (List.toArray us)] w (ExPost i (takesP i 1) w) := by
  by_cases h : takesP i 1 = 0
  · obtain ⟨hc, hk, h18, -⟩ := takes_zero h
    have ok := knap_ok hc hk
    have n1 := ok.n1
    obtain ⟨n, hn⟩ : ∃ n : Nat, i.n = n := ⟨i.n.toNat, by omega⟩
    refine (knapsack_any i us n w H hT hc hk hn (by have := h18 rfl; omega)).mono ?_
    rintro e w' ⟨A, c, m, rfl, h1, h2, h3, h4, h5, h6, h7⟩
    exact .inr ⟨h, A, xB m n, c, _, by rw [xB_len], h1, .inl ⟨hk, n, m, hn, rfl, h2, h3, rfl, h6⟩, by rw [xB_len]; exact h4, h5, h7⟩
  · refine (callsIn_wide.1 (knap_no i us w H lw lv h)).mono ?_
    rintro e w' ⟨rfl, x⟩
    exact .inl ⟨h, rfl, x⟩
theorem asg_ex : Calls Tryd.prog 31 #[.agg (List.toArray us)] w (ExPost i (takesP i 2) w) := by
  by_cases h : takesP i 2 = 0
  · obtain ⟨hc, hk, -⟩ := takes_zero h
    refine (asg_any i us w H hc hk).mono ?_
    rintro e w' ⟨A, c, l, rfl, h1, h2, h3, h4, h5, h6⟩
    have hl : (intsN l).length = i.cost.length := by rw [intsN_len, h2.length_eq, List.length_range]
    exact .inr ⟨h, A, intsN l, c, _, by rw [hl], h1, .inr (.inl ⟨hk, l, rfl, h2, rfl, h5⟩), by rw [hl]; exact h3, h4, h6⟩
  · refine (asg_no i us w H lw lv h).mono ?_
    rintro e w' ⟨rfl, x⟩
    exact .inl ⟨h, rfl, x⟩
theorem tour_ex : Calls Tryd.prog 32 #[.agg (List.toArray us)] w (ExPost i (takesP i 3) w) := by
  by_cases h : takesP i 3 = 0
  · obtain ⟨hc, hk, -, h12⟩ := takes_zero h
    refine (tour_any i us w H hc hk (h12 rfl)).mono ?_
    rintro e w' ⟨A, c, q, rfl, h1, h2, h3, h4, h5, h6⟩
    have hl : (intsN (0 :: q)).length = i.cost.length := by rw [intsN_len, h2.length_eq, List.length_range]
    exact .inr ⟨h, A, intsN (0 :: q), c, _, by rw [hl], h1, .inr (.inr ⟨hk, q, rfl, h2, rfl, h5⟩), by rw [hl]; exact h3, h4, h6⟩
  · refine (tour_no i us w H lw lv h).mono ?_
    rintro e w' ⟨rfl, x⟩
    exact .inl ⟨h, rfl, x⟩
end
end Go.Proofs.YtleckhbmciiooaaDoor
namespace Go.Proofs.YtleckhbmciiooaaDoor
open Go.RowKit Go.ChangeShapes Go.WideShapes Go.ChangeAt Go.Deep

end Go.Proofs.YtleckhbmciiooaaDoor
namespace Go.Proofs.YtleckhbmciiooaaDoor
open Go.RowKit Go.ChangeShapes Go.WideShapes Go.ChangeAt Go.Deep Go.Shelf
attribute [local go_sem] Oper.semAt_some

/-- the least one, by the loop's own words -/
def leastN (f : Nat → Int) (b : Int) (l : List Nat) : Int := l.foldl (fun b x => if b < 0 then f x else if f x < b then f x else b) b
end Go.Proofs.YtleckhbmciiooaaDoor
namespace Go.Proofs.YtleckhbmciiooaaDoor
open Go.RowKit Go.ChangeShapes Go.WideShapes Go.ChangeAt Go.Deep Go.Shelf
attribute [local go_sem] Oper.semAt_some

def offL (rows : List (List Int)) (l : List Nat) : List Int := rows.map fun row => leastN (fun c => row.getD c 0) (-1) l
/-- the least of a column beyond what the rows cost, from row k on -/
def colF (c : Nat) (b : Int) : List (List Int) → List Int → Int
  | row :: rows, o :: off => colF c (if b < 0 then row.getD c 0 - o else if row.getD c 0 - o < b then row.getD c 0 - o else b) rows off
  | _, _ => b
def reduceP (rows : List (List Int)) (l : List Nat) : Int := sumL (offL rows l) + sumL (l.map fun c => colF c (-1) rows (offL rows l))
end Go.Proofs.YtleckhbmciiooaaDoor
namespace Go.Proofs.YtleckhbmciiooaaDoor
open Go

section
variable {F : Fence} {n : Nat} {P : Program} {ops : Array Oper} {md : Region.Mode} {C : World → Prop}
end
end Go.Proofs.YtleckhbmciiooaaDoor
namespace Go.Proofs.YtleckhbmciiooaaDoor
open Go.RowKit Go.ChangeShapes Go.WideShapes Go.ChangeAt Go.Deep Go.Shelf
attribute [local go_sem] Oper.semAt_some

end Go.Proofs.YtleckhbmciiooaaDoor
namespace Go.Proofs.YtleckhbmciiooaaDoor
open Go.RowKit Go.ChangeShapes Go.WideShapes Go.ChangeAt Go.Deep Go.Shelf

def boundA (rows : List (List Int)) (p : List Int) : Int × Int :=
  match freeP rows.length p with
  | none => (0, 1)
  | some m => (costF rows p + (if p.length < rows.length then reduceP (rows.drop p.length) (memsM m) else 0), 0)
theorem freeM_in {n : Nat} : ∀ {p : List Int} {m q : Nat}, SubN n m → freeM m p = some q → ∀ c ∈ p, 0 ≤ c ∧ c < n
  | [], _, _, _, _, c, hc => by cases hc
  | d :: p, m, q, h, e, c, hc => by
    unfold freeM at e
    split at e
    · rename_i hd
      rcases List.mem_cons.1 hc with rfl | hc
      · have := h.2 c.toNat (memsM_mem.2 ⟨by omega, hd.2.2⟩)
        omega
      · exact freeM_in (h.clr _) e c hc
    · cases e
theorem freeP_in {n : Nat} (h24 : n ≤ 24) {p : List Int} {q : Nat} (e : freeP n p = some q) : p.length ≤ n ∧ (∀ c ∈ p, 0 ≤ c ∧ c < n) ∧ SubN n q := by
  unfold freeP at e
  split at e
  · cases e
  · exact ⟨by omega, freeM_in (subN_full h24) e, freeM_sub (subN_full h24) e⟩
theorem costF_snoc : ∀ {rows : List (List Int)} {p : List Int} {k : Nat} {row : List Int} {c : Int}, rows[k]? = some row → p[k]? = some c → costF rows (p.take (k + 1)) = costF rows (p.take k) + row.getD c.toNat 0
  | r :: rows, d :: p, 0, row, c, h1, h2 => by
    simp at h1 h2
    subst h1 h2
    cases rows <;> simp [costF]
  | r :: rows, d :: p, k + 1, row, c, h1, h2 => by
    simp at h1 h2
    simp only [List.take_succ_cons, costF]
    rw [costF_snoc h1 h2]
    omega
  | [], _, _, _, _, h1, _ => by simp at h1
  | _ :: _, [], _, _, _, _, h2 => by simp at h2
theorem costF_bd {B : Int} (hB : 0 ≤ B) : ∀ {rows : List (List Int)} {p : List Int}, (∀ row ∈ rows, ∀ c ∈ p, 0 ≤ row.getD c.toNat 0 ∧ row.getD c.toNat 0 ≤ B) → 0 ≤ costF rows p ∧ costF rows p ≤ B * p.length
  | [], p, _ => by
    have : 0 ≤ B * (p.length : Int) := Int.mul_nonneg hB (by omega)
    simp only [costF]
    omega
  | _ :: _, [], _ => by simp [costF]
  | r :: rows, d :: p, h => by
    have h1 := h r (by simp) d (by simp)
    have h2 := costF_bd hB (rows := rows) (p := p) fun row hr c hc => h row (by simp [hr]) c (by simp [hc])
    simp only [costF, List.length_cons, Int.natCast_add, Int.natCast_one, Int.mul_add, Int.mul_one]
    omega
theorem RowsO.drop {w : World} {base : Nat} {us : List Value} {rows : List (List Int)} (h : RowsO w base us rows) (k : Nat) : RowsO w base (us.drop k) (rows.drop k) := by
  refine ⟨by rw [List.length_drop, List.length_drop, h.1], fun i r hr => ?_⟩
  rw [List.getElem?_drop] at hr
  obtain ⟨A, c, h1, h2⟩ := h.2 (k + i) r hr
  exact ⟨A, c, by rw [List.getElem?_drop]; exact h1, h2⟩
end Go.Proofs.YtleckhbmciiooaaDoor
namespace Go.Proofs.YtleckhbmciiooaaDoor
open Go.RowKit Go.ChangeShapes Go.WideShapes Go.ChangeAt Go.Deep

theorem intsN_get {l : List Nat} {k n : Nat} (h : l[k]? = some n) : (intsN l)[k]? = some (n : Int) := by simp [intsN, h]
end Go.Proofs.YtleckhbmciiooaaDoor
namespace Go.Proofs.YtleckhbmciiooaaDoor
open Go.RowKit Go.ChangeShapes Go.WideShapes Go.ChangeAt Go.Deep

end Go.Proofs.YtleckhbmciiooaaDoor
namespace Go.Proofs.YtleckhbmciiooaaDoor
open Go.RowKit Go.ChangeShapes Go.WideShapes Go.ChangeAt Go.Deep

end Go.Proofs.YtleckhbmciiooaaDoor
namespace Go.Proofs.YtleckhbmciiooaaDoor
open Go.RowKit Go.ChangeShapes Go.WideShapes Go.ChangeAt Go.Deep

end Go.Proofs.YtleckhbmciiooaaDoor
namespace Go.Proofs.YtleckhbmciiooaaDoor
open Go.RowKit Go.ChangeShapes Go.WideShapes Go.ChangeAt Go.Deep

end Go.Proofs.YtleckhbmciiooaaDoor
namespace Go.Proofs.YtleckhbmciiooaaDoor
open Go.RowKit Go.ChangeShapes Go.WideShapes Go.ChangeAt Go.Deep

theorem filter_ne_len {i : Nat} : ∀ {l : List Nat}, l.Pairwise (· < ·) → i ∈ l → (l.filter fun j => decide (i ≠ j)).length + 1 = l.length
  | [], _, h => by cases h
  | x :: l, hp, h => by
    have hp' := List.pairwise_cons.1 hp
    by_cases e : i = x
    · subst e
      have : l.filter (fun j => decide (i ≠ j)) = l := List.filter_eq_self.2 fun y hy => by
        have := hp'.1 y hy
        simp; omega
      rw [List.filter_cons_of_neg (by simp), this]; rfl
    · rcases List.mem_cons.1 h with h | h
      · exact absurd h e
      · rw [List.filter_cons_of_pos (by simpa using e), List.length_cons, List.length_cons, filter_ne_len hp'.2 h]
theorem freeM_len {n : Nat} : ∀ {p : List Int} {m q : Nat}, SubN n m → freeM m p = some q → (memsM q).length + p.length = (memsM m).length
  | [], m, q, _, e => by
    simp only [freeM, Option.some.injEq] at e
    subst e; rfl
  | c :: p, m, q, h, e => by
    unfold freeM at e
    split at e
    · rename_i hc
      have h1 := freeM_len (h.clr _) e
      have h2 := filter_ne_len (memsM_sorted m) (memsM_mem.2 ⟨by omega, hc.2.2⟩ : c.toNat ∈ memsM m)
      rw [← memsM_clr h.1] at h2
      rw [List.length_cons]
      omega
    · cases e
theorem freeP_len {n : Nat} (h24 : n ≤ 24) {p : List Int} {q : Nat} (e : freeP n p = some q) : (memsM q).length + p.length = n := by
  unfold freeP at e
  split at e
  · cases e
  · rw [freeM_len (subN_full h24) e, memsM_full (by omega), List.length_range]
theorem Mod.heap {g : Nat} {w w' : World} (h : Mod (fun k => k = g) w w') {a : World} (x : Ext a w) (hg : a.heap.size ≤ g) : Ext a w' := x.mod h fun k hk e => by omega
end Go.Proofs.YtleckhbmciiooaaDoor
namespace Go.Proofs.YtleckhbmciiooaaDoor
open Go.RowKit Go.ChangeShapes Go.WideShapes Go.ChangeAt Go.Deep

end Go.Proofs.YtleckhbmciiooaaDoor
namespace Go.Proofs.YtleckhbmciiooaaDoor
open Go.RowKit Go.ChangeShapes Go.WideShapes Go.ChangeAt Go.Deep

theorem memsM_range {n m : Nat} (h : SubN n m) (hn : n ≤ 64) : memsM m = (List.range n).filter fun c => m.testBit c := by
  refine List.Perm.eq_of_pairwise (le := (· < ·)) (fun a b _ _ h1 h2 => by omega) (memsM_sorted m) (List.Pairwise.filter _ List.pairwise_lt_range) ?_
  refine (List.perm_ext_iff_of_nodup ((memsM_sorted m).imp fun h => Nat.ne_of_lt h) ((List.Pairwise.filter _ List.pairwise_lt_range).imp fun h => Nat.ne_of_lt h)).2 fun c => ?_
  rw [memsM_mem]
  simp only [List.mem_filter, List.mem_range]
  constructor
  · rintro ⟨h1, h2⟩
    exact ⟨h.2 c (memsM_mem.2 ⟨h1, h2⟩), h2⟩
  · rintro ⟨h1, h2⟩
    exact ⟨by omega, h2⟩
end Go.Proofs.YtleckhbmciiooaaDoor
namespace Go.Proofs.YtleckhbmciiooaaDoor
open Go.RowKit Go.ChangeShapes Go.WideShapes Go.ChangeAt Go.Deep

end Go.Proofs.YtleckhbmciiooaaDoor
namespace Go.Proofs.YtleckhbmciiooaaDoor
open Go.RowKit Go.ChangeShapes Go.WideShapes Go.ChangeAt Go.Deep

/-- the least one of a row -/
def leastL : Int → List Int → Int
  | b, [] => b
  | b, x :: l => leastL (if b < 0 then x else if x < b then x else b) l
theorem leastL_bd {B : Int} : ∀ {l : List Int} {b : Int}, (∀ x ∈ l, 0 ≤ x ∧ x ≤ B) → b ≤ B → (0 ≤ b ∨ l ≠ []) → 0 ≤ leastL b l ∧ leastL b l ≤ B
  | [], b, _, h1, h2 => by
    rcases h2 with h2 | h2
    · exact ⟨h2, h1⟩
    · exact absurd rfl h2
  | x :: l, b, h, h1, h2 => by
    have hx := h x (by simp)
    unfold leastL
    refine leastL_bd (fun y hy => h y (by simp [hy])) ?_ (.inl ?_) <;> split <;> (try split) <;> omega
theorem leastL_le : ∀ {l : List Int} {b : Int}, (∀ x ∈ l, 0 ≤ x) → (∀ x ∈ l, leastL b l ≤ x) ∧ (0 ≤ b → leastL b l ≤ b)
  | [], b, _ => ⟨fun x hx => absurd hx List.not_mem_nil, fun _ => Int.le_refl _⟩
  | x :: l, b, h => by
    have hx := h x (by simp)
    have ih := leastL_le (l := l) (b := if b < 0 then x else if x < b then x else b) fun y hy => h y (by simp [hy])
    unfold leastL
    refine ⟨fun y hy => ?_, fun hb => ?_⟩
    · rcases List.mem_cons.1 hy with rfl | hy
      · refine Int.le_trans (ih.2 ?_) ?_ <;> split <;> (try split) <;> omega
      · exact ih.1 y hy
    · refine Int.le_trans (ih.2 ?_) ?_ <;> split <;> (try split) <;> omega
theorem leastL_map (f : Nat → Int) : ∀ (l : List Nat) (b : Int), leastL b (l.map f) = leastN f b l
  | [], b => rfl
  | x :: l, b => by
    show leastL _ (l.map f) = _
    rw [leastL_map f l]
    rfl
theorem colF_pos {c : Nat} {B : Int} : ∀ {rows : List (List Int)} {off : List Int} {b : Int}, (∀ (k : Nat) (x : List Int) (o : Int), rows[k]? = some x → off[k]? = some o → 0 ≤ x.getD c 0 - o ∧ x.getD c 0 - o ≤ B) → rows.length = off.length → b ≤ B → (0 ≤ b ∨ rows ≠ []) → 0 ≤ colF c b rows off ∧ colF c b rows off ≤ B
  | [], off, b, _, _, h1, h2 => by
    rcases h2 with h2 | h2
    · cases off <;> exact ⟨h2, h1⟩
    · exact absurd rfl h2
  | row :: rows, [], b, _, hl, _, _ => by simp at hl
  | row :: rows, o :: off, b, h, hl, h1, h2 => by
    have hx := h 0 row o rfl rfl
    unfold colF
    refine colF_pos (fun k x o h3 h4 => h (k + 1) x o h3 h4) (by simpa using hl) ?_ (.inl ?_) <;> split <;> (try split) <;> omega
end Go.Proofs.YtleckhbmciiooaaDoor
namespace Go.Proofs.YtleckhbmciiooaaDoor
open Go.RowKit Go.ChangeShapes Go.WideShapes Go.ChangeAt Go.Deep

end Go.Proofs.YtleckhbmciiooaaDoor
namespace Go.Proofs.YtleckhbmciiooaaDoor

theorem clr_mem {m c x : Nat} (h : m < 18446744073709551616) : x ∈ memsM (clrM m c) ↔ x ∈ memsM m ∧ x ≠ c := by
  rw [memsM_clr h, List.mem_filter]
  constructor
  · rintro ⟨h1, h2⟩
    exact ⟨h1, fun e => by subst e; simp at h2⟩
  · rintro ⟨h1, h2⟩
    exact ⟨h1, by simp; exact fun e => h2 e.symm⟩
/-- a beginning's columns -/
theorem freeM_cols {n : Nat} : ∀ {p : List Int} {m q : Nat}, SubN n m → freeM m p = some q → ∃ l : List Nat, p = intsN l ∧ l.Nodup ∧ (∀ x ∈ l, x ∈ memsM m) ∧ ∀ x, x ∈ memsM q ↔ x ∈ memsM m ∧ x ∉ l
  | [], m, q, _, e => by
    simp only [freeM, Option.some.injEq] at e
    subst e
    exact ⟨[], rfl, List.Pairwise.nil, by simp, by simp⟩
  | c :: p, m, q, h, e => by
    unfold freeM at e
    split at e
    · rename_i hc
      obtain ⟨l, rfl, h1, h2, h3⟩ := freeM_cols (h.clr _) e
      have hm : c.toNat ∈ memsM m := memsM_mem.2 ⟨by omega, hc.2.2⟩
      have hnot : c.toNat ∉ l := fun hl => ((clr_mem h.1).1 (h2 _ hl)).2 rfl
      refine ⟨c.toNat :: l, ?_, List.nodup_cons.2 ⟨hnot, h1⟩, ?_, fun x => ?_⟩
      · simp only [intsN, List.map_cons, List.cons.injEq, and_true]
        omega
      · intro x hx
        rcases List.mem_cons.1 hx with rfl | hx
        · exact hm
        · exact ((clr_mem h.1).1 (h2 x hx)).1
      · rw [h3 x, clr_mem h.1]
        simp only [List.mem_cons, not_or]
        exact ⟨fun ⟨⟨a, b⟩, c⟩ => ⟨a, b, c⟩, fun ⟨a, b, c⟩ => ⟨⟨a, b⟩, c⟩⟩
    · cases e
theorem freeP_cols {n : Nat} (h24 : n ≤ 24) {p : List Int} {q : Nat} (e : freeP n p = some q) : ∃ l : List Nat, p = intsN l ∧ l.Nodup ∧ (∀ x ∈ l, x < n) ∧ ∀ x, x ∈ memsM q ↔ x < n ∧ x ∉ l := by
  unfold freeP at e
  split at e
  · cases e
  · obtain ⟨l, h1, h2, h3, h4⟩ := freeM_cols (subN_full h24) e
    have hm : ∀ x, x ∈ memsM (2 ^ n - 1) ↔ x < n := fun x => by rw [memsM_full (by omega), List.mem_range]
    exact ⟨l, h1, h2, fun x hx => (hm x).1 (h3 x hx), fun x => by rw [h4 x, hm x]⟩
/-- one step on -/
theorem freeP_snoc {n : Nat} (h24 : n ≤ 24) {p : List Int} {m c : Nat} (e : freeP n p = some m) (hc : c ∈ memsM m) : freeP n (p ++ [(c : Int)]) = some (clrM m c) := by
  have hlen := freeP_len h24 e
  have hpos : 0 < (memsM m).length := List.length_pos_of_mem hc
  unfold freeP at e ⊢
  rw [if_neg (by omega)] at e
  rw [if_neg (by rw [List.length_append, List.length_singleton]; omega)]
  have key : ∀ {p : List Int} {m0 : Nat}, freeM m0 p = some m → freeM m0 (p ++ [(c : Int)]) = some (clrM m c) := by
    intro p
    induction p with
    | nil =>
      intro m0 h
      simp only [freeM, Option.some.injEq] at h
      subst h
      have := memsM_mem.1 hc
      show freeM m0 ((c : Int) :: []) = _
      unfold freeM
      rw [if_pos ⟨by omega, by omega, by rw [Int.toNat_natCast]; exact this.2⟩, Int.toNat_natCast]
      rfl
    | cons d p ih =>
      intro m0 h
      show freeM m0 (d :: (p ++ [(c : Int)])) = _
      unfold freeM at h ⊢
      split at h
      · rename_i hd
        rw [if_pos hd]
        exact ih h
      · cases h
  exact key e
theorem costF_app : ∀ (rows : List (List Int)) (p q : List Int), costF rows (p ++ q) = costF rows p + costF (rows.drop p.length) q
  | rows, [], q => by cases rows <;> simp [costF]
  | [], c :: p, q => by simp [costF]
  | r :: rows, c :: p, q => by
    have := costF_app rows p q
    simp only [List.cons_append, costF, List.length_cons, List.drop_succ_cons]
    omega
theorem colF_le {c : Nat} : ∀ {rows : List (List Int)} {off : List Int} {b : Int}, (∀ (k : Nat) (x : List Int) (o : Int), rows[k]? = some x → off[k]? = some o → 0 ≤ x.getD c 0 - o) → (0 ≤ b → colF c b rows off ≤ b) ∧ ∀ (k : Nat) (x : List Int) (o : Int), rows[k]? = some x → off[k]? = some o → colF c b rows off ≤ x.getD c 0 - o
  | [], off, b, _ => ⟨fun _ => by cases off <;> exact Int.le_refl _, fun k x o h => by simp at h⟩
  | row :: rows, [], b, _ => ⟨fun _ => Int.le_refl _, fun k x o _ h => by simp at h⟩
  | row :: rows, o :: off, b, h => by
    have hx := h 0 row o rfl rfl
    have ih := colF_le (rows := rows) (off := off) (b := if b < 0 then row.getD c 0 - o else if row.getD c 0 - o < b then row.getD c 0 - o else b) (fun k x o h1 h2 => h (k + 1) x o h1 h2)
    unfold colF
    refine ⟨fun hb => ?_, fun k x o' h1 h2 => ?_⟩
    · refine Int.le_trans (ih.1 ?_) ?_ <;> split <;> (try split) <;> omega
    · cases k with
      | zero =>
        simp only [List.getElem?_cons_zero, Option.some.injEq] at h1 h2
        subst h1 h2
        refine Int.le_trans (ih.1 ?_) ?_ <;> split <;> (try split) <;> omega
      | succ k => exact ih.2 k x o' (by simpa using h1) (by simpa using h2)
theorem leastN_eq (row : List Int) (l : List Nat) : leastN (fun c => row.getD c 0) (-1) l = leastL (-1) (l.map fun c => row.getD c 0) := (leastL_map _ _ _).symm
theorem reduce_le {rows : List (List Int)} {l q : List Nat} (hq : q.Perm l) (hl : rows.length = l.length) (num : ∀ row ∈ rows, ∀ c ∈ l, 0 ≤ row.getD c 0) : reduceP rows l ≤ costF rows (intsN q) := by
  have ho : ∀ (k : Nat) (x : List Int) (o : Int), rows[k]? = some x → (offL rows l)[k]? = some o → ∀ c ∈ l, 0 ≤ x.getD c 0 - o := fun k x o h1 h2 c hc => by
    unfold offL at h2
    rw [List.getElem?_map, h1] at h2
    obtain rfl := Option.some.inj h2
    have hx := List.mem_of_getElem? h1
    have h3 := (leastL_le (l := l.map fun c => x.getD c 0) (b := -1) fun y hy => by
      obtain ⟨c', hc', rfl⟩ := List.mem_map.1 hy
      exact num x hx c' hc').1 (x.getD c 0) (List.mem_map.2 ⟨c, hc, rfl⟩)
    show 0 ≤ x.getD c 0 - leastN (fun c => x.getD c 0) (-1) l
    rw [leastN_eq]
    omega
  have h := costF_ge (F := fun c => colF c (-1) rows (offL rows l)) (rows := rows) (off := offL rows l) (q := q) (by rw [hq.length_eq]; exact hl) (by simp [offL, hq.length_eq, hl]) fun k c x o h1 h2 h3 => by
    have hc : c ∈ l := hq.mem_iff.1 (List.mem_of_getElem? h3)
    have := (colF_le (c := c) (b := -1) (rows := rows) (off := offL rows l) fun k x o a b => ho k x o a b c hc).2 k x o h1 h2
    omega
  have e := sumL_perm (hq.map fun c => colF c (-1) rows (offL rows l))
  unfold reduceP
  omega
theorem sumL_pos {l : List Int} (h : ∀ x ∈ l, 0 ≤ x) : 0 ≤ sumL l := sumL_nonneg h
theorem reduce_pos {rows : List (List Int)} {l : List Nat} (hl : l ≠ []) (hr : rows ≠ []) (num : ∀ row ∈ rows, ∀ c ∈ l, 0 ≤ row.getD c 0 ∧ row.getD c 0 ≤ 2147483647) : 0 ≤ reduceP rows l := by
  have ho : ∀ x ∈ offL rows l, 0 ≤ x ∧ x ≤ 2147483647 := fun x hx => by
    obtain ⟨row, h, rfl⟩ := List.mem_map.1 hx
    rw [leastN_eq]
    refine leastL_bd (fun y hy => ?_) (by omega) (.inr (by simpa using hl))
    obtain ⟨c, hc, rfl⟩ := List.mem_map.1 hy
    exact num row h c hc
  have hc : ∀ x ∈ l.map (fun c => colF c (-1) rows (offL rows l)), 0 ≤ x := fun x hx => by
    obtain ⟨c, hc, rfl⟩ := List.mem_map.1 hx
    refine (colF_pos (B := 2147483647) (fun k x o h1 h2 => ?_) (by simp [offL]) (by omega) (.inr hr)).1
    have hx := List.mem_of_getElem? h1
    have hob := ho o (List.mem_of_getElem? h2)
    unfold offL at h2
    rw [List.getElem?_map, h1] at h2
    obtain rfl := Option.some.inj h2
    have h3 := (leastL_le (l := l.map fun c => x.getD c 0) (b := -1) fun y hy => by
      obtain ⟨c', hc', rfl⟩ := List.mem_map.1 hy
      exact (num x hx c' hc').1).1 (x.getD c 0) (List.mem_map.2 ⟨c, hc, rfl⟩)
    have h4 := num x hx c hc
    simp only [leastN_eq] at hob ⊢
    omega
  have h1 := sumL_pos fun x hx => (ho x hx).1
  have h2 := sumL_pos hc
  unfold reduceP
  omega
/-- the least cost of all answers that begin so, by trying -/
def bestA (rows : List (List Int)) (n : Nat) : Nat → List Int → Int
  | 0, p => costF rows p
  | f + 1, p => leastF (fun x => bestA rows n f (p ++ [x])) (-1) (match freeP n p with | none => [] | some m => intsN (memsM m))
theorem leastF_in {f : Int → Int} : ∀ {l : List Int} {b : Int}, (∀ x ∈ l, 0 ≤ f x) → (0 ≤ b ∨ l ≠ []) → (leastF f b l = b ∧ 0 ≤ b) ∨ ∃ x ∈ l, leastF f b l = f x
  | [], b, _, h => by
    rcases h with h | h
    · exact .inl ⟨rfl, h⟩
    · exact absurd rfl h
  | x :: l, b, h, _ => by
    have hx := h x (by simp)
    have ih := leastF_in (f := f) (l := l) (b := if b < 0 then f x else if f x < b then f x else b) (fun y hy => h y (by simp [hy])) (.inl (by split <;> (try split) <;> omega))
    unfold leastF
    rcases ih with ⟨e, _⟩ | ⟨y, hy, e⟩
    · rw [e]
      split
      · exact .inr ⟨x, by simp, rfl⟩
      · split
        · exact .inr ⟨x, by simp, rfl⟩
        · exact .inl ⟨rfl, by omega⟩
    · exact .inr ⟨y, by simp [hy], e⟩
theorem best_some {rows : List (List Int)} (h24 : rows.length ≤ 24) (num : ∀ row ∈ rows, ∀ c, c < rows.length → 0 ≤ row.getD c 0) : ∀ (f : Nat) (p : List Int) (m : Nat), freeP rows.length p = some m → f = rows.length - p.length → ∃ q : List Nat, q.Perm (memsM m) ∧ bestA rows rows.length f p = costF rows (p ++ intsN q)
  | 0, p, m, hp, hf => by
    have hlen := freeP_len h24 hp
    refine ⟨[], ?_, by simp [bestA, intsN]⟩
    rw [List.eq_nil_of_length_eq_zero (show (memsM m).length = 0 by omega)]
  | f + 1, p, m, hp, hf => by
    have hlen := freeP_len h24 hp
    have hsub := (freeP_in h24 hp).2.2
    have ih : ∀ c ∈ memsM m, ∃ q : List Nat, q.Perm (memsM (clrM m c)) ∧ bestA rows rows.length f (p ++ [(c : Int)]) = costF rows (p ++ [(c : Int)] ++ intsN q) := fun c hc =>
      best_some h24 num f _ _ (freeP_snoc h24 hp hc) (by rw [List.length_append, List.length_singleton]; omega)
    have hpos : ∀ x ∈ intsN (memsM m), 0 ≤ bestA rows rows.length f (p ++ [x]) := fun x hx => by
      obtain ⟨c, hc, rfl⟩ := List.mem_map.1 hx
      obtain ⟨q, h1, h2⟩ := ih c hc
      rw [h2]
      have hin := (freeP_in h24 hp).2.1
      have : ∀ (rs : List (List Int)) (l : List Int), (∀ row ∈ rs, row ∈ rows) → (∀ x ∈ l, 0 ≤ x ∧ x < rows.length) → 0 ≤ costF rs l := by
        intro rs
        induction rs with
        | nil => intro l _ _; simp [costF]
        | cons r rs ihr =>
          intro l h3 h4
          cases l with
          | nil => simp [costF]
          | cons d l =>
            have h5 := h4 d (by simp)
            have h6 := num r (h3 r (by simp)) d.toNat (by omega)
            have h7 := ihr l (fun y hy => h3 y (by simp [hy])) (fun y hy => h4 y (by simp [hy]))
            simp only [costF]
            omega
      refine this rows _ (fun _ h => h) fun y hy => ?_
      rcases List.mem_append.1 hy with hy | hy
      · rcases List.mem_append.1 hy with hy | hy
        · exact hin y hy
        · obtain rfl := List.mem_singleton.1 hy
          have := hsub.2 c hc
          omega
      · obtain ⟨d, hd, rfl⟩ := List.mem_map.1 hy
        have := hsub.2 d (((clr_mem hsub.1).1 (h1.mem_iff.1 hd)).1)
        omega
    have hne : memsM m ≠ [] := by
      intro e
      rw [e] at hlen
      simp at hlen
      omega
    have e : bestA rows rows.length (f + 1) p = leastF (fun x => bestA rows rows.length f (p ++ [x])) (-1) (intsN (memsM m)) := by
      show leastF _ (-1) (match freeP rows.length p with | none => [] | some m => intsN (memsM m)) = _
      rw [hp]
    rcases leastF_in (b := -1) hpos (.inr (by simpa [intsN] using hne)) with ⟨_, h⟩ | ⟨x, hx, h⟩
    · omega
    · obtain ⟨c, hc, rfl⟩ := List.mem_map.1 hx
      obtain ⟨q, h1, h2⟩ := ih c hc
      refine ⟨c :: q, ?_, ?_⟩
      · refine (h1.cons c).trans ?_
        refine (List.perm_ext_iff_of_nodup ?_ ((memsM_sorted m).imp fun h => Nat.ne_of_lt h)).2 fun x => ?_
        · refine List.nodup_cons.2 ⟨fun h => ((clr_mem hsub.1).1 h).2 rfl, (memsM_sorted _).imp fun h => Nat.ne_of_lt h⟩
        · rw [List.mem_cons, clr_mem hsub.1]
          constructor
          · rintro (rfl | ⟨h, _⟩)
            · exact hc
            · exact h
          · intro h
            by_cases e : x = c
            · exact .inl e
            · exact .inr ⟨h, e⟩
      · rw [e, h, h2]
        simp [intsN]
theorem bounda_below {rows : List (List Int)} (ok : RowsOk rows) {p : List Int} {m : Nat} (hp : freeP rows.length p = some m) : 0 ≤ (boundA rows p).1 ∧ (boundA rows p).1 ≤ bestA rows rows.length (rows.length - p.length) p ∧ (boundA rows p).2 = 0 := by
  have h24 := ok.n2
  have hlen := freeP_len h24 hp
  obtain ⟨hpl, hin, hsub⟩ := freeP_in h24 hp
  have num : ∀ row ∈ rows, ∀ c, c < rows.length → 0 ≤ row.getD c 0 := fun row hr c hc => (ok.get hr hc).1
  obtain ⟨q, h1, h2⟩ := best_some h24 num _ p m hp rfl
  have hb : boundA rows p = (costF rows p + (if p.length < rows.length then reduceP (rows.drop p.length) (memsM m) else 0), 0) := by unfold boundA; rw [hp]
  have hc := (costF_bd (B := 2147483647) (rows := rows) (p := p) (by omega) fun row hr c hc => by
    have := hin c hc
    exact ok.get hr (by omega)).1
  rw [hb, h2, costF_app]
  simp only
  by_cases hlt : p.length < rows.length
  · rw [if_pos hlt]
    have h3 := reduce_le (rows := rows.drop p.length) h1 (by rw [List.length_drop]; omega) fun row hr c hc => num row (List.mem_of_mem_drop hr) c (hsub.2 c hc)
    have h4 := reduce_pos (rows := rows.drop p.length) (l := memsM m) (by intro e; rw [e] at hlen; simp at hlen; omega) (by intro e; have := congrArg List.length e; rw [List.length_drop] at this; simp at this; omega) fun row hr c hc => ok.get (List.mem_of_mem_drop hr) (hsub.2 c hc)
    exact ⟨by omega, by omega, trivial⟩
  · rw [if_neg hlt]
    have : q = [] := List.eq_nil_of_length_eq_zero (by rw [h1.length_eq]; omega)
    subst this
    have e : costF (rows.drop p.length) (intsN []) = 0 := by cases rows.drop p.length <;> rfl
    rw [e]
    exact ⟨by omega, by omega, trivial⟩
theorem whole_cols {n : Nat} (h24 : n ≤ 24) {p : List Int} {m : Nat} (hp : freeP n p = some m) (hl : p.length = n) : ∃ l : List Nat, p = intsN l ∧ l.Perm (List.range n) := by
  obtain ⟨l, h1, h2, h3, h4⟩ := freeP_cols h24 hp
  have hlen := freeP_len h24 hp
  have he : memsM m = [] := List.eq_nil_of_length_eq_zero (by omega)
  refine ⟨l, h1, (List.perm_ext_iff_of_nodup h2 List.nodup_range).2 fun x => ?_⟩
  rw [List.mem_range]
  refine ⟨h3 x, fun hx => ?_⟩
  by_cases hxl : x ∈ l
  · exact hxl
  · exfalso
    have := (h4 x).2 ⟨hx, hxl⟩
    rw [he] at this
    cases this
end Go.Proofs.YtleckhbmciiooaaDoor
namespace Go.Proofs.YtleckhbmciiooaaDoor

section
variable {rows : List (List Int)}
theorem freeP_root {n : Nat} : freeP n [] = some (2 ^ n - 1) := by
  unfold freeP
  rw [if_neg (by simp)]
  rfl
end
end Go.Proofs.YtleckhbmciiooaaDoor
