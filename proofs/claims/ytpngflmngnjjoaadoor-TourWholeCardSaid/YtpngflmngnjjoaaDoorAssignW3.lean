/-
  An assignment's kernel: the order of the kids.
  An assignment's kernel: what may follow a beginning.
  The law's own example: a kernel of two rows.
-/
import Derived.Test.YtpngflmngnjjoaaDoorAssignW1
import Derived.Deep.QuietTactic
import Derived.BigQuiet
import Derived.Test.YtpngflmngnjjoaaDoorAssignW2
import Derived.Test.YtpngflmngnjjoaaDoorSortF
namespace Go.Proofs.YtpngflmngnjjoaaDoor
open Go.RowKit Go.ChangeShapes Go.WideShapes Go.ChangeAt Go.Deep

set_option maxRecDepth 100000 in
set_option maxHeartbeats 1000000 in
theorem cmp_any (row : List Int) (hbd : ∀ x ∈ row, 0 ≤ x ∧ x ≤ 2147483647) (D : Option Addr) (d rb : Nat) (a b : Nat) (ha : a < row.length) (hb : b < row.length) (w : World) (B : w.cell? ⟨rb, 0, none⟩ = some (.slice D row.length d)) (hD : RdI w D row) :
    Calls Tryd.prog 55 #[.int .i64 a, .int .i64 b, .pointer (some ⟨rb, 0, none⟩)] w fun e w' => e = .returned (.int .i64 (row.getD a 0 - row.getD b 0)) ∧ ∃ q, w' = w.drewN q := by
  obtain ⟨cb, co, x, rfl, z1, c1, e1, _⟩ := hD.at ha
  obtain ⟨cb', co', y, hq, z2, c2, e2, _⟩ := hD.at hb
  obtain ⟨rfl, rfl⟩ : cb = cb' ∧ co = co' := by simpa using hq
  have b1 := hbd x (List.mem_of_getElem? e1.out)
  have b2 := hbd y (List.mem_of_getElem? e2.out)
  rw [getD_some e1.out, getD_some e2.out]
  have hw : IntKind.i64.wrap (x - y) = x - y := IntWalk.i64_in _ (by omega)
  have q1 : (a : Int) < (row.length : Int) := by omega
  have q2 : (b : Int) < (row.length : Int) := by omega
  clear e1 e2 b1 b2 hbd hD hq
  go_enter Tryd.func55, Tryd.ntmps55
  go_wp2_with (fail)
  go_quiet (fail)
  go_wp2_with (fail)
  go_ret
  exact ⟨rfl, _, rfl⟩
end Go.Proofs.YtpngflmngnjjoaaDoor
namespace Go.Proofs.YtpngflmngnjjoaaDoor
open Go.RowKit Go.ChangeShapes Go.WideShapes Go.ChangeAt Go.Deep

/-- what a row's numbers say of two columns -/
def cfR (row : List Int) (a b : Nat) : Int := row.getD a 0 - row.getD b 0
theorem cfR_weak (row : List Int) : Weak (ltC (cfR row)) where
  asym a b h := by
    unfold ltC cfR at *
    simp only [decide_eq_true_eq, decide_eq_false_iff_not] at *
    omega
  neg a b c h := by
    unfold ltC cfR at *
    simp only [decide_eq_true_eq] at *
    omega
def kidsA (rows : List (List Int)) (p : List Int) : List Int × Int :=
  match freeP rows.length p with
  | none => ([], 1)
  | some m => (intsN (sortP (ltC (cfR (rows.getD p.length []))) (memsM m)), 0)
theorem filter_ne_len {i : Nat} : ∀ {l : List Nat}, l.Pairwise (· < ·) → i ∈ l → (l.filter fun j => decide (i ≠ j)).length + 1 = l.length
  | [], _, h => by cases h
  | x :: l, hp, h => by
    have hp' := List.pairwise_cons.1 hp
    by_cases e : i = x
    · subst e
      have : l.filter (fun j => decide (i ≠ j)) = l := List.filter_eq_self.2 fun y hy => by
        have := hp'.1 y hy
        simp; omega
      rw [List.filter_cons_of_neg (by simp), this]; rfl
    · rcases List.mem_cons.1 h with h | h
      · exact absurd h e
      · rw [List.filter_cons_of_pos (by simpa using e), List.length_cons, List.length_cons, filter_ne_len hp'.2 h]
theorem freeM_len {n : Nat} : ∀ {p : List Int} {m q : Nat}, SubN n m → freeM m p = some q → (memsM q).length + p.length = (memsM m).length
  | [], m, q, _, e => by
    simp only [freeM, Option.some.injEq] at e
    subst e; rfl
  | c :: p, m, q, h, e => by
    unfold freeM at e
    split at e
    · rename_i hc
      have h1 := freeM_len (h.clr _) e
      have h2 := filter_ne_len (memsM_sorted m) (memsM_mem.2 ⟨by omega, hc.2.2⟩ : c.toNat ∈ memsM m)
      rw [← memsM_clr h.1] at h2
      rw [List.length_cons]
      omega
    · cases e
theorem freeP_len {n : Nat} (h24 : n ≤ 24) {p : List Int} {q : Nat} (e : freeP n p = some q) : (memsM q).length + p.length = n := by
  unfold freeP at e
  split at e
  · cases e
  · rw [freeM_len (subN_full h24) e, memsM_full (by omega), List.length_range]
theorem Mod.heap {g : Nat} {w w' : World} (h : Mod (fun k => k = g) w w') {a : World} (x : Ext a w) (hg : a.heap.size ≤ g) : Ext a w' := x.mod h fun k hk e => by omega
theorem RdI.modG {w w' : World} {A : Option Addr} {xs : List Int} {g : Nat} (h : RdI w A xs) (k : Mod (fun k => k = g) w w') (hb : ∀ b, bl A = some b → b < g) : RdI w' A xs := by
  rcases h with rfl | ⟨b, off, rfl, hlt, hc⟩
  · exact .inl rfl
  · refine .inr ⟨b, off, rfl, Nat.lt_of_lt_of_le hlt k.size, fun j x hj => ?_⟩
    have h1 := hb b rfl
    rw [← hc j x hj]
    exact World.cell?_of_block (k.block b hlt fun hs => by omega)
set_option maxRecDepth 100000 in
set_option maxHeartbeats 4000000 in
theorem kidsa_any {base g : Nat} {rows : List (List Int)} (P : Option Addr) (pc : Nat) (p : List Int) (w : World) (hT : Tab w) (H : KernA w base g rows) (ok : RowsOk rows) (hP : RdI w P p) (lp : p.length ≤ 1000000000) :
    Calls Tryd.prog 20 #[.pointer (some ⟨g, 0, none⟩), .slice P p.length pc] w (OwnPost (kidsA rows p).1 (kidsA rows p).2 w) := by
  have FR := fun (W : World) (x : Ext w W) => free_any P pc p W (H.ext x) ok.n1 ok.n2 (hP.ext x) lp
  have l1 := ok.n1
  have l2 := ok.n2
  obtain ⟨C, cc, us, hB, _, hV, hR⟩ := H
  have lus : Hid (us.length = rows.length) := hR.1
  obtain ⟨r, hr⟩ : ∃ r, Hid (freeP rows.length p = r) := ⟨_, rfl⟩
  rw [hr.out] at FR
  cases r with
  | none =>
    have e : kidsA rows p = ([], 1) := by unfold kidsA; rw [hr.out]
    rw [e]
    unfold freeV setV at FR
    replace FR := Lib.hid FR
    go_enter Tryd.func20, Tryd.ntmps20
    go_wp2_with (fail)
    refine (FR.out _ (Ext.rf w)).mono ?_
    rintro e w1 ⟨rfl, x1⟩
    have X := Lib.hid (x1.alloc (.cells #[.int .u64 0, .int .u64 0] 55))
    go_wp2_with (fail)
    go_ret2
    exact ⟨none, 0, rfl, OwI.nil _ _, by have := X.out; first | exact x1 | exact this⟩
  | some m =>
    obtain ⟨hpl, hin, hS⟩ := freeP_in l2 hr.out
    have hlen := freeP_len l2 hr.out
    have e : kidsA rows p = (intsN (sortP (ltC (cfR (rows.getD p.length []))) (memsM m)), 0) := by unfold kidsA; rw [hr.out]
    rw [e]
    clear e
    have LI := Lib.hid (fun (W : World) (hW : Tab W) => list_any m hS.1 (fun x hx => by have := hS.2 x hx; omega) W hW)
    have hsub := Lib.hid hS.2
    have hsrt := Lib.hid (memsM_sorted m)
    unfold freeV setV at FR
    unfold setV at LI
    replace FR := Lib.hid FR
    clear hr hS hin
    generalize memsM m = l at *
    replace hP := Lib.hid hP
    replace hV := Lib.hid hV
    replace hR := Lib.hid hR
    replace hT := Lib.hid hT
    replace hB := Lib.hid hB
    cases l with
    | nil =>
      have e : sortP (ltC (cfR (rows.getD p.length []))) [] = [] := rfl
      rw [e]
      clear e
      go_enter Tryd.func20, Tryd.ntmps20
      go_wp2_with (fail)
      refine (FR.out _ (Ext.rf w)).mono ?_
      rintro e w1 ⟨rfl, x1⟩
      have X2 := Lib.hid (x1.alloc (.cells #[.int .u64 m, .int .u64 0] 55))
      clear x1
      go_wp2_with (fail)
      refine (LI.out _ (hT.out.ext X2.out)).mono ?_
      rintro e w3 ⟨A, c, rfl, o3, x3⟩
      have X3 := Lib.hid (X2.out.tr x3)
      have o3' := Lib.hid (OwI.more o3 X2.out.size)
      clear x3 o3
      go_wp2_with (fail)
      go_ret2
      exact ⟨A, c, rfl, o3'.out, X3.out⟩
    | cons i0 l =>
      have hne : 0 < (i0 :: l).length := by simp
      generalize i0 :: l = l at *
      have hkr : p.length < rows.length := by omega
      have er : rows[p.length]? = some rows[p.length] := List.getElem?_eq_getElem hkr
      have eg : rows.getD p.length [] = rows[p.length] := by simp [List.getD, er]
      rw [eg]
      clear eg
      obtain ⟨D, d, hu, oD⟩ := hR.out.2 _ _ er
      have hmem : rows[p.length] ∈ rows := List.getElem_mem hkr
      have lrow := ok.row _ hmem
      have nrow := ok.num _ hmem
      generalize rows[p.length] = row at *
      replace lrow := Lib.hid lrow
      replace oD := Lib.hid oD
      replace nrow := Lib.hid nrow
      have lz : (l.length : Int) > 0 := by omega
      have lcc : rows.length ≤ cc := by
        rcases hV.out.cases with ⟨_, _, h, _⟩ | ⟨_, _, _, _, _, h, _⟩ <;> omega
      clear er
      go_enter Tryd.func20, Tryd.ntmps20
      go_wp2_with (fail)
      refine (FR.out _ (Ext.rf w)).mono ?_
      rintro e w1 ⟨rfl, x1⟩
      have X2 := Lib.hid (x1.alloc (.cells #[.int .u64 m, .int .u64 0] 55))
      clear x1
      go_wp2_with (fail)
      refine (LI.out _ (hT.out.ext X2.out)).mono ?_
      rintro e w3 ⟨A, c, rfl, o3, x3⟩
      rcases OwI.cases o3 with ⟨_, _, h0⟩ | ⟨gl, cur, rfl, hbg, _, _, _, _⟩
      · exfalso
        have := congrArg List.length h0
        rw [intsN_len, List.length_nil] at this
        omega
      rw [intsN_len] at *
      have X3 := Lib.hid (X2.out.tr x3)
      have zg := (OwI.lt o3 gl rfl).2
      have zgl : w.heap.size ≤ gl := Nat.le_trans X2.out.size hbg
      have z2 := X2.out.size
      have o3' : Hid (OwN w3 w.heap.size gl c l) := OwI.more o3 X2.out.size
      obtain ⟨ab, ao, vv, hC, zv, cv, ev⟩ := (hV.out.read.ext X3.out).at (j := p.length) (by rw [lus.out]; exact hkr)
      subst hC
      obtain rfl : .slice D row.length d = vv := by
        have h := ev.out
        rw [hu] at h
        exact Option.some.inj h
      have cK : w3.cell? ⟨g, 0, none⟩ = some (.slice (some ⟨ab, ao, none⟩) rows.length cc) := (hB.out.ext X3.out).cell 0
      have q1 : (p.length : Int) < (rows.length : Int) := by omega
      have rb : Hid (Blk (w3.alloc (.cells #[.slice D row.length d] 22)) w3.heap.size 22 #[.slice D row.length d]) := .new rfl
      have HCO : Hid (CmpOk 55 #[.pointer (some ⟨w3.heap.size, 0, none⟩)] (cfR row) row.length gl (w3.alloc (.cells #[.slice D row.length d] 22))) := by
        intro W x y hx hy hm
        have b2 := rb.out.mod hm (by show ¬ w3.heap.size = gl; omega)
        refine cmp_any row nrow.out D d w3.heap.size x y hx hy W (b2.cell 0) ?_
        refine RdI.modG ((oD.out.read.ext X3.out).ext ((Ext.rf _).alloc _)) hm fun b hb => ?_
        have := (oD.out.lt b hb).2
        omega
      have SO := sortstable_any w.heap.size gl c 55 #[.pointer (some ⟨w3.heap.size, 0, none⟩)] (cfR row) row.length l.length l _ (cfR_weak row) (enters_of Tryd.func55 (by kernel_rfl) rfl) HCO.out (OwN.ext o3'.out ((Ext.rf _).alloc _)) rfl hsrt.out (fun x hx => by rw [lrow.out]; exact hsub.out x hx) (by omega)
      have X4 := Lib.hid (X3.out.alloc (.cells #[.slice D row.length d] 22))
      replace SO := Lib.hid SO
      clear o3 x3 hbg ev hu HCO rb
      go_wp2_with (fail)
      refine SO.out.mono ?_
      rintro e w5 ⟨rfl, o5, m5⟩
      have FIN : Hid (OwI w5 w.heap.size (some ⟨gl, 0, none⟩) c (intsN (sortP (ltC (cfR row)) l)) ∧ Ext w w5) := ⟨o5, m5.heap X4.out zgl⟩
      have hll : Hid ((intsN (sortP (ltC (cfR row)) l)).length = l.length) := by
        have h : (intsN (sortP (ltC (cfR row)) l)).length = l.length := by rw [intsN_len, sortP_len]
        exact h
      clear o5 m5
      go_wp2_with (fail)
      go_ret2
      refine ⟨some ⟨gl, 0, none⟩, c, ?_, FIN.out.1, FIN.out.2⟩
      rw [hll.out]
      rfl
end Go.Proofs.YtpngflmngnjjoaaDoor
namespace Go.Proofs.YtpngflmngnjjoaaDoor
open Go.RowKit Go.ChangeShapes Go.WideShapes Go.ChangeAt Go.Deep

theorem rows_ok {i : InstP} (h : SquareOk i) : RowsOk i.cost := by
  have h1 := h.n1
  have h2 := h.n2
  have h3 := h.len
  refine ⟨by omega, by omega, fun r hr => ?_, h.num⟩
  have := h.row r hr
  omega
def exA : InstP := ⟨2, 2, 0, [], [], [[1, 2], [3, 9]]⟩
theorem exA_check : checkP exA = 0 := by decide
theorem exA_ok : RowsOk [[1, 2], [3, 9]] := rows_ok (square_ok (i := exA) exA_check (by decide))
theorem exA_mems : memsM 3 = [0, 1] := by decide +kernel
theorem exA_free : freeP 2 [] = some 3 := by decide +kernel
theorem exA_bound : boundA [[1, 2], [3, 9]] [] = (5, 0) := by decide +kernel
theorem exA_kids : kidsA [[1, 2], [3, 9]] [] = ([0, 1], 0) := by
  unfold kidsA
  rw [show ([[1, 2], [3, 9]] : List (List Int)).length = 2 from rfl, exA_free]
  simp only [exA_mems]
  simp [sortP, msortP, ltC, cfR, intsN]
theorem row_blk {w : World} {b : Nat} {x y : Int} {c : Nat} (h : Blk w b 3 #[.int .i64 x, .int .i64 y]) (hx : -9223372036854775808 ≤ x ∧ x ≤ 9223372036854775807) (hy : -9223372036854775808 ≤ y ∧ y ≤ 9223372036854775807) (hc : 2 ≤ c) (hm : c ≤ maxLen) : RInts w [.slice (some ⟨b, 0, none⟩) 2 c] [x, y] :=
  ⟨some ⟨b, 0, none⟩, c, rfl, .blk h rfl, by intro z hz; simp at hz; rcases hz with rfl | rfl <;> assumption, hc, hm⟩
set_option maxRecDepth 100000 in
set_option maxHeartbeats 2000000 in
theorem assigns_any (w : World) (hT : Tab w) : Calls Tryd.prog 16 #[] w fun e w' => e = .returned (.bool true) ∧ Ext w w' := by
  have N := fun (vs : List Value) (W : World) (H : RInst W vs exA) => newa_yes exA vs W H exA_check rfl
  unfold NewAPost at N
  simp only [show exA.cost = [[1, 2], [3, 9]] from rfl] at N
  replace N := Lib.hid N
  replace hT := Lib.hid hT
  go_enter Tryd.func16, Tryd.ntmps16
  go_wp2_with (fail)
  have R1 : RInst (((w.alloc (.cells #[.int .i64 1, .int .i64 2] 3)).alloc (.cells #[.int .i64 3, .int .i64 9] 3)).alloc (.cells #[.slice (some ⟨w.heap.size, 0, none⟩) 2 2, .slice (some ⟨w.heap.size + 1, 0, none⟩) 2 2] 22)) [.int .i64 2, .int .i64 2, .int .i64 0, .slice none 0 0, .slice none 0 0, .slice (some ⟨w.heap.size + 1 + 1, 0, none⟩) 2 2] exA := by
    have hz : 2 ≤ maxLen := by simp [maxLen]
    have b0 : Blk (((w.alloc (.cells #[.int .i64 1, .int .i64 2] 3)).alloc (.cells #[.int .i64 3, .int .i64 9] 3)).alloc (.cells #[.slice (some ⟨w.heap.size, 0, none⟩) 2 2, .slice (some ⟨w.heap.size + 1, 0, none⟩) 2 2] 22)) w.heap.size 3 #[.int .i64 1, .int .i64 2] := .alloc (.alloc (.new rfl) _) _
    have b1 : Blk (((w.alloc (.cells #[.int .i64 1, .int .i64 2] 3)).alloc (.cells #[.int .i64 3, .int .i64 9] 3)).alloc (.cells #[.slice (some ⟨w.heap.size, 0, none⟩) 2 2, .slice (some ⟨w.heap.size + 1, 0, none⟩) 2 2] 22)) (w.heap.size + 1) 3 #[.int .i64 3, .int .i64 9] := .alloc (.new (by simp)) _
    have b2 : Blk (((w.alloc (.cells #[.int .i64 1, .int .i64 2] 3)).alloc (.cells #[.int .i64 3, .int .i64 9] 3)).alloc (.cells #[.slice (some ⟨w.heap.size, 0, none⟩) 2 2, .slice (some ⟨w.heap.size + 1, 0, none⟩) 2 2] 22)) (w.heap.size + 1 + 1) 22 #[.slice (some ⟨w.heap.size, 0, none⟩) 2 2, .slice (some ⟨w.heap.size + 1, 0, none⟩) 2 2] := .new (by simp)
    refine ⟨none, 0, none, 0, some ⟨w.heap.size + 1 + 1, 0, none⟩, 2, rfl, ⟨.inl rfl, Ints.nil, by simp [exA], zero_le_maxLen⟩, ⟨.inl rfl, Ints.nil, by simp [exA], zero_le_maxLen⟩, ⟨.inr ⟨_, 0, rfl, b2.lt, ?_⟩, by simp [exA], hz⟩⟩
    intro i x hi
    match i, hi with
    | 0, hi =>
      simp [exA] at hi
      subst hi
      refine ⟨_, row_blk b0 (by omega) (by omega) (Nat.le_refl 2) hz, rfl, fun j v hj => ?_⟩
      match j, hj with
      | 0, hj => rw [b2.cell]; simp at hj; subst hj; rfl
    | 1, hi =>
      simp [exA] at hi
      subst hi
      refine ⟨_, row_blk b1 (by omega) (by omega) (Nat.le_refl 2) hz, rfl, fun j v hj => ?_⟩
      match j, hj with
      | 0, hj => rw [b2.cell]; simp at hj; subst hj; rfl
    | i + 2, hi => simp [exA] at hi
  refine (N.out _ _ R1).mono ?_
  rintro e w2 ⟨g, rfl, K2, x2⟩
  have X2 := Lib.hid (Ext.tr (a := w) (by (repeat (first | assumption | exact Ext.rf _ | apply Ext.drew | apply Ext.drewN | apply Ext.alloc))) x2)
  replace K2 := Lib.hid K2
  clear R1 x2 N
  go_wp2_with (fail)
  have BB := bounda_any none 0 [] w2 (hT.out.ext X2.out) K2.out exA_ok (.inl rfl) (by simp)
  rw [exA_bound] at BB
  refine BB.mono ?_
  rintro e w3 ⟨rfl, x3⟩
  clear BB
  have X3 := Lib.hid (X2.out.tr x3)
  have K3 := Lib.hid (K2.out.ext x3)
  clear x3
  go_wp2_with (fail)
  have KK := kidsa_any none 0 [] w3 (hT.out.ext X3.out) K3.out exA_ok (.inl rfl) (by simp)
  rw [exA_kids] at KK
  refine KK.mono ?_
  rintro e w4 ⟨A4, c4, rfl, o4, x4⟩
  clear KK
  obtain ⟨b, off, x, rfl, _, hc, hx, _⟩ := o4.read.at (k := 0) (by simp)
  obtain rfl : x = 0 := by have h := hx.out; simp at h; exact h.symm
  rw [Nat.add_zero] at hc
  have X4 := Ext.tr X3.out x4
  clear hx o4
  go_wp2
  go_ret
  exact ⟨rfl, X4⟩
end Go.Proofs.YtpngflmngnjjoaaDoor
