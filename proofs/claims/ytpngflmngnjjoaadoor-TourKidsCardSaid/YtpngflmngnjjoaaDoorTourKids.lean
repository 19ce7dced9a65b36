/-
  TourKids: of all problems and lists Kids and Answer tell what the chapter does.
-/
import Derived.Test.YtpngflmngnjjoaaDoorTourLaw
import Derived.Test.YtpngflmngnjjoaaDoorRows
import Derived.Test.YtpngflmngnjjoaaDoorCards
import Derived.Test.YtpngflmngnjjoaaDoorTie
import Derived.Test.YtpngflmngnjjoaaDoorChecked
namespace Go.Proofs.YtpngflmngnjjoaaDoor.tourKids
open Go.RowKit Go.ChangeShapes Go.WideShapes Go.ChangeAt Go.Deep

set_option maxRecDepth 100000 in
set_option maxHeartbeats 4000000 in
theorem walk_yes (i j : InstP) (hj : j = copyP i) (vs : List Value) (P : Option Addr) (pc : Nat) (xs ps : List Int) (hps : ps = xs.take 70) (w : World) (hT : Tab w) (H : RInst w vs i) (hP : RdI w P xs) (ix : Ints xs) (lx : xs.length ≤ pc) (lc : pc ≤ maxLen) (hc : checkP j = 0) (hk : j.kind = 3) :
    Calls Tryd.prog 10 #[.agg (List.toArray vs), .slice P xs.length pc] w fun e w' => e = .returned (.bool true) ∧ Ext w w' := by
  have CP := fun (W : World) (x : Ext w W) => copy_to hj vs W (H.ext x)
  have CU := fun (W : World) (x : Ext w W) => cut_toT hps P pc W (hP.ext x) ix lx lc
  have lps : ps.length ≤ 70 := by rw [hps]; exact List.length_take_le _ _
  have ips : Ints ps := by rw [hps]; exact ix.take _
  have CU2 := fun (A : Option Addr) (c : Nat) (W : World) (h : RdI W A ps) (h1 : ps.length ≤ c) (h2 : c ≤ maxLen) => cut_toT (xs := ps) (ys := ps) (List.take_of_length_le lps).symm A c W h ips h1 h2
  have hI : InstInts j := hj ▸ H.ints.copy
  have hn := fun (us : List Value) (W : World) (h : RInst W us j) => newt_yes j us W h hc hk
  have sq := square_ok hc (by omega)
  have rok := rows_ok sq
  have KI := fun (g base : Nat) (A : Option Addr) (c : Nat) (W : World) (hW : Tab W) (h : KernT W base g j.cost (mirP j.cost)) (hp : RdI W A ps) => (kidst_any A c ps W hW h rok hp (by omega)).mono fun _ _ h => own_kids h
  have AN := fun (g base : Nat) (A : Option Addr) (c : Nat) (W : World) (h : KernT W base g j.cost (mirP j.cost)) (hp : RdI W A ps) => (answert_any A c ps W h rok hp (by omega)).mono fun _ _ h => own_kids h
  have RK := fun (us : List Value) (A : Option Addr) (c : Nat) (W : World) (h : RInst W us j) (hp : RdI W A ps) => (rkids13_any j us A c ps W h sq hp (by omega)).mono fun _ _ h => own_kids h
  have RAn := fun (us : List Value) (A : Option Addr) (c : Nat) (W : World) (h : RInst W us j) (hp : RdI W A ps) => (ranswer13_any j us A c ps W h sq hp (by omega)).mono fun _ _ h => own_kids h
  change ∀ (us : List Value) (W : World), RInst W us j → Calls Tryd.prog _ _ W (fun e w' => ∃ g, e = .returned (.tuple #[.pointer (some ⟨g, 0, none⟩), .int .i64 0]) ∧ KernT w' W.heap.size g j.cost (mirP j.cost) ∧ Ext W w') at hn
  generalize (kidsT j.cost ps).1 = ks at *
  generalize (kidsT j.cost ps).2 = ke at *
  generalize (answerT j.cost ps).1 = ans at *
  generalize (answerT j.cost ps).2 = ae at *
  generalize mirP j.cost = mi at *
  generalize j.cost = rows at *
  clear hj hps sq rok hc hk
  obtain ⟨A, a, B, b, C, c, rfl, -, -, -⟩ := H
  have B1 : Hid (Blk (w.alloc (.cells #[.int .i64 i.kind, .int .i64 i.n, .int .i64 i.cap, .slice A i.weight.length a, .slice B i.value.length b, .slice C i.cost.length c] 25)) w.heap.size 25 #[.int .i64 i.kind, .int .i64 i.n, .int .i64 i.cap, .slice A i.weight.length a, .slice B i.value.length b, .slice C i.cost.length c]) := .new rfl
  replace CP := Lib.hid CP
  replace hT := Lib.hid hT
  replace CU := Lib.hid CU
  replace CU2 := Lib.hid CU2
  replace hn := Lib.hid hn
  replace KI := Lib.hid KI
  replace AN := Lib.hid AN
  replace RK := Lib.hid RK
  replace RAn := Lib.hid RAn
  replace hP := Lib.hid hP
  replace ix := Lib.hid ix
  replace ips := Lib.hid ips
  replace lc := Lib.hid lc
  go_enter Tryd.func10, Tryd.ntmps10
  go_wp2_with (fail)
  refine (CP.out _ (by (repeat (first | assumption | exact Ext.rf _ | apply Ext.drew | apply Ext.drewN | apply Ext.alloc)))).mono ?_
  rintro e w1 ⟨us, rfl, O1, x1⟩
  obtain ⟨A3, l3, d3, A4, l4, d4, A5, l5, d5, rfl⟩ := O1.six
  have X1 := Lib.hid (Ext.tr (a := w) (by (repeat (first | assumption | exact Ext.rf _ | apply Ext.drew | apply Ext.drewN | apply Ext.alloc))) x1)
  have B1' := Lib.hid (B1.out.ext x1)
  replace O1 := Lib.hid O1
  clear x1
  go_wp2_with (fail)
  refine (CU.out _ X1.out).mono ?_
  rintro e w2 ⟨Q, qc, rfl, oQ, x2⟩
  have X2 := Ext.tr X1.out x2
  have B2 := B1'.out.ext x2
  have O2 := O1.out.ext x2
  obtain ⟨X3, B3, O3⟩ := put_copy B2 X2 O2
  have t0 : w2.cell? ⟨w.heap.size, 0, none⟩ = some (.int .i64 i.kind) := B2.cell 0
  have t1 : w2.cell? ⟨w.heap.size, 1, none⟩ = some (.int .i64 i.n) := B2.cell 1
  have t2 : w2.cell? ⟨w.heap.size, 2, none⟩ = some (.int .i64 i.cap) := B2.cell 2
  have t3 : w2.cell? ⟨w.heap.size, 3, none⟩ = some (.slice A i.weight.length a) := B2.cell 3
  have t4 : w2.cell? ⟨w.heap.size, 4, none⟩ = some (.slice B i.value.length b) := B2.cell 4
  have t5 : w2.cell? ⟨w.heap.size, 5, none⟩ = some (.slice C i.cost.length c) := B2.cell 5
  have f0 := B2.free 0
  have f1 := B2.free 1
  have f2 := B2.free 2
  have f3 := B2.free 3
  have f4 := B2.free 4
  have f5 := B2.free 5
  have M3 := (set6 B2 (base := w.heap.size) (Nat.le_refl _) (.int .i64 j.kind) (.int .i64 j.n) (.int .i64 j.cap) (.slice A3 l3 d3) (.slice A4 l4 d4) (.slice A5 l5 d5)).2
  have Q3 := Lib.hid (oQ.modT M3 (by decide))
  replace X2 := Lib.hid X2
  replace B2 := Lib.hid B2
  replace X3 := Lib.hid X3
  replace B3 := Lib.hid B3
  replace O3 := Lib.hid O3
  clear O2 x2 M3 oQ O1 B1' B1
  go_wp2_with (fail)
  have qle := Q3.out.le
  refine (CU2.out Q qc _ Q3.out.read qle.1 qle.2).mono ?_
  rintro e w4 ⟨R, rc, rfl, oR, x4⟩
  have X4 := Lib.hid (X3.out.tr x4)
  have B4 := Lib.hid (B3.out.ext x4)
  have O4 := Lib.hid (O3.out.ext x4)
  have Q4 := Lib.hid (Q3.out.read.ext x4)
  have R4 := Lib.hid oR.read
  clear t0 t1 t2 t3 t4 t5 f0 f1 f2 f3 f4 f5 x4 X3 B3 O3 X2 B2 Q3 qle oR
  have c0 : w4.cell? ⟨w.heap.size, 0, none⟩ = some (.int .i64 j.kind) := B4.out.cell 0
  have c1 : w4.cell? ⟨w.heap.size, 1, none⟩ = some (.int .i64 j.n) := B4.out.cell 1
  have c2 : w4.cell? ⟨w.heap.size, 2, none⟩ = some (.int .i64 j.cap) := B4.out.cell 2
  have c3 : w4.cell? ⟨w.heap.size, 3, none⟩ = some (.slice A3 l3 d3) := B4.out.cell 3
  have c4 : w4.cell? ⟨w.heap.size, 4, none⟩ = some (.slice A4 l4 d4) := B4.out.cell 4
  have c5 : w4.cell? ⟨w.heap.size, 5, none⟩ = some (.slice A5 l5 d5) := B4.out.cell 5
  go_wp2_with (fail)
  refine (hn.out _ _ (O4.out.rinst hI)).mono ?_
  rintro e w5 ⟨g, rfl, K5, x5⟩
  clear c0 c1 c2 c3 c4 c5
  go_wp2_with (fail)
  refine (tours_any _ (hT.out.ext (X4.out.tr x5))).mono ?_
  rintro e w6 ⟨rfl, x6⟩
  have y46 := Ext.tr x5 x6
  have K6 := Lib.hid (K5.ext x6)
  have X6 := Lib.hid (X4.out.tr y46)
  have O6 := Lib.hid (O4.out.ext y46)
  have B6 := Lib.hid (B4.out.ext y46)
  have Q6 := Lib.hid (Q4.out.ext y46)
  have R6 := Lib.hid (R4.out.ext y46)
  clear K5 x5 x6 y46 X4 O4 B4 Q4 R4
  go_wp2_with (fail)
  refine (KI.out g _ Q qc _ (hT.out.ext X6.out) K6.out Q6.out).mono ?_
  rintro e w7 ⟨S1, s1, rfl, r7, m7, n7, x7⟩
  replace r7 := Lib.hid r7
  have c0 : w7.cell? ⟨w.heap.size, 0, none⟩ = some (.int .i64 j.kind) := (B6.out.ext x7).cell 0
  have c1 : w7.cell? ⟨w.heap.size, 1, none⟩ = some (.int .i64 j.n) := (B6.out.ext x7).cell 1
  have c2 : w7.cell? ⟨w.heap.size, 2, none⟩ = some (.int .i64 j.cap) := (B6.out.ext x7).cell 2
  have c3 : w7.cell? ⟨w.heap.size, 3, none⟩ = some (.slice A3 l3 d3) := (B6.out.ext x7).cell 3
  have c4 : w7.cell? ⟨w.heap.size, 4, none⟩ = some (.slice A4 l4 d4) := (B6.out.ext x7).cell 4
  have c5 : w7.cell? ⟨w.heap.size, 5, none⟩ = some (.slice A5 l5 d5) := (B6.out.ext x7).cell 5
  go_wp2_with (fail)
  refine (RK.out _ R rc _ ((O6.out.ext x7).rinst hI) (R6.out.ext x7)).mono ?_
  rintro e w8 ⟨S2, s2, rfl, r8, m8, n8, x8⟩
  replace r8 := Lib.hid r8
  have y68 := Lib.hid (Ext.tr x7 x8)
  clear c0 c1 c2 c3 c4 c5
  go_wp2_with (fail)
  refine (AN.out g _ Q qc _ (K6.out.ext y68.out) (Q6.out.ext y68.out)).mono ?_
  rintro e w9 ⟨S3, s3, rfl, r9, m9, n9, x9⟩
  replace r9 := Lib.hid r9
  have y69 := Lib.hid (Ext.tr y68.out x9)
  have c0 : w9.cell? ⟨w.heap.size, 0, none⟩ = some (.int .i64 j.kind) := (B6.out.ext y69.out).cell 0
  have c1 : w9.cell? ⟨w.heap.size, 1, none⟩ = some (.int .i64 j.n) := (B6.out.ext y69.out).cell 1
  have c2 : w9.cell? ⟨w.heap.size, 2, none⟩ = some (.int .i64 j.cap) := (B6.out.ext y69.out).cell 2
  have c3 : w9.cell? ⟨w.heap.size, 3, none⟩ = some (.slice A3 l3 d3) := (B6.out.ext y69.out).cell 3
  have c4 : w9.cell? ⟨w.heap.size, 4, none⟩ = some (.slice A4 l4 d4) := (B6.out.ext y69.out).cell 4
  have c5 : w9.cell? ⟨w.heap.size, 5, none⟩ = some (.slice A5 l5 d5) := (B6.out.ext y69.out).cell 5
  go_wp2_with (fail)
  refine (RAn.out _ R rc _ ((O6.out.ext y69.out).rinst hI) (R6.out.ext y69.out)).mono ?_
  rintro e wa ⟨S4, s4, rfl, ra, ma, na, xa⟩
  replace ra := Lib.hid ra
  clear c0 c1 c2 c3 c4 c5
  have x8a := Lib.hid (Ext.tr x9 xa)
  have y6a := Lib.hid (Ext.tr y69.out xa)
  go_wp2_with (fail)
  refine (same_yes S1 S2 s1 s2 ks _ (r7.out.ext (Ext.tr x8 x8a.out)) (r8.out.ext x8a.out) (by omega)).mono ?_
  rintro e wb ⟨rfl, xb⟩
  have yab := Lib.hid xb
  clear xb
  go_wp2_with (fail)
  refine (same_yes S3 S4 s3 s4 ans _ (r9.out.ext (Ext.tr xa yab.out)) (ra.out.ext yab.out) (by omega)).mono ?_
  rintro e wc ⟨rfl, xc⟩
  have y6c := Lib.hid (Ext.tr (Ext.tr y6a.out yab.out) xc)
  clear xc
  go_wp2_with (fail)
  refine (same_yes Q R qc rc ps _ (Q6.out.ext y6c.out) (R6.out.ext y6c.out) (by omega)).mono ?_
  rintro e wd ⟨rfl, xd⟩
  have Xd := Lib.hid ((X6.out.tr y6c.out).tr xd)
  clear xd
  go_wp2_with (fail)
  go_ret
  exact ⟨rfl, Xd.out⟩
set_option maxRecDepth 100000 in
set_option maxHeartbeats 4000000 in
theorem walk_no (i j : InstP) (hj : j = copyP i) (vs : List Value) (P : Option Addr) (pc : Nat) (xs ps : List Int) (hps : ps = xs.take 70) (w : World) (hT : Tab w) (H : RInst w vs i) (hP : RdI w P xs) (ix : Ints xs) (lx : xs.length ≤ pc) (lc : pc ≤ maxLen) (err : Int) (he : err ≠ 0) (hn : ∀ (us : List Value) (W : World), RInst W us j → Calls Tryd.prog 33 #[.agg (List.toArray us)] W fun e w' => e = .returned (.tuple #[.pointer none, .int .i64 err]) ∧ Ext W w') :
    Calls Tryd.prog 10 #[.agg (List.toArray vs), .slice P xs.length pc] w fun e w' => e = .returned (.bool true) ∧ Ext w w' := by
  have CP := fun (W : World) (x : Ext w W) => copy_to hj vs W (H.ext x)
  have CU := fun (W : World) (x : Ext w W) => cut_toT hps P pc W (hP.ext x) ix lx lc
  have lps : ps.length ≤ 70 := by rw [hps]; exact List.length_take_le _ _
  have ips : Ints ps := by rw [hps]; exact ix.take _
  have CU2 := fun (A : Option Addr) (c : Nat) (W : World) (h : RdI W A ps) (h1 : ps.length ≤ c) (h2 : c ≤ maxLen) => cut_toT (xs := ps) (ys := ps) (List.take_of_length_le lps).symm A c W h ips h1 h2
  have hI : InstInts j := hj ▸ H.ints.copy
  have eb : (err != 0) = true := by simpa using he
  clear hj hps he
  obtain ⟨A, a, B, b, C, c, rfl, -, -, -⟩ := H
  have B1 : Hid (Blk (w.alloc (.cells #[.int .i64 i.kind, .int .i64 i.n, .int .i64 i.cap, .slice A i.weight.length a, .slice B i.value.length b, .slice C i.cost.length c] 25)) w.heap.size 25 #[.int .i64 i.kind, .int .i64 i.n, .int .i64 i.cap, .slice A i.weight.length a, .slice B i.value.length b, .slice C i.cost.length c]) := .new rfl
  replace CP := Lib.hid CP
  replace hT := Lib.hid hT
  replace CU := Lib.hid CU
  replace CU2 := Lib.hid CU2
  replace hn := Lib.hid hn
  replace hP := Lib.hid hP
  replace ix := Lib.hid ix
  replace ips := Lib.hid ips
  replace lc := Lib.hid lc
  go_enter Tryd.func10, Tryd.ntmps10
  go_wp2_with (fail)
  refine (CP.out _ (by (repeat (first | assumption | exact Ext.rf _ | apply Ext.drew | apply Ext.drewN | apply Ext.alloc)))).mono ?_
  rintro e w1 ⟨us, rfl, O1, x1⟩
  obtain ⟨A3, l3, d3, A4, l4, d4, A5, l5, d5, rfl⟩ := O1.six
  have X1 := Lib.hid (Ext.tr (a := w) (by (repeat (first | assumption | exact Ext.rf _ | apply Ext.drew | apply Ext.drewN | apply Ext.alloc))) x1)
  have B1' := Lib.hid (B1.out.ext x1)
  replace O1 := Lib.hid O1
  clear x1
  go_wp2_with (fail)
  refine (CU.out _ X1.out).mono ?_
  rintro e w2 ⟨Q, qc, rfl, oQ, x2⟩
  have X2 := Ext.tr X1.out x2
  have B2 := B1'.out.ext x2
  have O2 := O1.out.ext x2
  obtain ⟨X3, B3, O3⟩ := put_copy B2 X2 O2
  have t0 : w2.cell? ⟨w.heap.size, 0, none⟩ = some (.int .i64 i.kind) := B2.cell 0
  have t1 : w2.cell? ⟨w.heap.size, 1, none⟩ = some (.int .i64 i.n) := B2.cell 1
  have t2 : w2.cell? ⟨w.heap.size, 2, none⟩ = some (.int .i64 i.cap) := B2.cell 2
  have t3 : w2.cell? ⟨w.heap.size, 3, none⟩ = some (.slice A i.weight.length a) := B2.cell 3
  have t4 : w2.cell? ⟨w.heap.size, 4, none⟩ = some (.slice B i.value.length b) := B2.cell 4
  have t5 : w2.cell? ⟨w.heap.size, 5, none⟩ = some (.slice C i.cost.length c) := B2.cell 5
  have f0 := B2.free 0
  have f1 := B2.free 1
  have f2 := B2.free 2
  have f3 := B2.free 3
  have f4 := B2.free 4
  have f5 := B2.free 5
  have M3 := (set6 B2 (base := w.heap.size) (Nat.le_refl _) (.int .i64 j.kind) (.int .i64 j.n) (.int .i64 j.cap) (.slice A3 l3 d3) (.slice A4 l4 d4) (.slice A5 l5 d5)).2
  have Q3 := Lib.hid (oQ.modT M3 (by decide))
  replace X2 := Lib.hid X2
  replace B2 := Lib.hid B2
  replace X3 := Lib.hid X3
  replace B3 := Lib.hid B3
  replace O3 := Lib.hid O3
  clear O2 x2 M3 oQ O1 B1' B1
  go_wp2_with (fail)
  have qle := Q3.out.le
  refine (CU2.out Q qc _ Q3.out.read qle.1 qle.2).mono ?_
  rintro e w4 ⟨R, rc, rfl, oR, x4⟩
  have X4 := Lib.hid (X3.out.tr x4)
  have B4 := Lib.hid (B3.out.ext x4)
  have O4 := Lib.hid (O3.out.ext x4)
  have Q4 := Lib.hid (Q3.out.read.ext x4)
  have R4 := Lib.hid oR.read
  clear t0 t1 t2 t3 t4 t5 f0 f1 f2 f3 f4 f5 x4 X3 B3 O3 X2 B2 Q3 qle oR
  have c0 : w4.cell? ⟨w.heap.size, 0, none⟩ = some (.int .i64 j.kind) := B4.out.cell 0
  have c1 : w4.cell? ⟨w.heap.size, 1, none⟩ = some (.int .i64 j.n) := B4.out.cell 1
  have c2 : w4.cell? ⟨w.heap.size, 2, none⟩ = some (.int .i64 j.cap) := B4.out.cell 2
  have c3 : w4.cell? ⟨w.heap.size, 3, none⟩ = some (.slice A3 l3 d3) := B4.out.cell 3
  have c4 : w4.cell? ⟨w.heap.size, 4, none⟩ = some (.slice A4 l4 d4) := B4.out.cell 4
  have c5 : w4.cell? ⟨w.heap.size, 5, none⟩ = some (.slice A5 l5 d5) := B4.out.cell 5
  go_wp2_with (fail)
  refine (hn.out _ _ (O4.out.rinst hI)).mono ?_
  rintro e w5 ⟨rfl, x5⟩
  clear c0 c1 c2 c3 c4 c5
  go_wp2_with (fail)
  refine (tours_any _ (hT.out.ext (X4.out.tr x5))).mono ?_
  rintro e w6 ⟨rfl, x6⟩
  go_wp2_with (fail)
  refine (tours_any _ (hT.out.ext ((X4.out.tr x5).tr x6))).mono ?_
  rintro e w7 ⟨rfl, x7⟩
  have Xd := Lib.hid (X4.out.tr (Ext.tr (Ext.tr x5 x6) x7))
  clear x5 x6 x7
  go_wp2_with (fail)
  go_ret
  exact ⟨rfl, Xd.out⟩
theorem walk (vs : List Value) (i : InstP) (P : Option Addr) (pc : Nat) (xs : List Int) (w : World) (hT : Tab w) (H : RInst w vs i) (_ : InstOk i) (hP : RdI w P xs) (ix : Ints xs) (lx : xs.length ≤ pc) (lc : pc ≤ maxLen) :
    Calls Tryd.prog 10 #[.agg (List.toArray vs), .slice P xs.length pc] w fun e w' => e = .returned (.bool true) ∧ Ext w w' := by
  obtain ⟨l1, l2, _⟩ := copyP_lens i
  by_cases hc : checkP (copyP i) = 0
  · by_cases hk : (copyP i).kind = 3
    · exact walk_yes i (copyP i) rfl vs P pc xs _ rfl w hT H hP ix lx lc hc hk
    · exact walk_no i (copyP i) rfl vs P pc xs _ rfl w hT H hP ix lx lc 14 (by omega) (fun us W h => newt_kind (copyP i) us W h (by omega) (by omega) hc hk)
  · exact walk_no i (copyP i) rfl vs P pc xs _ rfl w hT H hP ix lx lc (checkP (copyP i)) hc (fun us W h => newt_bad (copyP i) us W h (by omega) (by omega) hc)

set_option maxRecDepth 100000 in
theorem lifted (os : Os) (started : os.Started) (H : Type) (enc : TypeId × Value → H) :
    ReturnsInHanded {} Tryd.checked os 10 .any (fun w args => (Rows.tourKidsSpec.pre enc Tryd.prog Tryd.f10 Rows.tourKidsRow.domain false w args ∧ laidMetH Tryd.prog tabL w) ∧ sizedMet enc Tryd.prog Tryd.f10 (OpenSpec.ofChange Rows.tourKidsSpec) false w args) (Rows.tourKidsSpec.post enc Tryd.prog Tryd.f10 false true false false) := by
  refine returnsInHanded_of_change_and (C := Tryd.checked) (X := fun w _ => laidMetH Tryd.prog tabL w) (fun _ _ _ hh h => h.of_heap hh) own started (by kernel_rfl) Tryd.func10
    (ChangeSpec.witness_shaped (enc := enc) (C := Tryd.checked) (os := os) (X := fun w _ => laidMetH Tryd.prog tabL w) false (World.laidAll Tryd.prog os tabL) #[.agg #[.int .i64 0, .int .i64 0, .int .i64 0, .slice none 0 0, .slice none 0 0, .slice none 0 0], .slice none 0 0] 8 (World.laidAll_os _ _ _)
      (World.shaped_of_ZipB (by kernel_rfl) (by kernel_rfl)) (by kernel_rfl) (by kernel_rfl) (by kernel_rfl)
      (by rw [MakeChecks.laidMetH_plain _ _ _ (by kernel_rfl)]; exact laidMet_laidAll _ (by kernel_rfl) (by kernel_rfl))) ?_
  intro W base args ds gs before hval0 hW _ _ hL _
  have hval : ∀ (j : Nat) t v, Tryd.f10.params[j]? = some t → args[j]? = some v → Value.okWide Tryd.prog W .any base t v := hval0
  have hW' := hW
  obtain ⟨p, q, hA0, hV, rfl, hfz, hnd⟩ := hW
  have hA : DataW.TrodAll enc Tryd.prog W 0 (fun _ => true) true Tryd.f10.params.toList args.toList ds p := hA0
  rw [Tryd.params10] at hA hval
  obtain ⟨v0, vs0, d0, ds0, p0, q0, hargs, rfl, rfl, h0, r0⟩ := trodAll_cons hA
  obtain ⟨v1, vs1, d1, ds1, p1, q1, rfl, rfl, rfl, h1, r1⟩ := trodAll_cons r0
  obtain ⟨rfl, rfl, rfl⟩ := trodAll_nil r1
  obtain rfl : args = #[v0, v1] := by cases args; simp_all
  obtain ⟨rfl, rfl⟩ := trodVars_none hV
  obtain ⟨y0, x0, rfl, hx0, ix0⟩ := open_Inst h0 (hval 0 _ v0 rfl rfl)
  obtain ⟨A1, x1, c1, rfl, hx1, ix1, lx1, lc1⟩ := open_RdI h1 (hval 1 _ v1 rfl rfl)
  refine (walk y0 x0 A1 c1 x1 W (tab_of_laid hL) hx0 ix0 hx1 ix1 lx1 lc1).mono fun e W' ⟨he, hg⟩ => ?_
  subst he
  exact ⟨_, rfl, post_law hW' rfl rfl rfl rfl rfl (readable_of (by kernel_rfl)) hg⟩

theorem row : Rows.TourKidsSaid :=
  OpenClaim.holds_of_wide 10 Tryd.f10 rfl rfl rfl rfl rfl rfl rfl ⟨rfl, rfl, rfl, rfl, rfl⟩ rfl rfl rfl rfl rfl (by kernel_rfl) Tryd.func10 (by kernel_rfl)
    (of_decide_eq_true (by kernel_rfl)) (by unfold Func.isWrapper; first | (rw [if_pos (by decide +kernel)]; kernel_rfl) | (rw [if_neg (by decide +kernel)]; exact ⟨rfl, rfl⟩))
    (fun os started H enc _ => lifted os started H enc)
theorem proved : Rows.TourKidsCardSaid :=
  Claim7.holds_tied_plain_at .later [] [.data] true Rows.tourKidsCard.stood.harness false row (fun _ h => by cases h) (by kernel_rfl) (fun _ h => by cases h) tourKids_row_tie rfl ⟨rfl, rfl⟩ (by kernel_rfl) rfl
    (fun f fn hf hfn => by
      obtain rfl : f = 10 := Option.some.inj ((show Tryd.prog.funcNamed "kurgan/kurganlaw13.TourKids" = some 10 by kernel_rfl).symm.trans hf) |>.symm
      obtain rfl : fn = Tryd.f10 := (Option.some.inj (Tryd.func10.symm.trans hfn)).symm
      exact ⟨by kernel_rfl, fun j t ht => by
        rw [Tryd.params10] at ht
        have hm : t ∈ [25, 22] := by simpa using Array.mem_of_getElem? ht
        have hall : ([25, 22].all fun u => !Tryd.prog.wantsStandIn u) = true := by kernel_rfl
        exact (show Tryd.prog.wantsStandIn t = false by simpa using List.all_eq_true.1 hall t hm)⟩)
    (by kernel_rfl)
end Go.Proofs.YtpngflmngnjjoaaDoor.tourKids
