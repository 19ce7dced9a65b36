/-
  An assignment's kernel: what no answer that begins so is below.
-/
import Derived.Test.YtpfdkocelmmllaaDoorAssignE
namespace Go.Proofs.YtpfdkocelmmllaaDoor
open Go.RowKit Go.ChangeShapes Go.WideShapes Go.ChangeAt Go.Deep Go.Shelf

/-- what a beginning costs -/
def costF : List (List Int) → List Int → Int
  | row :: rows, c :: p => row.getD c.toNat 0 + costF rows p
  | _, _ => 0
def boundA (rows : List (List Int)) (p : List Int) : Int × Int :=
  match freeP rows.length p with
  | none => (0, 1)
  | some m => (costF rows p + (if p.length < rows.length then reduceP (rows.drop p.length) (memsM m) else 0), 0)
theorem freeM_in {n : Nat} : ∀ {p : List Int} {m q : Nat}, SubN n m → freeM m p = some q → ∀ c ∈ p, 0 ≤ c ∧ c < n
  | [], _, _, _, _, c, hc => by cases hc
  | d :: p, m, q, h, e, c, hc => by
    unfold freeM at e
    split at e
    · rename_i hd
      rcases List.mem_cons.1 hc with rfl | hc
      · have := h.2 c.toNat (memsM_mem.2 ⟨by omega, hd.2.2⟩)
        omega
      · exact freeM_in (h.clr _) e c hc
    · cases e
theorem freeP_in {n : Nat} (h24 : n ≤ 24) {p : List Int} {q : Nat} (e : freeP n p = some q) : p.length ≤ n ∧ (∀ c ∈ p, 0 ≤ c ∧ c < n) ∧ SubN n q := by
  unfold freeP at e
  split at e
  · cases e
  · exact ⟨by omega, freeM_in (subN_full h24) e, freeM_sub (subN_full h24) e⟩
theorem costF_snoc : ∀ {rows : List (List Int)} {p : List Int} {k : Nat} {row : List Int} {c : Int}, rows[k]? = some row → p[k]? = some c → costF rows (p.take (k + 1)) = costF rows (p.take k) + row.getD c.toNat 0
  | r :: rows, d :: p, 0, row, c, h1, h2 => by
    simp at h1 h2
    subst h1 h2
    cases rows <;> simp [costF]
  | r :: rows, d :: p, k + 1, row, c, h1, h2 => by
    simp at h1 h2
    simp only [List.take_succ_cons, costF]
    rw [costF_snoc h1 h2]
    omega
  | [], _, _, _, _, h1, _ => by simp at h1
  | _ :: _, [], _, _, _, _, h2 => by simp at h2
theorem costF_bd {B : Int} (hB : 0 ≤ B) : ∀ {rows : List (List Int)} {p : List Int}, (∀ row ∈ rows, ∀ c ∈ p, 0 ≤ row.getD c.toNat 0 ∧ row.getD c.toNat 0 ≤ B) → 0 ≤ costF rows p ∧ costF rows p ≤ B * p.length
  | [], p, _ => by
    have : 0 ≤ B * (p.length : Int) := Int.mul_nonneg hB (by omega)
    simp only [costF]
    omega
  | _ :: _, [], _ => by simp [costF]
  | r :: rows, d :: p, h => by
    have h1 := h r (by simp) d (by simp)
    have h2 := costF_bd hB (rows := rows) (p := p) fun row hr c hc => h row (by simp [hr]) c (by simp [hc])
    simp only [costF, List.length_cons, Int.natCast_add, Int.natCast_one, Int.mul_add, Int.mul_one]
    omega
theorem reduceP_bd {rows : List (List Int)} {m : Nat} (hr : rows.length ≤ 24) (h : ∀ row ∈ rows, ∀ c ∈ memsM m, 0 ≤ row.getD c 0 ∧ row.getD c 0 ≤ 2147483647) : -(2147483647 * 300) ≤ reduceP rows (memsM m) ∧ reduceP rows (memsM m) ≤ 2147483647 * 300 := by
  have h1 : ∀ o ∈ offL rows (memsM m), -2147483647 ≤ o ∧ o ≤ 2147483647 := fun o ho => by
    obtain ⟨row, hr, rfl⟩ := List.mem_map.1 ho
    exact leastN_bd (fun c hc => by have := h row hr c hc; omega) (by omega) (by omega)
  have h2 := sumA_bd (B := 2147483647) h1
  have h3 : (offL rows (memsM m)).length = rows.length := by simp [offL]
  have h4 := sumA_bd (B := 2 * 2147483647) (l := (memsM m).map fun c => colF c (-1) rows (offL rows (memsM m))) fun z hz => by
    obtain ⟨c, hc, rfl⟩ := List.mem_map.1 hz
    exact colF_bd (fun row hr => h row hr c hc) h1 (by omega) (by omega) (by omega)
  have h5 := memsM_le m
  rw [List.length_map] at h4
  unfold reduceP
  omega
theorem RowsO.drop {w : World} {base : Nat} {us : List Value} {rows : List (List Int)} (h : RowsO w base us rows) (k : Nat) : RowsO w base (us.drop k) (rows.drop k) := by
  refine ⟨by rw [List.length_drop, List.length_drop, h.1], fun i r hr => ?_⟩
  rw [List.getElem?_drop] at hr
  obtain ⟨A, c, h1, h2⟩ := h.2 (k + i) r hr
  exact ⟨A, c, by rw [List.getElem?_drop]; exact h1, h2⟩
/-- the kernel's rows, in form -/
structure RowsOk (rows : List (List Int)) : Prop where
  n1 : 1 ≤ rows.length
  n2 : rows.length ≤ 24
  row : ∀ row ∈ rows, row.length = rows.length
  num : ∀ row ∈ rows, ∀ x ∈ row, 0 ≤ x ∧ x ≤ 2147483647
theorem RowsOk.get {rows : List (List Int)} (h : RowsOk rows) {row : List Int} (hr : row ∈ rows) {c : Nat} (hc : c < rows.length) : 0 ≤ row.getD c 0 ∧ row.getD c 0 ≤ 2147483647 := by
  have h1 : c < row.length := by rw [h.row row hr]; exact hc
  have h2 : row.getD c 0 = row[c] := by simp [List.getD, List.getElem?_eq_getElem h1]
  rw [h2]
  exact h.num row hr _ (List.getElem_mem _)
set_option maxRecDepth 100000 in
set_option maxHeartbeats 4000000 in
theorem bounda_any {base g : Nat} {rows : List (List Int)} (P : Option Addr) (pc : Nat) (p : List Int) (w : World) (hT : Tab w) (H : KernA w base g rows) (ok : RowsOk rows) (hP : RdI w P p) (lp : p.length ≤ 1000000000) :
    Calls Tryd.prog 12 #[.pointer (some ⟨g, 0, none⟩), .slice P p.length pc] w fun e w' => e = .returned (.tuple #[.int .i64 (boundA rows p).1, .int .i64 (boundA rows p).2]) ∧ Ext w w' := by
  have FR := fun (W : World) (x : Ext w W) => free_any P pc p W (H.ext x) ok.n1 ok.n2 (hP.ext x) lp
  have l1 := ok.n1
  have l2 := ok.n2
  obtain ⟨C, cc, us, hB, _, hV, hR⟩ := H
  have lus : Hid (us.length = rows.length) := hR.1
  have lcc : rows.length ≤ cc := by
    rcases hV.cases with ⟨_, _, h, _⟩ | ⟨_, _, _, _, _, h, _⟩ <;> omega
  obtain ⟨r, hr⟩ : ∃ r, Hid (freeP rows.length p = r) := ⟨_, rfl⟩
  rw [hr.out] at FR
  cases r with
  | none =>
    have e : boundA rows p = (0, 1) := by unfold boundA; rw [hr.out]
    rw [e]
    unfold freeV setV at FR
    replace FR := Lib.hid FR
    go_enter Tryd.func12, Tryd.ntmps12
    go_wp2_with (fail)
    refine (FR.out _ (Ext.rf w)).mono ?_
    rintro e w1 ⟨rfl, x1⟩
    go_wp2_with (fail)
    go_ret2
    exact ⟨rfl, by (repeat (first | assumption | exact Ext.rf _ | apply Ext.drew | apply Ext.drewN | apply Ext.alloc))⟩
  | some m =>
    obtain ⟨hpl, hin, hS⟩ := freeP_in l2 hr.out
    have e : boundA rows p = (costF rows p + (if p.length < rows.length then reduceP (rows.drop p.length) (memsM m) else 0), 0) := by unfold boundA; rw [hr.out]
    obtain ⟨tot, ht⟩ : ∃ tot, Hid (tot = costF rows p + (if p.length < rows.length then reduceP (rows.drop p.length) (memsM m) else 0)) := ⟨_, rfl⟩
    rw [e, ← ht.out]
    clear e
    unfold freeV setV at FR
    replace FR := Lib.hid FR
    replace hS := Lib.hid hS
    replace hin := Lib.hid hin
    replace ok := Lib.hid ok
    replace hP := Lib.hid hP
    replace hV := Lib.hid hV
    replace hR := Lib.hid hR
    replace hT := Lib.hid hT
    replace hB := Lib.hid hB
    go_enter Tryd.func12, Tryd.ntmps12
    go_wp2_with (fail)
    refine (FR.out _ (Ext.rf w)).mono ?_
    rintro e w1 ⟨rfl, x1⟩
    have z1 := x1.size
    have START := Lib.hid (And.intro (x1.alloc (.cells #[.int .u64 m, .int .u64 0] 51)) (show Blk (w1.alloc (.cells #[.int .u64 m, .int .u64 0] 51)) w1.heap.size 51 #[.int .u64 m, .int .u64 0] from .new rfl))
    obtain ⟨sb, hsb⟩ : ∃ sb, Hid (sb = w1.heap.size) := ⟨_, rfl⟩
    have zsb : w.heap.size ≤ sb := by rw [hsb.out]; exact z1
    clear x1
    go_wp2_with (fail)
    rw [← hsb.out] at START ⊢
    go_loopw [8, 22] (fun s v wr => ∃ (k : Nat) (su : Int), v = .int .i64 k ∧ s = .int .i64 su ∧ k ≤ p.length ∧ Hid (costF rows (p.take k) = su) ∧ Hid (Ext w wr ∧ Blk wr sb 51 #[.int .u64 m, .int .u64 0])) (fun _ v _ => p.length - (intOf v).toNat)
    case atStart => exact ⟨0, 0, rfl, rfl, by omega, (by cases rows <;> rfl : costF rows (p.take 0) = 0), START⟩
    case round =>
      obtain ⟨wo, rfl⟩ : ∃ wo : World, wo = wr := ⟨_, rfl⟩
      clear START
      obtain ⟨k, su, rfl, rfl, hk, HS, HH⟩ := hrel
      obtain ⟨Y, bS⟩ := HH.out
      have bdS : Hid (0 ≤ su ∧ su ≤ 2147483647 * 24) := by
        have h1 := costF_bd (B := 2147483647) (rows := rows) (p := p.take k) (by omega) fun row hr c hc => by
          have := hin.out c (List.mem_of_mem_take hc)
          exact ok.out.get hr (by omega)
        have h2 : (p.take k).length ≤ 24 := by rw [List.length_take]; omega
        have h : 0 ≤ su ∧ su ≤ 2147483647 * 24 := by
          rw [← HS.out]
          omega
        exact h
      replace Y := Lib.hid Y
      replace bS := Lib.hid bS
      clear HH
      have bK : Blk wo g 48 #[.slice C rows.length cc] := hB.out.ext Y.out
      have cK : wo.cell? ⟨g, 0, none⟩ = some (.slice C rows.length cc) := bK.cell 0
      clear bK
      by_cases hlt : k < p.length
      · have hkr : k < rows.length := by omega
        have er : rows[k]? = some rows[k] := List.getElem?_eq_getElem hkr
        obtain ⟨D, d, hu, oD⟩ := hR.out.2 k _ er
        have hmem : rows[k] ∈ rows := List.getElem_mem hkr
        generalize rows[k] = row at *
        obtain ⟨pb, po, c, rfl, zp, cp, ep, _⟩ := (hP.out.ext Y.out).at hlt
        have hc := hin.out c (List.mem_of_getElem? ep.out)
        obtain ⟨ab, ao, vv, rfl, zv, cv, ev⟩ := (hV.out.read.ext Y.out).at (j := k) (by rw [lus.out]; exact hkr)
        obtain rfl : .slice D row.length d = vv := by
          have h := ev.out
          rw [hu] at h
          exact Option.some.inj h
        obtain ⟨i, rfl⟩ : ∃ i : Nat, c = (i : Int) := ⟨c.toNat, by omega⟩
        have lrow := ok.out.row row hmem
        obtain ⟨cb, co, y, rfl, zy, cy, ey, _⟩ := (oD.read.ext Y.out).at (k := i) (by omega)
        have yb := ok.out.get hmem (c := i) (by omega)
        rw [getD_some ey.out] at yb
        have b1 := bdS.out
        have hw : IntKind.i64.wrap (su + y) = su + y := IntWalk.i64_in _ (by omega)
        have HS2 : Hid (costF rows (p.take (k + 1)) = su + y) := by
          have h : costF rows (p.take (k + 1)) = su + y := by
            rw [costF_snoc er ep.out, HS.out, Int.toNat_natCast, getD_some ey.out]
          exact h
        have q1 : (k : Int) < (rows.length : Int) := by omega
        have q2 : (k : Int) < (p.length : Int) := by omega
        have q3 : (i : Int) < (row.length : Int) := by omega
        have FIN : Hid (Ext w wo ∧ Blk wo sb 51 #[.int .u64 m, .int .u64 0]) := ⟨Y.out, bS.out⟩
        clear ev hu oD er ep ey lrow b1 yb HS hc
        go_wp2_with (fail)
        go_roundw
        case rel => exact ⟨k + 1, su + y, by go_num, rfl, by omega, HS2, FIN⟩
        case measure => simp only [intOf]; omega
      · obtain rfl : k = p.length := by omega
        have HS2 : Hid (costF rows p = su) := by
          have h := HS.out
          rw [List.take_length] at h
          exact h
        clear HS
        have cS0 : wo.cell? ⟨sb, 0, none⟩ = some (.int .u64 m) := bS.out.cell 0
        have cS1 : wo.cell? ⟨sb, 1, none⟩ = some (.int .u64 0) := bS.out.cell 1
        by_cases hlr : p.length < rows.length
        · have ht2 := ht.out
          rw [if_pos hlr, HS2.out] at ht2
          replace ht2 := Lib.hid ht2
          have b1 : (0 : Int) ≤ (p.length : Int) := by omega
          have b2 : (p.length : Int) ≤ (cc : Int) := by omega
          have b3 : (p.length : Int) ≤ (rows.length : Int) := by omega
          have q0 : ¬ ((p.length : Int) < (p.length : Int)) := by omega
          have RE := fun (W : World) (x : Ext w W) (A : Option Addr) (rc : Nat) (hA : RdV W 22 A (us.drop p.length)) (hRo : RowsO W base (us.drop p.length) (rows.drop p.length)) => reduce_any (base := base) A rc (us.drop p.length) (rows.drop p.length) m hS.out.1 (fun x hx => by have := hS.out.2 x hx; omega) (fun row hr x hx => by rw [ok.out.row row (List.mem_of_mem_drop hr)]; exact hS.out.2 x hx) (fun row hr => ok.out.num row (List.mem_of_mem_drop hr)) (by rw [List.length_drop]; omega) W (hT.out.ext x) hA hRo
          have RB := reduceP_bd (rows := rows.drop p.length) (m := m) (by rw [List.length_drop]; omega) (fun row hr c hc => ok.out.get (List.mem_of_mem_drop hr) (hS.out.2 c hc))
          rw [List.length_drop] at RE
          unfold setV at RE
          replace RE := Lib.hid RE
          generalize reduceP (rows.drop p.length) (memsM m) = rp at *
          have hw2 : IntKind.i64.wrap (su + rp) = su + rp := IntWalk.i64_in _ (by have := bdS.out; omega)
          clear RB
          go_wp2_with (fail)
          refine (RE.out wo Y.out _ _ ((hV.out.read.ext Y.out).drop p.length) ((hR.out.ext Y.out).drop p.length)).mono ?_
          rintro e w3 ⟨rfl, x3⟩
          go_wp2_with (fail)
          obtain rfl : tot = su + rp := ht2.out
          go_ret2
          exact ⟨rfl, Y.out.tr x3⟩
        · have ht2 := ht.out
          rw [if_neg hlr, HS2.out, Int.add_zero] at ht2
          have b1 : (0 : Int) ≤ (p.length : Int) := by omega
          have b2 : (p.length : Int) ≤ (cc : Int) := by omega
          have b3 : (p.length : Int) ≤ (rows.length : Int) := by omega
          have q0 : ¬ ((p.length : Int) < (p.length : Int)) := by omega
          obtain rfl : tot = su := ht2
          go_wp2_with (fail)
          all_goals go_ret2
          all_goals exact ⟨rfl, Y.out⟩
end Go.Proofs.YtpfdkocelmmllaaDoor
