/-
  Assignments as squares of numbers: in form, copied, solved.
-/
import Derived.Test.YtleckhbmciiooaaMatS
import Derived.Test.YtleckhbmciiooaaHungX
import Derived.Test.YtleckhbmciiooaaExA
namespace Go.Proofs.Ytleckhbmciiooaa
open Go.RowKit Go.ChangeShapes Go.WideShapes Go.ChangeAt Go.Deep

/-- an assignment of so many rows, costs f -/
def sqI (n : Nat) (f : Nat → Nat → Int) : InstP := ⟨2, n, 0, [], [], rowsF n f⟩
theorem rowE_of : ∀ {l : List Int} {k : Int} {r c : Nat}, k ≠ 3 → (∀ x ∈ l, 0 ≤ x ∧ x ≤ 2147483647) → rowE k r c l = 0
  | [], _, _, _, _, _ => rfl
  | x :: l, k, r, c, hk, h => by
    have hx := h x (by simp)
    have hn : numP x = 0 := by unfold numP; rw [if_neg (by omega), if_neg (by omega)]
    unfold rowE
    rw [if_pos hn, if_neg (fun hh => hk hh.1)]
    exact rowE_of hk fun y hy => h y (by simp [hy])
theorem rowsE_of : ∀ {l : List (List Int)} {k : Int} {r : Nat}, k ≠ 3 → (∀ q ∈ l, ∀ x ∈ q, 0 ≤ x ∧ x ≤ 2147483647) → rowsE k r l = 0
  | [], _, _, _, _ => rfl
  | q :: l, k, r, hk, h => by
    unfold rowsE
    rw [if_pos (rowE_of hk (h q (by simp)))]
    exact rowsE_of hk fun y hy => h y (by simp [hy])
theorem rowsF_row {n : Nat} {f : Nat → Nat → Int} : ∀ r ∈ rowsF n f, r.length = n := fun r hr => by
  obtain ⟨k, _, rfl⟩ := List.mem_map.1 hr
  simp
theorem check_sq {n : Nat} (n1 : 1 ≤ n) (n2 : n ≤ 24) {f : Nat → Nat → Int} (hf : ∀ i j, i < n → j < n → 0 ≤ f i j ∧ f i j ≤ 2147483647) : checkP (sqI n f) = 0 := by
  have hs : sizeP 2 (n : Int) = 0 := by
    unfold sizeP
    rw [if_neg (by omega), if_pos rfl, if_neg (by omega), if_neg (by omega)]
  have hp : shapeP (sqI n f) = true := by
    have h1 : ((rowsF n f).any fun r => (r.length : Int) != (n : Int)) = false := by
      rw [List.any_eq_false]
      intro r hr
      rw [rowsF_row r hr]
      simp
    unfold shapeP sqI
    simp only [rowsF_len, h1]
    simp
  unfold checkP
  rw [show (sqI n f).kind = 2 from rfl, show (sqI n f).n = (n : Int) from rfl, if_pos hs, if_pos hp, if_neg (by omega)]
  refine rowsE_of (by omega) fun q hq x hx => ?_
  obtain ⟨k, hk, rfl⟩ := List.mem_map.1 hq
  obtain ⟨l, hl, rfl⟩ := List.mem_map.1 hx
  exact hf k l (List.mem_range.1 hk) (List.mem_range.1 hl)
theorem sq_form {j : InstP} (hc : checkP j = 0) (hk : j.kind = 2) : ∃ (n : Nat) (f : Nat → Nat → Int), 1 ≤ n ∧ n ≤ 24 ∧ j.n = n ∧ j = sqI n f ∧ ∀ a b, a < n → b < n → 0 ≤ f a b ∧ f a b ≤ 2147483647 := by
  have sq := square_ok hc (by omega)
  have rok := rows_ok sq
  have hcap : j.cap = 0 := by
    unfold checkP at hc
    split at hc
    · split at hc
      · rename_i h
        unfold shapeP at h
        rw [if_neg (by omega)] at h
        simp only [Bool.and_eq_true, beq_iff_eq] at h
        exact h.1.1.2
      · cases hc
    · rename_i h
      exact absurd hc h
  refine ⟨j.cost.length, costAt j.cost, rok.n1, rok.n2, sq.len.symm, ?_, fun a b ha hb => ends_num rok a b ha hb⟩
  obtain ⟨k, n, cap, xw, xv, co⟩ := j
  have e3 := sq.w
  have e4 := sq.v
  have e5 := sq.len
  simp only at hk hcap e3 e4 e5 rok ⊢
  subst hk hcap e3 e4 e5
  unfold sqI
  congr 1
  refine List.ext_getElem (by rw [rowsF_len]) fun i h1 h2 => ?_
  have e1 := rowsF_at (f := costAt co) h1
  rw [List.getElem?_eq_getElem h2] at e1
  rw [Option.some.inj e1]
  have lr := rok.row _ (List.getElem_mem h1)
  refine List.ext_getElem (by simp [lr]) fun j h3 h4 => ?_
  simp only [List.getElem_map, List.getElem_range]
  unfold costAt
  rw [getD_some (List.getElem?_eq_getElem h1), getD_some (List.getElem?_eq_getElem h3)]
theorem copy_sqI {n : Nat} (n2 : n ≤ 24) {f : Nat → Nat → Int} : sqI n f = copyP (sqI n f) := by
  unfold copyP sqI wantC
  simp only [rowsF_len, List.take_nil, InstP.mk.injEq, true_and]
  rw [Nat.min_eq_left (by omega), List.take_of_length_le (by rw [rowsF_len]; exact Nat.le_refl _)]
  have e : (rowsF n f).map cutRow = rowsF n f := (List.map_congr_left fun r hr => (List.take_of_length_le (by rw [rowsF_row r hr]; omega) : cutRow r = id r)).trans (List.map_id _)
  rw [e]
theorem rinst_sq {w : World} {lo hi cb c n : Nat} {us : List Value} {g cp : Nat → Nat} {f : Nat → Nat → Int} {A B : Option Addr} {a b : Nat} (h : MatS w lo hi cb c n us g cp f) (hf : ∀ i j, i < n → j < n → 0 ≤ f i j ∧ f i j ≤ 2147483647) (la : a ≤ maxLen) (lb : b ≤ maxLen) :
    RInst w [.int .i64 2, .int .i64 n, .int .i64 0, .slice A 0 a, .slice B 0 b, .slice (some ⟨cb, 0, none⟩) n c] (sqI n f) := by
  refine ⟨A, a, B, b, some ⟨cb, 0, none⟩, c, by simp [sqI, rowsF_len], ⟨.inl rfl, Ints.nil, by simp [sqI], la⟩, ⟨.inl rfl, Ints.nil, by simp [sqI], lb⟩, h.rd (fun i j hi hj => by have := hf i j hi hj; omega), ?_, h.own.le.2⟩
  show (rowsF n f).length ≤ c
  rw [rowsF_len]
  exact h.own.le.1
def AsgSq (n : Nat) (f : Nat → Nat → Int) (w : World) (e : Ending) (w' : World) : Prop := ∃ X xc v, e = .returned (.tuple #[.slice X n xc, .int .i64 v, .int .i64 0]) ∧ Least (rowsF n f) n v ∧ Ext w w'
theorem asg_sq {w : World} {lo hi cb c n : Nat} {us : List Value} {g cp : Nat → Nat} {f : Nat → Nat → Int} {A B : Option Addr} {a b : Nat} (n1 : 1 ≤ n) (n2 : n ≤ 24) (hf : ∀ i j, i < n → j < n → 0 ≤ f i j ∧ f i j ≤ 2147483647) (la : a ≤ maxLen) (lb : b ≤ maxLen) (h : MatS w lo hi cb c n us g cp f) :
    Calls Try.prog 12 #[.agg #[.int .i64 2, .int .i64 n, .int .i64 0, .slice A 0 a, .slice B 0 b, .slice (some ⟨cb, 0, none⟩) n c]] w (AsgSq n f w) := by
  refine (asg_any (sqI n f) _ w (rinst_sq h hf la lb) (check_sq n1 n2 hf) rfl).mono ?_
  rintro e w' ⟨X, xc, l, rfl, _, _, _, _, hl, x⟩
  rw [show (sqI n f).cost = rowsF n f from rfl, rowsF_len] at hl ⊢
  exact ⟨X, xc, _, rfl, hl, x⟩
def CopySq (n : Nat) (f : Nat → Nat → Int) (w : World) (e : Ending) (w' : World) : Prop := ∃ A3 d3 A4 d4 cb d5 us g cp, e = .returned (.agg #[.int .i64 2, .int .i64 n, .int .i64 0, .slice A3 0 d3, .slice A4 0 d4, .slice (some ⟨cb, 0, none⟩) n d5]) ∧ MatS w' w.heap.size w'.heap.size cb d5 n us g cp f ∧ d3 ≤ maxLen ∧ d4 ≤ maxLen ∧ Ext w w'
theorem copy_sq {i : InstP} {n : Nat} {f : Nat → Nat → Int} (n1 : 1 ≤ n) (hj : sqI n f = copyP i) (vs : List Value) (w : World) (H : RInst w vs i) :
    Calls Try.prog 9 #[.agg (List.toArray vs)] w (CopySq n f w) := by
  refine (copyD_any vs i w H).mono ?_
  rintro e w' ⟨us, rfl, O, x⟩
  rw [← hj] at O
  obtain ⟨A, a, B, b, C, c, us1, rfl, oW, oV, oC, oR, oD⟩ := O
  have e1 : (sqI n f).cost = rowsF n f := rfl
  rw [e1, rowsF_len] at oC
  rw [e1] at oR
  obtain ⟨cb, g, cp, rfl, M, _⟩ := MatS.of (rowsF_len n f) rowsF_row n1 oC oR oD
  refine ⟨A, a, B, b, cb, c, us1, g, cp, by simp [sqI, rowsF_len], M.congr fun i j hi hj => rowsF_cost hi hj, oW.le.2, oV.le.2, x⟩
theorem exA_least {l : List Nat} (hp : l.Perm (List.range 2)) (h : Least [[1, 2], [3, 9]] 2 (costF [[1, 2], [3, 9]] (intsN l))) : l = [1, 0] := by
  have hl := perm_len hp
  match l, hl with
  | [a, b], _ =>
    have ha : a < 2 := List.mem_range.1 (hp.mem_iff.1 (by simp))
    have hb : b < 2 := List.mem_range.1 (hp.mem_iff.1 (by simp))
    have hn : [a, b].Nodup := hp.symm.nodup List.nodup_range
    have hab : a ≠ b := by simpa using hn
    have h2 := h.2 [1, 0] (by decide)
    match a, b, ha, hb with
    | 0, 0, _, _ => exact absurd rfl hab
    | 1, 1, _, _ => exact absurd rfl hab
    | 1, 0, _, _ => rfl
    | 0, 1, _, _ => exact absurd h2 (by decide)
set_option maxRecDepth 100000 in
set_option maxHeartbeats 2000000 in
theorem exacts_any (w : World) : Calls Try.prog 10 #[] w fun e w' => e = .returned (.bool true) ∧ Ext w w' := by
  have N := fun (vs : List Value) (W : World) (H : RInst W vs exA) => asg_any exA vs W H exA_check rfl
  unfold AsgPost at N
  simp only [show exA.cost = [[1, 2], [3, 9]] from rfl, List.length_cons, List.length_nil, Nat.zero_add, Nat.reduceAdd] at N
  replace N := Lib.hid N
  go_enter Try.func10, Try.ntmps10
  go_wp2_with (fail)
  refine (N.out _ _ (exA_rinst w)).mono ?_
  rintro e w2 ⟨A, c, l, rfl, rd, pm, lc, mc, LE, x2⟩
  obtain rfl := exA_least pm LE
  have X2 := Lib.hid (Ext.tr (a := w) (by (repeat (first | assumption | exact Ext.rf _ | apply Ext.drew | apply Ext.drewN | apply Ext.alloc))) x2)
  obtain ⟨b, off, y0, rfl, _, c0, e0, _⟩ := rd.at (k := 0) (by simp [intsN])
  obtain ⟨b', off', y1, hA, _, c1, e1, _⟩ := rd.at (k := 1) (by simp [intsN])
  obtain ⟨rfl, rfl⟩ : b = b' ∧ off = off' := by simpa using hA
  obtain rfl : y0 = 1 := by have h := e0.out; simp [intsN] at h; exact h.symm
  obtain rfl : y1 = 0 := by have h := e1.out; simp [intsN] at h; exact h.symm
  rw [show costF [[1, 2], [3, 9]] (intsN [1, 0]) = 5 from by decide]
  rw [Nat.add_zero] at c0
  clear rd pm LE x2 e0 e1 hA N
  go_wp2_with (fail)
  go_ret
  exact ⟨rfl, X2.out⟩
end Go.Proofs.Ytleckhbmciiooaa
