/-
  A knapsack's kernel: what New leaves alone of other problems; what a problem in form says.
-/
import Derived.Test.YtpfdkocelmmllaaCheckE
import Derived.Test.YtpfdkocelmmllaaOrderD
namespace Go.Proofs.Ytpfdkocelmmllaa
open Go.RowKit Go.ChangeShapes Go.WideShapes Go.ChangeAt Go.Deep

theorem numP_zero {n : Int} (h : numP n = 0) : 0 ≤ n ∧ n ≤ 2147483647 := by
  unfold numP at h
  split at h
  · cases h
  · split at h
    · cases h
    · omega
theorem firstBad_zero : ∀ {l : List Int}, firstBad l = 0 → ∀ x ∈ l, 0 ≤ x ∧ x ≤ 2147483647
  | [], _, x, hx => by cases hx
  | y :: l, h, x, hx => by
    unfold firstBad at h
    split at h
    · rename_i h0
      rcases List.mem_cons.1 hx with rfl | hx
      · exact numP_zero h0
      · exact firstBad_zero h x hx
    · exact absurd h ‹_›
theorem inter_mem : ∀ {xs ys : List Int}, xs.length = ys.length → (∀ x ∈ xs, x ∈ inter xs ys) ∧ (∀ y ∈ ys, y ∈ inter xs ys)
  | [], [], _ => by simp
  | x :: xs, y :: ys, h => by
    obtain ⟨h1, h2⟩ := inter_mem (xs := xs) (ys := ys) (by simpa using h)
    simp only [inter]
    refine ⟨fun z hz => ?_, fun z hz => ?_⟩
    · rcases List.mem_cons.1 hz with rfl | hz
      · simp
      · simp [h1 z hz]
    · rcases List.mem_cons.1 hz with rfl | hz
      · simp
      · simp [h2 z hz]
  | [], _ :: _, h => by simp at h
  | _ :: _, [], h => by simp at h
structure KnapOk (i : InstP) : Prop where
  n1 : 1 ≤ i.n
  n2 : i.n ≤ 64
  w : (i.weight.length : Int) = i.n
  v : (i.value.length : Int) = i.n
  cap : 0 ≤ i.cap ∧ i.cap ≤ 2147483647
  sw : Small31 i.weight
  sv : Small31 i.value
  cost : i.cost = []
theorem knap_ok {i : InstP} (h : checkP i = 0) (hk : i.kind = 1) : KnapOk i := by
  unfold checkP at h
  by_cases hs : sizeP i.kind i.n = 0
  · rw [if_pos hs] at h
    by_cases hsh : shapeP i = true
    · rw [if_pos hsh, if_pos hk] at h
      unfold shapeP at hsh
      rw [if_pos hk] at hsh
      simp only [Bool.and_eq_true, beq_iff_eq] at hsh
      obtain ⟨⟨h1, h2⟩, h3⟩ := hsh
      unfold sizeP at hs
      rw [if_pos hk] at hs
      have hn : 1 ≤ i.n ∧ i.n ≤ 64 := by
        split at hs
        · cases hs
        · split at hs
          · cases hs
          · omega
      have hl : i.weight.length = i.value.length := by omega
      unfold itemsP at h
      rw [List.take_length, hl, List.take_length] at h
      have hb := firstBad_zero h
      obtain ⟨m1, m2⟩ := inter_mem hl
      exact ⟨hn.1, hn.2, h1, h2, hb _ (by simp), fun x hx => hb x (by simp [m1 x hx]), fun x hx => hb x (by simp [m2 x hx]), List.eq_nil_of_length_eq_zero (by omega)⟩
    · rw [if_neg hsh] at h
      cases h
  · rw [if_neg hs] at h
    exact absurd h hs
theorem numP_bd (n : Int) : 0 ≤ numP n ∧ numP n ≤ 14 := by unfold numP; split <;> (try split) <;> omega
set_option maxRecDepth 100000 in
set_option maxHeartbeats 2000000 in
theorem new_bad (i : InstP) (vs : List Value) (w : World) (H : RInst w vs i) (lw : i.weight.length ≤ 1000000000) (lv : i.value.length ≤ 1000000000) (hc : checkP i ≠ 0) :
    Calls Try.prog 15 #[.agg (List.toArray vs)] w fun e w' => e = .returned (.tuple #[.pointer none, .int .i64 (checkP i)]) ∧ Ext w w' := by
  have C := fun (W : World) (x : Ext w W) => check_any i vs W (H.ext x) lw lv
  obtain ⟨A, a, B, b, D, d, rfl, -, -, -⟩ := H
  have hc' : (checkP i != 0) = true := by simpa using hc
  replace C := Lib.hid C
  generalize checkP i = r at *
  clear hc
  go_enter Try.func15, Try.ntmps15
  go_wp2_with (fail)
  refine (C.out _ (by (repeat (first | assumption | exact Ext.rf _ | apply Ext.drew | apply Ext.drewN | apply Ext.alloc)))).mono ?_
  rintro e w2 ⟨rfl, x2⟩
  have X := Ext.tr (a := w) (by (repeat (first | assumption | exact Ext.rf _ | apply Ext.drew | apply Ext.drewN | apply Ext.alloc))) x2
  go_wp2
  go_ret2
  exact ⟨rfl, X⟩
set_option maxRecDepth 100000 in
set_option maxHeartbeats 2000000 in
theorem new_kind (i : InstP) (vs : List Value) (w : World) (H : RInst w vs i) (lw : i.weight.length ≤ 1000000000) (lv : i.value.length ≤ 1000000000) (hc : checkP i = 0) (hk : i.kind ≠ 1) :
    Calls Try.prog 15 #[.agg (List.toArray vs)] w fun e w' => e = .returned (.tuple #[.pointer none, .int .i64 14]) ∧ Ext w w' := by
  have C := fun (W : World) (x : Ext w W) => check_any i vs W (H.ext x) lw lv
  simp only [hc] at C
  obtain ⟨A, a, B, b, D, d, rfl, -, -, -⟩ := H
  have hk' : (i.kind != 1) = true := by simpa using hk
  replace C := Lib.hid C
  clear hc hk
  have B1 : Hid (Blk (w.alloc (.cells #[.int .i64 i.kind, .int .i64 i.n, .int .i64 i.cap, .slice A i.weight.length a, .slice B i.value.length b, .slice D i.cost.length d] 25)) w.heap.size 25 #[.int .i64 i.kind, .int .i64 i.n, .int .i64 i.cap, .slice A i.weight.length a, .slice B i.value.length b, .slice D i.cost.length d]) := .new rfl
  go_enter Try.func15, Try.ntmps15
  go_wp2_with (fail)
  refine (C.out _ (by (repeat (first | assumption | exact Ext.rf _ | apply Ext.drew | apply Ext.drewN | apply Ext.alloc)))).mono ?_
  rintro e w2 ⟨rfl, x2⟩
  have X := Ext.tr (a := w) (by (repeat (first | assumption | exact Ext.rf _ | apply Ext.drew | apply Ext.drewN | apply Ext.alloc))) x2
  have c0 : w2.cell? ⟨w.heap.size, 0, none⟩ = some (.int .i64 i.kind) := (B1.out.ext x2).cell 0
  go_wp2
  go_ret2
  exact ⟨rfl, X⟩
end Go.Proofs.Ytpfdkocelmmllaa
