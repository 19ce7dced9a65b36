/-
  The library's stable sort of records: what a slice of records is, by numbers that stand for them; exchanges of two ranges.
-/
import Derived.Test.YtpngflmngnjjoaaLogB
import Derived.Test.YtpngflmngnjjoaaSortP1
import Derived.Deep.QuietTactic
import Derived.BigQuiet
import Derived.Shelf.Abstract
namespace Go.Proofs.Ytpngflmngnjjoaa
open Go.RowKit Go.ChangeShapes Go.WideShapes Go.ChangeAt Go.Deep

/-- where the call's own blocks begin; what record each number stands for -/
structure RB where
  b : Nat
  kd : Nat → Int
  ad : Nat → Option Addr
  ln : Nat → Nat
  cp : Nat → Nat
abbrev RB.v (B : RB) (n : Nat) : Value := .agg #[.int .i64 (B.kd n), .slice (B.ad n) (B.ln n) (B.cp n)]
def flatR (B : RB) : List Nat → List Value
  | [] => []
  | n :: l => .int .i64 (B.kd n) :: .slice (B.ad n) (B.ln n) (B.cp n) :: flatR B l
theorem flatR_len (B : RB) : ∀ l, (flatR B l).length = l.length * 2
  | [] => rfl
  | n :: l => by simp [flatR, flatR_len B l]; omega
theorem flatR_get (B : RB) : ∀ {l : List Nat} {k n : Nat}, l[k]? = some n → (flatR B l)[k * 2]? = some (.int .i64 (B.kd n)) ∧ (flatR B l)[k * 2 + 1]? = some (.slice (B.ad n) (B.ln n) (B.cp n))
  | [], k, n, h => by simp at h
  | x :: l, 0, n, h => by simp at h; subst h; simp [flatR]
  | x :: l, k + 1, n, h => by
    have := flatR_get B (l := l) (k := k) (n := n) (by simpa using h)
    rw [show (k + 1) * 2 = k * 2 + 1 + 1 by omega]
    simpa [flatR] using this
theorem flatR_set (B : RB) : ∀ (l : List Nat) (k m : Nat), ((flatR B l).set (k * 2) (.int .i64 (B.kd m))).set (k * 2 + 1) (.slice (B.ad m) (B.ln m) (B.cp m)) = flatR B (l.set k m)
  | [], k, m => by simp [flatR]
  | x :: l, 0, m => by simp [flatR]
  | x :: l, k + 1, m => by
    have := flatR_set B l k m
    rw [show (k + 1) * 2 = k * 2 + 1 + 1 by omega]
    simpa [flatR] using this
/-- the slice at block g, its own, holds these records -/
def OwN (w : World) (base : RB) (g c : Nat) (l : List Nat) : Prop := OwV w base.b 43 2 (some ⟨g, 0, none⟩) l.length c (flatR base l)
def CellR (w : World) (base : RB) (g k n : Nat) : Prop := w.cell? ⟨g, k * 2, none⟩ = some (.int .i64 (base.kd n)) ∧ w.cell? ⟨g, k * 2 + 1, none⟩ = some (.slice (base.ad n) (base.ln n) (base.cp n))
def FrzR (w : World) (g k : Nat) : Prop := w.frozen? ⟨g, k * 2, none⟩ = false ∧ w.frozen? ⟨g, k * 2 + 1, none⟩ = false
abbrev setR (w : World) (base : RB) (g k m : Nat) : World := (w.setCell ⟨g, k * 2, none⟩ (.int .i64 (base.kd m))).setCell ⟨g, k * 2 + 1, none⟩ (.slice (base.ad m) (base.ln m) (base.cp m))
theorem OwN.cell {w : World} {base : RB} {g c : Nat} {l : List Nat} (h : OwN w base g c l) {k n : Nat} (hk : l[k]? = some n) :
    CellR w base g k n ∧ FrzR w g k ∧ Hid (∀ m : Nat, OwN (setR w base g k m) base g c (l.set k m)) := by
  have hl := (List.getElem?_eq_some_iff.1 hk).1
  obtain ⟨e1, e2⟩ := flatR_get base hk
  have l1 : k * 2 < (flatR base l).length := by rw [flatR_len]; omega
  have l2 : k * 2 + 1 < (flatR base l).length := by rw [flatR_len]; omega
  have hs := fun (u : Value) => h.set l1 u
  have hs2 := fun (u v : Value) => (hs u).2.2.2.set (j := k * 2 + 1) (by rw [List.length_set]; exact l2) v
  refine ⟨⟨(hs undef).1.trans e1, (h.set l2 undef).1.trans e2⟩, ⟨(hs undef).2.1, (h.set l2 undef).2.1⟩, fun m => ?_⟩
  have := (hs2 (.int .i64 (base.kd m)) (.slice (base.ad m) (base.ln m) (base.cp m))).2.2.2
  rw [flatR_set] at this
  unfold OwN
  rw [List.length_set]
  exact this
theorem OwN.ext {w w' : World} {base : RB} {g c : Nat} {l : List Nat} (h : OwN w base g c l) (x : Ext w w') : OwN w' base g c l := OwV.ext h x
theorem OwN.lt {w : World} {base : RB} {g c : Nat} {l : List Nat} (h : OwN w base g c l) : base.b ≤ g ∧ g < w.heap.size := OwV.lt h g rfl
theorem CellR.ext {w w' : World} {base : RB} {g k n : Nat} (h : CellR w base g k n) (x : Ext w w') (hg : g < w.heap.size) : CellR w' base g k n := ⟨keepEL x hg h.1, keepEL x hg h.2⟩
theorem FrzR.ext {w w' : World} {g k : Nat} (h : FrzR w g k) (x : Ext w w') (hg : g < w.heap.size) : FrzR w' g k := ⟨(x.cells.2 _ _ hg).trans h.1, (x.cells.2 _ _ hg).trans h.2⟩
/-- what a call that only exchanges leaves -/
def SortPost (base : RB) (g c : Nat) (l' : List Nat) (w : World) (e : Ending) (w' : World) : Prop := e = .returned (.tuple #[]) ∧ OwN w' base g c l' ∧ Mod (fun k => k = g) w w'
def ExCh (base : RB) (g c : Nat) (l l' : List Nat) (a b k : Nat) (w w' : World) : Prop := SwR l l' a b k ∧ OwN w' base g c l' ∧ Mod (fun k => k = g) w w'
def SwPost (base : RB) (g c : Nat) (l : List Nat) (a b n : Nat) (w : World) (e : Ending) (w' : World) : Prop := ∃ l', e = .returned (.tuple #[]) ∧ ExCh base g c l l' a b n w w'
theorem Mod.setR {S : Nat → Prop} {a b : World} (h : Mod S a b) {base : RB} {g k m : Nat} (hp : S g) : Mod S a (setR b base g k m) := (h.set (p := ⟨g, k * 2, none⟩) (.inl hp) _).set (p := ⟨g, k * 2 + 1, none⟩) (.inl hp) _
set_option maxRecDepth 100000 in
set_option maxHeartbeats 1000000 in
theorem swaprange_ex (base : RB) (g c : Nat) (fv : Value) (a b n N : Nat) (l : List Nat) (w : World) (h : OwN w base g c l) (hN : l.length = N) (hab : a + n ≤ b) (hb : b + n ≤ N) (hl : N ≤ 1000000000) :
    Calls Try.prog 26 #[.slice (some ⟨g, 0, none⟩) N c, .int .i64 a, .int .i64 b, .int .i64 n, fv] w (SwPost base g c l a b n w) := by
  replace hN := Lib.hid hN
  replace h := Lib.hid h
  go_enter Try.func26, Try.ntmps26
  go_wp2_with (fail)
  go_loopw [10] (fun i wr => ∃ (k : Nat) (l' : List Nat), i = .int .i64 k ∧ k ≤ n ∧ Hid (ExCh base g c l l' a b k w wr)) (fun i _ => n - (intOf i).toNat)
  case atStart => exact ⟨0, l, rfl, by omega, SwR.start _ _ _, h.out, Mod.rf _⟩
  case round =>
    obtain ⟨wo, rfl⟩ : ∃ wo : World, wo = wr := ⟨_, rfl⟩
    obtain ⟨k, l', rfl, hk, HH⟩ := hrel
    by_cases hlt : k < n
    · obtain ⟨HR, HO, HM⟩ := HH.out
      clear HH
      have hll : l'.length = N := HR.1.trans hN.out
      obtain ⟨i1, hi1⟩ : ∃ i1, Hid (i1 = a + k) := ⟨_, rfl⟩
      obtain ⟨i2, hi2⟩ : ∃ i2, Hid (i2 = b + k) := ⟨_, rfl⟩
      have h12 : i1 < i2 := by rw [hi1.out, hi2.out]; omega
      have h2N : i2 < N := by rw [hi2.out]; omega
      have hx : l'[i1]? = some (l'[i1]'(by omega)) := List.getElem?_eq_getElem _
      have hy : l'[i2]? = some (l'[i2]'(by omega)) := List.getElem?_eq_getElem _
      generalize l'[i1]'(by omega) = x at hx
      generalize l'[i2]'(by omega) = y at hy
      obtain ⟨⟨c1, c1'⟩, ⟨f1, f1'⟩, s1⟩ := HO.cell hx
      obtain ⟨⟨c2, c2'⟩, ⟨f2, f2'⟩, s2⟩ := HO.cell hy
      have t1 : OwN (setR (setR wo base g i1 y) base g i2 x) base g c ((l'.set i1 y).set i2 x) := ((s1.out y).cell (n := y) (by rw [List.getElem?_set_ne (by omega)]; exact hy)).2.2.out x
      have FIN : Hid (ExCh base g c l ((l'.set i1 y).set i2 x) a b (k + 1) w (setR (setR wo base g i1 y) base g i2 x).drew) := by
        refine ⟨?_, t1.ext ((Ext.rf _).drew), ((HM.setR rfl).setR rfl).drew⟩
        rw [hi1.out, hi2.out] at *
        exact HR.step hab (by rw [hN.out]; omega) hlt hx hy
      have e1 : (a : Int) + (k : Int) = (i1 : Int) := by rw [hi1.out]; omega
      have e2 : (b : Int) + (k : Int) = (i2 : Int) := by rw [hi2.out]; omega
      have w1 : IntKind.i64.wrap ((a : Int) + (k : Int)) = (i1 : Int) := by rw [e1]; exact IntWalk.i64_in _ (by omega)
      have w2 : IntKind.i64.wrap ((b : Int) + (k : Int)) = (i2 : Int) := by rw [e2]; exact IntWalk.i64_in _ (by omega)
      clear s1 s2 t1 HR HO HM hx hy hll
      go_wp2_with (fail)
      go_region
      all_goals go_wp2
      go_roundw
      case rel => exact ⟨k + 1, _, by go_num, by omega, FIN⟩
      case measure => simp [intOf]; omega
    · obtain rfl : k = n := by omega
      go_wp2
      go_end0
      exact ⟨_, rfl, HH.out⟩
theorem swaprange_any (base : RB) (g c : Nat) (fv : Value) (a b n N : Nat) (P A M B Q : List Nat) (w : World) (h : OwN w base g c (P ++ (A ++ (M ++ (B ++ Q))))) (hN : (P ++ (A ++ (M ++ (B ++ Q)))).length = N) (ha : P.length = a) (hA : A.length = n) (hB : B.length = n) (hb : a + n + M.length = b) (hl : N ≤ 1000000000) :
    Calls Try.prog 26 #[.slice (some ⟨g, 0, none⟩) N c, .int .i64 a, .int .i64 b, .int .i64 n, fv] w (SortPost base g c (P ++ (B ++ (M ++ (A ++ Q)))) w) := by
  refine (swaprange_ex base g c fv a b n N _ w h hN (by omega) (by simp only [List.length_append] at hN; omega) hl).mono ?_
  rintro e w' ⟨l', rfl, h1, h2, h3⟩
  obtain rfl := h1.done ha hA hB hb
  exact ⟨rfl, h2, h3⟩
/-- the rotation's state: what is still to be exchanged -/
def RotS (base : RB) (g c : Nat) (m i j : Nat) (goal : List Nat) (w w' : World) : Prop := ∃ P U V Q, P.length + i = m ∧ U.length = i ∧ V.length = j ∧ goal = P ++ (V ++ (U ++ Q)) ∧ OwN w' base g c (P ++ (U ++ (V ++ Q))) ∧ Mod (fun k => k = g) w w'
set_option maxRecDepth 100000 in
set_option maxHeartbeats 1000000 in
theorem rotate_any (base : RB) (g c : Nat) (fv : Value) (a m b N : Nat) (P U V Q : List Nat) (w : World) (h : OwN w base g c (P ++ (U ++ (V ++ Q)))) (hN : (P ++ (U ++ (V ++ Q))).length = N) (ha : P.length = a) (hU : a + U.length = m) (hV : m + V.length = b) (h1 : 0 < U.length) (h2 : 0 < V.length) (hl : N ≤ 1000000000) :
    Calls Try.prog 25 #[.slice (some ⟨g, 0, none⟩) N c, .int .i64 a, .int .i64 m, .int .i64 b, fv] w (SortPost base g c (P ++ (V ++ (U ++ Q))) w) := by
  have HS : Hid (RotS base g c m U.length V.length (P ++ (V ++ (U ++ Q))) w w) := ⟨P, U, V, Q, by omega, rfl, rfl, rfl, h, Mod.rf _⟩
  have hG : Hid ((P ++ (V ++ (U ++ Q))).length = N) := by
    have : (P ++ (V ++ (U ++ Q))).length = N := by simp only [List.length_append] at hN ⊢; omega
    exact this
  have ei : (m : Int) - (a : Int) = (U.length : Int) := by omega
  have ej : (b : Int) - (m : Int) = (V.length : Int) := by omega
  have hmN : m + V.length ≤ N := by simp only [List.length_append] at hN; omega
  generalize U.length = u0 at *
  generalize V.length = v0 at *
  generalize P ++ (V ++ (U ++ Q)) = goal at *
  have ei' : IntKind.i64.wrap ((m : Int) - (a : Int)) = (u0 : Int) := by rw [ei]; exact IntWalk.i64_in _ (by omega)
  have ej' : IntKind.i64.wrap ((b : Int) - (m : Int)) = (v0 : Int) := by rw [ej]; exact IntWalk.i64_in _ (by omega)
  clear h hN ha hU
  go_enter Try.func25, Try.ntmps25
  go_wp2_with (fail)
  go_loopw [10, 11] (fun iv jv wr => ∃ (i j : Nat), iv = .int .i64 i ∧ jv = .int .i64 j ∧ 0 < i ∧ 0 < j ∧ i ≤ m ∧ m + j ≤ N ∧ Hid (RotS base g c m i j goal w wr)) (fun iv jv _ => (intOf iv).toNat + (intOf jv).toNat)
  case atStart => exact ⟨u0, v0, rfl, rfl, by omega, by omega, by omega, by omega, HS⟩
  case round =>
    obtain ⟨wo, rfl⟩ : ∃ wo : World, wo = wr := ⟨_, rfl⟩
    obtain ⟨i, j, rfl, rfl, hi, hj, him, hjN, HH⟩ := hrel
    clear HS ei ej ei' ej'
    obtain ⟨P', U', V', Q', q1, q2, q3, q4, hO, hM⟩ := HH.out
    have gl : (P' ++ (U' ++ (V' ++ Q'))).length = N := by
      have := hG.out
      rw [q4] at this
      simp only [List.length_append] at this ⊢
      omega
    clear HH
    rcases Nat.lt_trichotomy j i with hc | hc | hc
    · -- i > j
      obtain ⟨U1, U2, rfl, hu⟩ := split_at U' j (by omega)
      have hu2 : U2.length = i - j := by simp only [List.length_append] at q2; omega
      rw [List.append_assoc] at hO gl
      have CC := Lib.hid (swaprange_any base g c fv (m - i) m j N P' U1 U2 V' Q' wo hO gl (by omega) hu q3 (by omega) hl)
      have FIN : ∀ w', OwN w' base g c (P' ++ (V' ++ (U2 ++ (U1 ++ Q')))) → Mod (fun k => k = g) wo w' → RotS base g c m (i - j) j goal w w' := fun w' h1 h2 => ⟨P' ++ V', U2, U1, Q', by rw [List.length_append]; omega, hu2, hu, by rw [q4]; simp only [List.append_assoc], by simpa only [List.append_assoc] using h1, hM.tr h2⟩
      replace FIN := Lib.hid FIN
      have e1 : (m : Int) - (i : Int) = ((m - i : Nat) : Int) := by omega
      have e2 : (i : Int) - (j : Int) = ((i - j : Nat) : Int) := by omega
      have d1 : ((i : Int) != (j : Int)) = true := by rw [bne_iff_ne]; omega
      clear hO gl q1 q2 q3 q4 hu hu2 hM
      go_wp2_with (fail)
      refine CC.out.mono ?_
      rintro e w' ⟨rfl, h1, h2⟩
      have FIN2 := Lib.hid (FIN.out w' h1 h2)
      clear h1 h2
      go_wp2_with (fail)
      go_roundw
      case rel => exact ⟨i - j, j, by first | rfl | go_num | (congr 1), rfl, by omega, hj, by omega, hjN, FIN2⟩
      case measure => simp [intOf]; omega
    · -- i = j
      subst hc
      have CC := Lib.hid (swaprange_any base g c fv (m - j) m j N P' U' [] V' Q' wo (by simpa using hO) (by simpa using gl) (by omega) q2 q3 (by simp; omega) hl)
      have e1 : (m : Int) - (j : Int) = ((m - j : Nat) : Int) := by omega
      have d1 : ((j : Int) != (j : Int)) = false := by simp
      have hg : Hid (goal = P' ++ (V' ++ ([] ++ (U' ++ Q')))) := by rw [q4]; rfl
      clear hO gl q1 q2 q3 q4
      replace hM := Lib.hid hM
      go_wp2_with (fail)
      refine CC.out.mono ?_
      rintro e w' ⟨rfl, h1, h2⟩
      rw [← hg.out] at h1
      have FIN2 : Hid (SortPost base g c goal w (.returned (.tuple #[])) w') := ⟨rfl, h1, hM.out.tr h2⟩
      clear h1 h2
      go_wp2_with (fail)
      go_end0
      exact FIN2.out
    · -- i < j
      obtain ⟨V1, V2, rfl, hv⟩ := split_last V' i (by omega)
      have hv1 : V1.length = j - i := by simp only [List.length_append] at q3; omega
      rw [List.append_assoc] at hO gl
      have CC := Lib.hid (swaprange_any base g c fv (m - i) (m + j - i) i N P' U' V1 V2 Q' wo hO gl (by omega) q2 hv (by omega) hl)
      have FIN : ∀ w', OwN w' base g c (P' ++ (V2 ++ (V1 ++ (U' ++ Q')))) → Mod (fun k => k = g) wo w' → RotS base g c m i (j - i) goal w w' := fun w' h1 h2 => ⟨P', V2, V1, U' ++ Q', q1, hv, hv1, by rw [q4]; simp only [List.append_assoc], h1, hM.tr h2⟩
      replace FIN := Lib.hid FIN
      have e1 : (m : Int) - (i : Int) = ((m - i : Nat) : Int) := by omega
      have e2 : (j : Int) - (i : Int) = ((j - i : Nat) : Int) := by omega
      have e3 : (m : Int) + (j : Int) - (i : Int) = ((m + j - i : Nat) : Int) := by omega
      have d1 : ((i : Int) != (j : Int)) = true := by rw [bne_iff_ne]; omega
      clear hO gl q1 q2 q3 q4 hv hv1 hM
      go_wp2_with (fail)
      refine CC.out.mono ?_
      rintro e w' ⟨rfl, h1, h2⟩
      have FIN2 := Lib.hid (FIN.out w' h1 h2)
      clear h1 h2
      go_wp2_with (fail)
      go_roundw
      case rel => exact ⟨i, j - i, rfl, by first | rfl | go_num | (congr 1), hi, by omega, him, by omega, FIN2⟩
      case measure => simp [intOf]; omega
end Go.Proofs.Ytpngflmngnjjoaa
