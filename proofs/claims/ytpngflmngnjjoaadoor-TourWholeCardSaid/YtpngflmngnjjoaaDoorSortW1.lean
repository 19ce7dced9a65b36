/-
  The library's stable sort of ints: exchanges of two ranges, a rotation.
  The library's stable sort of ints: insertion.
  The library's stable sort of ints: a merge in place where one of the two is a single one.
  The library's stable sort of ints: a merge in place where the second of the two is a single one.
-/
import Derived.Test.YtpngflmngnjjoaaDoorSortP1
import Derived.Test.YtpngflmngnjjoaaDoorSetList
import Derived.Deep.QuietTactic
import Derived.BigQuiet
namespace Go.Proofs.YtpngflmngnjjoaaDoor
open Go.RowKit Go.ChangeShapes Go.WideShapes Go.ChangeAt Go.Deep

/-- the slice at block g, its own, holds these numbers -/
def OwN (w : World) (base g c : Nat) (l : List Nat) : Prop := OwI w base (some ⟨g, 0, none⟩) c (intsN l)
theorem intsN_get {l : List Nat} {k n : Nat} (h : l[k]? = some n) : (intsN l)[k]? = some (n : Int) := by simp [intsN, h]
theorem intsN_set (l : List Nat) (k m : Nat) : (intsN l).set k (m : Int) = intsN (l.set k m) := by simp [intsN, List.map_set]
theorem OwN.cell {w : World} {base g c : Nat} {l : List Nat} (h : OwN w base g c l) {k n : Nat} (hk : l[k]? = some n) :
    w.cell? ⟨g, k, none⟩ = some (.int .i64 n) ∧ w.frozen? ⟨g, k, none⟩ = false ∧ Hid (∀ m : Nat, OwN (w.setCell ⟨g, k, none⟩ (.int .i64 m)) base g c (l.set k m)) := by
  have hl := (List.getElem?_eq_some_iff.1 hk).1
  obtain ⟨x, h1, h2, _, h3, h4⟩ := OwI.cell h (k := k) (by rw [intsN_len]; exact hl)
  have e := h3.out
  rw [intsN_get hk] at e
  obtain rfl := Option.some.inj e
  exact ⟨h1, h2, fun m => by have := h4.out (m : Int); rw [intsN_set] at this; exact this⟩
theorem OwN.ext {w w' : World} {base g c : Nat} {l : List Nat} (h : OwN w base g c l) (x : Ext w w') : OwN w' base g c l := OwI.ext h x
/-- what a call that only exchanges leaves -/
def SortPost (base g c : Nat) (l' : List Nat) (w : World) (e : Ending) (w' : World) : Prop := e = .returned (.tuple #[]) ∧ OwN w' base g c l' ∧ Mod (fun k => k = g) w w'
def ExCh (base g c : Nat) (l l' : List Nat) (a b k : Nat) (w w' : World) : Prop := SwR l l' a b k ∧ OwN w' base g c l' ∧ Mod (fun k => k = g) w w'
def SwPost (base g c : Nat) (l : List Nat) (a b n : Nat) (w : World) (e : Ending) (w' : World) : Prop := ∃ l', e = .returned (.tuple #[]) ∧ ExCh base g c l l' a b n w w'

set_option maxRecDepth 100000 in
set_option maxHeartbeats 1000000 in
theorem swaprange_ex (base g c : Nat) (fv : Value) (a b n N : Nat) (l : List Nat) (w : World) (h : OwN w base g c l) (hN : l.length = N) (hab : a + n ≤ b) (hb : b + n ≤ N) (hl : N ≤ 1000000000) :
    Calls Tryd.prog 94 #[.slice (some ⟨g, 0, none⟩) N c, .int .i64 a, .int .i64 b, .int .i64 n, fv] w (SwPost base g c l a b n w) := by
  replace hN := Lib.hid hN
  replace h := Lib.hid h
  go_enter Tryd.func94, Tryd.ntmps94
  go_wp2_with (fail)
  go_loopw [10] (fun i wr => ∃ (k : Nat) (l' : List Nat), i = .int .i64 k ∧ k ≤ n ∧ Hid (ExCh base g c l l' a b k w wr)) (fun i _ => n - (intOf i).toNat)
  case atStart => exact ⟨0, l, rfl, by omega, SwR.start _ _ _, h.out, Mod.rf _⟩
  case round =>
    obtain ⟨wo, rfl⟩ : ∃ wo : World, wo = wr := ⟨_, rfl⟩
    obtain ⟨k, l', rfl, hk, HH⟩ := hrel
    by_cases hlt : k < n
    · obtain ⟨HR, HO, HM⟩ := HH.out
      clear HH
      have hll : l'.length = N := HR.1.trans hN.out
      obtain ⟨i1, hi1⟩ : ∃ i1, Hid (i1 = a + k) := ⟨_, rfl⟩
      obtain ⟨i2, hi2⟩ : ∃ i2, Hid (i2 = b + k) := ⟨_, rfl⟩
      have h12 : i1 < i2 := by rw [hi1.out, hi2.out]; omega
      have h2N : i2 < N := by rw [hi2.out]; omega
      have hx : l'[i1]? = some (l'[i1]'(by omega)) := List.getElem?_eq_getElem _
      have hy : l'[i2]? = some (l'[i2]'(by omega)) := List.getElem?_eq_getElem _
      generalize l'[i1]'(by omega) = x at hx
      generalize l'[i2]'(by omega) = y at hy
      obtain ⟨c1, f1, s1⟩ := HO.cell hx
      obtain ⟨c2, f2, s2⟩ := HO.cell hy
      have t1 : OwN ((wo.setCell ⟨g, i1, none⟩ (.int .i64 y)).setCell ⟨g, i2, none⟩ (.int .i64 x)) base g c ((l'.set i1 y).set i2 x) := ((s1.out y).cell (n := y) (by rw [List.getElem?_set_ne (by omega)]; exact hy)).2.2.out x
      have FIN : Hid (ExCh base g c l ((l'.set i1 y).set i2 x) a b (k + 1) w ((wo.setCell ⟨g, i1, none⟩ (.int .i64 y)).setCell ⟨g, i2, none⟩ (.int .i64 x)).drew) := by
        refine ⟨?_, t1.ext ((Ext.rf _).drew), ((HM.set (p := ⟨g, i1, none⟩) (.inl rfl) _).set (p := ⟨g, i2, none⟩) (.inl rfl) _).drew⟩
        rw [hi1.out, hi2.out] at *
        exact HR.step hab (by rw [hN.out]; omega) hlt hx hy
      have e1 : (a : Int) + (k : Int) = (i1 : Int) := by rw [hi1.out]; omega
      have e2 : (b : Int) + (k : Int) = (i2 : Int) := by rw [hi2.out]; omega
      have w1 : IntKind.i64.wrap ((a : Int) + (k : Int)) = (i1 : Int) := by rw [e1]; exact IntWalk.i64_in _ (by omega)
      have w2 : IntKind.i64.wrap ((b : Int) + (k : Int)) = (i2 : Int) := by rw [e2]; exact IntWalk.i64_in _ (by omega)
      clear s1 s2 t1 HR HO HM hx hy hll
      go_wp2_with (go_region)
      go_roundw
      case rel => exact ⟨k + 1, _, by go_num, by omega, FIN⟩
      case measure => simp [intOf]; omega
    · obtain rfl : k = n := by omega
      go_wp2
      go_end0
      exact ⟨_, rfl, HH.out⟩
theorem swaprange_any (base g c : Nat) (fv : Value) (a b n N : Nat) (P A M B Q : List Nat) (w : World) (h : OwN w base g c (P ++ (A ++ (M ++ (B ++ Q))))) (hN : (P ++ (A ++ (M ++ (B ++ Q)))).length = N) (ha : P.length = a) (hA : A.length = n) (hB : B.length = n) (hb : a + n + M.length = b) (hl : N ≤ 1000000000) :
    Calls Tryd.prog 94 #[.slice (some ⟨g, 0, none⟩) N c, .int .i64 a, .int .i64 b, .int .i64 n, fv] w (SortPost base g c (P ++ (B ++ (M ++ (A ++ Q)))) w) := by
  refine (swaprange_ex base g c fv a b n N _ w h hN (by omega) (by simp only [List.length_append] at hN; omega) hl).mono ?_
  rintro e w' ⟨l', rfl, h1, h2, h3⟩
  obtain rfl := h1.done ha hA hB hb
  exact ⟨rfl, h2, h3⟩
/-- the rotation's state: what is still to be exchanged -/
def RotS (base g c : Nat) (m i j : Nat) (goal : List Nat) (w w' : World) : Prop := ∃ P U V Q, P.length + i = m ∧ U.length = i ∧ V.length = j ∧ goal = P ++ (V ++ (U ++ Q)) ∧ OwN w' base g c (P ++ (U ++ (V ++ Q))) ∧ Mod (fun k => k = g) w w'
set_option maxRecDepth 100000 in
set_option maxHeartbeats 1000000 in
theorem rotate_any (base g c : Nat) (fv : Value) (a m b N : Nat) (P U V Q : List Nat) (w : World) (h : OwN w base g c (P ++ (U ++ (V ++ Q)))) (hN : (P ++ (U ++ (V ++ Q))).length = N) (ha : P.length = a) (hU : a + U.length = m) (hV : m + V.length = b) (h1 : 0 < U.length) (h2 : 0 < V.length) (hl : N ≤ 1000000000) :
    Calls Tryd.prog 93 #[.slice (some ⟨g, 0, none⟩) N c, .int .i64 a, .int .i64 m, .int .i64 b, fv] w (SortPost base g c (P ++ (V ++ (U ++ Q))) w) := by
  have HS : Hid (RotS base g c m U.length V.length (P ++ (V ++ (U ++ Q))) w w) := ⟨P, U, V, Q, by omega, rfl, rfl, rfl, h, Mod.rf _⟩
  have hG : Hid ((P ++ (V ++ (U ++ Q))).length = N) := by
    have : (P ++ (V ++ (U ++ Q))).length = N := by simp only [List.length_append] at hN ⊢; omega
    exact this
  have ei : (m : Int) - (a : Int) = (U.length : Int) := by omega
  have ej : (b : Int) - (m : Int) = (V.length : Int) := by omega
  have hmN : m + V.length ≤ N := by simp only [List.length_append] at hN; omega
  generalize U.length = u0 at *
  generalize V.length = v0 at *
  generalize P ++ (V ++ (U ++ Q)) = goal at *
  have ei' : IntKind.i64.wrap ((m : Int) - (a : Int)) = (u0 : Int) := by rw [ei]; exact IntWalk.i64_in _ (by omega)
  have ej' : IntKind.i64.wrap ((b : Int) - (m : Int)) = (v0 : Int) := by rw [ej]; exact IntWalk.i64_in _ (by omega)
  clear h hN ha hU
  go_enter Tryd.func93, Tryd.ntmps93
  go_wp2_with (fail)
  go_loopw [10, 11] (fun iv jv wr => ∃ (i j : Nat), iv = .int .i64 i ∧ jv = .int .i64 j ∧ 0 < i ∧ 0 < j ∧ i ≤ m ∧ m + j ≤ N ∧ Hid (RotS base g c m i j goal w wr)) (fun iv jv _ => (intOf iv).toNat + (intOf jv).toNat)
  case atStart => exact ⟨u0, v0, rfl, rfl, by omega, by omega, by omega, by omega, HS⟩
  case round =>
    obtain ⟨wo, rfl⟩ : ∃ wo : World, wo = wr := ⟨_, rfl⟩
    obtain ⟨i, j, rfl, rfl, hi, hj, him, hjN, HH⟩ := hrel
    clear HS ei ej ei' ej'
    obtain ⟨P', U', V', Q', q1, q2, q3, q4, hO, hM⟩ := HH.out
    have gl : (P' ++ (U' ++ (V' ++ Q'))).length = N := by
      have := hG.out
      rw [q4] at this
      simp only [List.length_append] at this ⊢
      omega
    clear HH
    rcases Nat.lt_trichotomy j i with hc | hc | hc
    · -- i > j
      obtain ⟨U1, U2, rfl, hu⟩ := split_at U' j (by omega)
      have hu2 : U2.length = i - j := by simp only [List.length_append] at q2; omega
      rw [List.append_assoc] at hO gl
      have CC := Lib.hid (swaprange_any base g c fv (m - i) m j N P' U1 U2 V' Q' wo hO gl (by omega) hu q3 (by omega) hl)
      have FIN : ∀ w', OwN w' base g c (P' ++ (V' ++ (U2 ++ (U1 ++ Q')))) → Mod (fun k => k = g) wo w' → RotS base g c m (i - j) j goal w w' := fun w' h1 h2 => ⟨P' ++ V', U2, U1, Q', by rw [List.length_append]; omega, hu2, hu, by rw [q4]; simp only [List.append_assoc], by simpa only [List.append_assoc] using h1, hM.tr h2⟩
      replace FIN := Lib.hid FIN
      have e1 : (m : Int) - (i : Int) = ((m - i : Nat) : Int) := by omega
      have e2 : (i : Int) - (j : Int) = ((i - j : Nat) : Int) := by omega
      have d1 : ((i : Int) != (j : Int)) = true := by rw [bne_iff_ne]; omega
      clear hO gl q1 q2 q3 q4 hu hu2 hM
      go_wp2_with (fail)
      refine CC.out.mono ?_
      rintro e w' ⟨rfl, h1, h2⟩
      have FIN2 := Lib.hid (FIN.out w' h1 h2)
      clear h1 h2
      go_wp2_with (fail)
      go_roundw
      case rel => exact ⟨i - j, j, by first | rfl | go_num | (congr 1), rfl, by omega, hj, by omega, hjN, FIN2⟩
      case measure => simp [intOf]; omega
    · -- i = j
      subst hc
      have CC := Lib.hid (swaprange_any base g c fv (m - j) m j N P' U' [] V' Q' wo (by simpa using hO) (by simpa using gl) (by omega) q2 q3 (by simp; omega) hl)
      have e1 : (m : Int) - (j : Int) = ((m - j : Nat) : Int) := by omega
      have d1 : ((j : Int) != (j : Int)) = false := by simp
      have hg : Hid (goal = P' ++ (V' ++ ([] ++ (U' ++ Q')))) := by rw [q4]; rfl
      clear hO gl q1 q2 q3 q4
      replace hM := Lib.hid hM
      go_wp2_with (fail)
      refine CC.out.mono ?_
      rintro e w' ⟨rfl, h1, h2⟩
      rw [← hg.out] at h1
      have FIN2 : Hid (SortPost base g c goal w (.returned (.tuple #[])) w') := ⟨rfl, h1, hM.out.tr h2⟩
      clear h1 h2
      go_wp2_with (fail)
      go_end0
      exact FIN2.out
    · -- i < j
      obtain ⟨V1, V2, rfl, hv⟩ := split_last V' i (by omega)
      have hv1 : V1.length = j - i := by simp only [List.length_append] at q3; omega
      rw [List.append_assoc] at hO gl
      have CC := Lib.hid (swaprange_any base g c fv (m - i) (m + j - i) i N P' U' V1 V2 Q' wo hO gl (by omega) q2 hv (by omega) hl)
      have FIN : ∀ w', OwN w' base g c (P' ++ (V2 ++ (V1 ++ (U' ++ Q')))) → Mod (fun k => k = g) wo w' → RotS base g c m i (j - i) goal w w' := fun w' h1 h2 => ⟨P', V2, V1, U' ++ Q', q1, hv, hv1, by rw [q4]; simp only [List.append_assoc], h1, hM.tr h2⟩
      replace FIN := Lib.hid FIN
      have e1 : (m : Int) - (i : Int) = ((m - i : Nat) : Int) := by omega
      have e2 : (j : Int) - (i : Int) = ((j - i : Nat) : Int) := by omega
      have e3 : (m : Int) + (j : Int) - (i : Int) = ((m + j - i : Nat) : Int) := by omega
      have d1 : ((i : Int) != (j : Int)) = true := by rw [bne_iff_ne]; omega
      clear hO gl q1 q2 q3 q4 hv hv1 hM
      go_wp2_with (fail)
      refine CC.out.mono ?_
      rintro e w' ⟨rfl, h1, h2⟩
      have FIN2 := Lib.hid (FIN.out w' h1 h2)
      clear h1 h2
      go_wp2_with (fail)
      go_roundw
      case rel => exact ⟨i, j - i, rfl, by first | rfl | go_num | (congr 1), hi, by omega, him, by omega, FIN2⟩
      case measure => simp [intOf]; omega
end Go.Proofs.YtpngflmngnjjoaaDoor
namespace Go.Proofs.YtpngflmngnjjoaaDoor
open Go.RowKit Go.ChangeShapes Go.WideShapes Go.ChangeAt Go.Deep

/-- what is asked of a comparison: it only reads, whatever the sorted block holds -/
def CmpOk (f : Nat) (lb : Array Value) (cf : Nat → Nat → Int) (nn g : Nat) (w : World) : Prop :=
  ∀ (W : World) (x y : Nat), x < nn → y < nn → Mod (fun k => k = g) w W → Calls Tryd.prog f (#[.int .i64 x, .int .i64 y] ++ lb) W fun e W' => e = .returned (.int .i64 (cf x y)) ∧ ∃ q, W' = W.drewN q
theorem CmpOk.mod {f : Nat} {lb : Array Value} {cf : Nat → Nat → Int} {nn g : Nat} {w w' : World} (h : CmpOk f lb cf nn g w) (hm : Mod (fun k => k = g) w w') : CmpOk f lb cf nn g w' := fun W x y hx hy hW => h W x y hx hy (hm.tr hW)
def ltC (cf : Nat → Nat → Int) (x y : Nat) : Bool := decide (cf x y < 0)
/-- sorted between what stands before and behind -/
def SortedPost (base g c : Nat) (lt : Nat → Nat → Bool) (P S Q : List Nat) (w : World) (e : Ending) (w' : World) : Prop := ∃ M, Is lt S M ∧ e = .returned (.tuple #[]) ∧ OwN w' base g c (P ++ (M ++ Q)) ∧ Mod (fun k => k = g) w w'
/-- the outer loop: so many are sorted -/
def InsS (base g c : Nat) (lt : Nat → Nat → Bool) (P S Q : List Nat) (k : Nat) (w w' : World) : Prop := ∃ M, Is lt (S.take k) M ∧ OwN w' base g c (P ++ (M ++ (S.drop k ++ Q))) ∧ Mod (fun k => k = g) w w'
/-- the inner loop: x has come down past B2 -/
def SinkS (base g c : Nat) (lt : Nat → Nat → Bool) (P M : List Nat) (x : Nat) (T : List Nat) (p : Nat) (w w' : World) : Prop := ∃ B1 B2, M = B1 ++ B2 ∧ B1.length = p ∧ (∀ y ∈ B2, lt x y = true) ∧ OwN w' base g c (P ++ (B1 ++ (x :: (B2 ++ T)))) ∧ Mod (fun k => k = g) w w'
/-- the two that the inner loop looks at -/
theorem SinkS.two {base g c : Nat} {lt : Nat → Nat → Bool} {P M : List Nat} {x : Nat} {T : List Nat} {p a : Nat} {w w' : World} (h : SinkS base g c lt P M x T (p + 1) w w') (ha : P.length = a) :
    ∃ y, y ∈ M ∧ w'.cell? ⟨g, a + p, none⟩ = some (.int .i64 y) ∧ w'.frozen? ⟨g, a + p, none⟩ = false ∧ w'.cell? ⟨g, a + p + 1, none⟩ = some (.int .i64 x) ∧ w'.frozen? ⟨g, a + p + 1, none⟩ = false ∧
      Hid (lt x y = true → ∀ w2, Ext w' w2 → SinkS base g c lt P M x T p w ((w2.setCell ⟨g, a + p + 1, none⟩ (.int .i64 y)).setCell ⟨g, a + p, none⟩ (.int .i64 x))) ∧ Hid (Weak lt → lt x y = false → (∀ z ∈ M, z < x) → Srt lt M → ∀ w2, Ext w' w2 → ∃ M', M'.Perm (M ++ [x]) ∧ Srt lt M' ∧ OwN w2 base g c (P ++ (M' ++ T))) := by
  obtain ⟨B1, B2, rfl, hp, hB, hO, hM⟩ := h
  obtain ⟨B, B', rfl, hb⟩ := split_last B1 1 (by omega)
  obtain ⟨y, rfl⟩ : ∃ y, B' = [y] := by
    match B', hb with
    | [y], _ => exact ⟨y, rfl⟩
  have hBp : B.length = p := by simp only [List.length_append] at hp; simp at hp; exact hp
  have e : P ++ (B ++ [y] ++ (x :: (B2 ++ T))) = (P ++ B) ++ (y :: (x :: (B2 ++ T))) := by simp
  rw [e] at hO
  have hl : (P ++ B).length = a + p := by rw [List.length_append]; omega
  obtain ⟨g1, g2⟩ := at_pair (P ++ B) (B2 ++ T) y x
  obtain ⟨c1, f1, _⟩ := hO.cell g1
  obtain ⟨c2, f2, _⟩ := hO.cell g2
  have t : ∀ w2, Ext w' w2 → OwN ((w2.setCell ⟨g, (P ++ B).length + 1, none⟩ (.int .i64 y)).setCell ⟨g, (P ++ B).length, none⟩ (.int .i64 x)) base g c ((P ++ B) ++ (x :: (y :: (B2 ++ T)))) := fun w2 x2 => by
    have := ((((hO.ext x2).cell g2).2.2.out y).cell (k := (P ++ B).length) (n := y) (by rw [List.getElem?_set_ne (by omega)]; exact g1)).2.2.out x
    rwa [set_pair] at this
  rw [hl] at c1 f1 c2 f2 t
  refine ⟨y, by simp, c1, f1, c2, f2, fun hlt w2 x2 => ⟨B, y :: B2, by simp, hBp, ?_, by simpa using t w2 x2, ((hM.ext x2).set (p := ⟨g, a + p + 1, none⟩) (.inl rfl) _).set (p := ⟨g, a + p, none⟩) (.inl rfl) _⟩, fun hw hlt hz hs w2 x2 => ?_⟩
  · intro z hz
    rcases List.mem_cons.1 hz with rfl | hz
    · exact hlt
    · exact hB z hz
  · refine ⟨B ++ [y] ++ (x :: B2), ?_, ?_, by simpa using hO.ext x2⟩
    · simp only [List.append_assoc]
      refine List.Perm.append_left B (List.Perm.append_left [y] ?_)
      exact (List.perm_append_comm (l₁ := [x]) (l₂ := B2))
    · refine sunk_is hw hs ?_ hB ?_
      · intro z h1 z' h2
        obtain rfl := List.mem_singleton.1 h2
        exact hz z h1
      · intro z h
        simp at h
        subst h
        exact hlt
theorem SinkS.bottom {base g c : Nat} {lt : Nat → Nat → Bool} {P M : List Nat} {x : Nat} {T : List Nat} {w w' : World} (h : SinkS base g c lt P M x T 0 w w') (hw : Weak lt) (hz : ∀ z ∈ M, z < x) (hs : Srt lt M) : ∀ w2, Ext w' w2 → ∃ M', M'.Perm (M ++ [x]) ∧ Srt lt M' ∧ OwN w2 base g c (P ++ (M' ++ T)) := by
  obtain ⟨B1, B2, rfl, hp, hB, hO, _⟩ := h
  intro w2 x2
  obtain rfl := List.eq_nil_of_length_eq_zero hp
  refine ⟨x :: B2, List.perm_append_comm (l₁ := [x]) (l₂ := B2), ?_, by simpa using hO.ext x2⟩
  refine sunk_is hw (A := []) hs ?_ hB (by simp)
  intro z h1 z' h2
  obtain rfl := List.mem_singleton.1 h2
  exact hz z h1
theorem SinkS.ext {base g c : Nat} {lt : Nat → Nat → Bool} {P M : List Nat} {x : Nat} {T : List Nat} {p : Nat} {w w' w2 : World} (h : SinkS base g c lt P M x T p w w') (x2 : Ext w' w2) : SinkS base g c lt P M x T p w w2 := by
  obtain ⟨B1, B2, h1, h2, h3, h4, h5⟩ := h
  exact ⟨B1, B2, h1, h2, h3, h4.ext x2, h5.ext x2⟩
theorem SinkS.mod {base g c : Nat} {lt : Nat → Nat → Bool} {P M : List Nat} {x : Nat} {T : List Nat} {p : Nat} {w w' : World} (h : SinkS base g c lt P M x T p w w') : Mod (fun k => k = g) w w' := by
  obtain ⟨B1, B2, h1, h2, h3, h4, h5⟩ := h
  exact h5
theorem InsS.next {base g c : Nat} {lt : Nat → Nat → Bool} {P S Q : List Nat} {k : Nat} {w w' : World} (h : InsS base g c lt P S Q k w w') (hk : k < S.length) (hr : S.Pairwise (· < ·)) :
    ∃ M x, x ∈ S ∧ (∀ z ∈ M, z ∈ S) ∧ M.length = k ∧ (∀ z ∈ M, z < x) ∧ Srt lt M ∧ SinkS base g c lt P M x (S.drop (k + 1) ++ Q) k w w' ∧
      Hid (∀ w2, Mod (fun k => k = g) w w2 → (∃ M', M'.Perm (M ++ [x]) ∧ Srt lt M' ∧ OwN w2 base g c (P ++ (M' ++ (S.drop (k + 1) ++ Q)))) → InsS base g c lt P S Q (k + 1) w w2) := by
  obtain ⟨M, ⟨hp, hs⟩, hO, hM⟩ := h
  have hx : S[k]? = some S[k] := List.getElem?_eq_getElem hk
  have hd : S.drop k = S[k] :: S.drop (k + 1) := List.drop_eq_getElem_cons hk
  have hms : ∀ z ∈ M, z ∈ S.take k := fun z hz => hp.mem_iff.1 hz
  refine ⟨M, S[k], List.getElem_mem hk, fun z hz => List.mem_of_mem_take (hms z hz), by rw [hp.length_eq, List.length_take]; omega, ?_, hs, ⟨M, [], by simp, by rw [hp.length_eq, List.length_take]; omega, by simp, by rw [hd] at hO; exact hO, hM⟩, ?_⟩
  · intro z hz
    obtain ⟨i, hi, rfl⟩ := List.mem_iff_getElem.1 (hms z hz)
    rw [List.getElem_take]
    rw [List.length_take] at hi
    exact List.pairwise_iff_getElem.1 hr i k (by omega) hk (by omega)
  · rintro w2 hm2 ⟨M', hp', hs', hO'⟩
    refine ⟨M', ⟨hp'.trans ?_, hs'⟩, hO', hm2⟩
    rw [List.take_add_one, hx]
    exact hp.append (List.Perm.refl _)

set_option maxRecDepth 100000 in
set_option maxHeartbeats 4000000 in
theorem insertion_any (base g c : Nat) (f : Nat) (lb : Array Value) (cf : Nat → Nat → Int) (nn a b N : Nat) (P S Q : List Nat) (w : World) (hw : Weak (ltC cf)) (eg : ∀ args w, (callFunc f args).run Tryd.prog w = .ok (.enter f args) w) (hcmp : CmpOk f lb cf nn g w)
    (h : OwN w base g c (P ++ (S ++ Q))) (hN : (P ++ (S ++ Q)).length = N) (ha : P.length = a) (hS : a + S.length = b) (hr : S.Pairwise (· < ·)) (hn : ∀ x ∈ S, x < nn) (hl : N ≤ 1000000000) :
    Calls Tryd.prog 88 #[.slice (some ⟨g, 0, none⟩) N c, .int .i64 a, .int .i64 b, .func (.func f) #[] lb] w (SortedPost base g c (ltC cf) P S Q w) := by
  have HS : Hid (InsS base g c (ltC cf) P S Q 1 w w) := by
    refine ⟨S.take 1, ⟨List.Perm.refl _, ?_⟩, ?_, Mod.rf _⟩
    · match S with
      | [] => exact List.Pairwise.nil
      | [x] => exact List.pairwise_singleton _ _
      | x :: y :: z => exact List.pairwise_singleton _ _
    · rw [← List.append_assoc (S.take 1), List.take_append_drop]; exact h
  have hbN : b ≤ N := by simp only [List.length_append] at hN; omega
  replace hN := Lib.hid hN
  replace hcmp := Lib.hid hcmp
  replace hw := Lib.hid hw
  replace ha := Lib.hid ha
  replace hn := Lib.hid hn
  replace hr := Lib.hid hr
  clear h
  go_enter Tryd.func88, Tryd.ntmps88
  go_wp2_with (fail)
  go_loopw [8] (fun iv wr => ∃ (i k : Nat), iv = .int .i64 i ∧ Hid (i = a + k) ∧ 0 < k ∧ k ≤ S.length + 1 ∧ Hid (InsS base g c (ltC cf) P S Q k w wr)) (fun iv _ => b + 1 - (intOf iv).toNat)
  case atStart => exact ⟨a + 1, 1, by first | rfl | go_num, rfl, by omega, by omega, HS⟩
  case round =>
    obtain ⟨wo, rfl⟩ : ∃ wo : World, wo = wr := ⟨_, rfl⟩
    obtain ⟨i, k, rfl, hi, hk0, hk, HH⟩ := hrel
    clear HS
    by_cases hlt : k < S.length
    · obtain ⟨M, x, hxS, hMS, hMl, hz, hs, hsink, hout⟩ := HH.out.next hlt hr.out
      have hxn := hn.out x hxS
      have hMn : Hid (∀ z ∈ M, z < nn) := fun z hz => hn.out z (hMS z hz)
      replace hMl := Lib.hid hMl
      replace hz := Lib.hid hz
      replace hs := Lib.hid hs
      replace hsink := Lib.hid hsink
      clear HH hMS hxS
      have hltz : (i : Int) < (b : Int) := by rw [hi.out]; omega
      have hiN : i < N := by rw [hi.out]; omega
      go_wp2_with (fail)
      go_loopw [9] (fun jv wr => ∃ (j p : Nat), jv = .int .i64 j ∧ Hid (j = a + p) ∧ p ≤ k ∧ Hid (SinkS base g c (ltC cf) P M x (S.drop (k + 1) ++ Q) p w wr)) (fun jv _ => (intOf jv).toNat)
      case atStart => exact ⟨i, k, rfl, hi, by omega, hsink⟩
      case round =>
        obtain ⟨wi, rfl⟩ : ∃ wi : World, wi = wr := ⟨_, rfl⟩
        obtain ⟨j, p, rfl, hj, hp, HI⟩ := hrel
        clear hsink
        cases p with
        | zero =>
          have hbot := Lib.hid (HI.out.bottom hw.out hz.out hs.out)
          have hM := Lib.hid HI.out.mod
          obtain rfl : j = a := hj.out
          go_wp2_with (fail)
          go_quiet (fail)
          go_wp2_with (fail)
          go_roundw
          case rel => exact ⟨i + 1, k + 1, by go_num, by have := hi.out; show i + 1 = _ + (k + 1); omega, by omega, by omega, hout.out _ (hM.out.drewN _) (hbot.out _ ((Ext.rf _).drewN _))⟩
          case measure => simp [intOf]; omega
        | succ p =>
          obtain ⟨y, hyM, cy, fy, cx, fx, hstep, hstop⟩ := HI.out.two ha.out
          have hM := Lib.hid HI.out.mod
          have hyn := hMn.out y hyM
          obtain ⟨jp, hjp⟩ : ∃ jp, Hid (jp = a + p) := ⟨_, rfl⟩
          rw [← hjp.out] at cy fy cx fx hstep
          obtain rfl : j = jp + 1 := by rw [hj.out, hjp.out]; omega
          have hc : ∀ n, Calls Tryd.prog f (#[.int .i64 x, .int .i64 y] ++ lb) (wi.drewN n) fun e W' => e = .returned (.int .i64 (cf x y)) ∧ ∃ q, W' = (wi.drewN n).drewN q := fun n => hcmp.out _ x y hxn hyn (hM.out.drewN n)
          have hwp : IntKind.i64.wrap (jp : Int) = (jp : Int) := IntWalk.i64_in _ (by rw [hjp.out]; omega)
          have jz : (jp : Int) + 1 < (N : Int) := by rw [hjp.out]; omega
          have jz1 : (jp : Int) < (N : Int) := by omega
          have hjaz : (a : Int) < (jp : Int) + 1 := by rw [hjp.out]; omega
          have p0 : (0 : Int) ≤ (jp : Int) + 1 := by omega
          have e0 : ((jp : Int) + 1).toNat = jp + 1 := by omega
          clear hyM
          by_cases hlv : cf x y < 0
          · replace hstep := Lib.hid (hstep.out (decide_eq_true hlv))
            clear hstop
            go_wp2_with (fail)
            go_quiet (first | (go_at_fn f; refine Calls.quiet_of (hc _)))
            go_wp2_with (fail)
            have x2 : Ext wi (wi.drewN nq) := (Ext.rf _).drewN _
            have cy2 : (wi.drewN nq).cell? ⟨g, jp, none⟩ = some (.int .i64 y) := cy
            have cx2 : (wi.drewN nq).cell? ⟨g, jp + 1, none⟩ = some (.int .i64 x) := cx
            have fy2 : (wi.drewN nq).frozen? ⟨g, jp, none⟩ = false := fy
            have fx2 : (wi.drewN nq).frozen? ⟨g, jp + 1, none⟩ = false := fx
            have NX := Lib.hid (hstep.out _ x2)
            clear cy cx fy fx hc x2 hstep
            generalize wi.drewN nq = wq at cy2 cx2 fy2 fx2 NX ⊢
            go_region
            all_goals go_wp2
            go_roundw
            case rel => exact ⟨jp, p, by first | rfl | go_num, hjp, by omega, NX.out.ext ((Ext.rf _).drew)⟩
            case measure => simp [intOf] <;> omega
          · replace hstop := Lib.hid (hstop.out hw.out (decide_eq_false hlv) hz.out hs.out)
            clear hstep
            go_wp2_with (fail)
            go_quiet (first | (go_at_fn f; refine Calls.quiet_of (hc _)))
            go_wp2_with (fail)
            go_roundw
            case rel => exact ⟨i + 1, k + 1, by go_num, by have := hi.out; show i + 1 = _ + (k + 1); omega, by omega, by omega, hout.out _ (hM.out.drewN _) (hstop.out _ ((Ext.rf _).drewN _))⟩
            case measure => simp [intOf] <;> omega
    · have hltz : ¬ (i : Int) < (b : Int) := by rw [hi.out]; omega
      obtain ⟨M, hM1, hM2, hM3⟩ := HH.out
      have FIN : Hid (SortedPost base g c (ltC cf) P S Q w (.returned (.tuple #[])) wo) := by
        refine ⟨M, ?_, rfl, ?_, hM3⟩
        · rwa [List.take_of_length_le (by omega)] at hM1
        · rwa [List.drop_of_length_le (by omega), List.nil_append] at hM2
      clear hM1 hM2 hM3 HH
      go_wp2_with (fail)
      go_end0
      exact FIN.out
end Go.Proofs.YtpngflmngnjjoaaDoor
namespace Go.Proofs.YtpngflmngnjjoaaDoor
open Go.RowKit Go.ChangeShapes Go.WideShapes Go.ChangeAt Go.Deep

theorem OwN.pair {w : World} {base g c k : Nat} {P Q : List Nat} {y x : Nat} (h : OwN w base g c (P ++ (y :: (x :: Q)))) (hk : P.length = k) :
    w.cell? ⟨g, k, none⟩ = some (.int .i64 y) ∧ w.frozen? ⟨g, k, none⟩ = false ∧ w.cell? ⟨g, k + 1, none⟩ = some (.int .i64 x) ∧ w.frozen? ⟨g, k + 1, none⟩ = false ∧
      Hid (∀ w2, Ext w w2 → OwN ((w2.setCell ⟨g, k, none⟩ (.int .i64 x)).setCell ⟨g, k + 1, none⟩ (.int .i64 y)) base g c (P ++ (x :: (y :: Q)))) ∧
      Hid (∀ w2, Ext w w2 → OwN ((w2.setCell ⟨g, k + 1, none⟩ (.int .i64 y)).setCell ⟨g, k, none⟩ (.int .i64 x)) base g c (P ++ (x :: (y :: Q)))) := by
  subst hk
  obtain ⟨g1, g2⟩ := at_pair P Q y x
  obtain ⟨c1, f1, _⟩ := h.cell g1
  obtain ⟨c2, f2, _⟩ := h.cell g2
  refine ⟨c1, f1, c2, f2, fun w2 x2 => ?_, fun w2 x2 => ?_⟩
  · have := ((((h.ext x2).cell g1).2.2.out x).cell (k := P.length + 1) (n := x) (by rw [List.getElem?_set_ne (by omega)]; exact g2)).2.2.out y
    rwa [set_pair'] at this
  · have := ((((h.ext x2).cell g2).2.2.out y).cell (k := P.length) (n := y) (by rw [List.getElem?_set_ne (by omega)]; exact g1)).2.2.out x
    rwa [set_pair] at this
/-- one number's cell, wherever it stands -/
theorem OwN.at {w : World} {base g c k : Nat} {P Q : List Nat} {j y : Nat} (h : OwN w base g c (P ++ Q)) (hj : Q[j]? = some y) (hk : P.length + j = k) : w.cell? ⟨g, k, none⟩ = some (.int .i64 y) := (h.cell (by rw [at_in P Q k j hk]; exact hj)).1
theorem mid_val (i j : Nat) (h : i + j ≤ 4000000000) : IntKind.i64.wrap (IntKind.u64.wrap (IntKind.i64.wrap ((i : Int) + (j : Int))) / 2) = (((i + j) / 2 : Nat) : Int) := by
  rw [IntKind.wrap_i64, IntKind.wrap_u64, IntKind.wrap_i64]; omega
/-- the search by halves: what is known of the two ends -/
def BsR (good : Nat → Bool) (R : List Nat) (p q : Nat) : Prop := p ≤ q ∧ q ≤ R.length ∧ (∀ y, (R.take p).getLast? = some y → good y = true) ∧ (∀ y, (R.drop q).head? = some y → good y = false)
theorem BsR.start (good : Nat → Bool) (R : List Nat) : BsR good R 0 R.length := ⟨by omega, by omega, by simp, by simp⟩
theorem BsR.mid {good : Nat → Bool} {R : List Nat} {p q : Nat} (h : BsR good R p q) (hlt : p < q) : ∃ y, R[(p + q) / 2]? = some y ∧ y ∈ R ∧ p ≤ (p + q) / 2 ∧ (p + q) / 2 < q ∧ Hid (good y = true → BsR good R ((p + q) / 2 + 1) q) ∧ Hid (good y = false → BsR good R p ((p + q) / 2)) := by
  obtain ⟨h1, h2, h3, h4⟩ := h
  have ht : (p + q) / 2 < R.length := by omega
  have e : R[(p + q) / 2]? = some R[(p + q) / 2] := List.getElem?_eq_getElem ht
  refine ⟨_, e, List.getElem_mem _, by omega, by omega, fun hg => ⟨by omega, h2, fun y hy => ?_, h4⟩, fun hg => ⟨by omega, by omega, h3, fun y hy => ?_⟩⟩
  · rw [take_last e] at hy
    obtain rfl := Option.some.inj hy
    exact hg
  · rw [drop_head e] at hy
    obtain rfl := Option.some.inj hy
    exact hg

/-- x stands behind so many of B -/
def UpS (base g c : Nat) (P B : List Nat) (x : Nat) (T : List Nat) (s : Nat) (w w' : World) : Prop := OwN w' base g c (P ++ (B.take s ++ (x :: (B.drop s ++ T)))) ∧ Mod (fun k => k = g) w w'
theorem UpS.ext {base g c : Nat} {P B : List Nat} {x : Nat} {T : List Nat} {s : Nat} {w w' w2 : World} (h : UpS base g c P B x T s w w') (x2 : Ext w' w2) : UpS base g c P B x T s w w2 := ⟨h.1.ext x2, h.2.ext x2⟩
theorem UpS.up {base g c a : Nat} {P B : List Nat} {x : Nat} {T : List Nat} {s : Nat} {w w' : World} (h : UpS base g c P B x T s w w') (hs : s < B.length) (ha : P.length = a) :
    ∃ y, w'.cell? ⟨g, a + s, none⟩ = some (.int .i64 x) ∧ w'.frozen? ⟨g, a + s, none⟩ = false ∧ w'.cell? ⟨g, a + s + 1, none⟩ = some (.int .i64 y) ∧ w'.frozen? ⟨g, a + s + 1, none⟩ = false ∧
      Hid (UpS base g c P B x T (s + 1) w ((w'.setCell ⟨g, a + s, none⟩ (.int .i64 y)).setCell ⟨g, a + s + 1, none⟩ (.int .i64 x))) := by
  obtain ⟨hO, hM⟩ := h
  have e : B[s]? = some B[s] := List.getElem?_eq_getElem hs
  have hd : B.drop s = B[s] :: B.drop (s + 1) := List.drop_eq_getElem_cons hs
  have ht : B.take (s + 1) = B.take s ++ [B[s]] := by rw [List.take_add_one, e]; rfl
  have e2 : P ++ (B.take s ++ (x :: (B.drop s ++ T))) = (P ++ B.take s) ++ (x :: (B[s] :: (B.drop (s + 1) ++ T))) := by rw [hd]; simp only [List.append_assoc, List.cons_append]
  have e3 : P ++ (B.take (s + 1) ++ (x :: (B.drop (s + 1) ++ T))) = (P ++ B.take s) ++ (B[s] :: (x :: (B.drop (s + 1) ++ T))) := by rw [ht]; simp only [List.append_assoc, List.singleton_append]
  rw [e2] at hO
  obtain ⟨c1, f1, c2, f2, u1, _⟩ := hO.pair (k := a + s) (by rw [List.length_append, List.length_take]; omega)
  refine ⟨_, c1, f1, c2, f2, ?_, (hM.set (p := ⟨g, a + s, none⟩) (.inl rfl) _).set (p := ⟨g, a + s + 1, none⟩) (.inl rfl) _⟩
  have := u1.out _ (Ext.rf _)
  rw [← e3] at this
  exact this
theorem UpS.down {base g c a : Nat} {P B : List Nat} {x : Nat} {T : List Nat} {s : Nat} {w w' : World} (h : UpS base g c P B x T (s + 1) w w') (hs : s < B.length) (ha : P.length = a) :
    ∃ y, w'.cell? ⟨g, a + s, none⟩ = some (.int .i64 y) ∧ w'.frozen? ⟨g, a + s, none⟩ = false ∧ w'.cell? ⟨g, a + s + 1, none⟩ = some (.int .i64 x) ∧ w'.frozen? ⟨g, a + s + 1, none⟩ = false ∧
      Hid (UpS base g c P B x T s w ((w'.setCell ⟨g, a + s + 1, none⟩ (.int .i64 y)).setCell ⟨g, a + s, none⟩ (.int .i64 x))) := by
  obtain ⟨hO, hM⟩ := h
  have e : B[s]? = some B[s] := List.getElem?_eq_getElem hs
  have hd : B.drop s = B[s] :: B.drop (s + 1) := List.drop_eq_getElem_cons hs
  have ht : B.take (s + 1) = B.take s ++ [B[s]] := by rw [List.take_add_one, e]; rfl
  have e2 : P ++ (B.take (s + 1) ++ (x :: (B.drop (s + 1) ++ T))) = (P ++ B.take s) ++ (B[s] :: (x :: (B.drop (s + 1) ++ T))) := by rw [ht]; simp only [List.append_assoc, List.singleton_append]
  have e3 : P ++ (B.take s ++ (x :: (B.drop s ++ T))) = (P ++ B.take s) ++ (x :: (B[s] :: (B.drop (s + 1) ++ T))) := by rw [hd]; simp only [List.append_assoc, List.cons_append]
  rw [e2] at hO
  obtain ⟨c1, f1, c2, f2, _, u2⟩ := hO.pair (k := a + s) (by rw [List.length_append, List.length_take]; omega)
  refine ⟨_, c1, f1, c2, f2, ?_, (hM.set (p := ⟨g, a + s + 1, none⟩) (.inl rfl) _).set (p := ⟨g, a + s, none⟩) (.inl rfl) _⟩
  have := u2.out _ (Ext.rf _)
  rw [← e3] at this
  exact this

set_option maxRecDepth 100000 in
set_option maxHeartbeats 4000000 in
theorem sym_left (base g c : Nat) (f : Nat) (lb : Array Value) (cf : Nat → Nat → Int) (nn a m b N x : Nat) (P R Q : List Nat) (w : World) (hw : Weak (ltC cf)) (eg : ∀ args w, (callFunc f args).run Tryd.prog w = .ok (.enter f args) w) (hcmp : CmpOk f lb cf nn g w)
    (h : OwN w base g c (P ++ (x :: (R ++ Q)))) (hN : (P ++ (x :: (R ++ Q))).length = N) (ha : P.length = a) (hL : a + 1 = m) (hR : m + R.length = b) (sr : Srt (ltC cf) R) (hlt : Apart (· < ·) [x] R) (hx : x < nn) (hn : ∀ y ∈ R, y < nn) (hl : N ≤ 1000000000) :
    Calls Tryd.prog 89 #[.slice (some ⟨g, 0, none⟩) N c, .int .i64 a, .int .i64 m, .int .i64 b, .func (.func f) #[] lb] w (SortedPost base g c (ltC cf) P (x :: R) Q w) := by
  have hbN : b ≤ N := by simp only [List.length_append, List.length_cons] at hN; omega
  have hm1 : Hid (m = a + 1) := hL.symm
  have d1 : ((m : Int) - (a : Int) == 1) = true := by rw [beq_iff_eq]; omega
  have hmb : m ≤ b := by omega
  replace hN := Lib.hid hN
  replace hcmp := Lib.hid hcmp
  replace hw := Lib.hid hw
  replace ha := Lib.hid ha
  replace hn := Lib.hid hn
  replace h := Lib.hid h
  replace hR := Lib.hid hR
  replace sr := Lib.hid sr
  have hax : a < N := by have := hm1.out; omega
  clear hL
  go_enter Tryd.func89, Tryd.ntmps89
  go_wp2_with (fail)
  go_loopw [10, 11] (fun iv jv wr => ∃ (i j p q : Nat), iv = .int .i64 i ∧ jv = .int .i64 j ∧ Hid (i = m + p) ∧ Hid (j = m + q) ∧ Hid (BsR (fun y => ltC cf y x) R p q) ∧ Hid (Ext w wr)) (fun iv jv _ => (intOf jv).toNat - (intOf iv).toNat)
  case atStart => exact ⟨m, b, 0, R.length, rfl, rfl, rfl, hR.out.symm, BsR.start _ _, Ext.rf _⟩
  case round =>
    obtain ⟨wo, rfl⟩ : ∃ wo : World, wo = wr := ⟨_, rfl⟩
    obtain ⟨i, j, p, q, rfl, rfl, hi, hj, HB, Y⟩ := hrel
    by_cases hpq : p < q
    · obtain ⟨y, ey, hyR, t1, t2, st1, st2⟩ := HB.out.mid hpq
      have hq := HB.out.2.1
      have hij : i < j := by rw [hi.out, hj.out]; omega
      have hjb : j ≤ b := by rw [hj.out, ← hR.out]; omega
      have hyn := hn.out y hyR
      obtain ⟨t, ht⟩ : ∃ t, Hid (t = (p + q) / 2) := ⟨_, rfl⟩
      obtain ⟨hh, hhh⟩ : ∃ hh, Hid (hh = (i + j) / 2) := ⟨_, rfl⟩
      rw [← ht.out] at ey t1 t2 st1 st2
      have eh : hh = m + t := by rw [hhh.out, hi.out, hj.out, ht.out]; omega
      have h1 : i ≤ hh := by rw [hhh.out]; omega
      have h2 : hh < j := by rw [hhh.out]; omega
      have mv : ((i : Int) + (j : Int)) / 2 = (hh : Int) := by rw [hhh.out]; omega
      have ch : wo.cell? ⟨g, hh, none⟩ = some (.int .i64 y) := (h.out.ext Y.out).at (P := P) (j := t + 1) (by rw [List.getElem?_cons_succ, List.getElem?_append_left (by have := (List.getElem?_eq_some_iff.1 ey).1; omega)]; exact ey) (by have := ha.out; have := hm1.out; omega)
      have ca : wo.cell? ⟨g, a, none⟩ = some (.int .i64 x) := (h.out.ext Y.out).at (P := P) (j := 0) rfl (by have := ha.out; omega)
      have hM := Lib.hid (Mod.of_ext (S := fun k => k = g) Y.out)
      have hc : ∀ n, Calls Tryd.prog f (#[.int .i64 y, .int .i64 x] ++ lb) (wo.drewN n) fun e W' => e = .returned (.int .i64 (cf y x)) ∧ ∃ q, W' = (wo.drewN n).drewN q := fun n => hcmp.out _ y x hyn hx (hM.out.drewN n)
      replace eh := Lib.hid eh
      replace ht := Lib.hid ht
      clear ey hyR
      by_cases hlv : cf y x < 0
      · replace st1 := Lib.hid (st1.out (decide_eq_true hlv))
        clear st2
        go_wp2_with (fail)
        go_quiet (first | (go_at_fn f; refine Calls.quiet_of (hc _)))
        go_wp2_with (fail)
        go_roundw
        case rel => exact ⟨hh + 1, j, t + 1, q, by go_num, rfl, by have := eh.out; show hh + 1 = _ + (t + 1); omega, hj, st1.out, Y.out.drewN _⟩
        case measure => simp [intOf] <;> omega
      · replace st2 := Lib.hid (st2.out (decide_eq_false hlv))
        clear st1
        go_wp2_with (fail)
        go_quiet (first | (go_at_fn f; refine Calls.quiet_of (hc _)))
        go_wp2_with (fail)
        go_roundw
        case rel => exact ⟨i, hh, p, t, rfl, rfl, hi, eh, st2.out, Y.out.drewN _⟩
        case measure => simp [intOf] <;> omega
    · obtain ⟨b1, b2, b3, b4⟩ := HB.out
      obtain rfl : p = q := by omega
      obtain ⟨ip, hip⟩ : ∃ ip, Hid (ip = a + p) := ⟨_, rfl⟩
      obtain rfl : i = ip + 1 := by rw [hi.out, hip.out, hm1.out]; omega
      obtain rfl : j = ip + 1 := by rw [hj.out, hip.out, hm1.out]; omega
      have ipN : ip + 1 ≤ N := by rw [hip.out]; have := hR.out; have := hm1.out; omega
      have START : Hid (UpS base g c P (R.take p) x (R.drop p ++ Q) 0 w wo) := by
        refine ⟨?_, Mod.of_ext Y.out⟩
        have h1 := h.out.ext Y.out
        rw [List.take_zero, List.nil_append, List.drop_zero, ← List.append_assoc (R.take p), List.take_append_drop]
        exact h1
      have HF : Hid (Is (ltC cf) (x :: R) (R.take p ++ (x :: R.drop p))) := by
        refine ⟨?_, one_left hw.out (by rw [List.take_append_drop]; exact sr.out) (by rw [List.take_append_drop]; exact hlt) b3 b4⟩
        have := List.take_append_drop p R
        refine List.perm_middle.trans ?_
        rw [this]
      have hRl : (R.take p).length = p := by rw [List.length_take]; omega
      generalize R.take p = R1 at *
      generalize R.drop p = R2 at *
      replace hRl := Lib.hid hRl
      have hwp : IntKind.i64.wrap (ip : Int) = (ip : Int) := IntWalk.i64_in _ (by omega)
      clear HB b1 b2 b3 b4 hi hj hlt hR
      go_wp2_with (fail)
      go_loopw [13] (fun kv wr => ∃ (k s : Nat), kv = .int .i64 k ∧ Hid (k = a + s) ∧ s ≤ p ∧ Hid (UpS base g c P R1 x (R2 ++ Q) s w wr)) (fun kv _ => ip - (intOf kv).toNat)
      case atStart => exact ⟨a, 0, rfl, rfl, by omega, START⟩
      case round =>
        obtain ⟨wi, rfl⟩ : ∃ wi : World, wi = wr := ⟨_, rfl⟩
        obtain ⟨k, s, rfl, hk, hs, HU⟩ := hrel
        clear START
        by_cases hsp : s < p
        · obtain ⟨y, c1, f1, c2, f2, NX⟩ := HU.out.up (by rw [hRl.out]; exact hsp) ha.out
          have hk' := hk.out
          rw [← hk'] at c1 f1 c2 f2 NX
          have l1 : (k : Int) < (ip : Int) := by rw [hip.out]; omega
          have l2 : (k : Int) + 1 < (N : Int) := by omega
          have l3 : (k : Int) < (N : Int) := by omega
          clear hk' HU
          go_wp2_with (fail)
          go_region
          all_goals go_wp2
          go_roundw
          case rel => exact ⟨k + 1, s + 1, by go_num, by have := hk.out; show k + 1 = _ + (s + 1); omega, by omega, NX.out.ext ((Ext.rf _).drew)⟩
          case measure => simp [intOf] <;> omega
        · obtain rfl : s = p := by omega
          have l1 : ¬ (k : Int) < (ip : Int) := by rw [hip.out, hk.out]; omega
          have FIN : Hid (SortedPost base g c (ltC cf) P (x :: R) Q w (.returned (.tuple #[])) wi) := by
            refine ⟨_, HF.out, rfl, ?_, HU.out.2⟩
            have := HU.out.1
            rw [← hRl.out, List.take_length, List.drop_length] at this
            simpa only [List.append_assoc, List.cons_append, List.nil_append] using this
          clear HU
          go_wp2_with (fail)
          go_end0
          exact FIN.out
end Go.Proofs.YtpngflmngnjjoaaDoor
namespace Go.Proofs.YtpngflmngnjjoaaDoor
open Go.RowKit Go.ChangeShapes Go.WideShapes Go.ChangeAt Go.Deep

set_option maxRecDepth 100000 in
set_option maxHeartbeats 4000000 in
theorem sym_right (base g c : Nat) (f : Nat) (lb : Array Value) (cf : Nat → Nat → Int) (nn a m b N y : Nat) (P L Q : List Nat) (w : World) (hw : Weak (ltC cf)) (eg : ∀ args w, (callFunc f args).run Tryd.prog w = .ok (.enter f args) w) (hcmp : CmpOk f lb cf nn g w)
    (h : OwN w base g c (P ++ (L ++ (y :: Q)))) (hN : (P ++ (L ++ (y :: Q))).length = N) (ha : P.length = a) (hL : a + L.length = m) (hR : m + 1 = b) (h2 : 2 ≤ L.length) (sl : Srt (ltC cf) L) (hlt : Apart (· < ·) L [y]) (hy : y < nn) (hn : ∀ x ∈ L, x < nn) (hl : N ≤ 1000000000) :
    Calls Tryd.prog 89 #[.slice (some ⟨g, 0, none⟩) N c, .int .i64 a, .int .i64 m, .int .i64 b, .func (.func f) #[] lb] w (SortedPost base g c (ltC cf) P (L ++ [y]) Q w) := by
  have hbN : b ≤ N := by simp only [List.length_append, List.length_cons] at hN; omega
  have d0 : ((m : Int) - (a : Int) == 1) = false := by rw [beq_eq_false_iff_ne]; omega
  have d1 : ((b : Int) - (m : Int) == 1) = true := by rw [beq_iff_eq]; omega
  have hmN : m < N := by omega
  have ham : a ≤ m := by omega
  replace hN := Lib.hid hN
  replace hcmp := Lib.hid hcmp
  replace hw := Lib.hid hw
  replace ha := Lib.hid ha
  replace hn := Lib.hid hn
  replace h := Lib.hid h
  replace hL := Lib.hid hL
  replace sl := Lib.hid sl
  clear hR h2
  go_enter Tryd.func89, Tryd.ntmps89
  go_wp2_with (fail)
  go_loopw [14, 15] (fun iv jv wr => ∃ (i j p q : Nat), iv = .int .i64 i ∧ jv = .int .i64 j ∧ Hid (i = a + p) ∧ Hid (j = a + q) ∧ Hid (BsR (fun z => !ltC cf y z) L p q) ∧ Hid (Ext w wr)) (fun iv jv _ => (intOf jv).toNat - (intOf iv).toNat)
  case atStart => exact ⟨a, m, 0, L.length, rfl, rfl, rfl, hL.out.symm, BsR.start _ _, Ext.rf _⟩
  case round =>
    obtain ⟨wo, rfl⟩ : ∃ wo : World, wo = wr := ⟨_, rfl⟩
    obtain ⟨i, j, p, q, rfl, rfl, hi, hj, HB, Y⟩ := hrel
    by_cases hpq : p < q
    · obtain ⟨z, ez, hzL, t1, t2, st1, st2⟩ := HB.out.mid hpq
      have hq := HB.out.2.1
      have hij : i < j := by rw [hi.out, hj.out]; omega
      have hjm : j ≤ m := by rw [hj.out, ← hL.out]; omega
      have hzn := hn.out z hzL
      obtain ⟨t, ht⟩ : ∃ t, Hid (t = (p + q) / 2) := ⟨_, rfl⟩
      obtain ⟨hh, hhh⟩ : ∃ hh, Hid (hh = (i + j) / 2) := ⟨_, rfl⟩
      rw [← ht.out] at ez t1 t2 st1 st2
      have eh : hh = a + t := by rw [hhh.out, hi.out, hj.out, ht.out]; omega
      have h1 : i ≤ hh := by rw [hhh.out]; omega
      have h2 : hh < j := by rw [hhh.out]; omega
      have mv : ((i : Int) + (j : Int)) / 2 = (hh : Int) := by rw [hhh.out]; omega
      have ch : wo.cell? ⟨g, hh, none⟩ = some (.int .i64 z) := (h.out.ext Y.out).at (P := P) (j := t) (by rw [List.getElem?_append_left (by have := (List.getElem?_eq_some_iff.1 ez).1; omega)]; exact ez) (by have := ha.out; omega)
      have cm : wo.cell? ⟨g, m, none⟩ = some (.int .i64 y) := (h.out.ext Y.out).at (P := P) (j := L.length) (by rw [List.getElem?_append_right (by omega), Nat.sub_self]; rfl) (by have := ha.out; have := hL.out; omega)
      have hM := Lib.hid (Mod.of_ext (S := fun k => k = g) Y.out)
      have hc : ∀ n, Calls Tryd.prog f (#[.int .i64 y, .int .i64 z] ++ lb) (wo.drewN n) fun e W' => e = .returned (.int .i64 (cf y z)) ∧ ∃ q, W' = (wo.drewN n).drewN q := fun n => hcmp.out _ y z hy hzn (hM.out.drewN n)
      replace eh := Lib.hid eh
      replace ht := Lib.hid ht
      clear ez hzL
      by_cases hlv : cf y z < 0
      · replace st2 := Lib.hid (st2.out (by show (!decide (cf y z < 0)) = false; rw [decide_eq_true hlv]; rfl))
        have hlb : decide (cf y z < 0) = true := decide_eq_true hlv
        clear st1
        go_wp2_with (fail)
        go_quiet (first | (go_at_fn f; refine Calls.quiet_of (hc _)))
        go_wp2_with (fail)
        go_roundw
        case rel => exact ⟨i, hh, p, t, rfl, rfl, hi, eh, st2.out, Y.out.drewN _⟩
        case measure => simp [intOf] <;> omega
      · replace st1 := Lib.hid (st1.out (by show (!decide (cf y z < 0)) = true; rw [decide_eq_false hlv]; rfl))
        have hlb : decide (cf y z < 0) = false := decide_eq_false hlv
        clear st2
        go_wp2_with (fail)
        go_quiet (first | (go_at_fn f; refine Calls.quiet_of (hc _)))
        go_wp2_with (fail)
        go_roundw
        case rel => exact ⟨hh + 1, j, t + 1, q, by go_num, rfl, by have := eh.out; show hh + 1 = _ + (t + 1); omega, hj, st1.out, Y.out.drewN _⟩
        case measure => simp [intOf] <;> omega
    · obtain ⟨b1, b2, b3, b4⟩ := HB.out
      obtain rfl : p = q := by omega
      obtain rfl : i = j := by rw [hi.out, hj.out]
      have iN : i ≤ m := by rw [hi.out, ← hL.out]; omega
      have b3' : ∀ z, (L.take p).getLast? = some z → ltC cf y z = false := fun z hz => by simpa using b3 z hz
      have b4' : ∀ z, (L.drop p).head? = some z → ltC cf y z = true := fun z hz => by simpa using b4 z hz
      have START : Hid (UpS base g c (P ++ L.take p) (L.drop p) y Q (L.drop p).length w wo) := by
        refine ⟨?_, Mod.of_ext Y.out⟩
        have h1 := h.out.ext Y.out
        rw [List.take_length, List.drop_length, List.append_assoc, ← List.append_assoc (L.take p), List.take_append_drop]
        exact h1
      have HF : Hid (Is (ltC cf) (L ++ [y]) (L.take p ++ (y :: L.drop p))) := by
        refine ⟨?_, one_right hw.out (by rw [List.take_append_drop]; exact sl.out) (by rw [List.take_append_drop]; exact hlt) b3' b4'⟩
        have := List.take_append_drop p L
        refine List.perm_middle.trans ?_
        rw [this]
        exact List.perm_append_comm (l₁ := [y]) (l₂ := L)
      have hi2 : Hid ((P ++ L.take p).length = i) := by
        have : (P ++ L.take p).length = i := by rw [List.length_append, List.length_take, ha.out, hi.out]; omega
        exact this
      have hLm : Hid (m = i + (L.drop p).length) := by
        have : m = i + (L.drop p).length := by rw [List.length_drop, hi.out]; have := hL.out; omega
        exact this
      generalize L.take p = L1 at *
      generalize L.drop p = L2 at *
      clear HB b1 b2 b3 b4 b3' b4' hj hlt hL
      go_wp2_with (fail)
      go_loopw [17] (fun kv wr => ∃ (k s : Nat), kv = .int .i64 k ∧ Hid (k = i + s) ∧ s ≤ L2.length ∧ Hid (UpS base g c (P ++ L1) L2 y Q s w wr)) (fun kv _ => (intOf kv).toNat)
      case atStart => exact ⟨m, L2.length, rfl, hLm, by omega, START⟩
      case round =>
        obtain ⟨wi, rfl⟩ : ∃ wi : World, wi = wr := ⟨_, rfl⟩
        obtain ⟨k, s, rfl, hk, hs, HU⟩ := hrel
        clear START
        cases s with
        | succ s =>
          obtain ⟨z, c1, f1, c2, f2, NX⟩ := HU.out.down (by omega) hi2.out
          obtain ⟨kp, hkp⟩ : ∃ kp, Hid (kp = i + s) := ⟨_, rfl⟩
          rw [← hkp.out] at c1 f1 c2 f2 NX
          obtain rfl : k = kp + 1 := by rw [hk.out, hkp.out]; omega
          have kpm : kp < m := by rw [hkp.out, hLm.out]; omega
          have hwp : IntKind.i64.wrap (kp : Int) = (kp : Int) := IntWalk.i64_in _ (by omega)
          have jz : (kp : Int) + 1 < (N : Int) := by omega
          have jz1 : (kp : Int) < (N : Int) := by omega
          have hjaz : (i : Int) < (kp : Int) + 1 := by rw [hkp.out]; omega
          have p0 : (0 : Int) ≤ (kp : Int) + 1 := by omega
          have e0 : ((kp : Int) + 1).toNat = kp + 1 := by omega
          clear HU
          go_wp2_with (fail)
          go_region
          all_goals go_wp2
          go_roundw
          case rel => exact ⟨kp, s, by first | rfl | go_num, hkp, by omega, NX.out.ext ((Ext.rf _).drew)⟩
          case measure => simp [intOf] <;> omega
        | zero =>
          obtain rfl : k = i := hk.out
          have FIN : Hid (SortedPost base g c (ltC cf) P (L ++ [y]) Q w (.returned (.tuple #[])) wi) := by
            refine ⟨_, HF.out, rfl, ?_, HU.out.2⟩
            have := HU.out.1
            rw [List.take_zero, List.drop_zero] at this
            simpa only [List.append_assoc, List.cons_append, List.nil_append] using this
          clear HU
          go_wp2_with (fail)
          go_end0
          exact FIN.out
end Go.Proofs.YtpngflmngnjjoaaDoor
