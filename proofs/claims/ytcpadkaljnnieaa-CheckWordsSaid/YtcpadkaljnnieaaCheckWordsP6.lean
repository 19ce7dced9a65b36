/-
  The checker's knapsack: absent, left, depth, kids, bound.
  The checker's answer to a knapsack: what it costs, and its value.
  The checker's answer to an assignment: what it costs, and its value.
  The checker's answer to a tour: what it costs, and its value.
  The checker's order of items: ahead; a list moved by one.
  The checker's order of items: ordered.
  The checker's rows and columns: lower, reduced.
  The checker's reduced: what rows and columns cost at least.
  The checker's rows (an assignment): depth, kids.
  The checker's rows (an assignment): bound.
  The checker's cities (a tour): depth, kids, gone.
-/
import Derived.Test.YtcpadkaljnnieaaCheckWordsP5
import Derived.Laws.CopyRow
import Derived.Laws.IdiomCopy
namespace Go.Proofs.Ytcpadkaljnnieaa
open Go.RowKit Go.ChangeShapes Go.WideShapes Go.ChangeAt Go.Deep

set_option maxRecDepth 100000 in
theorem absent_any (A : Option Addr) (c : Nat) (xs : List Int) (n : Int) (w : World) (hA : RdI w A xs) (hl : xs.length ≤ 1000000000) :
    Calls Try.prog 102 #[.slice A xs.length c, .int .i64 n] w fun e w' => e = .returned (.bool (!xs.contains n)) ∧ Ext w w' := by
  have Z0 : Hid ((xs.take 0).contains n = false) := rfl
  replace hA := Lib.hid hA
  go_enter Try.func102, Try.ntmps102
  go_wp2_with (fail)
  go_loopw [9] (fun v9 wr => ∃ k : Nat, v9 = .int .i64 k ∧ k ≤ xs.length ∧ Hid ((xs.take k).contains n = false) ∧ Hid (Ext w wr)) (fun v _ => xs.length - (intOf v).toNat)
  case atStart => exact ⟨0, rfl, by omega, Z0, by (repeat (first | assumption | exact Ext.rf _ | apply Ext.drew | apply Ext.drewN | apply Ext.alloc))⟩
  case round =>
    obtain ⟨wo, rfl⟩ : ∃ wo : World, wo = wr := ⟨_, rfl⟩
    clear Z0
    obtain ⟨k, rfl, hk, hc, Y⟩ := hrel
    by_cases hlt : k < xs.length
    · obtain ⟨pb, po, y, rfl, zy, cy, ey, _⟩ := (hA.out.ext Y.out).at (k := k) hlt
      have q1 : (k : Int) < (xs.length : Int) := by omega
      by_cases hy : y = n
      · subst hy
        have R : Hid ((!xs.contains y) = false) := by
          have h : (!xs.contains y) = false := by
            rw [List.contains_iff_mem.2 (List.mem_of_getElem? ey.out)]; rfl
          exact h
        go_wp2_with (fail)
        go_ret
        exact ⟨ret_b R.out.symm, Y.out.tr (by (repeat (first | assumption | exact Ext.rf _ | apply Ext.drew | apply Ext.drewN | apply Ext.alloc)))⟩
      · have hy1 : (y == n) = false := by simpa using hy
        have C1 : Hid ((xs.take (k + 1)).contains n = false) := by
          have h : (xs.take (k + 1)).contains n = false := by
            rw [List.take_add_one, ey.out]
            have h1 := hc.out
            cases h2 : (xs.take k ++ (some y).toList).contains n with
            | false => rfl
            | true =>
              rw [List.contains_iff_mem, List.mem_append] at h2
              rcases h2 with h2 | h2
              · rw [← List.contains_iff_mem, h1] at h2; cases h2
              · simp at h2; exact absurd h2.symm hy
          exact h
        clear ey hc
        go_wp2_with (fail)
        go_roundw
        case rel => exact ⟨k + 1, by go_num, by omega, C1, Y.out.tr (by (repeat (first | assumption | exact Ext.rf _ | apply Ext.drew | apply Ext.drewN | apply Ext.alloc)))⟩
        case measure => simp [intOf]; omega
    · have R : Hid ((!xs.contains n) = true) := by
        have h : (!xs.contains n) = true := by
          have h1 := hc.out
          rw [List.take_of_length_le (by omega)] at h1
          rw [h1]; rfl
        exact h
      go_wp2_with (fail)
      go_ret
      exact ⟨ret_b R.out.symm, Y.out⟩
/-- the checker's knapsack in memory -/
def KnB (w : World) (g : Nat) (cap : Int) (ws vs : List Int) : Prop := ∃ (A : Option Addr) (a : Nat) (B : Option Addr) (b : Nat), Blk w g 153 #[.int .i64 cap, .slice A ws.length a, .slice B vs.length b] ∧ RdI w A ws ∧ RdI w B vs
theorem KnB.ext {w w' : World} {g : Nat} {cap : Int} {ws vs : List Int} (h : KnB w g cap ws vs) (x : Ext w w') : KnB w' g cap ws vs := by
  obtain ⟨A, a, B, b, h1, h2, h3⟩ := h
  exact ⟨A, a, B, b, h1.ext x, h2.ext x, h3.ext x⟩
theorem kdepthc_any (w : World) (g : Nat) (cap : Int) (ws vs : List Int) (H : KnB w g cap ws vs) :
    Calls Try.prog 167 #[.pointer (some ⟨g, 0, none⟩)] w fun e w' => e = .returned (.int .i64 ws.length) ∧ Ext w w' := by
  obtain ⟨A, a, B, b, h1, -, -⟩ := H
  have t1 : w.cell? ⟨g, 1, none⟩ = some (.slice A ws.length a) := h1.cell 1
  go_enter Try.func167, Try.ntmps167
  go_wp2_with (fail)
  go_ret
  exact ⟨rfl, by (repeat (first | assumption | exact Ext.rf _ | apply Ext.drew | apply Ext.drewN | apply Ext.alloc))⟩
theorem stP_step {w v x room out R O : Int} {ws vs p : List Int} (h : stP room out (w :: ws) (v :: vs) (x :: p) = some (R, O)) : (x = 1 ∧ 0 ≤ room - w ∧ stP (room - w) out ws vs p = some (R, O)) ∨ (x = 0 ∧ 0 ≤ room ∧ stP room (out + v) ws vs p = some (R, O)) := by
  unfold stP at h
  split at h
  · rename_i hx
    split at h
    · cases h
    · exact .inl ⟨hx, by omega, h⟩
  · split at h
    · rename_i hx
      split at h
      · cases h
      · exact .inr ⟨hx, by omega, h⟩
    · cases h
theorem stP_end {room out R O : Int} {ws vs : List Int} (h : stP room out ws vs [] = some (R, O)) : room = R ∧ out = O := by
  have h' : some (room, out) = some (R, O) := by cases ws <;> cases vs <;> exact h
  injection h' with h'
  injection h' with h1 h2
  exact ⟨h1, h2⟩
set_option maxRecDepth 100000 in
set_option maxHeartbeats 2000000 in
theorem leftc_any (w : World) (g : Nat) (cap : Int) (ws vs : List Int) (H : KnB w g cap ws vs) (sw : Small31 ws) (hl : ws.length = vs.length) (hcap : 0 ≤ cap ∧ cap ≤ 2147483647) (P : Option Addr) (c : Nat) (p : List Int) (hP : RdI w P p) (R O : Int) (hst : stP cap 0 ws vs p = some (R, O)) (hlp : p.length ≤ ws.length) (h64 : ws.length ≤ 64) :
    Calls Try.prog 169 #[.pointer (some ⟨g, 0, none⟩), .slice P p.length c] w fun e w' => e = .returned (.int .i64 R) ∧ Ext w w' := by
  obtain ⟨A, a, B, b, h1, rA, -⟩ := H
  have t0 : w.cell? ⟨g, 0, none⟩ = some (.int .i64 cap) := h1.cell 0
  have S0 : Hid (∃ o, stP cap o (ws.drop 0) (vs.drop 0) (p.drop 0) = some (R, O)) := ⟨0, hst⟩
  have c1 := h1.cell 1
  have z1 := h1.lt
  replace h1 := Lib.hid h1
  replace rA := Lib.hid rA
  replace hP := Lib.hid hP
  replace sw := Lib.hid sw
  clear hst
  go_enter Try.func169, Try.ntmps169
  go_wp2_with (fail)
  go_loopw [5, 14] (fun v5 v14 wr => ∃ (k : Nat) (r : Int), v14 = .int .i64 k ∧ v5 = .int .i64 r ∧ k ≤ p.length ∧ 0 ≤ r ∧ r ≤ 2147483647 ∧ Hid (∃ o, stP r o (ws.drop k) (vs.drop k) (p.drop k) = some (R, O)) ∧ Hid (Ext w wr)) (fun _ v _ => p.length - (intOf v).toNat)
  case atStart => exact ⟨0, cap, rfl, rfl, by omega, by omega, by omega, S0, by (repeat (first | assumption | exact Ext.rf _ | apply Ext.drew | apply Ext.drewN | apply Ext.alloc))⟩
  case round =>
    obtain ⟨wo, rfl⟩ : ∃ wo : World, wo = wr := ⟨_, rfl⟩
    clear S0
    obtain ⟨k, r, rfl, rfl, hk, r0, r1, hS, Y⟩ := hrel
    by_cases hlt : k < p.length
    · obtain ⟨pb, po, x, rfl, zx, cx, ex, dx⟩ := (hP.out.ext Y.out).at (k := k) hlt
      obtain ⟨qb, qo, u, rfl, zu, cu, eu, du⟩ := (rA.out.ext Y.out).at (k := k) (by omega)
      have q1 : (k : Int) < (p.length : Int) := by omega
      have q2 : (k : Int) < (ws.length : Int) := by omega
      have bu := sw.out u (List.mem_of_getElem? eu.out)
      have t1 : wo.cell? ⟨g, 1, none⟩ = some (.slice (some ⟨qb, qo, none⟩) ws.length a) := keepEL Y.out z1 c1
      have hv : k < vs.length := by omega
      have ST : (x = 1 ∧ 0 ≤ r - u ∧ Hid (∃ o, stP (r - u) o (ws.drop (k + 1)) (vs.drop (k + 1)) (p.drop (k + 1)) = some (R, O))) ∨ (x = 0 ∧ Hid (∃ o, stP r o (ws.drop (k + 1)) (vs.drop (k + 1)) (p.drop (k + 1)) = some (R, O))) := by
        obtain ⟨o, h⟩ := hS.out
        rw [dx.out, du.out, List.drop_eq_getElem_cons hv] at h
        rcases stP_step h with ⟨g1, g2, g3⟩ | ⟨g1, _, g3⟩
        · exact .inl ⟨g1, g2, o, g3⟩
        · exact .inr ⟨g1, _, g3⟩
      clear ex dx eu du hS
      rcases ST with ⟨rfl, g2, g3⟩ | ⟨rfl, g3⟩
      · go_wp2_with (fail)
        go_roundw
        case rel => exact ⟨k + 1, r - u, by go_num, by go_num, by omega, by omega, by omega, g3, Y.out.tr (by (repeat (first | assumption | exact Ext.rf _ | apply Ext.drew | apply Ext.drewN | apply Ext.alloc)))⟩
        case measure => simp [intOf]; omega
      · go_wp2_with (fail)
        go_roundw
        case rel => exact ⟨k + 1, r, by go_num, by go_num, by omega, by omega, by omega, g3, Y.out.tr (by (repeat (first | assumption | exact Ext.rf _ | apply Ext.drew | apply Ext.drewN | apply Ext.alloc)))⟩
        case measure => simp [intOf]; omega
    · have E : Hid (r = R) := by
        have h : r = R := by
          obtain ⟨o, h⟩ := hS.out
          rw [List.drop_of_length_le (l := p) (i := k) (by omega)] at h
          exact (stP_end h).1
        exact h
      go_wp2_with (fail)
      go_ret
      exact ⟨ret_i E.out, Y.out⟩
def OwnK (l : List Int) (w : World) (e : Ending) (w' : World) : Prop := ∃ (A : Option Addr) (c : Nat), e = .returned (.slice A l.length c) ∧ OwI w' w.heap.size A c l ∧ Ext w w'
theorem own_lit1 {w : World} (x : Int) : OwI (w.alloc (.cells #[.int .i64 x] 3)) w.heap.size (some ⟨w.heap.size, 0, none⟩) 1 [x] :=
  OwI.mk (cur := #[.int .i64 x]) (Nat.le_refl _) (Blk.new (t := 3) (cs := #[.int .i64 x]) rfl) (by simp) (by simp [maxLen]) rfl rfl
theorem own_lit2 {w : World} (x y : Int) : OwI (w.alloc (.cells #[.int .i64 x, .int .i64 y] 3)) w.heap.size (some ⟨w.heap.size, 0, none⟩) 2 [x, y] :=
  OwI.mk (cur := #[.int .i64 x, .int .i64 y]) (Nat.le_refl _) (Blk.new (t := 3) (cs := #[.int .i64 x, .int .i64 y]) rfl) (by simp) (by simp [maxLen]) rfl rfl
set_option maxRecDepth 100000 in
set_option maxHeartbeats 2000000 in
theorem kkidsc_any (w : World) (g : Nat) (cap : Int) (ws vs : List Int) (H : KnB w g cap ws vs) (sw : Small31 ws) (hl : ws.length = vs.length) (hcap : 0 ≤ cap ∧ cap ≤ 2147483647) (P : Option Addr) (c : Nat) (p : List Int) (hP : RdI w P p) (R O : Int) (hst : stP cap 0 ws vs p = some (R, O)) (hlp : p.length < ws.length) (h64 : ws.length ≤ 64) :
    Calls Try.prog 168 #[.pointer (some ⟨g, 0, none⟩), .slice P p.length c] w (OwnK (kidsK cap ws p) w) := by
  have LE := fun (W : World) (x : Ext w W) => leftc_any W g cap ws vs (H.ext x) sw hl hcap P c p (hP.ext x) R O hst (by omega) h64
  obtain ⟨A, a, B, b, h1, rA, -⟩ := H
  have c1 := h1.cell 1
  have z1 := h1.lt
  obtain ⟨qb, qo, u, rfl, zu, cu, eu, du⟩ := rA.at (k := p.length) hlp
  have K : Hid (kidsK cap ws p = if u ≤ R then [0, 1] else [0]) := by
    have h : kidsK cap ws p = if u ≤ R then [0, 1] else [0] := by
      unfold kidsK
      rw [du.out, (st_roomC hst).1]
    exact h
  have q1 : (p.length : Int) < (ws.length : Int) := by omega
  have t1 : w.cell? ⟨g, 1, none⟩ = some (.slice (some ⟨qb, qo, none⟩) ws.length a) := c1
  obtain ⟨ks, hks⟩ : ∃ ks : List Int, Hid ((if u ≤ R then [0, 1] else [0]) = ks) := ⟨_, rfl⟩
  rw [K.out, hks.out]
  replace LE := Lib.hid LE
  replace hl := Lib.hid hl
  have q0 : (0 : Int) ≤ (p.length : Int) := by omega
  clear hst h1 rA hP du eu K c1
  by_cases hu : u ≤ R
  · have e1 : ¬ R < u := by omega
    obtain rfl : ks = [0, 1] := by have h := hks.out; rw [if_pos hu] at h; exact h.symm
    go_enter Try.func168, Try.ntmps168
    go_wp2_with (fail)
    go_region_held3 (fun w' => w'.cell? ⟨g, 1, none⟩ = some (.slice (some ⟨qb, qo, none⟩) ws.length a) ∧ w'.cell? ⟨qb, qo + p.length, none⟩ = some (.int .i64 u)) (go_keep)
      (first | (go_at_call 169; refine (LE.out _ (by (repeat (first | assumption | exact Ext.rf _ | apply Ext.drew | apply Ext.drewN | apply Ext.alloc)))).mono ?_; rintro e w2 ⟨rfl, x2⟩; have y2 := Ext.tr (a := w) (by (repeat (first | assumption | exact Ext.rf _ | apply Ext.drew | apply Ext.drewN | apply Ext.alloc))) x2; have s1 := keepEL y2 z1 t1; have s2 := keepEL y2 zu cu))
    go_wp2_with (fail)
    go_ret
    exact ⟨some ⟨w2.heap.size, 0, none⟩, 2, rfl, (own_lit2 0 1).more y2.size, y2.alloc _⟩
  · have e1 : R < u := by omega
    obtain rfl : ks = [0] := by have h := hks.out; rw [if_neg hu] at h; exact h.symm
    go_enter Try.func168, Try.ntmps168
    go_wp2_with (fail)
    go_region_held3 (fun w' => w'.cell? ⟨g, 1, none⟩ = some (.slice (some ⟨qb, qo, none⟩) ws.length a) ∧ w'.cell? ⟨qb, qo + p.length, none⟩ = some (.int .i64 u)) (go_keep)
      (first | (go_at_call 169; refine (LE.out _ (by (repeat (first | assumption | exact Ext.rf _ | apply Ext.drew | apply Ext.drewN | apply Ext.alloc)))).mono ?_; rintro e w2 ⟨rfl, x2⟩; have y2 := Ext.tr (a := w) (by (repeat (first | assumption | exact Ext.rf _ | apply Ext.drew | apply Ext.drewN | apply Ext.alloc))) x2; have s1 := keepEL y2 z1 t1; have s2 := keepEL y2 zu cu))
    go_wp2_with (fail)
    go_ret
    exact ⟨some ⟨w2.heap.size, 0, none⟩, 1, rfl, (own_lit1 0).more y2.size, y2.alloc _⟩
set_option maxRecDepth 100000 in
set_option maxHeartbeats 4000000 in
theorem kboundc_any (w : World) (g : Nat) (cap : Int) (ws vs : List Int) (H : KnB w g cap ws vs) (sw : Small31 ws) (sv : Small31 vs) (hl : ws.length = vs.length) (hcap : 0 ≤ cap ∧ cap ≤ 2147483647) (P : Option Addr) (c : Nat) (p : List Int) (hP : RdI w P p) (R O : Int) (hst : stP cap 0 ws vs p = some (R, O)) (hlp : p.length ≤ ws.length) (h64 : ws.length ≤ 64) :
    Calls Try.prog 166 #[.pointer (some ⟨g, 0, none⟩), .slice P p.length c] w fun e w' => e = .returned (.int .i64 (boundP cap ws vs p).1) ∧ Ext w w' := by
  have LE := fun (W : World) (x : Ext w W) => leftc_any W g cap ws vs (H.ext x) sw hl hcap P c p (hP.ext x) R O hst hlp h64
  have DE := fun (W : World) (x : Ext w W) => kdepthc_any W g cap ws vs (H.ext x)
  have BE : (boundP cap ws vs p).1 = O + tailC R (ws.drop p.length) (vs.drop p.length) := by
    rw [bound_knapC hl hst, (st_roomC hst).1, (st_roomC hst).2]
  rw [BE]
  have OB := stP_out (ws := ws) (p := p) (room := cap) (out := 0) (fun x hx => sv x hx) hst
  have RB := stP_room (vs := vs) (p := p) (out := 0) (fun x hx => (sw x hx).1) hcap.1 hst
  have O1 : 0 ≤ O ∧ O ≤ 140000000000 := by
    have : (p.length : Int) ≤ 64 := by omega
    have h2 : 2147483647 * (p.length : Int) ≤ 2147483647 * 64 := Int.mul_le_mul_of_nonneg_left this (by omega)
    omega
  have S0 : Hid (∃ r, stP r 0 (ws.drop 0) (vs.drop 0) (p.drop 0) = some (R, O)) := ⟨cap, hst⟩
  obtain ⟨TT, T0⟩ : ∃ TT, Hid (TT = tailC R (ws.drop p.length) (vs.drop p.length)) := ⟨_, rfl⟩
  rw [← T0.out]
  obtain ⟨A, a, B, b, h1, rA, rB⟩ := H
  have c1 := h1.cell 1
  have c2 := h1.cell 2
  have z1 := h1.lt
  replace h1 := Lib.hid h1
  replace rA := Lib.hid rA
  replace rB := Lib.hid rB
  replace hP := Lib.hid hP
  replace sw := Lib.hid sw
  replace sv := Lib.hid sv
  replace LE := Lib.hid LE
  replace DE := Lib.hid DE
  replace hl := Lib.hid hl
  clear hst BE OB
  go_enter Try.func166, Try.ntmps166
  go_wp2_with (fail)
  go_loopw [5, 15] (fun v5 v15 wr => ∃ (k : Nat) (o : Int), v15 = .int .i64 k ∧ v5 = .int .i64 o ∧ k ≤ p.length ∧ 0 ≤ o ∧ o ≤ 2147483647 * k ∧ Hid (∃ r, stP r o (ws.drop k) (vs.drop k) (p.drop k) = some (R, O)) ∧ Hid (Ext w wr)) (fun _ v _ => p.length - (intOf v).toNat)
  case atStart => exact ⟨0, 0, rfl, rfl, by omega, by omega, by omega, S0, by (repeat (first | assumption | exact Ext.rf _ | apply Ext.drew | apply Ext.drewN | apply Ext.alloc))⟩
  case round =>
    obtain ⟨wo, rfl⟩ : ∃ wo : World, wo = wr := ⟨_, rfl⟩
    clear S0
    obtain ⟨k, o, rfl, rfl, hk, o0, o1, hS, Y⟩ := hrel
    by_cases hlt : k < p.length
    · obtain ⟨pb, po, x, rfl, zx, cx, ex, dx⟩ := (hP.out.ext Y.out).at (k := k) hlt
      obtain ⟨qb, qo, u, rfl, zu, cu, eu, du⟩ := (rB.out.ext Y.out).at (k := k) (by have := hl.out; omega)
      have q1 : (k : Int) < (p.length : Int) := by omega
      have q2 : (k : Int) < (vs.length : Int) := by have := hl.out; omega
      have bu := sv.out u (List.mem_of_getElem? eu.out)
      have t1 : wo.cell? ⟨g, 2, none⟩ = some (.slice (some ⟨qb, qo, none⟩) vs.length b) := keepEL Y.out z1 c2
      have hv : k < ws.length := by omega
      have ST : (x = 1 ∧ Hid (∃ r, stP r o (ws.drop (k + 1)) (vs.drop (k + 1)) (p.drop (k + 1)) = some (R, O))) ∨ (x = 0 ∧ Hid (∃ r, stP r (o + u) (ws.drop (k + 1)) (vs.drop (k + 1)) (p.drop (k + 1)) = some (R, O))) := by
        obtain ⟨r, h⟩ := hS.out
        rw [dx.out, du.out, List.drop_eq_getElem_cons hv] at h
        rcases stP_step h with ⟨g1, g2, g3⟩ | ⟨g1, _, g3⟩
        · exact .inl ⟨g1, _, g3⟩
        · exact .inr ⟨g1, _, g3⟩
      have k64 : (k : Int) ≤ 64 := by omega
      clear ex dx eu du hS
      rcases ST with ⟨rfl, g3⟩ | ⟨rfl, g3⟩
      · go_wp2_with (fail)
        go_roundw
        case rel => exact ⟨k + 1, o, by go_num, by go_num, by omega, by omega, by omega, g3, Y.out.tr (by (repeat (first | assumption | exact Ext.rf _ | apply Ext.drew | apply Ext.drewN | apply Ext.alloc)))⟩
        case measure => simp [intOf]; omega
      · go_wp2_with (fail)
        go_roundw
        case rel => exact ⟨k + 1, o + u, by go_num, by go_num, by omega, by omega, by omega, g3, Y.out.tr (by (repeat (first | assumption | exact Ext.rf _ | apply Ext.drew | apply Ext.drewN | apply Ext.alloc)))⟩
        case measure => simp [intOf]; omega
    · have E : o = O := by
        obtain ⟨r, h⟩ := hS.out
        rw [List.drop_of_length_le (l := p) (i := k) (by omega)] at h
        exact (stP_end h).2
      subst E
      clear hS
      go_wp2_with (fail)
      refine (LE.out _ (Y.out.tr (by (repeat (first | assumption | exact Ext.rf _ | apply Ext.drew | apply Ext.drewN | apply Ext.alloc))))).mono ?_
      rintro e w2 ⟨rfl, x2⟩
      have Y2 := Lib.hid (Y.out.tr (Ext.tr (by (repeat (first | assumption | exact Ext.rf _ | apply Ext.drew | apply Ext.drewN | apply Ext.alloc))) x2))
      clear x2 LE Y
      go_wp2_with (fail)
      go_loopw [5, 8, 9] (fun v5 v8 v9 wr => ∃ (n : Nat) (r : Int), v5 = .int .i64 o ∧ v9 = .int .i64 n ∧ v8 = .int .i64 r ∧ n ≤ ws.length ∧ 0 ≤ r ∧ r ≤ 2147483647 ∧ Hid (TT = tailC r (ws.drop n) (vs.drop n)) ∧ Hid (Ext w wr)) (fun _ _ v _ => ws.length - (intOf v).toNat)
      case atStart => exact ⟨p.length, R, rfl, rfl, rfl, by omega, by omega, by omega, T0, Y2⟩
      case round =>
        obtain ⟨wi, rfl⟩ : ∃ wi : World, wi = wr := ⟨_, rfl⟩
        clear T0 Y2
        obtain ⟨n, r, rfl, rfl, rfl, hn, r0, r1, hT, Y⟩ := hrel
        go_wp2_with (fail)
        refine (DE.out _ (Y.out.tr (by (repeat (first | assumption | exact Ext.rf _ | apply Ext.drew | apply Ext.drewN | apply Ext.alloc))))).mono ?_
        rintro e w3 ⟨rfl, x3⟩
        have Y3 := Lib.hid (Y.out.tr (Ext.tr (by (repeat (first | assumption | exact Ext.rf _ | apply Ext.drew | apply Ext.drewN | apply Ext.alloc))) x3))
        clear x3 Y
        by_cases hlt : n < ws.length
        · obtain ⟨qb, qo, u, rfl, zu, cu, eu, du⟩ := (rA.out.ext Y3.out).at (k := n) hlt
          obtain ⟨pb, po, v, rfl, zv, cv, ev, dv⟩ := (rB.out.ext Y3.out).at (k := n) (by have := hl.out; omega)
          have q1 : (n : Int) < (ws.length : Int) := by omega
          have q2 : (n : Int) < (vs.length : Int) := by have := hl.out; omega
          have bu := sw.out u (List.mem_of_getElem? eu.out)
          have bv := sv.out v (List.mem_of_getElem? ev.out)
          have zg : g < w3.heap.size := by have := Y3.out.size; omega
          have t1 : w3.cell? ⟨g, 1, none⟩ = some (.slice (some ⟨qb, qo, none⟩) ws.length a) := keepEL Y3.out z1 c1
          have t2 : w3.cell? ⟨g, 2, none⟩ = some (.slice (some ⟨pb, po, none⟩) vs.length b) := keepEL Y3.out z1 c2
          by_cases hu : u ≤ r
          · have HT : Hid (TT = tailC (r - u) (ws.drop (n + 1)) (vs.drop (n + 1))) := by
              have h : TT = tailC (r - u) (ws.drop (n + 1)) (vs.drop (n + 1)) := by
                rw [hT.out, du.out, dv.out, tailC, if_pos hu]
              exact h
            clear eu du ev dv hT
            go_wp2_with (fail)
            go_roundw
            case rel => exact ⟨n + 1, r - u, rfl, by go_num, by go_num, by omega, by omega, by omega, HT, Y3.out.tr (by (repeat (first | assumption | exact Ext.rf _ | apply Ext.drew | apply Ext.drewN | apply Ext.alloc)))⟩
            case measure => simp [intOf]; omega
          · have HT : Hid (TT = sumL (vs.drop n) - v * r / u) := by
              have h : TT = sumL (vs.drop n) - v * r / u := by
                rw [hT.out, du.out, dv.out, tailC, if_neg hu]
                rfl
              exact h
            have PA := Lib.hid (fun W => part_any v r u W bv ⟨r0, r1⟩ ⟨by omega, bu.2⟩)
            have hm := mul_bd bv.1 bv.2 r0 r1
            have hq : 0 ≤ v * r / u ∧ v * r / u ≤ v := by
              refine ⟨Int.ediv_nonneg hm.1 (by omega), ?_⟩
              have h1 : v * r ≤ v * u := Int.mul_le_mul_of_nonneg_left (by omega) bv.1
              have h2 := Int.ediv_le_ediv (show 0 < u by omega) h1
              rwa [Int.mul_ediv_cancel _ (by omega)] at h2
            generalize v * r / u = q at *
            obtain ⟨MV, M0⟩ : ∃ MV, Hid (MV = o - q + sumL (vs.drop n)) := ⟨_, rfl⟩
            have MH := M0
            clear hm eu du ev dv hT
            go_wp2_with (fail)
            go_region_held3 (fun w' => w'.cell? ⟨g, 1, none⟩ = some (.slice (some ⟨qb, qo, none⟩) ws.length a) ∧ w'.cell? ⟨g, 2, none⟩ = some (.slice (some ⟨pb, po, none⟩) vs.length b) ∧ w'.cell? ⟨qb, qo + n, none⟩ = some (.int .i64 u) ∧ w'.cell? ⟨pb, po + n, none⟩ = some (.int .i64 v)) (go_keep)
              (first | (go_at_call 170; refine (PA.out _).mono ?_; rintro e w4 ⟨rfl, x4⟩; have y4 := Ext.tr (a := w3) (by (repeat (first | assumption | exact Ext.rf _ | apply Ext.drew | apply Ext.drewN | apply Ext.alloc))) x4; have s1 := keepEL y4 zg t1; have s2 := keepEL y4 zg t2; have s3 := keepEL y4 zu cu; have s4 := keepEL y4 zv cv))
            all_goals
              have Y4 := Lib.hid (Y3.out.tr y4)
              clear s1 s2 s3 s4 t1 t2 cu cv y4 x4 Y3 PA zu zv zg
              go_wp2_with (fail)
              go_loopw [5, 12] (fun v5 v12 wr => ∃ (m : Nat) (d : Int), v12 = .int .i64 m ∧ v5 = .int .i64 d ∧ n ≤ m ∧ m ≤ ws.length ∧ -2147483647 ≤ d ∧ d ≤ 140000000000 + 2147483647 * m ∧ Hid (MV = d + sumL (vs.drop m)) ∧ Hid (Ext w wr)) (fun _ v _ => ws.length - (intOf v).toNat)
              case atStart => exact ⟨n, o - q, rfl, rfl, by omega, by omega, by omega, by omega, M0, Y4⟩
              case round =>
                obtain ⟨wj, rfl⟩ : ∃ wj : World, wj = wr := ⟨_, rfl⟩
                clear M0 Y4
                obtain ⟨m, d, rfl, rfl, hm0, hm1, d0, d1, hM, Y⟩ := hrel
                go_wp2_with (fail)
                refine (DE.out _ (Y.out.tr (by (repeat (first | assumption | exact Ext.rf _ | apply Ext.drew | apply Ext.drewN | apply Ext.alloc))))).mono ?_
                rintro e w5 ⟨rfl, x5⟩
                have Y5 := Lib.hid (Y.out.tr (Ext.tr (by (repeat (first | assumption | exact Ext.rf _ | apply Ext.drew | apply Ext.drewN | apply Ext.alloc))) x5))
                clear x5 Y
                by_cases hmt : m < ws.length
                · obtain ⟨pb2, po2, v2, hpp, zv2, cv2, ev2, dv2⟩ := (rB.out.ext Y5.out).at (k := m) (by have := hl.out; omega)
                  have hpp' : pb = pb2 ∧ po = po2 := by simpa using hpp
                  obtain ⟨rfl, rfl⟩ := hpp'
                  have r1 : (m : Int) < (ws.length : Int) := by omega
                  have r2 : (m : Int) < (vs.length : Int) := by have := hl.out; omega
                  have bv2 := sv.out v2 (List.mem_of_getElem? ev2.out)
                  have t2 : w5.cell? ⟨g, 2, none⟩ = some (.slice (some ⟨pb, po, none⟩) vs.length b) := keepEL Y5.out z1 c2
                  have HM : Hid (MV = d + v2 + sumL (vs.drop (m + 1))) := by
                    have h : MV = d + v2 + sumL (vs.drop (m + 1)) := by
                      rw [hM.out, dv2.out]
                      simp only [sumL]
                      omega
                    exact h
                  have m64 : (m : Int) ≤ 64 := by omega
                  clear ev2 dv2 hM hpp
                  go_wp2_with (fail)
                  go_roundw
                  case rel => exact ⟨m + 1, d + v2, by go_num, by go_num, by omega, by omega, by omega, by omega, HM, Y5.out.tr (by (repeat (first | assumption | exact Ext.rf _ | apply Ext.drew | apply Ext.drewN | apply Ext.alloc)))⟩
                  case measure => simp [intOf]; omega
                · have r1 : ¬ (m : Int) < (ws.length : Int) := by omega
                  have E : Hid (d = o + (sumL (vs.drop n) - q)) := by
                    have h : d = o + (sumL (vs.drop n) - q) := by
                      have h := hM.out
                      have h2 := MH.out
                      rw [List.drop_of_length_le (l := vs) (i := m) (by have := hl.out; omega)] at h
                      simp only [sumL] at h
                      omega
                    exact h
                  clear hM
                  go_wp2_with (fail)
                  go_ret
                  exact ⟨ret_i (by rw [HT.out]; exact E.out), Y5.out.tr (by (repeat (first | assumption | exact Ext.rf _ | apply Ext.drew | apply Ext.drewN | apply Ext.alloc)))⟩
        · have HE : Hid (TT = 0) := by
            have h : TT = 0 := by
              rw [hT.out, List.drop_of_length_le (by omega)]
              rfl
            exact h
          have q1 : ¬ (n : Int) < (ws.length : Int) := by omega
          clear hT
          go_wp2_with (fail)
          go_ret
          exact ⟨ret_i (by rw [HE.out, Int.add_zero]), Y3.out.tr (by (repeat (first | assumption | exact Ext.rf _ | apply Ext.drew | apply Ext.drewN | apply Ext.alloc)))⟩
end Go.Proofs.Ytcpadkaljnnieaa
namespace Go.Proofs.Ytcpadkaljnnieaa
open Go.RowKit Go.ChangeShapes Go.WideShapes Go.ChangeAt Go.Deep

/-- what weigh answers -/
def weighR (i : InstP) (x : List Int) : Int × Int × Int := if ∀ v ∈ x, v = 0 ∨ v = 1 then (if i.cap < takenL x i.weight then (0, 0, 9) else (leftL x i.value, takenL x i.value, 0)) else (0, 0, 1)
set_option maxRecDepth 100000 in
set_option maxHeartbeats 4000000 in
theorem weighc_any (i : InstP) (us : List Value) (P : Option Addr) (c : Nat) (x : List Int) (w : World) (H : RInst w us i) (ok : KnapOk i) (hP : RdI w P x) (lx : (x.length : Int) = i.n) :
    Calls Try.prog 101 #[.agg (List.toArray us), .slice P x.length c] w fun e w' => e = .returned (.tuple #[.int .i64 (weighR i x).1, .int .i64 (weighR i x).2.1, .int .i64 (weighR i x).2.2]) ∧ Ext w w' := by
  have k1 := ok.n1
  have k2 := ok.n2
  have k3 := ok.w
  have k4 := ok.v
  have k6 := Lib.hid ok.sw
  have k7 := Lib.hid ok.sv
  have k8 := ok.cap
  clear ok
  obtain ⟨RES, hR⟩ : ∃ RES, Hid (weighR i x = RES) := ⟨_, rfl⟩
  rw [hR.out]
  obtain ⟨kind, nn, cap, xw, xv, co⟩ := i
  unfold weighR at hR
  obtain ⟨A, a, B, b, D, d, rfl, ⟨rA, iA, lA, mA⟩, ⟨rB, iB, lB, mB⟩, -⟩ := H
  simp only at *
  obtain ⟨n, rfl⟩ : ∃ n : Nat, nn = (n : Int) := ⟨nn.toNat, by omega⟩
  have lxn : x.length = n := by omega
  have lwn : xw.length = n := by omega
  have lvn : xv.length = n := by omega
  have hn2 : n ≤ 64 := by omega
  replace lwn := Lib.hid lwn
  replace lvn := Lib.hid lvn
  replace lxn := Lib.hid lxn
  clear lx k3 k4
  have W1 : ∀ k v u, x[k]? = some v → xw[k]? = some u → takenL (x.take (k + 1)) xw = takenL (x.take k) xw + if v = 1 then u else 0 := fun k v u h1 h2 => sumZip_take _ k x xw h1 h2
  have T1 : ∀ k v u, x[k]? = some v → xv[k]? = some u → takenL (x.take (k + 1)) xv = takenL (x.take k) xv + if v = 1 then u else 0 := fun k v u h1 h2 => sumZip_take _ k x xv h1 h2
  have V1 : ∀ k v u, x[k]? = some v → xv[k]? = some u → leftL (x.take (k + 1)) xv = leftL (x.take k) xv + if v = 1 then 0 else u := fun k v u h1 h2 => sumZip_take _ k x xv h1 h2
  replace W1 := Lib.hid W1
  replace T1 := Lib.hid T1
  replace V1 := Lib.hid V1
  replace rA := Lib.hid rA
  replace rB := Lib.hid rB
  replace hP := Lib.hid hP
  replace iA := Lib.hid iA
  replace iB := Lib.hid iB
  have B1 : Hid (Blk (w.alloc (.cells #[.int .i64 kind, .int .i64 n, .int .i64 cap, .slice A xw.length a, .slice B xv.length b, .slice D co.length d] 61)) w.heap.size 61 #[.int .i64 kind, .int .i64 n, .int .i64 cap, .slice A xw.length a, .slice B xv.length b, .slice D co.length d]) := .new rfl
  have bW : ∀ k, k ≤ n → 0 ≤ takenL (x.take k) xw ∧ takenL (x.take k) xw ≤ 2147483647 * (k : Int) := by
    intro k
    induction k with
    | zero => intro _; simp [takenL, sumL]
    | succ k ih =>
      intro hk
      have h0 := ih (by omega)
      have h8 : k < x.length := by rw [lxn.out]; omega
      have e1 : x[k]? = some x[k] := List.getElem?_eq_getElem h8
      have h9 : k < xw.length := by rw [lwn.out]; omega
      have e2 : xw[k]? = some xw[k] := List.getElem?_eq_getElem h9
      have h1 := W1.out k _ _ e1 e2
      have h2 := k6.out.get e2
      rw [h1]
      split <;> omega
  have bT : ∀ k, k ≤ n → 0 ≤ takenL (x.take k) xv ∧ takenL (x.take k) xv ≤ 2147483647 * (k : Int) := by
    intro k
    induction k with
    | zero => intro _; simp [takenL, sumL]
    | succ k ih =>
      intro hk
      have h0 := ih (by omega)
      have h8 : k < x.length := by rw [lxn.out]; omega
      have e1 : x[k]? = some x[k] := List.getElem?_eq_getElem h8
      have h9 : k < xv.length := by rw [lvn.out]; omega
      have e2 : xv[k]? = some xv[k] := List.getElem?_eq_getElem h9
      have h1 := T1.out k _ _ e1 e2
      have h2 := k7.out.get e2
      rw [h1]
      split <;> omega
  have bV : ∀ k, k ≤ n → 0 ≤ leftL (x.take k) xv ∧ leftL (x.take k) xv ≤ 2147483647 * (k : Int) := by
    intro k
    induction k with
    | zero => intro _; simp [leftL, sumL]
    | succ k ih =>
      intro hk
      have h0 := ih (by omega)
      have h8 : k < x.length := by rw [lxn.out]; omega
      have e1 : x[k]? = some x[k] := List.getElem?_eq_getElem h8
      have h9 : k < xv.length := by rw [lvn.out]; omega
      have e2 : xv[k]? = some xv[k] := List.getElem?_eq_getElem h9
      have h1 := V1.out k _ _ e1 e2
      have h2 := k7.out.get e2
      rw [h1]
      split <;> omega
  replace bW := Lib.hid bW
  replace bV := Lib.hid bV
  replace bT := Lib.hid bT
  have exn : (x.length : Int) = (n : Int) := by rw [lxn.out]
  replace exn := Lib.hid exn
  rw [lxn.out]
  go_enter Try.func101, Try.ntmps101
  go_wp2_with (fail)
  go_loopw [4, 5, 6, 7, 12] (fun s4 s5 s6 s7 v wr => ∃ (k : Nat) (cc vv ww : Int), v = .int .i64 k ∧ s4 = .int .i64 cc ∧ s5 = .int .i64 vv ∧ s6 = .int .i64 0 ∧ s7 = .int .i64 ww ∧ k ≤ n ∧ Hid (cc = leftL (x.take k) xv ∧ vv = takenL (x.take k) xv ∧ ww = takenL (x.take k) xw) ∧ Hid (∀ j y, j < k → x[j]? = some y → y = 0 ∨ y = 1) ∧ Hid (Ext (w.alloc (.cells #[.int .i64 kind, .int .i64 n, .int .i64 cap, .slice A xw.length a, .slice B xv.length b, .slice D co.length d] 61)) wr)) (fun _ _ _ _ v _ => n - (intOf v).toNat)
  case atStart => exact ⟨0, 0, 0, 0, rfl, rfl, rfl, rfl, rfl, by omega, (by exact (show (0 : Int) = leftL (x.take 0) xv ∧ (0 : Int) = takenL (x.take 0) xv ∧ (0 : Int) = takenL (x.take 0) xw from ⟨rfl, rfl, rfl⟩)), (fun j y h => by omega), by (repeat (first | assumption | exact Ext.rf _ | apply Ext.drew | apply Ext.drewN | apply Ext.alloc))⟩
  case round =>
    obtain ⟨wo, rfl⟩ : ∃ wo : World, wo = wr := ⟨_, rfl⟩
    obtain ⟨k, cc, vv, ww, rfl, rfl, rfl, rfl, rfl, hk, HV, HG, Y⟩ := hrel
    have BB := Lib.hid (B1.out.ext Y.out)
    have d2 : wo.cell? ⟨w.heap.size, 2, none⟩ = some (.int .i64 cap) := BB.out.cell 2
    have d3 : wo.cell? ⟨w.heap.size, 3, none⟩ = some (.slice A xw.length a) := BB.out.cell 3
    have d4 : wo.cell? ⟨w.heap.size, 4, none⟩ = some (.slice B xv.length b) := BB.out.cell 4
    have X := Lib.hid (Ext.tr (a := w) (by (repeat (first | assumption | exact Ext.rf _ | apply Ext.drew | apply Ext.drewN | apply Ext.alloc))) Y.out)
    have tw := bW.out k hk
    have tv := bV.out k hk
    have tt := bT.out k hk
    rw [← HV.out.2.2] at tw
    rw [← HV.out.1] at tv
    rw [← HV.out.2.1] at tt
    by_cases hlt : k < n
    · obtain ⟨pb, po, y, rfl, zy, cy, ey, _⟩ := (hP.out.ext X.out).at (k := k) (by rw [lxn.out]; exact hlt)
      obtain ⟨ab, ao, u, rfl, zu, cu, eu, _⟩ := (rA.out.ext X.out).at (k := k) (by rw [lwn.out]; exact hlt)
      obtain ⟨vb, vo, v, rfl, zv, cv, ev, _⟩ := (rB.out.ext X.out).at (k := k) (by rw [lvn.out]; exact hlt)
      have sW := W1.out k y u ey.out eu.out
      have sV := V1.out k y v ey.out ev.out
      have sT := T1.out k y v ey.out ev.out
      rw [← HV.out.2.2] at sW
      rw [← HV.out.1] at sV
      rw [← HV.out.2.1] at sT
      have bu := k6.out.get eu.out
      have bv := k7.out.get ev.out
      have q1 : (k : Int) < (n : Int) := by omega
      have q2 : (k : Int) < (xw.length : Int) := by rw [lwn.out]; exact q1
      have q3 : (k : Int) < (xv.length : Int) := by rw [lvn.out]; exact q1
      have hkn : (k : Int) ≤ 64 := by omega
      by_cases h0 : y = 0
      · subst h0
        have NV : Hid (cc + v = leftL (x.take (k + 1)) xv ∧ vv = takenL (x.take (k + 1)) xv ∧ ww = takenL (x.take (k + 1)) xw) := by
          have h : cc + v = leftL (x.take (k + 1)) xv ∧ vv = takenL (x.take (k + 1)) xv ∧ ww = takenL (x.take (k + 1)) xw := by
            rw [sW, sV, sT]; simp
          exact h
        have NG : Hid (∀ j y, j < k + 1 → x[j]? = some y → y = 0 ∨ y = 1) := fun j y h1 h2 => by
          by_cases hj : j = k
          · subst hj
            rw [ey.out] at h2
            exact .inl (Option.some.inj h2).symm
          · exact HG.out j y (by omega) h2
        clear ey eu ev sW sV sT HV HG
        go_wp2_with (fail)
        go_roundw
        case rel => exact ⟨k + 1, cc + v, vv, ww, by go_num, by go_num, rfl, rfl, rfl, by omega, NV, NG, Y.out.tr (by (repeat (first | assumption | exact Ext.rf _ | apply Ext.drew | apply Ext.drewN | apply Ext.alloc)))⟩
        case measure => simp [intOf]; omega
      · by_cases h1 : y = 1
        · subst h1
          have NV : Hid (cc = leftL (x.take (k + 1)) xv ∧ vv + v = takenL (x.take (k + 1)) xv ∧ ww + u = takenL (x.take (k + 1)) xw) := by
            have h : cc = leftL (x.take (k + 1)) xv ∧ vv + v = takenL (x.take (k + 1)) xv ∧ ww + u = takenL (x.take (k + 1)) xw := by
              rw [sW, sV, sT]; simp
            exact h
          have NG : Hid (∀ j y, j < k + 1 → x[j]? = some y → y = 0 ∨ y = 1) := fun j y h1 h2 => by
            by_cases hj : j = k
            · subst hj
              rw [ey.out] at h2
              exact .inr (Option.some.inj h2).symm
            · exact HG.out j y (by omega) h2
          clear ey eu ev sW sV sT HV HG h0
          go_wp2_with (fail)
          go_roundw
          case rel => exact ⟨k + 1, cc, vv + v, ww + u, by go_num, rfl, by go_num, rfl, by go_num, by omega, NV, NG, Y.out.tr (by (repeat (first | assumption | exact Ext.rf _ | apply Ext.drew | apply Ext.drewN | apply Ext.alloc)))⟩
          case measure => simp [intOf]; omega
        · have E : RES = (0, 0, 1) := by
            have h := hR.out
            rw [if_neg (fun h => by
              have := h y (List.mem_of_getElem? ey.out)
              omega)] at h
            exact h.symm
          subst E
          clear ey eu ev sW sV sT HV HG
          go_wp2_with (fail)
          go_ret3
          exact ⟨rfl, X.out.tr (by (repeat (first | assumption | exact Ext.rf _ | apply Ext.drew | apply Ext.drewN | apply Ext.alloc)))⟩
    · obtain rfl : k = n := by omega
      have hall : ∀ v ∈ x, v = 0 ∨ v = 1 := fun v hv => by
        obtain ⟨j, hj, e⟩ := List.getElem_of_mem hv
        exact HG.out j v (by rw [← lxn.out]; exact hj) (by rw [List.getElem?_eq_getElem hj, e])
      have HV2 := HV.out
      have h := hR.out
      rw [if_pos hall] at h
      rw [← lxn.out, List.take_length] at HV2
      rw [← HV2.1, ← HV2.2.1, ← HV2.2.2] at h
      by_cases hf : cap < ww
      · rw [if_pos hf] at h
        subst h
        clear HV HV2 HG hall
        go_wp2_with (fail)
        go_ret3
        exact ⟨rfl, X.out.tr (by (repeat (first | assumption | exact Ext.rf _ | apply Ext.drew | apply Ext.drewN | apply Ext.alloc)))⟩
      · rw [if_neg hf] at h
        subst h
        clear HV HV2 HG hall
        go_wp2_with (fail)
        go_ret3
        exact ⟨rfl, X.out.tr (by (repeat (first | assumption | exact Ext.rf _ | apply Ext.drew | apply Ext.drewN | apply Ext.alloc)))⟩
end Go.Proofs.Ytcpadkaljnnieaa
namespace Go.Proofs.Ytcpadkaljnnieaa
open Go.RowKit Go.ChangeShapes Go.WideShapes Go.ChangeAt Go.Deep

/-- what answer answers -/
def answR (i : InstP) (x : List Int) : Int × Int × Int := if (costG i x).2 = 0 then ((costG i x).1, ofG i (costG i x).1, 0) else (0, 0, (costG i x).2)
theorem answ_weigh {i : InstP} {x : List Int} (hc : checkP i = 0) (hk : i.kind = 1) (hl : (x.length : Int) = i.n) : answR i x = weighR i x := by
  have ok := knap_ok hc hk
  have k4 := ok.v
  by_cases h : ∀ v ∈ x, v = 0 ∨ v = 1
  · have e : costG i x = costP i.cap i.weight i.value x := by
      unfold costG
      rw [if_neg (fun h => h hc), if_pos hk, if_pos ⟨hl, h⟩]
    unfold answR weighR ofG
    rw [e, if_pos h]
    unfold costP
    by_cases h2 : i.cap < takenL x i.weight
    · simp [h2]
    · simp only [h2, if_false, if_true, hk]
      rw [taken_left x i.value (by omega)]
  · have e : costG i x = (0, 1) := by
      unfold costG
      rw [if_neg (fun h => h hc), if_pos hk, if_neg (fun q => h q.2)]
    unfold answR weighR
    rw [e, if_neg h]
    rfl
theorem answ_len {i : InstP} {x : List Int} (hc : checkP i = 0) (hl : ¬ (x.length : Int) = i.n) : answR i x = (0, 0, 1) := by
  have e : costG i x = (0, 1) := by
    unfold costG
    rw [if_neg (fun h => h hc)]
    by_cases hk : i.kind = 1
    · rw [if_pos hk, if_neg (fun h => hl h.1)]
    · have sq := square_ok hc hk
      rw [if_neg hk, if_neg]
      rintro ⟨h, _⟩
      obtain ⟨l, rfl, hp⟩ := permB_iff.1 h
      have := hp.length_eq
      rw [List.length_range] at this
      rw [intsN_len] at hl
      have := sq.len
      omega
  unfold answR
  rw [e]; rfl
theorem answ_perm {i : InstP} {x : List Int} (hc : checkP i = 0) (hk : i.kind ≠ 1) (hp : permB x i.cost.length = false) : answR i x = (0, 0, 1) := by
  have e : costG i x = (0, 1) := by
    unfold costG
    rw [if_neg (fun h => h hc), if_neg hk, if_neg (fun h => by rw [hp] at h; cases h.1)]
  unfold answR
  rw [e]; rfl
theorem answ_two {i : InstP} {x : List Int} (hc : checkP i = 0) (hk : i.kind = 2) (hp : permB x i.cost.length = true) : answR i x = (costF i.cost x, costF i.cost x, 0) := by
  have e : costG i x = (costF i.cost x, 0) := by
    unfold costG
    rw [if_neg (fun h => h hc), if_neg (by omega), if_pos ⟨hp, fun h => by omega⟩, if_pos hk]
  unfold answR ofG
  rw [e, if_pos rfl, if_neg (by omega)]
theorem answ_first {i : InstP} {x : List Int} (hc : checkP i = 0) (hk : i.kind = 3) (hx : ¬ x[0]? = some 0) : answR i x = (0, 0, 1) := by
  have e : costG i x = (0, 1) := by
    unfold costG
    rw [if_neg (fun h => h hc), if_neg (by omega), if_neg (fun h => hx (h.2 hk))]
  unfold answR
  rw [e]; rfl
theorem answ_three {i : InstP} {x : List Int} (hc : checkP i = 0) (hk : i.kind = 3) (hp : permB x i.cost.length = true) (hx : x[0]? = some 0) : answR i x = (pathT i.cost 0 (x.tail.map Int.toNat), pathT i.cost 0 (x.tail.map Int.toNat), 0) := by
  have e : costG i x = (pathT i.cost 0 (x.tail.map Int.toNat), 0) := by
    unfold costG
    rw [if_neg (fun h => h hc), if_neg (by omega), if_pos ⟨hp, fun _ => hx⟩, if_neg (by omega)]
  unfold answR ofG
  rw [e, if_pos rfl, if_neg (by omega)]
set_option maxRecDepth 100000 in
set_option maxHeartbeats 4000000 in
theorem answer2c_any (i : InstP) (us : List Value) (P : Option Addr) (c : Nat) (x : List Int) (w : World) (H : RInst w us i) (hc : checkP i = 0) (hk : i.kind = 2) (hP : RdI w P x) (lx : (x.length : Int) = i.n) (lc : x.length ≤ c) (mc : c ≤ maxLen) :
    Calls Try.prog 63 #[.agg (List.toArray us), .slice P x.length c] w fun e w' => e = .returned (.tuple #[.int .i64 (answR i x).1, .int .i64 (answR i x).2.1, .int .i64 (answR i x).2.2]) ∧ Ext w w' := by
  have sq := square_ok hc (by omega)
  have rok := rows_ok sq
  have l1 := rok.n1
  have l2 := rok.n2
  have PW := Lib.hid (perm_walk (x := x) (n := i.cost.length) (by have := sq.len; omega))
  have NP := Lib.hid (fun h : permB x i.cost.length = false => answ_perm (x := x) hc (by omega) h)
  have YES := Lib.hid (fun h : permB x i.cost.length = true => answ_two (x := x) hc (by omega) h)
  have hnn : i.n = (i.cost.length : Int) := sq.len.symm
  obtain ⟨RES, hR⟩ : ∃ RES, Hid (answR i x = RES) := ⟨_, rfl⟩
  rw [hR.out] at NP YES ⊢
  clear hc sq hR
  obtain ⟨kind, nn, cap, xw, xv, co⟩ := i
  obtain ⟨A, a, B, b, D, d, rfl, -, -, hC, hC1, hC2⟩ := H
  simp only at *
  subst hk hnn
  have lxn : x.length = co.length := by omega
  replace lxn := Lib.hid lxn
  rw [lxn.out] at lc ⊢
  unfold maxLen at mc hC2
  clear lx
  have AB := fun (W : World) (y : Ext w W) (k : Nat) (v : Int) (hk : k ≤ co.length) => by
    have h := absent_any P c (x.take k) v W ((hP.ext y).take k) (by rw [List.length_take]; omega)
    rw [List.length_take, lxn.out, Nat.min_eq_left hk] at h
    exact h
  obtain ⟨pb, po, x0, rfl, zp0, cp0, ep0, _⟩ := hP.at (k := 0) (by rw [lxn.out]; omega)
  rw [Nat.add_zero] at cp0
  obtain ⟨cb, cof, _, _, _, rfl, _, _⟩ := cost_at rok hC (r := 0) (c := 0) (by omega) (by omega)
  have num := ends_num rok
  have CA := Lib.hid (fun (W : World) (x : Ext w W) (r c : Nat) (hr : r < co.length) (hc : c < co.length) => cost_in rok (hC.ext x fun _ _ h => h.ext x) hr hc)
  replace AB := Lib.hid AB
  replace hP := Lib.hid hP
  replace hC := Lib.hid hC
  replace rok := Lib.hid rok
  replace num := Lib.hid num
  replace hC1 := Lib.hid hC1
  obtain ⟨wb, hwb⟩ : ∃ wb, Hid (wb = w.alloc (.cells #[.int .i64 2, .int .i64 co.length, .int .i64 cap, .slice A xw.length a, .slice B xv.length b, .slice (some ⟨cb, cof, none⟩) co.length d] 61)) := ⟨_, rfl⟩
  have XB : Hid (Ext w wb) := by
    have h : Ext w wb := by rw [hwb.out]; exact (Ext.rf w).alloc _
    exact h
  have B1 : Hid (Blk wb w.heap.size 61 #[.int .i64 2, .int .i64 co.length, .int .i64 cap, .slice A xw.length a, .slice B xv.length b, .slice (some ⟨cb, cof, none⟩) co.length d]) := by
    have h : Blk wb w.heap.size 61 #[.int .i64 2, .int .i64 co.length, .int .i64 cap, .slice A xw.length a, .slice B xv.length b, .slice (some ⟨cb, cof, none⟩) co.length d] := by rw [hwb.out]; exact .new rfl
    exact h
  have q00 : (0 : Int) < (co.length : Int) := by omega
  have i0 : 0 < co.length := by omega
  go_enter Try.func63, Try.ntmps63
  go_wp2_with (fail)
  rw [← hwb.out]
  go_loopw [4, 5, 6, 27] (fun s4 s5 s6 v wr => ∃ k : Nat, v = .int .i64 k ∧ s4 = .int .i64 0 ∧ s5 = .int .i64 0 ∧ s6 = .int .i64 0 ∧ k ≤ co.length ∧ Hid (∀ j y, j < k → x[j]? = some y → (0 ≤ y ∧ y < (co.length : Int)) ∧ (x.take j).contains y = false) ∧ Hid (Ext wb wr)) (fun _ _ _ v _ => co.length - (intOf v).toNat)
  case atStart => exact ⟨0, rfl, rfl, rfl, rfl, by omega, (fun j y h => by omega), by (repeat (first | assumption | exact Ext.rf _ | apply Ext.drew | apply Ext.drewN | apply Ext.alloc))⟩
  case round =>
    obtain ⟨wo, rfl⟩ : ∃ wo : World, wo = wr := ⟨_, rfl⟩
    obtain ⟨k, rfl, rfl, rfl, rfl, hk, HG, Y⟩ := hrel
    have X := Lib.hid (XB.out.tr Y.out)
    have BB := Lib.hid (B1.out.ext Y.out)
    have d0 : wo.cell? ⟨w.heap.size, 0, none⟩ = some (.int .i64 2) := BB.out.cell 0
    have d1 : wo.cell? ⟨w.heap.size, 1, none⟩ = some (.int .i64 co.length) := BB.out.cell 1
    by_cases hlt : k < co.length
    · obtain ⟨pb', po', y, hPq, zpk, cpk, epk, _⟩ := (hP.out.ext X.out).at (k := k) (by rw [lxn.out]; exact hlt)
      obtain ⟨rfl, rfl⟩ : pb = pb' ∧ po = po' := by simpa using hPq
      have q1 : (k : Int) < (co.length : Int) := by omega
      have FAIL : Hid (¬ ((0 ≤ y ∧ y < (co.length : Int)) ∧ (x.take k).contains y = false) → RES = (0, 0, 1)) := fun h => by
        refine NP.out ?_
        cases hb : permB x co.length with
        | false => rfl
        | true => exact absurd (PW.out.1 hb k y epk.out) h
      clear hPq
      by_cases hy0 : y < 0
      · obtain rfl := FAIL.out (fun h => by omega)
        have e1 : decide (y < 0) = true := decide_eq_true hy0
        clear epk FAIL
        go_wp2_with (fail)
        go_ret3
        exact ⟨rfl, X.out.tr (by (repeat (first | assumption | exact Ext.rf _ | apply Ext.drew | apply Ext.drewN | apply Ext.alloc)))⟩
      · have e1 : decide (y < 0) = false := decide_eq_false hy0
        by_cases hyn : (co.length : Int) ≤ y
        · obtain rfl := FAIL.out (fun h => by omega)
          have e2 : decide ((co.length : Int) ≤ y) = true := decide_eq_true hyn
          clear epk FAIL
          go_wp2_with (fail)
          go_ret3
          exact ⟨rfl, X.out.tr (by (repeat (first | assumption | exact Ext.rf _ | apply Ext.drew | apply Ext.drewN | apply Ext.alloc)))⟩
        · have e2 : decide ((co.length : Int) ≤ y) = false := decide_eq_false hyn
          have ABk := Lib.hid (fun (W : World) (yy : Ext wo W) => AB.out W (X.out.tr yy) k y (by omega))
          have lck : (k : Int) ≤ (c : Int) := by omega
          obtain ⟨bb, hbb⟩ : ∃ bb, Hid ((x.take k).contains y = bb) := ⟨_, rfl⟩
          rw [hbb.out] at ABk FAIL
          cases bb with
          | true =>
            obtain rfl := FAIL.out (fun h => by cases h.2)
            clear epk FAIL
            go_wp2_with (fail)
            refine (ABk.out _ (by (repeat (first | assumption | exact Ext.rf _ | apply Ext.drew | apply Ext.drewN | apply Ext.alloc)))).mono ?_
            rintro e w2 ⟨rfl, x2⟩
            have X2 := Lib.hid (Ext.tr (a := wo) (by (repeat (first | assumption | exact Ext.rf _ | apply Ext.drew | apply Ext.drewN | apply Ext.alloc))) x2)
            clear x2
            go_wp2_with (fail)
            go_ret3
            exact ⟨rfl, X.out.tr (X2.out.tr (by (repeat (first | assumption | exact Ext.rf _ | apply Ext.drew | apply Ext.drewN | apply Ext.alloc))))⟩
          | false =>
            have NG : Hid (∀ j z, j < k + 1 → x[j]? = some z → (0 ≤ z ∧ z < (co.length : Int)) ∧ (x.take j).contains z = false) := fun j z h1 h2 => by
              by_cases hj : j = k
              · subst hj
                rw [epk.out] at h2
                obtain rfl := Option.some.inj h2
                exact ⟨by omega, hbb.out⟩
              · exact HG.out j z (by omega) h2
            clear epk FAIL
            go_wp2_with (fail)
            refine (ABk.out _ (by (repeat (first | assumption | exact Ext.rf _ | apply Ext.drew | apply Ext.drewN | apply Ext.alloc)))).mono ?_
            rintro e w2 ⟨rfl, x2⟩
            have X2 := Lib.hid (Ext.tr (a := wo) (by (repeat (first | assumption | exact Ext.rf _ | apply Ext.drew | apply Ext.drewN | apply Ext.alloc))) x2)
            clear x2
            go_wp2_with (fail)
            go_roundw
            case rel => exact ⟨k + 1, by go_num, rfl, rfl, rfl, by omega, NG, Y.out.tr (X2.out.tr (by (repeat (first | assumption | exact Ext.rf _ | apply Ext.drew | apply Ext.drewN | apply Ext.alloc))))⟩
            case measure => simp [intOf]; omega
    · obtain rfl : k = co.length := by omega
      have PT : permB x co.length = true := PW.out.2 fun j v hj => HG.out j v (by rw [← lxn.out]; exact (List.getElem?_eq_some_iff.1 hj).1) hj
      have p0 : wo.cell? ⟨pb, po, none⟩ = some (.int .i64 x0) := keepEL X.out zp0 cp0
      obtain rfl := YES.out PT
      have hin : Hid (∀ c ∈ x, 0 ≤ c ∧ c < (co.length : Int)) := fun c hc => by
        obtain ⟨j, hj, e⟩ := List.getElem_of_mem hc
        exact (HG.out j c (by rw [← lxn.out]; exact hj) (by rw [List.getElem?_eq_getElem hj, e])).1
      clear HG PT NP YES PW
      go_wp2_with (fail)
      go_loopw [4, 60] (fun s v wr => ∃ (k : Nat) (su : Int), v = .int .i64 k ∧ s = .int .i64 su ∧ k ≤ co.length ∧ Hid (costF co (x.take k) = su) ∧ Hid (Ext wo wr)) (fun _ v _ => co.length - (intOf v).toNat)
      case atStart => exact ⟨0, 0, rfl, rfl, by omega, (by cases co <;> rfl : costF co (x.take 0) = 0), by (repeat (first | assumption | exact Ext.rf _ | apply Ext.drew | apply Ext.drewN | apply Ext.alloc))⟩
      case round =>
        obtain ⟨wi, rfl⟩ : ∃ wi : World, wi = wr := ⟨_, rfl⟩
        obtain ⟨k, su, rfl, rfl, hk, HS, YI⟩ := hrel
        clear d0 d1
        have X2 := Lib.hid (X.out.tr YI.out)
        have d0 : wi.cell? ⟨w.heap.size, 0, none⟩ = some (.int .i64 2) := (BB.out.ext YI.out).cell 0
        have d5 : wi.cell? ⟨w.heap.size, 5, none⟩ = some (.slice (some ⟨cb, cof, none⟩) co.length d) := (BB.out.ext YI.out).cell 5
        have bdS : 0 ≤ su ∧ su ≤ 2147483647 * 24 := by
          have h1 := costF_bd (B := 2147483647) (rows := co) (p := x.take k) (by omega) fun row hr c hc => by
            have := hin.out c (List.mem_of_mem_take hc)
            exact rok.out.get hr (by omega)
          have h2 : (x.take k).length ≤ 24 := by rw [List.length_take, lxn.out]; omega
          rw [← HS.out]
          omega
        by_cases hlt : k < co.length
        · obtain ⟨pb', po', y, hPq, zpk, cpk, epk, _⟩ := (hP.out.ext X2.out).at (k := k) (by rw [lxn.out]; exact hlt)
          obtain ⟨rfl, rfl⟩ : pb = pb' ∧ po = po' := by simpa using hPq
          have hy := hin.out y (List.mem_of_getElem? epk.out)
          obtain ⟨u, rfl⟩ : ∃ u : Nat, y = (u : Int) := ⟨y.toNat, by omega⟩
          have hun : u < co.length := by omega
          obtain ⟨rb, ro, d', c1, c2⟩ := CA.out _ X2.out k u hlt hun
          have nu := num.out k u hlt hun
          obtain ⟨z, hz⟩ : ∃ z, Hid (costAt co k u = z) := ⟨_, rfl⟩
          rw [hz.out] at c2 nu
          have HS2 : Hid (costF co (x.take (k + 1)) = su + z) := by
            have h : costF co (x.take (k + 1)) = su + z := by
              rw [costF_snoc (List.getElem?_eq_getElem hlt) epk.out, HS.out, Int.toNat_natCast, ← hz.out]
              unfold costAt
              simp [List.getD, List.getElem?_eq_getElem hlt]
            exact h
          have q1 : (k : Int) < (co.length : Int) := by omega
          have q2 : (u : Int) < (co.length : Int) := by omega
          clear epk hPq HS hy
          go_wp2_with (fail)
          go_roundw
          case rel => exact ⟨k + 1, su + z, by go_num, by go_num, by omega, HS2, YI.out.tr (by (repeat (first | assumption | exact Ext.rf _ | apply Ext.drew | apply Ext.drewN | apply Ext.alloc)))⟩
          case measure => simp [intOf]; omega
        · obtain rfl : k = co.length := by omega
          have HS2 : Hid (su = costF co x) := by
            have h := HS.out
            rw [← lxn.out, List.take_length] at h
            exact h.symm
          clear HS
          go_wp2_with (fail)
          go_ret3
          rw [← HS2.out]
          exact ⟨rfl, X2.out.tr (by (repeat (first | assumption | exact Ext.rf _ | apply Ext.drew | apply Ext.drewN | apply Ext.alloc)))⟩
end Go.Proofs.Ytcpadkaljnnieaa
namespace Go.Proofs.Ytcpadkaljnnieaa
open Go.RowKit Go.ChangeShapes Go.WideShapes Go.ChangeAt Go.Deep

set_option maxRecDepth 100000 in
set_option maxHeartbeats 4000000 in
theorem answer3c_any (i : InstP) (us : List Value) (P : Option Addr) (c : Nat) (x : List Int) (w : World) (H : RInst w us i) (hc : checkP i = 0) (hk : i.kind = 3) (hP : RdI w P x) (lx : (x.length : Int) = i.n) (lc : x.length ≤ c) (mc : c ≤ maxLen) :
    Calls Try.prog 63 #[.agg (List.toArray us), .slice P x.length c] w fun e w' => e = .returned (.tuple #[.int .i64 (answR i x).1, .int .i64 (answR i x).2.1, .int .i64 (answR i x).2.2]) ∧ Ext w w' := by
  have sq := square_ok hc (by omega)
  have rok := rows_ok sq
  have l1 := rok.n1
  have l2 := rok.n2
  have PW := Lib.hid (perm_walk (x := x) (n := i.cost.length) (by have := sq.len; omega))
  have NP := Lib.hid (fun h : permB x i.cost.length = false => answ_perm (x := x) hc (by omega) h)
  have YES := Lib.hid (fun (h : permB x i.cost.length = true) (h2 : x[0]? = some 0) => answ_three (x := x) hc (by omega) h h2)
  have NF := Lib.hid (fun h : ¬ x[0]? = some 0 => answ_first (x := x) hc (by omega) h)
  have hnn : i.n = (i.cost.length : Int) := sq.len.symm
  obtain ⟨RES, hR⟩ : ∃ RES, Hid (answR i x = RES) := ⟨_, rfl⟩
  rw [hR.out] at NP YES NF ⊢
  clear hc sq hR
  obtain ⟨kind, nn, cap, xw, xv, co⟩ := i
  obtain ⟨A, a, B, b, D, d, rfl, -, -, hC, hC1, hC2⟩ := H
  simp only at *
  subst hk hnn
  have lxn : x.length = co.length := by omega
  replace lxn := Lib.hid lxn
  rw [lxn.out] at lc ⊢
  unfold maxLen at mc hC2
  clear lx
  have AB := fun (W : World) (y : Ext w W) (k : Nat) (v : Int) (hk : k ≤ co.length) => by
    have h := absent_any P c (x.take k) v W ((hP.ext y).take k) (by rw [List.length_take]; omega)
    rw [List.length_take, lxn.out, Nat.min_eq_left hk] at h
    exact h
  obtain ⟨pb, po, x0, rfl, zp0, cp0, ep0, _⟩ := hP.at (k := 0) (by rw [lxn.out]; omega)
  rw [Nat.add_zero] at cp0
  obtain ⟨cb, cof, _, _, _, rfl, _, _⟩ := cost_at rok hC (r := 0) (c := 0) (by omega) (by omega)
  have num := ends_num rok
  have CA := Lib.hid (fun (W : World) (x : Ext w W) (r c : Nat) (hr : r < co.length) (hc : c < co.length) => cost_in rok (hC.ext x fun _ _ h => h.ext x) hr hc)
  replace AB := Lib.hid AB
  replace hP := Lib.hid hP
  replace hC := Lib.hid hC
  replace rok := Lib.hid rok
  replace num := Lib.hid num
  replace hC1 := Lib.hid hC1
  obtain ⟨wb, hwb⟩ : ∃ wb, Hid (wb = w.alloc (.cells #[.int .i64 3, .int .i64 co.length, .int .i64 cap, .slice A xw.length a, .slice B xv.length b, .slice (some ⟨cb, cof, none⟩) co.length d] 61)) := ⟨_, rfl⟩
  have XB : Hid (Ext w wb) := by
    have h : Ext w wb := by rw [hwb.out]; exact (Ext.rf w).alloc _
    exact h
  have B1 : Hid (Blk wb w.heap.size 61 #[.int .i64 3, .int .i64 co.length, .int .i64 cap, .slice A xw.length a, .slice B xv.length b, .slice (some ⟨cb, cof, none⟩) co.length d]) := by
    have h : Blk wb w.heap.size 61 #[.int .i64 3, .int .i64 co.length, .int .i64 cap, .slice A xw.length a, .slice B xv.length b, .slice (some ⟨cb, cof, none⟩) co.length d] := by rw [hwb.out]; exact .new rfl
    exact h
  have q00 : (0 : Int) < (co.length : Int) := by omega
  have i0 : 0 < co.length := by omega
  go_enter Try.func63, Try.ntmps63
  go_wp2_with (fail)
  rw [← hwb.out]
  go_loopw [4, 5, 6, 27] (fun s4 s5 s6 v wr => ∃ k : Nat, v = .int .i64 k ∧ s4 = .int .i64 0 ∧ s5 = .int .i64 0 ∧ s6 = .int .i64 0 ∧ k ≤ co.length ∧ Hid (∀ j y, j < k → x[j]? = some y → (0 ≤ y ∧ y < (co.length : Int)) ∧ (x.take j).contains y = false) ∧ Hid (Ext wb wr)) (fun _ _ _ v _ => co.length - (intOf v).toNat)
  case atStart => exact ⟨0, rfl, rfl, rfl, rfl, by omega, (fun j y h => by omega), by (repeat (first | assumption | exact Ext.rf _ | apply Ext.drew | apply Ext.drewN | apply Ext.alloc))⟩
  case round =>
    obtain ⟨wo, rfl⟩ : ∃ wo : World, wo = wr := ⟨_, rfl⟩
    obtain ⟨k, rfl, rfl, rfl, rfl, hk, HG, Y⟩ := hrel
    have X := Lib.hid (XB.out.tr Y.out)
    have BB := Lib.hid (B1.out.ext Y.out)
    have d0 : wo.cell? ⟨w.heap.size, 0, none⟩ = some (.int .i64 3) := BB.out.cell 0
    have d1 : wo.cell? ⟨w.heap.size, 1, none⟩ = some (.int .i64 co.length) := BB.out.cell 1
    by_cases hlt : k < co.length
    · obtain ⟨pb', po', y, hPq, zpk, cpk, epk, _⟩ := (hP.out.ext X.out).at (k := k) (by rw [lxn.out]; exact hlt)
      obtain ⟨rfl, rfl⟩ : pb = pb' ∧ po = po' := by simpa using hPq
      have q1 : (k : Int) < (co.length : Int) := by omega
      have FAIL : Hid (¬ ((0 ≤ y ∧ y < (co.length : Int)) ∧ (x.take k).contains y = false) → RES = (0, 0, 1)) := fun h => by
        refine NP.out ?_
        cases hb : permB x co.length with
        | false => rfl
        | true => exact absurd (PW.out.1 hb k y epk.out) h
      clear hPq
      by_cases hy0 : y < 0
      · obtain rfl := FAIL.out (fun h => by omega)
        have e1 : decide (y < 0) = true := decide_eq_true hy0
        clear epk FAIL
        go_wp2_with (fail)
        go_ret3
        exact ⟨rfl, X.out.tr (by (repeat (first | assumption | exact Ext.rf _ | apply Ext.drew | apply Ext.drewN | apply Ext.alloc)))⟩
      · have e1 : decide (y < 0) = false := decide_eq_false hy0
        by_cases hyn : (co.length : Int) ≤ y
        · obtain rfl := FAIL.out (fun h => by omega)
          have e2 : decide ((co.length : Int) ≤ y) = true := decide_eq_true hyn
          clear epk FAIL
          go_wp2_with (fail)
          go_ret3
          exact ⟨rfl, X.out.tr (by (repeat (first | assumption | exact Ext.rf _ | apply Ext.drew | apply Ext.drewN | apply Ext.alloc)))⟩
        · have e2 : decide ((co.length : Int) ≤ y) = false := decide_eq_false hyn
          have ABk := Lib.hid (fun (W : World) (yy : Ext wo W) => AB.out W (X.out.tr yy) k y (by omega))
          have lck : (k : Int) ≤ (c : Int) := by omega
          obtain ⟨bb, hbb⟩ : ∃ bb, Hid ((x.take k).contains y = bb) := ⟨_, rfl⟩
          rw [hbb.out] at ABk FAIL
          cases bb with
          | true =>
            obtain rfl := FAIL.out (fun h => by cases h.2)
            clear epk FAIL
            go_wp2_with (fail)
            refine (ABk.out _ (by (repeat (first | assumption | exact Ext.rf _ | apply Ext.drew | apply Ext.drewN | apply Ext.alloc)))).mono ?_
            rintro e w2 ⟨rfl, x2⟩
            have X2 := Lib.hid (Ext.tr (a := wo) (by (repeat (first | assumption | exact Ext.rf _ | apply Ext.drew | apply Ext.drewN | apply Ext.alloc))) x2)
            clear x2
            go_wp2_with (fail)
            go_ret3
            exact ⟨rfl, X.out.tr (X2.out.tr (by (repeat (first | assumption | exact Ext.rf _ | apply Ext.drew | apply Ext.drewN | apply Ext.alloc))))⟩
          | false =>
            have NG : Hid (∀ j z, j < k + 1 → x[j]? = some z → (0 ≤ z ∧ z < (co.length : Int)) ∧ (x.take j).contains z = false) := fun j z h1 h2 => by
              by_cases hj : j = k
              · subst hj
                rw [epk.out] at h2
                obtain rfl := Option.some.inj h2
                exact ⟨by omega, hbb.out⟩
              · exact HG.out j z (by omega) h2
            clear epk FAIL
            go_wp2_with (fail)
            refine (ABk.out _ (by (repeat (first | assumption | exact Ext.rf _ | apply Ext.drew | apply Ext.drewN | apply Ext.alloc)))).mono ?_
            rintro e w2 ⟨rfl, x2⟩
            have X2 := Lib.hid (Ext.tr (a := wo) (by (repeat (first | assumption | exact Ext.rf _ | apply Ext.drew | apply Ext.drewN | apply Ext.alloc))) x2)
            clear x2
            go_wp2_with (fail)
            go_roundw
            case rel => exact ⟨k + 1, by go_num, rfl, rfl, rfl, by omega, NG, Y.out.tr (X2.out.tr (by (repeat (first | assumption | exact Ext.rf _ | apply Ext.drew | apply Ext.drewN | apply Ext.alloc))))⟩
            case measure => simp [intOf]; omega
    · obtain rfl : k = co.length := by omega
      have PT : permB x co.length = true := PW.out.2 fun j v hj => HG.out j v (by rw [← lxn.out]; exact (List.getElem?_eq_some_iff.1 hj).1) hj
      have p0 : wo.cell? ⟨pb, po, none⟩ = some (.int .i64 x0) := keepEL X.out zp0 cp0
      by_cases hx0 : x0 = 0
      · subst hx0
        have YE := YES.out PT ep0.out
        obtain ⟨l, hl, hlp⟩ := permB_iff.1 PT
        obtain ⟨q, rfl⟩ : ∃ q, l = 0 :: q := by
          cases l with
          | nil => rw [hl] at ep0; have h := ep0.out; simp [intsN] at h
          | cons u q =>
            have h := ep0.out
            rw [hl] at h
            simp [intsN] at h
            exact ⟨q, by rw [h]⟩
        have et : x.tail.map Int.toNat = q := by rw [hl]; exact toNat_ints q
        rw [et] at YE
        obtain ⟨tot, htot⟩ : ∃ tot, Hid (pathT co 0 q = tot) := ⟨_, rfl⟩
        rw [htot.out] at YE
        subst YE
        have hlt : Hid (∀ x ∈ 0 :: q, x < co.length) := fun x hx => List.mem_range.1 (hlp.mem_iff.1 hx)
        have hlen : Hid ((0 :: q).length = co.length) := by
          have h : (0 :: q).length = co.length := by rw [hlp.length_eq, List.length_range]
          exact h
        have bt : 0 ≤ tot ∧ tot ≤ 2147483647 * 24 := by
          have h1 := pathT_bd num.out q 0 (by omega) fun x hx => hlt.out x (by simp [hx])
          have h2 := hlen.out
          rw [List.length_cons] at h2
          rw [htot.out] at h1
          omega
        have START : Hid ((0 : Int) + restW co ((0 :: q).drop 0) = tot) := by
          have h : (0 : Int) + restW co ((0 :: q).drop 0) = tot := by rw [← htot.out]; simp [restW]
          exact h
        rw [hl] at hP
        obtain ⟨l, hll⟩ : ∃ l, Hid (0 :: q = l) := ⟨_, rfl⟩
        rw [hll.out] at hP hlt hlen START
        have DR : Hid (∀ k, k < co.length → ∃ u, l[k]? = some u ∧ u < co.length ∧ l.drop k = u :: l.drop (k + 1)) := fun k hk => by
          have h : k < l.length := by rw [hlen.out]; exact hk
          exact ⟨l[k], List.getElem?_eq_getElem h, hlt.out _ (List.getElem_mem h), List.drop_eq_getElem_cons h⟩
        clear HG PT NP YES PW NF ep0 hl hlp et
        go_wp2_with (fail)
        go_loopw [4, 60] (fun s v wr => ∃ (k : Nat) (su : Int), v = .int .i64 k ∧ s = .int .i64 su ∧ k ≤ co.length ∧ Hid (0 ≤ su ∧ su + restW co (l.drop k) = tot) ∧ Hid (Ext wo wr)) (fun _ v _ => co.length - (intOf v).toNat)
        case atStart => exact ⟨0, 0, rfl, rfl, by omega, by exact (show (0 : Int) ≤ 0 ∧ (0 : Int) + restW co (l.drop 0) = tot from ⟨by omega, START.out⟩), by (repeat (first | assumption | exact Ext.rf _ | apply Ext.drew | apply Ext.drewN | apply Ext.alloc))⟩
        case round =>
          obtain ⟨wi, rfl⟩ : ∃ wi : World, wi = wr := ⟨_, rfl⟩
          obtain ⟨k, su, rfl, rfl, hk, HS, YI⟩ := hrel
          clear d0 d1 START p0
          have XW := Lib.hid (X.out.tr YI.out)
          have d0 : wi.cell? ⟨w.heap.size, 0, none⟩ = some (.int .i64 3) := (BB.out.ext YI.out).cell 0
          have d1 : wi.cell? ⟨w.heap.size, 1, none⟩ = some (.int .i64 co.length) := (BB.out.ext YI.out).cell 1
          have d5 : wi.cell? ⟨w.heap.size, 5, none⟩ = some (.slice (some ⟨cb, cof, none⟩) co.length d) := (BB.out.ext YI.out).cell 5
          by_cases hkl : k < co.length
          · obtain ⟨u, ek, hun, edr⟩ := DR.out k hkl
            obtain ⟨pb', po', xu, hPq, zpk, cpk, epk, _⟩ := (hP.out.ext XW.out).at (k := k) (by rw [intsN_len, hlen.out]; exact hkl)
            obtain ⟨rfl, rfl⟩ : pb = pb' ∧ po = po' := by simpa using hPq
            obtain rfl : xu = (u : Int) := by
              have h := epk.out
              rw [intsN_at ek] at h
              exact (Option.some.inj h).symm
            have HS1 := HS.out
            rw [edr] at HS1
            have q1 : (k : Int) < (co.length : Int) := by omega
            have q2 : (u : Int) < (co.length : Int) := by omega
            have hw0 : IntKind.i64.wrap ((k : Int) + 1) = (k : Int) + 1 := IntWalk.i64_in _ (by omega)
            clear ek edr hPq epk HS
            by_cases hlast : k + 1 = co.length
            · have e1 : l.drop (k + 1) = [] := List.drop_of_length_le (by rw [hlen.out]; omega)
              rw [e1] at HS1
              obtain ⟨rb, ro, d', c1, c2⟩ := CA.out _ XW.out u 0 hun (by omega)
              have nu := num.out u 0 hun (by omega)
              obtain ⟨y, hy⟩ : ∃ y, Hid (costAt co u 0 = y) := ⟨_, rfl⟩
              simp only [restW, pathT] at HS1
              rw [hy.out] at c2 nu HS1
              replace c2 : wi.cell? ⟨rb, ro, none⟩ = some (.int .i64 y) := c2
              have hrem : ((k : Int) + 1).tmod (co.length : Int) = 0 := by
                have h : (k : Int) + 1 = (co.length : Int) := by omega
                rw [h, Int.tmod_self]
              have hw1 : IntKind.i64.wrap 0 = 0 := IntWalk.i64_in _ (by omega)
              have hw : IntKind.i64.wrap (su + y) = su + y := IntWalk.i64_in _ (by omega)
              have p0 : wi.cell? ⟨pb, po, none⟩ = some (.int .i64 0) := keepEL XW.out zp0 cp0
              have NEW : Hid (0 ≤ su + y ∧ su + y + restW co (l.drop (k + 1)) = tot) := by
                have h : 0 ≤ su + y ∧ su + y + restW co (l.drop (k + 1)) = tot := by
                  rw [e1]
                  simp only [restW]
                  omega
                exact h
              have hnz : ((co.length : Int) == 0) = false := by rw [beq_eq_false_iff_ne]; omega
              clear HS1 e1
              replace hlast := Lib.hid hlast
              go_wp2_with (fail)
              go_quiet (fail)
              go_wp2_with (fail)
              go_roundw
              case rel => exact ⟨k + 1, su + y, by go_num, rfl, by omega, NEW, YI.out.drewN _⟩
              case measure => simp [intOf]; omega
            · have hk1 : k + 1 < co.length := by omega
              obtain ⟨v, ek1, hvn, edr1⟩ := DR.out (k + 1) hk1
              obtain ⟨pb', po', xu, hPq, zpk1, cpk1, epk1, _⟩ := (hP.out.ext XW.out).at (k := k + 1) (by rw [intsN_len, hlen.out]; exact hk1)
              obtain ⟨rfl, rfl⟩ : pb = pb' ∧ po = po' := by simpa using hPq
              obtain rfl : xu = (v : Int) := by
                have h := epk1.out
                rw [intsN_at ek1] at h
                exact (Option.some.inj h).symm
              rw [edr1] at HS1
              obtain ⟨rb, ro, d', c1, c2⟩ := CA.out _ XW.out u v hun hvn
              have nu := num.out u v hun hvn
              obtain ⟨y, hy⟩ : ∃ y, Hid (costAt co u v = y) := ⟨_, rfl⟩
              simp only [restW, pathT] at HS1
              rw [hy.out] at c2 nu HS1
              have hpp := (pathT_bd num.out (l.drop (k + 1 + 1)) v hvn fun x hx => hlt.out x (List.mem_of_mem_drop hx)).1
              have hrem : ((k : Int) + 1).tmod (co.length : Int) = ((k + 1 : Nat) : Int) := by
                rw [Int.tmod_eq_emod_of_nonneg (by omega), Int.emod_eq_of_lt (by omega) (by omega)]
                omega
              have hw1 : IntKind.i64.wrap ((k + 1 : Nat) : Int) = ((k + 1 : Nat) : Int) := IntWalk.i64_in _ (by omega)
              have hw : IntKind.i64.wrap (su + y) = su + y := IntWalk.i64_in _ (by omega)
              have NEW : Hid (0 ≤ su + y ∧ su + y + restW co (l.drop (k + 1)) = tot) := by
                have h : 0 ≤ su + y ∧ su + y + restW co (l.drop (k + 1)) = tot := by
                  rw [edr1]
                  simp only [restW]
                  omega
                exact h
              have q3 : (v : Int) < (co.length : Int) := by omega
              have q4 : ((k + 1 : Nat) : Int) < (co.length : Int) := by omega
              have hnz : ((co.length : Int) == 0) = false := by rw [beq_eq_false_iff_ne]; omega
              clear HS1 edr1 ek1 hPq epk1 hpp
              replace hlast := Lib.hid hlast
              go_wp2_with (fail)
              go_quiet (fail)
              go_wp2_with (fail)
              go_roundw
              case rel => exact ⟨k + 1, su + y, by go_num, rfl, by omega, NEW, YI.out.drewN _⟩
              case measure => simp [intOf]; omega
          · have q1 : ¬ (k : Int) < (co.length : Int) := by omega
            have HS2 : Hid (su = tot) := by
              have h := HS.out.2
              rw [List.drop_of_length_le (by rw [hlen.out]; omega)] at h
              simp only [restW] at h
              have h2 : su = tot := by omega
              exact h2
            clear HS
            go_wp2_with (fail)
            go_ret3
            rw [HS2.out]
            exact ⟨rfl, XW.out.tr (by (repeat (first | assumption | exact Ext.rf _ | apply Ext.drew | apply Ext.drewN | apply Ext.alloc)))⟩
      · have hx1 : (x0 == 0) = false := by simpa using hx0
        obtain rfl := NF.out (fun h => by
          rw [ep0.out] at h
          exact hx0 (Option.some.inj h))
        clear HG PT NP YES PW NF ep0
        go_wp2_with (fail)
        go_ret3
        exact ⟨rfl, X.out.tr (by (repeat (first | assumption | exact Ext.rf _ | apply Ext.drew | apply Ext.drewN | apply Ext.alloc)))⟩
end Go.Proofs.Ytcpadkaljnnieaa
namespace Go.Proofs.Ytcpadkaljnnieaa
open Go.RowKit Go.ChangeShapes Go.WideShapes Go.ChangeAt Go.Deep

theorem crossP_nonneg {a b c d : Int} (ha : 0 ≤ a) (hb : 0 ≤ b) (hc : 0 ≤ c) (hd : 0 ≤ d) : 0 ≤ crossP a b c d ↔ c * d ≤ a * b := by
  have hp := Int.mul_nonneg ha hb
  have hq := Int.mul_nonneg hc hd
  have z1 : sgnP a b = 0 ↔ a * b = 0 := by unfold sgnP; rw [Int.mul_eq_zero]; split <;> simp_all
  have z2 : sgnP c d = 0 ↔ c * d = 0 := by unfold sgnP; rw [Int.mul_eq_zero]; split <;> simp_all
  have s1 := sgnP_cases a b
  have s2 := sgnP_cases c d
  unfold crossP
  generalize sgnP a b = s at *
  generalize sgnP c d = t at *
  generalize a * b = p at *
  generalize c * d = q at *
  rcases s1 with rfl | rfl <;> rcases s2 with rfl | rfl <;> simp at * <;> (try unfold ordP) <;> (try (split <;> (try split))) <;> omega
set_option maxRecDepth 100000 in
set_option maxHeartbeats 2000000 in
theorem aheadc_any (i : InstP) (us : List Value) (a b : Nat) (w : World) (H : RInst w us i) (sv : Small31 i.value) (sw : Small31 i.weight) (ha : a < i.value.length) (hb : b < i.value.length) (ha' : a < i.weight.length) (hb' : b < i.weight.length) :
    Calls Try.prog 130 #[.agg (List.toArray us), .int .i64 a, .int .i64 b] w fun e w' => e = .returned (.bool (!aheadB i.value i.weight b a)) ∧ Ext w w' := by
  obtain ⟨k, nn, cap, ws, vs, l⟩ := i
  obtain ⟨B, d, A, c, C, cc, rfl, ⟨rw', _, _, _⟩, ⟨rv, _, _, _⟩, _⟩ := H
  simp only at *
  obtain ⟨g1, o1, va, rfl, z1, c1, e1, _⟩ := rv.at ha
  obtain ⟨g1', o1', vb, h1', z1', c2, e2, _⟩ := rv.at hb
  obtain ⟨rfl, rfl⟩ : g1 = g1' ∧ o1 = o1' := by injection h1' with h; injection h with h3 h4; exact ⟨h3, h4⟩
  obtain ⟨g2, o2, wa, rfl, z2, c3, e3, _⟩ := rw'.at ha'
  obtain ⟨g2', o2', wb, h2', z2', c4, e4, _⟩ := rw'.at hb'
  obtain ⟨rfl, rfl⟩ : g2 = g2' ∧ o2 = o2' := by injection h2' with h; injection h with h3 h4; exact ⟨h3, h4⟩
  have bva := sv.get e1.out
  have bvb := sv.get e2.out
  have bwa := sw.get e3.out
  have bwb := sw.get e4.out
  have HA : Hid (aheadB vs ws b a = if wa = 0 then false else if wb = 0 then true else decide (va * wb < vb * wa)) := by
    have h : aheadB vs ws b a = if wa = 0 then false else if wb = 0 then true else decide (va * wb < vb * wa) := by
      unfold aheadB
      rw [getD_some e1.out, getD_some e2.out, getD_some e3.out, getD_some e4.out]
    exact h
  have qa : (a : Int) < (vs.length : Int) := by omega
  have qb : (b : Int) < (vs.length : Int) := by omega
  have qa' : (a : Int) < (ws.length : Int) := by omega
  have qb' : (b : Int) < (ws.length : Int) := by omega
  clear h1' h2' rv rw' sv sw
  by_cases hwa : wa = 0
  · subst hwa
    have HR : Hid ((!aheadB vs ws b a) = true) := by
      have h := HA.out
      rw [if_pos rfl] at h
      have h2 : (!aheadB vs ws b a) = true := by rw [h]; rfl
      exact h2
    go_enter Try.func130, Try.ntmps130
    go_wp2_with (fail)
    go_ret
    exact ⟨ret_b HR.out.symm, by (repeat (first | assumption | exact Ext.rf _ | apply Ext.drew | apply Ext.drewN | apply Ext.alloc))⟩
  · have hwa' : (wa == 0) = false := by simpa using hwa
    by_cases hwb : wb = 0
    · subst hwb
      have HR : Hid ((!aheadB vs ws b a) = false) := by
        have h := HA.out
        rw [if_neg hwa, if_pos rfl] at h
        have h2 : (!aheadB vs ws b a) = false := by rw [h]; rfl
        exact h2
      clear hwa
      go_enter Try.func130, Try.ntmps130
      go_wp2_with (fail)
      go_ret
      exact ⟨ret_b HR.out.symm, by (repeat (first | assumption | exact Ext.rf _ | apply Ext.drew | apply Ext.drewN | apply Ext.alloc))⟩
    · have hwb' : (wb == 0) = false := by simpa using hwb
      have HR : Hid ((!aheadB vs ws b a) = decide (0 ≤ crossP va wb vb wa)) := by
        have h := HA.out
        rw [if_neg hwa, if_neg hwb] at h
        have h2 : (!aheadB vs ws b a) = decide (0 ≤ crossP va wb vb wa) := by
          have cn := crossP_nonneg bva.1 bwb.1 bvb.1 bwa.1
          rw [h]
          cases hd : decide (va * wb < vb * wa) with
          | true =>
            have h3 := of_decide_eq_true hd
            exact (decide_eq_false (fun h4 => by have := cn.1 h4; omega)).symm
          | false =>
            have h3 := of_decide_eq_false hd
            exact (decide_eq_true (cn.2 (by omega))).symm
        exact h2
      have bx : Blk (w.alloc (.cells #[.int .i64 k, .int .i64 nn, .int .i64 cap, .slice (some ⟨g2, o2, none⟩) ws.length d, .slice (some ⟨g1, o1, none⟩) vs.length c, .slice C l.length cc] 61)) w.heap.size 61 #[.int .i64 k, .int .i64 nn, .int .i64 cap, .slice (some ⟨g2, o2, none⟩) ws.length d, .slice (some ⟨g1, o1, none⟩) vs.length c, .slice C l.length cc] := .new rfl
      replace bx := Lib.hid bx
      clear hwa hwb
      go_enter Try.func130, Try.ntmps130
      go_wp2_with (fail)
      go_region_held3 (fun w' => w'.cell? ⟨w.heap.size, 4, none⟩ = some (.slice (some ⟨g1, o1, none⟩) vs.length c) ∧ w'.cell? ⟨w.heap.size, 3, none⟩ = some (.slice (some ⟨g2, o2, none⟩) ws.length d) ∧ w'.cell? ⟨g1, o1 + a, none⟩ = some (.int .i64 va) ∧ w'.cell? ⟨g1, o1 + b, none⟩ = some (.int .i64 vb) ∧ w'.cell? ⟨g2, o2 + a, none⟩ = some (.int .i64 wa) ∧ w'.cell? ⟨g2, o2 + b, none⟩ = some (.int .i64 wb)) (go_keep)
        (first
          | (go_at_call 133; refine (cross_any va wb vb wa _ bva bwb bvb bwa).mono ?_; rintro e w2 ⟨rfl, x2⟩; have X2 := Ext.tr (a := w) (by (repeat (first | assumption | exact Ext.rf _ | apply Ext.drew | apply Ext.drewN | apply Ext.alloc))) x2; have b2 := bx.out.ext (Ext.tr (by (repeat (first | assumption | exact Ext.rf _ | apply Ext.drew | apply Ext.drewN | apply Ext.alloc))) x2); have k1 := b2.cell 4; have k2 := b2.cell 3; have k3 := keepEL X2 z1 c1; have k4 := keepEL X2 z1 c2; have k5 := keepEL X2 z2 c3; have k6 := keepEL X2 z2 c4))
      all_goals go_wp2_with (fail)
      all_goals go_ret
      all_goals exact ⟨ret_b HR.out.symm, by (repeat (first | assumption | exact Ext.rf _ | apply Ext.drew | apply Ext.drewN | apply Ext.alloc))⟩
set_option maxRecDepth 100000 in
/-- copy(v[k+1:], v[k:]) of a list of the call's own: its numbers from k on move by one -/
theorem run_shift_i (w : World) (base : Nat) (ty : TypeId) (g c k : Nat) (xs : List Int) (z : Int) (dp sp : Option Addr) (dL dC sL sC : Nat) (hown : OwI w base (some ⟨g, 0, none⟩) c (xs ++ [z])) (hk : k ≤ xs.length) (hdL : dL = xs.length - k) (hsL : sL = xs.length + 1 - k) (hpos : k < xs.length → dp = some ⟨g, k + 1, none⟩ ∧ sp = some ⟨g, k, none⟩) :
    ∃ w', (Builtin.copy_ #[22, 22] ty #[.slice dp dL dC, .slice sp sL sC]).run Try.prog w = .ok (goInt ((xs.length - k : Nat) : Int)) w' ∧ OwI w' base (some ⟨g, 0, none⟩) c (xs.take k ++ (xs ++ [z]).getD k 0 :: xs.drop k) ∧ Mod (fun i => i = g) w w' := by
  subst hdL hsL
  have hs : (Try.prog.info? 3).map (·.size) = some 1 := by kernel_rfl
  by_cases h0 : k < xs.length
  · obtain ⟨rfl, rfl⟩ := hpos h0
    have RD := hown.read
    rcases hown.cases with ⟨h, _⟩ | ⟨g', cur, h, hb, hg, hn, hm, hsz, ht⟩
    · cases h
    · obtain rfl : g = g' := by simpa using h
      simp only [Nat.mul_one] at hsz ht
      have hcs : ((xs.drop k).map (Value.int .i64)).length = xs.length - k := by simp
      have R := run_copy_row (P := Try.prog) w 22 22 ty 3 g (k + 1) (xs.length - k) dC ⟨g, k, none⟩ (xs.length + 1 - k) sC cur _ ((xs.drop k).map (Value.int .i64)) Try.underlying22 hs hg (by rw [hcs]; simp only [Nat.min_def]; split <;> omega) (fun j v hj => by
        rw [List.getElem?_map, List.getElem?_drop] at hj
        obtain ⟨x, hx, rfl⟩ := Option.map_eq_some_iff.1 hj
        rw [add_plain]
        rcases RD with h | ⟨b, off, h, _, hc⟩
        · simp at h
        · obtain ⟨rfl, rfl⟩ : g = b ∧ 0 = off := by simpa using h
          have := hc (k + j) x (by rw [List.getElem?_append_left (List.getElem?_eq_some_iff.1 hx).1]; exact hx)
          rw [Nat.zero_add] at this
          exact this) (by rw [hcs]; simp at hn; omega) (fun v hv => by
          obtain ⟨x, _, rfl⟩ := List.mem_map.1 hv
          rfl)
      rw [hcs] at R
      refine ⟨_, R, .mk (cur := _) hb (setRow_heap w g cur _ _ _ hg) (by simp at hn ⊢; omega) hm ?_ ?_, ?_⟩
      · simp at hn ⊢; omega
      · have e1 : cur.toList.take (k + 1) = ((xs ++ [z]).map (Value.int .i64)).take (k + 1) := by
          rw [← ht, List.take_take]
          congr 1
          simp; omega
        have e2 : ((xs ++ [z]).map (Value.int .i64)).take (k + 1) = (xs.take k ++ [(xs ++ [z]).getD k 0]).map (Value.int .i64) := by
          have e3 : (xs ++ [z]).take (k + 1) = xs.take (k + 1) := List.take_append_of_le_length (by omega)
          rw [← List.map_take, e3, List.take_add_one, List.getElem?_eq_getElem h0, List.getD, List.getElem?_append_left h0, List.getElem?_eq_getElem h0]
          rfl
        simp only [Nat.mul_one]
        rw [e1, e2]
        rw [List.take_append_of_le_length (by simp; try omega)]
        rw [List.take_of_length_le (by simp; try omega)]
        simp
      · exact ⟨rfl, rfl, rfl, by simp [World.setRow], fun i hi hs => setRow_other w g i _ (fun e => hs e)⟩
  · obtain rfl : k = xs.length := by omega
    have R := run_copy_none (P := Try.prog) w 22 22 ty 3 dp sp (xs.length - xs.length) dC (xs.length + 1 - xs.length) sC Try.underlying22 hs (by simp only [Nat.min_def]; split <;> omega)
    rw [show ((xs.length - xs.length : Nat) : Int) = 0 by omega]
    refine ⟨w, R, ?_, Mod.rf w⟩
    simpa [List.getD] using hown
/-- as a step of a region that draws its order -/
theorem step_shift_i {w : World} {ops : Array Oper} {o : Oper} {a : Act} {K : Act → World → Prop} {Q : Exit → Act → World → Prop} {E : Prop} (hgd : o.guard = none) (s x : Operand)
    (ho : o.op = .call { callee := .builtin .copy, args := #[s, x], argTypes := #[22, 22] })
    (base : Nat) (g c k : Nat) (xs : List Int) (z : Int) (dp sp : Option Addr) (dL dC sL sC : Nat) (hs : a.eval s = .slice dp dL dC) (hx : a.eval x = .slice sp sL sC)
    (hown : OwI w base (some ⟨g, 0, none⟩) c (xs ++ [z])) (hk : k ≤ xs.length) (hdL : dL = xs.length - k) (hsL : sL = xs.length + 1 - k) (hpos : k < xs.length → dp = some ⟨g, k + 1, none⟩ ∧ sp = some ⟨g, k, none⟩)
    (h : ∀ w', OwI w' base (some ⟨g, 0, none⟩) c (xs.take k ++ (xs ++ [z]).getD k 0 :: xs.drop k) → Mod (fun i => i = g) w w' → K (a.put o.dst (goInt ((xs.length - k : Nat) : Int))) w') :
    if Region.wanted o (yielded ops a.tmps) = true then Oper.wp Try.prog o a w K Q else E := by
  have hw : Region.wanted o (yielded ops a.tmps) = true := by simp [Region.wanted, hgd]
  rw [if_pos hw]
  obtain ⟨w', hrun, h2, h3⟩ := run_shift_i w base o.type g c k xs z dp sp dL dC sL sC hown hk hdL hsL hpos
  unfold Oper.wp execOp
  simp only [ho, resolve, invoke, builtin, Sem.run_bind, Sem.run_pure, Result.andThen_ok, List.map_toArray, List.map_cons, List.map_nil, hs, hx, hrun]
  exact h w' h2 h3
end Go.Proofs.Ytcpadkaljnnieaa
namespace Go.Proofs.Ytcpadkaljnnieaa
open Go.RowKit Go.ChangeShapes Go.WideShapes Go.ChangeAt Go.Deep

theorem ordC_mem {lt : Nat → Nat → Bool} {k x : Nat} (h : x ∈ ordC lt k) : x < k := List.mem_range.1 ((ordC_perm lt k).mem_iff.1 h)
theorem putC_ints (n : Nat) (l : List Nat) (a : Nat) (q : Int) (h : a ≤ l.length) : ((intsN l).take a ++ q :: (intsN l).drop a).set a (n : Int) = intsN (putC n l a) := by
  have e : ((intsN l).take a).length = a := by rw [List.length_take, intsN_len]; omega
  rw [List.set_append_right _ _ (by omega), e, Nat.sub_self, List.set_cons_zero]
  unfold putC intsN
  rw [List.map_append, List.map_take, List.map_cons, List.map_drop]
/-- one more number to a list that a struct holds -/
theorem field_grown {w3 w4 : World} {base G c1 c2 c4 : Nat} {t : TypeId} {cs : Array Value} {A1 A2 A4 : Option Addr} {xs ys zs : List Int} (hB : Blk w3 G t cs) (ht : t ≠ 3) (o1 : OwI w3 base A1 c1 xs) (o2 : OwI w3 base A2 c2 ys) (hd : ∀ b, bl A1 = some b → bl A2 ≠ some b) (g4 : w3.grownBy w4 (bl A1)) (o4 : OwI w4 base A4 c4 zs) (h5 : bl A4 = bl A1 ∨ ∃ g, bl A4 = some g ∧ w3.heap.size ≤ g) (i : Nat) (v : Value) :
    Blk w4 G t cs ∧ Blk (w4.setCell ⟨G, i, none⟩ v) G t (cs.setIfInBounds i v) ∧ OwI (w4.setCell ⟨G, i, none⟩ v) base A4 c4 zs ∧ OwI (w4.setCell ⟨G, i, none⟩ v) base A2 c2 ys ∧ (∀ b, bl A4 = some b → bl A2 ≠ some b) ∧ ∀ wa, Ext wa w3 → wa.heap.size ≤ base → wa.heap.size ≤ G → Ext wa (w4.setCell ⟨G, i, none⟩ v) := by
  have n1 := o1.ne hB ht
  have hB4 : Blk w4 G t cs := hB.grown g4 (fun h => n1 G h rfl)
  have o24 : OwI w4 base A2 c2 ys := o2.mod (Mod.grown (S := fun b => bl A1 = some b) g4 fun g h => h) fun b hb h => hd b h hb
  refine ⟨hB4, hB4.set i v, o4.far hB4 ht i v, o24.far hB4 ht i v, fun b hb h => ?_, fun wa x h1 h2 => ?_⟩
  · rcases h5 with e | ⟨g, e, hg⟩
    · exact hd b (by rw [← e]; exact hb) h
    · have := (o2.lt b h).2
      rw [e] at hb
      injection hb with hb
      omega
  · exact (x.grow g4 fun k hk => Nat.le_trans h1 (o1.lt k hk).1).mod (Mod.set (S := fun k => k = G) (p := ⟨G, i, none⟩) (Mod.rf w4) (.inl rfl) v) fun k hk e => by omega
/-- what is made of a knapsack -/
def OrdPost (i : InstP) (w : World) (e : Ending) (w' : World) : Prop := ∃ g, e = .returned (.pointer (some ⟨g, 0, none⟩)) ∧ KnB w' g i.cap (wsP i) (vsP i) ∧ Ext w w'
set_option maxRecDepth 100000 in
set_option maxHeartbeats 8000000 in
theorem orderedc_any (i : InstP) (us : List Value) (w : World) (H : RInst w us i) (hc : checkP i = 0) (hk : i.kind = 1) :
    Calls Try.prog 103 #[.agg (List.toArray us)] w (OrdPost i w) := by
  have ok := knap_ok hc hk
  have k1 := ok.n1
  have k2 := ok.n2
  have k3 := ok.w
  have k4 := ok.v
  have sv := ok.sv
  have sw := ok.sw
  have AH := fun (W : World) (x : Ext w W) (p k : Nat) (hp : p < i.value.length) (hk : k < i.value.length) => aheadc_any i us p k W (H.ext x) sv sw hp hk (by omega) (by omega)
  have hOR : Hid (ordC (aheadB i.value i.weight) i.value.length = orderP i) := ordC_ratio fun x hx => (sw x hx).1
  have hW : Hid (wsP i = inOrder (orderP i) i.weight) := rfl
  have hV : Hid (vsP i = inOrder (orderP i) i.value) := rfl
  have hlo := orderP_len ok
  obtain ⟨O, hO⟩ : ∃ O, Hid (orderP i = O) := ⟨_, rfl⟩
  obtain ⟨WS, hWS⟩ : ∃ WS, Hid (wsP i = WS) := ⟨_, rfl⟩
  obtain ⟨VS, hVS⟩ : ∃ VS, Hid (vsP i = VS) := ⟨_, rfl⟩
  unfold OrdPost
  rw [hWS.out, hVS.out]
  rw [hO.out] at hOR hW hV hlo
  rw [hWS.out] at hW
  rw [hVS.out] at hV
  clear ok hc hk hO hWS hVS
  obtain ⟨k0, nn, cap, ws, vs, l⟩ := i
  obtain ⟨A, ca, B, cb, C, cc, rfl, ⟨rA, iA, lA, mA⟩, ⟨rB, iB, lB, mB⟩, -⟩ := H
  simp only at *
  obtain ⟨n, rfl⟩ : ∃ n : Nat, nn = (n : Int) := ⟨nn.toNat, by omega⟩
  have lwn : ws.length = n := by omega
  have lvn : vs.length = n := by omega
  have lon : O.length = n := by omega
  have hn2 : n ≤ 64 := by omega
  rw [lvn] at hOR
  replace AH := Lib.hid fun (W : World) (x : Ext w W) (p k : Nat) (hp : p < n) (hk : k < n) => AH W x p k (by rw [lvn]; exact hp) (by rw [lvn]; exact hk)
  obtain ⟨lt, hlt⟩ : ∃ lt, Hid (aheadB vs ws = lt) := ⟨_, rfl⟩
  rw [hlt.out] at AH hOR
  have OL := Lib.hid (fun k => ordC_len lt k)
  have OM : Hid (∀ k x, x ∈ ordC lt k → x < k) := fun k x h => ordC_mem h
  have OS : Hid (∀ k, ordC lt (k + 1) = putC k (ordC lt k) (posC lt k (ordC lt k) k)) := fun k => by
    show insC lt k (ordC lt k) = _
    unfold insC
    rw [ordC_len]
  clear hlt k3 k4
  replace lwn := Lib.hid lwn
  replace lvn := Lib.hid lvn
  replace lon := Lib.hid lon
  replace rA := Lib.hid rA
  replace rB := Lib.hid rB
  replace iA := Lib.hid iA
  replace iB := Lib.hid iB
  replace mA := Lib.hid mA
  replace mB := Lib.hid mB
  replace sv := Lib.hid sv
  replace sw := Lib.hid sw
  replace hlo := Lib.hid hlo
  obtain ⟨wb, hwb⟩ : ∃ wb, Hid (wb = w.alloc (.cells #[.int .i64 k0, .int .i64 n, .int .i64 cap, .slice A ws.length ca, .slice B vs.length cb, .slice C l.length cc] 61)) := ⟨_, rfl⟩
  have XB : Hid (Ext w wb) := by
    have h : Ext w wb := by rw [hwb.out]; exact (Ext.rf w).alloc _
    exact h
  have B1 : Hid (Blk wb w.heap.size 61 #[.int .i64 k0, .int .i64 n, .int .i64 cap, .slice A ws.length ca, .slice B vs.length cb, .slice C l.length cc]) := by
    have h : Blk wb w.heap.size 61 #[.int .i64 k0, .int .i64 n, .int .i64 cap, .slice A ws.length ca, .slice B vs.length cb, .slice C l.length cc] := by rw [hwb.out]; exact .new rfl
    exact h
  have START : Hid (OwI wb wb.heap.size none 0 (intsN (ordC lt 0))) := OwI.nil _ _
  go_enter Try.func103, Try.ntmps103
  go_wp2_with (fail)
  rw [← hwb.out]
  have b0 : wb.cell? ⟨w.heap.size, 1, none⟩ = some (.int .i64 n) := B1.out.cell 1
  go_wp2_with (fail)
  go_loopw [3, 11] (fun v3 v11 wr => ∃ (k : Nat) (A' : Option Addr) (c : Nat), v11 = .int .i64 k ∧ v3 = .slice A' k c ∧ k ≤ n ∧ Hid (OwI wr wb.heap.size A' c (intsN (ordC lt k))) ∧ Hid (Ext wb wr)) (fun _ v _ => n - (intOf v).toNat)
  case atStart => exact ⟨0, none, 0, rfl, rfl, by omega, START, by (repeat (first | assumption | exact Ext.rf _ | apply Ext.drew | apply Ext.drewN | apply Ext.alloc))⟩
  case round =>
    obtain ⟨wo, rfl⟩ : ∃ wo : World, wo = wr := ⟨_, rfl⟩
    clear START b0
    obtain ⟨k, A', c, rfl, rfl, hk, oP, Y⟩ := hrel
    have X := Lib.hid (XB.out.tr Y.out)
    by_cases hlt : k < n
    · have q1 : (k : Int) < (n : Int) := by omega
      have olk := OL.out k
      obtain ⟨L, hL⟩ : ∃ L, Hid (ordC lt k = L) := ⟨_, rfl⟩
      have OSk : Hid (intsN (ordC lt (k + 1)) = intsN (putC k L (posC lt k L k))) := by
        have h : intsN (ordC lt (k + 1)) = intsN (putC k L (posC lt k L k)) := by rw [OS.out k, hL.out]
        exact h
      have OMk : Hid (∀ x ∈ L, x < k) := fun x hx => OM.out k x (by rw [hL.out]; exact hx)
      rw [hL.out] at oP olk
      have ol2 : (intsN L).length = k := by rw [intsN_len]; exact olk
      have ol3 := oP.out.le
      rw [ol2] at ol3
      replace ol2 := Lib.hid ol2
      replace olk := Lib.hid olk
      obtain ⟨pos, hpos⟩ : ∃ pos, Hid (posC lt k L k = pos) := ⟨_, rfl⟩
      have S1 : Hid (posC lt k L k = pos) := hpos
      rw [hpos.out] at OSk
      clear hpos
      go_wp2_with (fail)
      go_loopw [5] (fun v5 wr => ∃ a : Nat, v5 = .int .i64 a ∧ a ≤ k ∧ Hid (posC lt k L a = pos) ∧ Hid (Ext wo wr)) (fun v _ => (intOf v).toNat)
      case atStart => exact ⟨k, rfl, by omega, S1, by (repeat (first | assumption | exact Ext.rf _ | apply Ext.drew | apply Ext.drewN | apply Ext.alloc))⟩
      case round =>
        obtain ⟨wi, rfl⟩ : ∃ wi : World, wi = wr := ⟨_, rfl⟩
        clear S1
        obtain ⟨a, rfl, ha, hS, YI⟩ := hrel
        have XI := Lib.hid (Y.out.tr YI.out)
        have BB := Lib.hid (B1.out.ext XI.out)
        have d0 : wi.cell? ⟨w.heap.size, 0, none⟩ = some (.int .i64 k0) := BB.out.cell 0
        have d1 : wi.cell? ⟨w.heap.size, 1, none⟩ = some (.int .i64 n) := BB.out.cell 1
        have d2 : wi.cell? ⟨w.heap.size, 2, none⟩ = some (.int .i64 cap) := BB.out.cell 2
        have d3 : wi.cell? ⟨w.heap.size, 3, none⟩ = some (.slice A ws.length ca) := BB.out.cell 3
        have d4 : wi.cell? ⟨w.heap.size, 4, none⟩ = some (.slice B vs.length cb) := BB.out.cell 4
        have d5 : wi.cell? ⟨w.heap.size, 5, none⟩ = some (.slice C l.length cc) := BB.out.cell 5
        have oPi := Lib.hid (oP.out.ext YI.out)
        by_cases ha0 : a = 0
        · obtain rfl : pos = a := by
            have h := hS.out
            rw [ha0] at h
            rw [ha0]
            exact h.symm
          have hg0 : decide ((0 : Int) < (pos : Int)) = false := decide_eq_false (by omega)
          have hg1 : decide (0 < pos) = false := decide_eq_false (by omega)
          replace ha0 := Lib.hid ha0
          clear hS d0 d1 d2 d3 d4 d5
          go_wp2_with (fail)
          go_quiet (fail)
          have ol4 := ol2.out
          go_wp2_with (at_builtin; (refine wpl_app_i _ rfl _ _ rfl wb.heap.size A' k c (intsN L) [0] (some ⟨wi.heap.size, 0, none⟩) 1 rfl rfl ol2.out.symm ?_ ?_ ?_ ?_ ?_; (refine OwI.ext oPi.out ?_; (repeat (first | assumption | exact Ext.rf _ | apply Ext.drew | apply Ext.drewN | apply Ext.alloc))); (exact .blk (.new (by simp)) rfl); (rw [ol2.out]; simp; omega); (have := (Y.out.tr YI.out).size; simp; omega); rintro A7 c7 w7 o7 g7 _; have Y7 : Ext wb w7 := Ext.grow (a := wb) (Ext.tr (Y.out.tr YI.out) (by (repeat (first | assumption | exact Ext.rf _ | apply Ext.drew | apply Ext.drewN | apply Ext.alloc)))) g7 (fun kk hkk => (oP.out.lt kk hkk).1); obtain ⟨gA, _, rfl, zgA, _⟩ := o7.at (k := 0) (by simp)))
          have l7 := o7.le
          rw [List.length_append, ol2.out] at l7
          simp only [List.length_cons, List.length_nil] at l7
          have t7 : w7.cell? ⟨w.heap.size, 1, none⟩ = some (.int .i64 n) := (B1.out.ext Y7).cell 1
          have zw7 : w.heap.size < w7.heap.size := (B1.out.ext Y7).lt
          have O7 := Lib.hid o7
          replace Y7 := Lib.hid Y7
          clear o7 g7
          have hk1 : ((pos : Nat) : Int) ≤ (k : Int) := by omega
          have hk2 : (k : Int) + 1 ≤ (c7 : Int) := by omega
          have hk3 : IntKind.i64.wrap ((pos : Int) + 1) = (pos : Int) + 1 := IntWalk.i64_in _ (by omega)
          have hk4 : (0 : Int) ≤ (pos : Int) := by omega
          have hk5 : (pos : Int) + 1 ≤ (k : Int) + 1 := by omega
          have hk6 : (0 : Int) ≤ (pos : Int) + 1 := by omega
          have hk7 : (pos : Int) ≤ (k : Int) + 1 := by omega
          have hk8 : ¬ c7 = pos := by omega
          have hk9 : pos ≤ k + 1 := by omega
          have hk10 : pos ≤ c7 := by omega
          have hk11 : pos + 1 ≤ c7 := by omega
          have hk12 : (pos : Int) ≤ (c7 : Int) := by omega
          have hk13 : (pos : Int) + 1 ≤ (c7 : Int) := by omega
          by_cases hcz : c7 = pos + 1
          all_goals
            go_wp2_with (fail)
            go_region_held3 (fun w' => w'.cell? ⟨w.heap.size, 1, none⟩ = some (.int .i64 n)) (go_keep)
              (first | (refine step_shift_i (by rfl) _ _ (by rfl) wb.heap.size gA c7 pos (intsN L) 0 _ _ _ _ _ _ (by rfl) (by rfl) ?_ ?_ ?_ ?_ ?_ ?_; (refine OwI.ext O7.out ?_; (repeat (first | assumption | exact Ext.rf _ | apply Ext.drew | apply Ext.drewN | apply Ext.alloc))); omega; omega; omega; (intro hh; first | exact ⟨rfl, rfl⟩ | (exfalso; omega)); rintro w8 o8 m8; have Y8 : Ext wb w8 := Ext.mod (Y7.out.tr (by (repeat (first | assumption | exact Ext.rf _ | apply Ext.drew | apply Ext.drewN | apply Ext.alloc)))) m8 (fun kk hkk e => by omega); have s1 : w8.cell? ⟨w.heap.size, 1, none⟩ = some (.int .i64 n) := (B1.out.ext Y8).cell 1))
            all_goals
              obtain ⟨x8, c8, f8, hb8, _, hs8⟩ := OwI.cell o8 (k := pos) (by rw [List.length_append, List.length_take, List.length_cons, List.length_drop, ol4]; omega)
              have FIN : Hid (OwI (w8.setCell ⟨gA, pos, none⟩ (.int .i64 k)) wb.heap.size (some ⟨gA, 0, none⟩) c7 (intsN (ordC lt (k + 1)))) := by
                have h := hs8.out (k : Int)
                rw [putC_ints _ _ _ _ (by rw [olk.out]; omega), ← OSk.out] at h
                exact h
              have YF : Hid (Ext wb (w8.setCell ⟨gA, pos, none⟩ (.int .i64 k))) := Ext.mod Y8 (Mod.set (S := fun i => i = gA) (p := ⟨gA, pos, none⟩) (Mod.rf w8) (.inl rfl) _) (fun kk hkk e => by omega)
              replace Y8 := Lib.hid Y8
              have hka : pos < k + 1 := by omega
              have hkb : ((pos : Nat) : Int) < ((k + 1 : Nat) : Int) := by omega
              clear o8 m8 hs8 s1
              go_wp2_with (fail)
              go_roundw
              case rel => exact ⟨k + 1, some ⟨gA, 0, none⟩, c7, by go_num, by first | rfl | (simp; done), by omega, OwI.ext FIN.out (by (repeat (first | assumption | exact Ext.rf _ | apply Ext.drew | apply Ext.drewN | apply Ext.alloc))), YF.out.tr (by (repeat (first | assumption | exact Ext.rf _ | apply Ext.drew | apply Ext.drewN | apply Ext.alloc)))⟩
              case measure => simp [intOf]; omega
        · obtain ⟨b, hab⟩ : ∃ b, Hid (a = b + 1) := ⟨a - 1, (by omega : a = a - 1 + 1)⟩
          have hbk : b < k := by have := hab.out; omega
          obtain ⟨gP, pv, rfl, zgb, zgP, cP, _, eP, _⟩ := oPi.out.at (k := b) (by rw [ol2.out]; omega)
          obtain ⟨p, hp⟩ : ∃ p, Hid (L[b]? = some p) := ⟨L[b]'(by rw [olk.out]; omega), List.getElem?_eq_getElem _⟩
          obtain rfl : pv = (p : Int) := by
            have h := eP.out
            rw [intsN_get hp.out] at h
            exact (Option.some.inj h).symm
          have hpk := OMk.out p (List.mem_of_getElem? hp.out)
          have ACp := Lib.hid (fun (W : World) (x : Ext wi W) => AH.out W (X.out.tr (YI.out.tr x)) p k (by omega) (by omega))
          have zw : w.heap.size < wi.heap.size := BB.out.lt
          have hq0 : decide ((0 : Int) < (a : Int)) = true := decide_eq_true (by omega)
          have hq9 : decide (0 < a) = true := decide_eq_true (by omega)
          have hq1 : (a : Int) - 1 = (b : Int) := by have := hab.out; omega
          have hw1 : IntKind.i64.wrap (b : Int) = (b : Int) := IntWalk.i64_in _ (by omega)
          have hw2 : IntKind.i64.wrap ((a : Int) - 1) = (b : Int) := by rw [hq1, hw1]
          have hq2 : (b : Int) < (k : Int) := by omega
          have hq4 : (0 : Int) ≤ (b : Int) := by omega
          have hgd : L.getD b 0 = p := by rw [List.getD, hp.out]; rfl
          have hS2 := hS.out
          rw [hab.out, posC, hgd] at hS2
          replace hq1 := Lib.hid hq1
          replace ha0 := Lib.hid ha0
          cases hb : lt k p with
          | true =>
            rw [hb, if_pos rfl] at hS2
            rw [hb] at ACp
            replace hS2 := Lib.hid hS2
            clear hS eP hgd
            go_wp2_with (fail)
            go_region_held3 (fun w' => w'.cell? ⟨w.heap.size, 0, none⟩ = some (.int .i64 k0) ∧ w'.cell? ⟨w.heap.size, 1, none⟩ = some (.int .i64 n) ∧ w'.cell? ⟨w.heap.size, 2, none⟩ = some (.int .i64 cap) ∧ w'.cell? ⟨w.heap.size, 3, none⟩ = some (.slice A ws.length ca) ∧ w'.cell? ⟨w.heap.size, 4, none⟩ = some (.slice B vs.length cb) ∧ w'.cell? ⟨w.heap.size, 5, none⟩ = some (.slice C l.length cc) ∧ w'.cell? ⟨gP, b, none⟩ = some (.int .i64 p)) (go_keep)
              (first | (go_at_call 130; refine (ACp.out _ (by (repeat (first | assumption | exact Ext.rf _ | apply Ext.drew | apply Ext.drewN | apply Ext.alloc)))).mono ?_; rintro e w2 ⟨rfl, x2⟩; have Y2 := Ext.tr (a := wi) (by (repeat (first | assumption | exact Ext.rf _ | apply Ext.drew | apply Ext.drewN | apply Ext.alloc))) x2; have s1 := keepEL Y2 zw d0; have s2 := keepEL Y2 zw d1; have s3 := keepEL Y2 zw d2; have s4 := keepEL Y2 zw d3; have s5 := keepEL Y2 zw d4; have s6 := keepEL Y2 zw d5; have s7 := keepEL Y2 zgP cP))
            all_goals
              have YJ := Lib.hid (YI.out.tr Y2)
              clear s1 s2 s3 s4 s5 s6 s7 x2 Y2
              go_wp2_with (fail)
              go_roundw
              case rel => exact ⟨b, by go_num, by omega, hS2, YJ.out.tr (by (repeat (first | assumption | exact Ext.rf _ | apply Ext.drew | apply Ext.drewN | apply Ext.alloc)))⟩
              case measure => simp [intOf]; (try (have := hab.out; omega))
          | false =>
            rw [hb, if_neg (by simp)] at hS2
            rw [hb] at ACp
            obtain rfl : pos = a := by rw [hab.out]; exact hS2.symm
            clear hS eP hgd hS2
            go_wp2_with (fail)
            go_region_held3 (fun w' => w'.cell? ⟨w.heap.size, 0, none⟩ = some (.int .i64 k0) ∧ w'.cell? ⟨w.heap.size, 1, none⟩ = some (.int .i64 n) ∧ w'.cell? ⟨w.heap.size, 2, none⟩ = some (.int .i64 cap) ∧ w'.cell? ⟨w.heap.size, 3, none⟩ = some (.slice A ws.length ca) ∧ w'.cell? ⟨w.heap.size, 4, none⟩ = some (.slice B vs.length cb) ∧ w'.cell? ⟨w.heap.size, 5, none⟩ = some (.slice C l.length cc) ∧ w'.cell? ⟨gP, b, none⟩ = some (.int .i64 p)) (go_keep)
              (first | (go_at_call 130; refine (ACp.out _ (by (repeat (first | assumption | exact Ext.rf _ | apply Ext.drew | apply Ext.drewN | apply Ext.alloc)))).mono ?_; rintro e w2 ⟨rfl, x2⟩; have Y2 := Ext.tr (a := wi) (by (repeat (first | assumption | exact Ext.rf _ | apply Ext.drew | apply Ext.drewN | apply Ext.alloc))) x2; have s1 := keepEL Y2 zw d0; have s2 := keepEL Y2 zw d1; have s3 := keepEL Y2 zw d2; have s4 := keepEL Y2 zw d3; have s5 := keepEL Y2 zw d4; have s6 := keepEL Y2 zw d5; have s7 := keepEL Y2 zgP cP))
            all_goals
              have YJ := Lib.hid (YI.out.tr Y2)
              have oPj := Lib.hid (oPi.out.ext Y2)
              clear s1 s2 s3 s4 s5 s6 s7 x2 Y2
              have ol4 := ol2.out
              go_wp2_with (at_builtin; (refine wpl_app_i _ rfl _ _ rfl wb.heap.size (some ⟨gP, 0, none⟩) k c (intsN L) [0] (some ⟨w2.heap.size, 0, none⟩) 1 rfl rfl ol2.out.symm ?_ ?_ ?_ ?_ ?_; (refine OwI.ext oPj.out ?_; (repeat (first | assumption | exact Ext.rf _ | apply Ext.drew | apply Ext.drewN | apply Ext.alloc))); (exact .blk (.new (by simp)) rfl); (rw [ol2.out]; simp; omega); (have := (Y.out.tr YJ.out).size; simp; omega); rintro A7 c7 w7 o7 g7 _; have Y7 : Ext wb w7 := Ext.grow (a := wb) (Ext.tr (Y.out.tr YJ.out) (by (repeat (first | assumption | exact Ext.rf _ | apply Ext.drew | apply Ext.drewN | apply Ext.alloc)))) g7 (fun kk hkk => (oP.out.lt kk hkk).1); obtain ⟨gA, _, rfl, zgA, _⟩ := o7.at (k := 0) (by simp)))
              have l7 := o7.le
              rw [List.length_append, ol2.out] at l7
              simp only [List.length_cons, List.length_nil] at l7
              have t7 : w7.cell? ⟨w.heap.size, 1, none⟩ = some (.int .i64 n) := (B1.out.ext Y7).cell 1
              have zw7 : w.heap.size < w7.heap.size := (B1.out.ext Y7).lt
              have O7 := Lib.hid o7
              replace Y7 := Lib.hid Y7
              clear o7 g7
              have hk1 : ((pos : Nat) : Int) ≤ (k : Int) := by omega
              have hk2 : (k : Int) + 1 ≤ (c7 : Int) := by omega
              have hk3 : IntKind.i64.wrap ((pos : Int) + 1) = (pos : Int) + 1 := IntWalk.i64_in _ (by omega)
              have hk4 : (0 : Int) ≤ (pos : Int) := by omega
              have hk5 : (pos : Int) + 1 ≤ (k : Int) + 1 := by omega
              have hk6 : (0 : Int) ≤ (pos : Int) + 1 := by omega
              have hk7 : (pos : Int) ≤ (k : Int) + 1 := by omega
              have hk8 : ¬ c7 = pos := by omega
              have hk9 : pos ≤ k + 1 := by omega
              have hk10 : pos ≤ c7 := by omega
              have hk11 : pos + 1 ≤ c7 := by omega
              have hk12 : (pos : Int) ≤ (c7 : Int) := by omega
              have hk13 : (pos : Int) + 1 ≤ (c7 : Int) := by omega
              by_cases hcz : c7 = pos + 1
              all_goals
                go_wp2_with (fail)
                go_region_held3 (fun w' => w'.cell? ⟨w.heap.size, 1, none⟩ = some (.int .i64 n)) (go_keep)
                  (first | (refine step_shift_i (by rfl) _ _ (by rfl) wb.heap.size gA c7 pos (intsN L) 0 _ _ _ _ _ _ (by rfl) (by rfl) ?_ ?_ ?_ ?_ ?_ ?_; (refine OwI.ext O7.out ?_; (repeat (first | assumption | exact Ext.rf _ | apply Ext.drew | apply Ext.drewN | apply Ext.alloc))); omega; omega; omega; (intro hh; first | exact ⟨rfl, rfl⟩ | (exfalso; omega)); rintro w8 o8 m8; have Y8 : Ext wb w8 := Ext.mod (Y7.out.tr (by (repeat (first | assumption | exact Ext.rf _ | apply Ext.drew | apply Ext.drewN | apply Ext.alloc)))) m8 (fun kk hkk e => by omega); have s1 : w8.cell? ⟨w.heap.size, 1, none⟩ = some (.int .i64 n) := (B1.out.ext Y8).cell 1))
                all_goals
                  obtain ⟨x8, c8, f8, hb8, _, hs8⟩ := OwI.cell o8 (k := pos) (by rw [List.length_append, List.length_take, List.length_cons, List.length_drop, ol4]; omega)
                  have FIN : Hid (OwI (w8.setCell ⟨gA, pos, none⟩ (.int .i64 k)) wb.heap.size (some ⟨gA, 0, none⟩) c7 (intsN (ordC lt (k + 1)))) := by
                    have h := hs8.out (k : Int)
                    rw [putC_ints _ _ _ _ (by rw [olk.out]; omega), ← OSk.out] at h
                    exact h
                  have YF : Hid (Ext wb (w8.setCell ⟨gA, pos, none⟩ (.int .i64 k))) := Ext.mod Y8 (Mod.set (S := fun i => i = gA) (p := ⟨gA, pos, none⟩) (Mod.rf w8) (.inl rfl) _) (fun kk hkk e => by omega)
                  replace Y8 := Lib.hid Y8
                  have hka : pos < k + 1 := by omega
                  have hkb : ((pos : Nat) : Int) < ((k + 1 : Nat) : Int) := by omega
                  clear o8 m8 hs8 s1
                  go_wp2_with (fail)
                  go_roundw
                  case rel => exact ⟨k + 1, some ⟨gA, 0, none⟩, c7, by go_num, by first | rfl | (simp; done), by omega, OwI.ext FIN.out (by (repeat (first | assumption | exact Ext.rf _ | apply Ext.drew | apply Ext.drewN | apply Ext.alloc))), YF.out.tr (by (repeat (first | assumption | exact Ext.rf _ | apply Ext.drew | apply Ext.drewN | apply Ext.alloc)))⟩
                  case measure => simp [intOf]; omega
    · obtain rfl : k = n := by omega
      rw [hOR.out] at oP
      have BB := Lib.hid (B1.out.ext Y.out)
      have d2 : wo.cell? ⟨w.heap.size, 2, none⟩ = some (.int .i64 cap) := BB.out.cell 2
      have hle : ws.length ≤ ca := lA
      have hle2 : vs.length ≤ cb := lB
      have S1 : Hid (OwI wo wo.heap.size none 0 (inOrder (O.take 0) ws)) := OwI.nil _ _
      have S2 : Hid (OwI wo wo.heap.size none 0 (inOrder (O.take 0) vs)) := OwI.nil _ _
      have S3 : Hid (∀ b, bl none = some b → bl none ≠ some b) := fun b h => by simp [bl] at h
      have S4 : Hid (Blk (wo.alloc (.cells #[.int .i64 cap, .slice none 0 0, .slice none 0 0] 153)) wo.heap.size 153 #[.int .i64 cap, .slice none 0 0, .slice none 0 0]) := .new rfl
      obtain ⟨i0, hi, hz0, hz1, hz2⟩ := info_parts int_info
      have hbs : ∀ (u : World) (x : Int), (Instr.buildSlice 22 1 #[(0, .int .i64 x)]).run Try.prog u = .ok (.slice (some ⟨u.heap.size, 0, none⟩) 1 1) (u.alloc (.cells #[.int .i64 x] 3)) := fun u x => by go_simp
      replace hbs := Lib.hid hbs
      replace hi := Lib.hid hi
      clear OS OM AH hz0 hz1 hz2
      go_wp2_with (fail)
      go_loopw [53] (fun v wr => ∃ (m : Nat) (A1 : Option Addr) (c1 : Nat) (A2 : Option Addr) (c2 : Nat), v = .int .i64 m ∧ m ≤ k ∧ Hid (Blk wr wo.heap.size 153 #[.int .i64 cap, .slice A1 m c1, .slice A2 m c2]) ∧ Hid (OwI wr wo.heap.size A1 c1 (inOrder (O.take m) ws)) ∧ Hid (OwI wr wo.heap.size A2 c2 (inOrder (O.take m) vs)) ∧ Hid (∀ b, bl A1 = some b → bl A2 ≠ some b) ∧ Hid (Ext wo wr)) (fun v _ => k - (intOf v).toNat)
      case atStart => exact ⟨0, none, 0, none, 0, rfl, by omega, S4.out.ext (by (repeat (first | assumption | exact Ext.rf _ | apply Ext.drew | apply Ext.drewN | apply Ext.alloc))), S1.out.ext (by (repeat (first | assumption | exact Ext.rf _ | apply Ext.drew | apply Ext.drewN | apply Ext.alloc))), S2.out.ext (by (repeat (first | assumption | exact Ext.rf _ | apply Ext.drew | apply Ext.drewN | apply Ext.alloc))), S3, by (repeat (first | assumption | exact Ext.rf _ | apply Ext.drew | apply Ext.drewN | apply Ext.alloc))⟩
      case round =>
        obtain ⟨wi, rfl⟩ : ∃ wi : World, wi = wr := ⟨_, rfl⟩
        clear S1 S2 S3 S4 d2
        obtain ⟨m, A1, c1, A2, c2, rfl, hm, BK, o1, o2, dis, YI⟩ := hrel
        have XI := Lib.hid (X.out.tr YI.out)
        by_cases hmk : m < k
        · have hmo : m < O.length := by rw [lon.out]; exact hmk
          obtain ⟨q, hq⟩ : ∃ q, Hid (O[m]? = some q) := ⟨_, List.getElem?_eq_getElem hmo⟩
          have hqk : q < k := ordC_mem (lt := lt) (by rw [hOR.out]; exact List.mem_of_getElem? hq.out)
          obtain ⟨pb, po, pv, rfl, zp, cp, ep, _⟩ := (oP.out.read.ext YI.out).at (k := m) (by rw [intsN_len]; exact hmo)
          obtain rfl : pv = (q : Int) := by
            have h := ep.out
            rw [intsN_get hq.out] at h
            exact (Option.some.inj h).symm
          obtain ⟨ab, ao, x, rfl, zx, cx, ex, _⟩ := (rA.out.ext XI.out).at (k := q) (by rw [lwn.out]; exact hqk)
          have NW : Hid (inOrder (O.take m) ws ++ [x] = inOrder (O.take (m + 1)) ws) := (inOrder_succ hq.out ex.out).symm
          have LW : Hid (m = (inOrder (O.take m) ws).length) := by
            have h : m = (inOrder (O.take m) ws).length := by rw [inOrder_len, List.length_take]; omega
            exact h
          have LV : Hid (m = (inOrder (O.take m) vs).length) := by
            have h : m = (inOrder (O.take m) vs).length := by rw [inOrder_len, List.length_take]; omega
            exact h
          have q1 : (m : Int) < (k : Int) := by omega
          have q2 : (q : Int) < (ws.length : Int) := by rw [lwn.out]; omega
          have q3 : (q : Int) < (vs.length : Int) := by rw [lvn.out]; omega
          have q4 : q < ws.length := by omega
          have q5 : q < vs.length := by omega
          have BBi := Lib.hid (BB.out.ext YI.out)
          have zB := BBi.out.lt
          have zG := BK.out.lt
          have d3 : wi.cell? ⟨w.heap.size, 3, none⟩ = some (.slice (some ⟨ab, ao, none⟩) ws.length ca) := BBi.out.cell 3
          have e1 : wi.cell? ⟨wo.heap.size, 1, none⟩ = some (.slice A1 m c1) := BK.out.cell 1
          clear ep ex
          go_wp2_with (fail)
          refine wp_region_any (by kernel_rfl) ?_
          change wpAny _ _ _ _ _ _ _ (World.drew _)
          refine wpAny_T (i := 0) (op := Op.move (Operand.tmp 6)) (t := 130) (d := some 57) (v := ?_) rfl (by decide +kernel) (by decide +kernel) (by decide +kernel) (fun _ _ _ h => h) ?_ ?_
          case refine_2 => (intro _; unfold exec2; go_simp; try with_reducible rfl)
          try simp only [Act.put, List.setIfInBounds_toArray, List.set_cons_zero, List.set_cons_succ]
          refine wpAny_T (i := 1) (op := Op.move (Operand.tmp 6)) (t := 130) (d := some 58) (v := ?_) rfl (by decide +kernel) (by decide +kernel) (by decide +kernel) (fun _ _ _ h => h) ?_ ?_
          case refine_2 => (intro _; unfold exec2; go_simp; try with_reducible rfl)
          try simp only [Act.put, List.setIfInBounds_toArray, List.set_cons_zero, List.set_cons_succ]
          refine wpAny_T (i := 2) (op := Op.nilCheck (Operand.tmp 58)) (t := 0) (d := some 59) (v := ?_) rfl (by decide +kernel) (by decide +kernel) (by decide +kernel) (fun _ _ _ h => h) ?_ ?_
          case refine_2 => (intro _; unfold exec2; go_simp; try with_reducible rfl)
          try simp only [Act.put, List.setIfInBounds_toArray, List.set_cons_zero, List.set_cons_succ]
          refine wpAny_T (i := 3) (op := Op.fieldAddr 153 (Operand.tmp 59) 1) (t := 0) (d := some 60) (v := ?_) rfl (by decide +kernel) (by decide +kernel) (by decide +kernel) (fun _ _ _ h => h) ?_ ?_
          case refine_2 => (intro _; unfold exec2; go_simp; try with_reducible rfl)
          try simp only [Act.put, List.setIfInBounds_toArray, List.set_cons_zero, List.set_cons_succ]
          refine wpAny_T (i := 5) (op := Op.fieldAddr 61 (Operand.tmp 1) 3) (t := 0) (d := some 62) (v := ?_) rfl (by decide +kernel) (by decide +kernel) (by decide +kernel) (fun _ _ _ h => h) ?_ ?_
          case refine_2 => (intro _; unfold exec2; go_simp; try with_reducible rfl)
          try simp only [Act.put, List.setIfInBounds_toArray, List.set_cons_zero, List.set_cons_succ]
          refine wpAny_T (i := 7) (op := Op.move (Operand.tmp 8)) (t := 3) (d := some 64) (v := ?_) rfl (by decide +kernel) (by decide +kernel) (by decide +kernel) (fun _ _ _ h => h) ?_ ?_
          case refine_2 => (intro _; unfold exec2; go_simp; try with_reducible rfl)
          try simp only [Act.put, List.setIfInBounds_toArray, List.set_cons_zero, List.set_cons_succ]
          refine wpAny_core2 (n := 4) [(4, some 61), (6, some 63), (8, some 65), (9, some 66), (10, some 67)] (Ext wi)
            (VF (fun | 4 => some (.slice A1 m c1) | 6 => some (.slice (some ⟨ab, ao, none⟩) ws.length ca) | 8 => some (.pointer (some ⟨ab, ao + q, none⟩)) | 9 => some (.int .i64 x) | _ => none)
              (fun i v W => i = 10 → ∃ z, v = .slice (some ⟨z, 0, none⟩) 1 1 ∧ Blk W z 3 #[.int .i64 x]))
            Ext #[true, true, true, true, true, true, true, true, true, true, true, false, false, false, false] (by decide +kernel) (VF.stab ?_) ?_ ?_ ((Ext.rf _).drew)
          · intro j v W W' _ gz hx h
            obtain ⟨z, z1, z2⟩ := gz h
            exact ⟨z, z1, z2.ext hx⟩
          · intro pq hpm u w2 hRW hD K hK
            have r1 := keepEL hRW zG e1
            have r3 := keepEL hRW zB d3
            have rx := keepEL hRW zx cx
            simp only [List.mem_cons, List.not_mem_nil, or_false] at hpm
            rcases hpm with rfl | rfl | rfl | rfl | rfl
            · exact op_ld (T := 22) rfl (.pointer (some ⟨wo.heap.size, 1, none⟩)) (by kernel_rfl) (.slice A1 m c1) (by go_simp) (hK _ _ (VF.mk rfl) hRW (Ext.rf _))
            · exact op_ld (T := 22) rfl (.pointer (some ⟨w.heap.size, 3, none⟩)) (by kernel_rfl) (.slice (some ⟨ab, ao, none⟩) ws.length ca) (by go_simp) (hK _ _ (VF.mk rfl) hRW (Ext.rf _))
            · have h6 := (hD 6 (depIn (by kernel_rfl))).k rfl
              exact op_ix (T := 22) rfl (.slice (some ⟨ab, ao, none⟩) ws.length ca) (.int .i64 q) (Eq.trans (b := u 6) (by kernel_rfl) h6) (by kernel_rfl) (.pointer (some ⟨ab, ao + q, none⟩)) (by go_simp) (hK _ _ (VF.mk rfl) hRW (Ext.rf _))
            · have h8 := (hD 8 (depIn (by kernel_rfl))).k rfl
              exact op_ld (T := 3) rfl (.pointer (some ⟨ab, ao + q, none⟩)) (Eq.trans (b := u 8) (by kernel_rfl) h8) (.int .i64 x) (by go_simp) (hK _ _ (VF.mk rfl) hRW (Ext.rf _))
            · have h9 := (hD 9 (depIn (by kernel_rfl))).k rfl
              exact op_bs1 rfl (.int .i64 x) (Eq.trans (b := u 9) (by kernel_rfl) h9) _ (hbs.out _ _) (hK _ _ (VF.mg rfl (fun _ => ⟨_, rfl, .new rfl⟩)) (hRW.alloc _) ((Ext.rf _).alloc _))
          · intro u w3 hRW hV
            have h4 := (hV (4, some 61) (by simp)).k rfl
            have h6 := (hV (6, some 63) (by simp)).k rfl
            have h8 := (hV (8, some 65) (by simp)).k rfl
            have h9 := (hV (9, some 66) (by simp)).k rfl
            obtain ⟨z, h10, bz⟩ := (hV (10, some 67) (by simp)).g rfl rfl
            simp only [putAll, h4, h6, h8, h9, h10]
            have o13 := o1.out.ext hRW
            obtain ⟨A4, c4, w4, hrun, o4, g4, h5⟩ := run_app_i w3 wo.heap.size 22 A1 m c1 (inOrder (O.take m) ws) [x] (some ⟨z, 0, none⟩) 1 LW.out o13 (.blk bz rfl) (by rw [← LW.out]; simp; omega) (YI.out.tr hRW).size
            have hl : (inOrder (O.take m) ws ++ [x]).length = m + 1 := by rw [List.length_append, ← LW.out]; rfl
            rw [hl] at hrun
            rw [NW.out] at o4
            obtain ⟨bk4, bk5, o45, o25, dis5, xt5⟩ := field_grown (BK.out.ext hRW) (by decide) o13 (o2.out.ext hRW) dis.out g4 o4 h5 1 (.slice A4 (m + 1) c4)
            have f4 := bk4.free 1
            have k4 : w4.cell? ⟨wo.heap.size, 1, none⟩ = some (.slice A1 m c1) := bk4.cell 1
            have Y5 := Lib.hid (xt5 wo (YI.out.tr hRW) (Nat.le_refl _) (Nat.le_refl _))
            have BK5 : Hid (Blk (w4.setCell ⟨wo.heap.size, 1, none⟩ (.slice A4 (m + 1) c4)) wo.heap.size 153 #[.int .i64 cap, .slice A4 (m + 1) c4, .slice A2 m c2]) := bk5
            replace o45 := Lib.hid o45
            replace o25 := Lib.hid o25
            replace dis5 := Lib.hid dis5
            clear h4 h6 h8 h9 h10 hV o13 g4 h5 o4 xt5 bk5 bz bk4
            refine wpAny_next 11 (by kernel_rfl) (op_app rfl (.slice A1 m c1) (.slice (some ⟨z, 0, none⟩) 1 1) (by kernel_rfl) (by kernel_rfl) _ hrun ?_)
            try simp only [Act.put, List.setIfInBounds_toArray, List.set_cons_zero, List.set_cons_succ]
            refine wpAny_T (i := 12) (op := Op.nilCheck (Operand.tmp 57)) (t := 0) (d := some 69) (v := ?_) rfl (by decide +kernel) (by decide +kernel) (by decide +kernel) (fun _ _ _ h => h) ?_ ?_
            case refine_2 => (intro _; unfold exec2; go_simp; try with_reducible rfl)
            try simp only [Act.put, List.setIfInBounds_toArray, List.set_cons_zero, List.set_cons_succ]
            refine wpAny_T (i := 13) (op := Op.fieldAddr 153 (Operand.tmp 69) 1) (t := 0) (d := some 70) (v := ?_) rfl (by decide +kernel) (by decide +kernel) (by decide +kernel) (fun _ _ _ h => h) ?_ ?_
            case refine_2 => (intro _; unfold exec2; go_simp; try with_reducible rfl)
            try simp only [Act.put, List.setIfInBounds_toArray, List.set_cons_zero, List.set_cons_succ]
            refine wpAny_next 14 (by kernel_rfl) (op_st rfl (.pointer (some ⟨wo.heap.size, 1, none⟩)) (.slice A4 (m + 1) c4) (by kernel_rfl) (by kernel_rfl) (by go_simp; rfl) ?_)
            refine wpAny_done (by kernel_rfl) ?_ _
            clear hrun k4 f4
            obtain ⟨w5, hw5⟩ : ∃ x5, x5 = w4.setCell ⟨wo.heap.size, 1, none⟩ (.slice A4 (m + 1) c4) := ⟨_, rfl⟩
            rw [← hw5] at BK5 o45 o25 Y5 ⊢
            clear hw5
            go_simp
            clear cx zx NW o1 o2 dis BK zG zB d3 e1 LW BBi YI XI
            have X5 := Lib.hid (X.out.tr Y5.out)
            have BB5 := Lib.hid (BB.out.ext Y5.out)
            have zB := BB5.out.lt
            have zG := BK5.out.lt
            obtain ⟨vb, vo, y, rfl, zx, cx, ey, _⟩ := (rB.out.ext X5.out).at (k := q) (by rw [lvn.out]; exact hqk)
            have NV : Hid (inOrder (O.take m) vs ++ [y] = inOrder (O.take (m + 1)) vs) := (inOrder_succ hq.out ey.out).symm
            have d4 : w5.cell? ⟨w.heap.size, 4, none⟩ = some (.slice (some ⟨vb, vo, none⟩) vs.length cb) := BB5.out.cell 4
            have e2 : w5.cell? ⟨wo.heap.size, 2, none⟩ = some (.slice A2 m c2) := BK5.out.cell 2
            have dis2 : ∀ b, bl A2 = some b → bl A4 ≠ some b := fun b h1 h2 => dis5.out b h2 h1
            replace dis2 := Lib.hid dis2
            have BK0 := BK5
            have Y0 := Y5
            have o10 := o45
            have o20 := o25
            clear ey BK5 Y5 o45 o25 dis5
            go_wp2_with (fail)
            refine wp_region_any (by kernel_rfl) ?_
            change wpAny _ _ _ _ _ _ _ (World.drew _)
            refine wpAny_T (i := 0) (op := Op.move (Operand.tmp 6)) (t := 130) (d := some 71) (v := ?_) rfl (by decide +kernel) (by decide +kernel) (by decide +kernel) (fun _ _ _ h => h) ?_ ?_
            case refine_2 => (intro _; unfold exec2; go_simp; try with_reducible rfl)
            try simp only [Act.put, List.setIfInBounds_toArray, List.set_cons_zero, List.set_cons_succ]
            refine wpAny_T (i := 1) (op := Op.move (Operand.tmp 6)) (t := 130) (d := some 72) (v := ?_) rfl (by decide +kernel) (by decide +kernel) (by decide +kernel) (fun _ _ _ h => h) ?_ ?_
            case refine_2 => (intro _; unfold exec2; go_simp; try with_reducible rfl)
            try simp only [Act.put, List.setIfInBounds_toArray, List.set_cons_zero, List.set_cons_succ]
            refine wpAny_T (i := 2) (op := Op.nilCheck (Operand.tmp 72)) (t := 0) (d := some 73) (v := ?_) rfl (by decide +kernel) (by decide +kernel) (by decide +kernel) (fun _ _ _ h => h) ?_ ?_
            case refine_2 => (intro _; unfold exec2; go_simp; try with_reducible rfl)
            try simp only [Act.put, List.setIfInBounds_toArray, List.set_cons_zero, List.set_cons_succ]
            refine wpAny_T (i := 3) (op := Op.fieldAddr 153 (Operand.tmp 73) 2) (t := 0) (d := some 74) (v := ?_) rfl (by decide +kernel) (by decide +kernel) (by decide +kernel) (fun _ _ _ h => h) ?_ ?_
            case refine_2 => (intro _; unfold exec2; go_simp; try with_reducible rfl)
            try simp only [Act.put, List.setIfInBounds_toArray, List.set_cons_zero, List.set_cons_succ]
            refine wpAny_T (i := 5) (op := Op.fieldAddr 61 (Operand.tmp 1) 4) (t := 0) (d := some 76) (v := ?_) rfl (by decide +kernel) (by decide +kernel) (by decide +kernel) (fun _ _ _ h => h) ?_ ?_
            case refine_2 => (intro _; unfold exec2; go_simp; try with_reducible rfl)
            try simp only [Act.put, List.setIfInBounds_toArray, List.set_cons_zero, List.set_cons_succ]
            refine wpAny_T (i := 7) (op := Op.move (Operand.tmp 8)) (t := 3) (d := some 78) (v := ?_) rfl (by decide +kernel) (by decide +kernel) (by decide +kernel) (fun _ _ _ h => h) ?_ ?_
            case refine_2 => (intro _; unfold exec2; go_simp; try with_reducible rfl)
            try simp only [Act.put, List.setIfInBounds_toArray, List.set_cons_zero, List.set_cons_succ]
            refine wpAny_core2 (n := 4) [(4, some 75), (6, some 77), (8, some 79), (9, some 80), (10, some 81)] (Ext w5)
              (VF (fun | 4 => some (.slice A2 m c2) | 6 => some (.slice (some ⟨vb, vo, none⟩) vs.length cb) | 8 => some (.pointer (some ⟨vb, vo + q, none⟩)) | 9 => some (.int .i64 y) | _ => none)
                (fun i v W => i = 10 → ∃ z, v = .slice (some ⟨z, 0, none⟩) 1 1 ∧ Blk W z 3 #[.int .i64 y]))
              Ext #[true, true, true, true, true, true, true, true, true, true, true, false, false, false, false] (by decide +kernel) (VF.stab ?_) ?_ ?_ ((Ext.rf _).drew)
            · intro j v W W' _ gz hx h
              obtain ⟨z, z1, z2⟩ := gz h
              exact ⟨z, z1, z2.ext hx⟩
            · intro pq hpm u w2 hRW hD K hK
              have r1 := keepEL hRW zG e2
              have r3 := keepEL hRW zB d4
              have rx := keepEL hRW zx cx
              simp only [List.mem_cons, List.not_mem_nil, or_false] at hpm
              rcases hpm with rfl | rfl | rfl | rfl | rfl
              · exact op_ld (T := 22) rfl (.pointer (some ⟨wo.heap.size, 2, none⟩)) (by kernel_rfl) (.slice A2 m c2) (by go_simp) (hK _ _ (VF.mk rfl) hRW (Ext.rf _))
              · exact op_ld (T := 22) rfl (.pointer (some ⟨w.heap.size, 4, none⟩)) (by kernel_rfl) (.slice (some ⟨vb, vo, none⟩) vs.length cb) (by go_simp) (hK _ _ (VF.mk rfl) hRW (Ext.rf _))
              · have h6 := (hD 6 (depIn (by kernel_rfl))).k rfl
                exact op_ix (T := 22) rfl (.slice (some ⟨vb, vo, none⟩) vs.length cb) (.int .i64 q) (Eq.trans (b := u 6) (by kernel_rfl) h6) (by kernel_rfl) (.pointer (some ⟨vb, vo + q, none⟩)) (by go_simp) (hK _ _ (VF.mk rfl) hRW (Ext.rf _))
              · have h8 := (hD 8 (depIn (by kernel_rfl))).k rfl
                exact op_ld (T := 3) rfl (.pointer (some ⟨vb, vo + q, none⟩)) (Eq.trans (b := u 8) (by kernel_rfl) h8) (.int .i64 y) (by go_simp) (hK _ _ (VF.mk rfl) hRW (Ext.rf _))
              · have h9 := (hD 9 (depIn (by kernel_rfl))).k rfl
                exact op_bs1 rfl (.int .i64 y) (Eq.trans (b := u 9) (by kernel_rfl) h9) _ (hbs.out _ _) (hK _ _ (VF.mg rfl (fun _ => ⟨_, rfl, .new rfl⟩)) (hRW.alloc _) ((Ext.rf _).alloc _))
            · intro u w6 hRW hV
              have h4 := (hV (4, some 75) (by simp)).k rfl
              have h6 := (hV (6, some 77) (by simp)).k rfl
              have h8 := (hV (8, some 79) (by simp)).k rfl
              have h9 := (hV (9, some 80) (by simp)).k rfl
              obtain ⟨z, h10, bz⟩ := (hV (10, some 81) (by simp)).g rfl rfl
              simp only [putAll, h4, h6, h8, h9, h10]
              have o13 := o20.out.ext hRW
              obtain ⟨A6, c6, w7, hrun, o4, g4, h5⟩ := run_app_i w6 wo.heap.size 22 A2 m c2 (inOrder (O.take m) vs) [y] (some ⟨z, 0, none⟩) 1 LV.out o13 (.blk bz rfl) (by rw [← LV.out]; simp; omega) (Y0.out.tr hRW).size
              have hl : (inOrder (O.take m) vs ++ [y]).length = m + 1 := by rw [List.length_append, ← LV.out]; rfl
              rw [hl] at hrun
              rw [NV.out] at o4
              obtain ⟨bk4, bk5, o45, o25, dis5, xt5⟩ := field_grown (BK0.out.ext hRW) (by decide) o13 (o10.out.ext hRW) dis2.out g4 o4 h5 2 (.slice A6 (m + 1) c6)
              have f4 := bk4.free 2
              have k4 : w7.cell? ⟨wo.heap.size, 2, none⟩ = some (.slice A2 m c2) := bk4.cell 2
              have Y5 := Lib.hid (xt5 wo (Y0.out.tr hRW) (Nat.le_refl _) (Nat.le_refl _))
              have BK5 : Hid (Blk (w7.setCell ⟨wo.heap.size, 2, none⟩ (.slice A6 (m + 1) c6)) wo.heap.size 153 #[.int .i64 cap, .slice A4 (m + 1) c4, .slice A6 (m + 1) c6]) := bk5
              replace o45 := Lib.hid o45
              replace o25 := Lib.hid o25
              replace dis5 := Lib.hid dis5
              clear h4 h6 h8 h9 h10 hV o13 g4 h5 o4 xt5 bk5 bz bk4
              refine wpAny_next 11 (by kernel_rfl) (op_app rfl (.slice A2 m c2) (.slice (some ⟨z, 0, none⟩) 1 1) (by kernel_rfl) (by kernel_rfl) _ hrun ?_)
              try simp only [Act.put, List.setIfInBounds_toArray, List.set_cons_zero, List.set_cons_succ]
              refine wpAny_T (i := 12) (op := Op.nilCheck (Operand.tmp 71)) (t := 0) (d := some 83) (v := ?_) rfl (by decide +kernel) (by decide +kernel) (by decide +kernel) (fun _ _ _ h => h) ?_ ?_
              case refine_2 => (intro _; unfold exec2; go_simp; try with_reducible rfl)
              try simp only [Act.put, List.setIfInBounds_toArray, List.set_cons_zero, List.set_cons_succ]
              refine wpAny_T (i := 13) (op := Op.fieldAddr 153 (Operand.tmp 83) 2) (t := 0) (d := some 84) (v := ?_) rfl (by decide +kernel) (by decide +kernel) (by decide +kernel) (fun _ _ _ h => h) ?_ ?_
              case refine_2 => (intro _; unfold exec2; go_simp; try with_reducible rfl)
              try simp only [Act.put, List.setIfInBounds_toArray, List.set_cons_zero, List.set_cons_succ]
              refine wpAny_next 14 (by kernel_rfl) (op_st rfl (.pointer (some ⟨wo.heap.size, 2, none⟩)) (.slice A6 (m + 1) c6) (by kernel_rfl) (by kernel_rfl) (by go_simp; rfl) ?_)
              refine wpAny_done (by kernel_rfl) ?_ _
              clear hrun k4 f4
              obtain ⟨w8, hw5⟩ : ∃ x5, x5 = w7.setCell ⟨wo.heap.size, 2, none⟩ (.slice A6 (m + 1) c6) := ⟨_, rfl⟩
              rw [← hw5] at BK5 o45 o25 Y5 ⊢
              clear hw5
              go_simp
              have disF : Hid (∀ b, bl A4 = some b → bl A6 ≠ some b) := fun b h1 h2 => dis5.out b h2 h1
              go_wp2_with (fail)
              go_roundw
              case rel => exact ⟨m + 1, A4, c4, A6, c6, by go_num, by omega, BK5.out.ext (by (repeat (first | assumption | exact Ext.rf _ | apply Ext.drew | apply Ext.drewN | apply Ext.alloc))), o25.out.ext (by (repeat (first | assumption | exact Ext.rf _ | apply Ext.drew | apply Ext.drewN | apply Ext.alloc))), o45.out.ext (by (repeat (first | assumption | exact Ext.rf _ | apply Ext.drew | apply Ext.drewN | apply Ext.alloc))), disF, Y5.out.tr (by (repeat (first | assumption | exact Ext.rf _ | apply Ext.drew | apply Ext.drewN | apply Ext.alloc)))⟩
              case measure => simp [intOf]; omega
        · obtain rfl : m = k := by omega
          have EW : Hid (inOrder (O.take m) ws = WS) := by
            have h : inOrder (O.take m) ws = WS := by rw [← lon.out, List.take_length]; exact hW.out.symm
            exact h
          have EV : Hid (inOrder (O.take m) vs = VS) := by
            have h : inOrder (O.take m) vs = VS := by rw [← lon.out, List.take_length]; exact hV.out.symm
            exact h
          have LW : Hid (m = WS.length) := by
            have h : m = WS.length := by rw [← EW.out, inOrder_len, List.length_take, lon.out]; omega
            exact h
          have LV : Hid (m = VS.length) := by
            have h : m = VS.length := by rw [← EV.out, inOrder_len, List.length_take, lon.out]; omega
            exact h
          rw [EW.out] at o1
          rw [EV.out] at o2
          have FIN : Hid (KnB wi wo.heap.size cap WS VS) := ⟨A1, c1, A2, c2, by rw [← LW.out, ← LV.out]; exact BK.out, o1.out.read, o2.out.read⟩
          clear EW EV LW LV hW hV
          go_wp2_with (fail)
          go_ret
          exact ⟨_, rfl, FIN.out.ext (by (repeat (first | assumption | exact Ext.rf _ | apply Ext.drew | apply Ext.drewN | apply Ext.alloc))), XI.out.tr (by (repeat (first | assumption | exact Ext.rf _ | apply Ext.drew | apply Ext.drewN | apply Ext.alloc)))⟩
end Go.Proofs.Ytcpadkaljnnieaa
namespace Go.Proofs.Ytcpadkaljnnieaa
open Go.RowKit Go.ChangeShapes Go.WideShapes Go.ChangeAt Go.Deep

/-- what lower leaves of a row -/
def lowC (xs : List Int) (m : Int) : List Int := xs.map fun n => if n = -1 then -1 else n - m
theorem lowC_len (xs : List Int) (m : Int) : (lowC xs m).length = xs.length := by unfold lowC; rw [List.length_map]
theorem leastG_take {xs : List Int} {k : Nat} {x b : Int} (h : xs[k]? = some x) : leastG b (xs.take (k + 1)) = if 0 ≤ x ∧ (leastG b (xs.take k) < 0 ∨ x < leastG b (xs.take k)) then x else leastG b (xs.take k) := by
  have app : ∀ (l : List Int) (b : Int), leastG b (l ++ [x]) = if 0 ≤ x ∧ (leastG b l < 0 ∨ x < leastG b l) then x else leastG b l := by
    intro l
    induction l with
    | nil => intro b; rfl
    | cons y l ih => intro b; exact ih _
  rw [List.take_add_one, h]
  exact app _ _
theorem leastG_lo : ∀ (l : List Int) (b : Int), -1 ≤ b → -1 ≤ leastG b l
  | [], b, h => h
  | x :: l, b, h => by
    unfold leastG
    refine leastG_lo l _ ?_
    split <;> omega
theorem leastG_low : ∀ (l : List Int) (b : Int), -1 ≤ b → (0 ≤ b → leastG b l ≤ b ∧ 0 ≤ leastG b l) ∧ ∀ x ∈ l, 0 ≤ x → leastG b l ≤ x ∧ 0 ≤ leastG b l
  | [], b, h => ⟨fun h0 => ⟨Int.le_refl _, h0⟩, fun x hx => by cases hx⟩
  | y :: l, b, h => by
    unfold leastG
    have ih := leastG_low l (if 0 ≤ y ∧ (b < 0 ∨ y < b) then y else b) (by split <;> omega)
    refine ⟨fun h0 => ?_, fun x hx hx0 => ?_⟩
    · have := ih.1 (by split <;> omega)
      split at this <;> omega
    · rcases List.mem_cons.1 hx with rfl | hx
      · have := ih.1 (by split <;> omega)
        split at this <;> omega
      · exact ih.2 x hx hx0
def LowPost (base : Nat) (A : Option Addr) (c : Nat) (xs : List Int) (w : World) (e : Ending) (w' : World) : Prop :=
  e = .returned (.int .i64 (max (leastG (-1) xs) 0)) ∧ OwI w' base A c (lowC xs (leastG (-1) xs)) ∧ Mod (fun k => bl A = some k) w w'
def mixI (xs ys : List Int) (k : Nat) : List Int := ys.take k ++ xs.drop k
theorem mixI_len {xs ys : List Int} (h : ys.length = xs.length) (k : Nat) : (mixI xs ys k).length = xs.length := by
  unfold mixI
  rw [List.length_append, List.length_take, List.length_drop]
  omega
theorem mixI_at {xs ys : List Int} (h : ys.length = xs.length) {k : Nat} (hk : k < xs.length) : (mixI xs ys k)[k]? = xs[k]? := by
  unfold mixI
  rw [List.getElem?_append_right (by rw [List.length_take]; omega), List.length_take, List.getElem?_drop]
  congr 1
  omega
theorem mixI_set {xs ys : List Int} (h : ys.length = xs.length) {k : Nat} {y : Int} (hy : ys[k]? = some y) : (mixI xs ys k).set k y = mixI xs ys (k + 1) := by
  have hm := (List.getElem?_eq_some_iff.1 hy).1
  unfold mixI
  have e1 : (ys.take k).length = k := by rw [List.length_take]; omega
  rw [List.set_append_right (h := by omega), e1, Nat.sub_self, List.drop_eq_getElem_cons (show k < xs.length by omega), List.set_cons_zero, List.take_add_one, hy]
  simp
theorem mixI_full {xs ys : List Int} (h : ys.length = xs.length) : mixI xs ys xs.length = ys := by
  unfold mixI
  rw [List.take_of_length_le (by omega), List.drop_length, List.append_nil]
theorem mixI_keep {xs ys : List Int} (h : ys.length = xs.length) {k : Nat} {x : Int} (hx : xs[k]? = some x) (hy : ys[k]? = some x) : mixI xs ys (k + 1) = mixI xs ys k := by
  have hk := (List.getElem?_eq_some_iff.1 hx).1
  rw [← mixI_set h hy]
  have e := mixI_at h hk
  rw [hx] at e
  apply List.ext_getElem?
  intro j
  by_cases hj : j = k
  · subst hj
    rw [List.getElem?_set_self (by rw [mixI_len h]; exact hk), e]
  · rw [List.getElem?_set_ne (fun h => hj h.symm)]
set_option maxRecDepth 100000 in
set_option maxHeartbeats 2000000 in
theorem lower_any (base : Nat) (A : Option Addr) (c : Nat) (xs : List Int) (w : World) (hA : OwI w base A c xs) (hx : ∀ x ∈ xs, -1 ≤ x ∧ x ≤ 2147483647) (hl : xs.length ≤ 1000000) :
    Calls Try.prog 178 #[.slice A xs.length c] w (LowPost base A c xs w) := by
  have L0 : Hid (leastG (-1) (xs.take 0) = -1) := rfl
  have rA := Lib.hid hA.read
  replace hA := Lib.hid hA
  replace hx := Lib.hid hx
  have GL : Hid (∀ k, -1 ≤ leastG (-1) (xs.take k) ∧ leastG (-1) (xs.take k) ≤ 2147483647) := fun k => ⟨leastG_lo _ _ (by omega), leastG_bd (fun x h => (hx.out x (List.mem_of_mem_take h)).2) (by omega)⟩
  go_enter Try.func178, Try.ntmps178
  go_wp2_with (fail)
  go_loopw [3, 10] (fun v3 v10 wr => ∃ (k : Nat) (b : Int), v10 = .int .i64 k ∧ v3 = .int .i64 b ∧ k ≤ xs.length ∧ Hid (leastG (-1) (xs.take k) = b) ∧ Hid (Ext w wr)) (fun _ v _ => xs.length - (intOf v).toNat)
  case atStart => exact ⟨0, -1, rfl, rfl, by omega, L0, by (repeat (first | assumption | exact Ext.rf _ | apply Ext.drew | apply Ext.drewN | apply Ext.alloc))⟩
  case round =>
    obtain ⟨wo, rfl⟩ : ∃ wo : World, wo = wr := ⟨_, rfl⟩
    clear L0
    obtain ⟨k, b, rfl, rfl, hk, hB, Y⟩ := hrel
    have gb := GL.out k
    rw [hB.out] at gb
    by_cases hlt : k < xs.length
    · obtain ⟨pb, po, x, rfl, zx, cx, ex, _⟩ := (rA.out.ext Y.out).at (k := k) hlt
      have q1 : (k : Int) < (xs.length : Int) := by omega
      have bx := hx.out x (List.mem_of_getElem? ex.out)
      have LS : leastG (-1) (xs.take (k + 1)) = if 0 ≤ x ∧ (b < 0 ∨ x < b) then x else b := by rw [leastG_take ex.out, hB.out]
      clear ex hB
      by_cases h1 : x = -1
      · subst h1
        have LS1 : Hid (leastG (-1) (xs.take (k + 1)) = b) := by
          have h : leastG (-1) (xs.take (k + 1)) = b := by rw [LS, if_neg (by omega)]
          exact h
        clear LS
        go_wp2_with (fail)
        go_roundw
        case rel => exact ⟨k + 1, b, by go_num, rfl, by omega, LS1, Y.out.tr (by (repeat (first | assumption | exact Ext.rf _ | apply Ext.drew | apply Ext.drewN | apply Ext.alloc)))⟩
        case measure => simp [intOf]; omega
      · have e1 : (x != -1) = true := by simpa using h1
        by_cases h2 : b = -1
        · subst h2
          have LS1 : Hid (leastG (-1) (xs.take (k + 1)) = x) := by
            have h : leastG (-1) (xs.take (k + 1)) = x := by rw [LS, if_pos (by omega)]
            exact h
          clear LS
          go_wp2_with (fail)
          go_roundw
          case rel => exact ⟨k + 1, x, by go_num, rfl, by omega, LS1, Y.out.tr (by (repeat (first | assumption | exact Ext.rf _ | apply Ext.drew | apply Ext.drewN | apply Ext.alloc)))⟩
          case measure => simp [intOf]; omega
        · have e2 : (b == -1) = false := by simpa using h2
          by_cases h3 : x < b
          · have LS1 : Hid (leastG (-1) (xs.take (k + 1)) = x) := by
              have h : leastG (-1) (xs.take (k + 1)) = x := by rw [LS, if_pos (by omega)]
              exact h
            clear LS
            go_wp2_with (fail)
            go_roundw
            case rel => exact ⟨k + 1, x, by go_num, rfl, by omega, LS1, Y.out.tr (by (repeat (first | assumption | exact Ext.rf _ | apply Ext.drew | apply Ext.drewN | apply Ext.alloc)))⟩
            case measure => simp [intOf]; omega
          · have LS1 : Hid (leastG (-1) (xs.take (k + 1)) = b) := by
              have h : leastG (-1) (xs.take (k + 1)) = b := by rw [LS, if_neg (by omega)]
              exact h
            clear LS
            go_wp2_with (fail)
            go_roundw
            case rel => exact ⟨k + 1, b, by go_num, rfl, by omega, LS1, Y.out.tr (by (repeat (first | assumption | exact Ext.rf _ | apply Ext.drew | apply Ext.drewN | apply Ext.alloc)))⟩
            case measure => simp [intOf]; omega
    · have hB2 : leastG (-1) xs = b := by
        have h := hB.out
        rwa [List.take_of_length_le (by omega)] at h
      have LL := leastG_low xs (-1) (by omega)
      by_cases h2 : b = -1
      · subst h2
        have SAME : Hid (lowC xs (-1) = xs) := by
          have h : lowC xs (-1) = xs := by
            unfold lowC
            refine (List.map_congr_left fun x hx2 => ?_).trans (List.map_id xs)
            have h1 := LL.2 x hx2
            have h3 := hx.out x hx2
            rw [hB2] at h1
            by_cases h4 : x = -1
            · rw [if_pos h4]; simp [h4]
            · exact absurd (h1 (by omega)).2 (by decide)
          exact h
        replace hB2 := Lib.hid hB2
        clear hB LL
        go_wp2_with (fail)
        go_ret
        exact ⟨by rw [hB2.out]; rfl, by rw [hB2.out, SAME.out]; exact hA.out.ext Y.out, Mod.of_ext Y.out⟩
      · have e2 : (b == -1) = false := by simpa using h2
        have hlen : (lowC xs b).length = xs.length := lowC_len xs b
        have LA : Hid (∀ (k : Nat) (x : Int), xs[k]? = some x → (lowC xs b)[k]? = some (if x = -1 then -1 else x - b)) := fun k x h => by unfold lowC; rw [List.getElem?_map, h]; rfl
        have LB2 : Hid (∀ x ∈ xs, 0 ≤ x → b ≤ x) := fun x hx2 h0 => by have := (LL.2 x hx2 h0).1; rwa [hB2] at this
        obtain ⟨ys, hys⟩ : ∃ ys, Hid (lowC xs b = ys) := ⟨_, rfl⟩
        rw [hys.out] at hlen LA
        have M0 : Hid (OwI wo base A c (mixI xs ys 0)) := hA.out.ext Y.out
        have N0 : Hid (Mod (fun k => bl A = some k) w wo) := Mod.of_ext Y.out
        replace hB2 := Lib.hid hB2
        replace hlen := Lib.hid hlen
        clear hB LL
        go_wp2_with (fail)
        clear Y
        go_loopw [31] (fun v31 wx => ∃ (m : Nat), v31 = .int .i64 m ∧ m ≤ xs.length ∧ Hid (OwI wx base A c (mixI xs ys m)) ∧ Hid (Mod (fun k => bl A = some k) w wx)) (fun v _ => xs.length - (intOf v).toNat)
        case atStart => exact ⟨0, rfl, by omega, M0, N0⟩
        case round =>
          obtain ⟨wi, rfl⟩ : ∃ wi : World, wi = wr := ⟨_, rfl⟩
          clear M0 N0
          obtain ⟨m, rfl, hm, OM, MM⟩ := hrel
          by_cases hmt : m < xs.length
          · obtain ⟨x, ex⟩ : ∃ x, xs[m]? = some x := ⟨_, List.getElem?_eq_getElem hmt⟩
            have q1 : (m : Int) < (xs.length : Int) := by omega
            have bx := hx.out x (List.mem_of_getElem? ex)
            have em := mixI_at hlen.out hmt
            rw [ex] at em
            obtain ⟨g, rfl⟩ : ∃ g, A = some ⟨g, 0, none⟩ := by
              rcases OM.out.cases with ⟨_, _, h0⟩ | ⟨g, cur, h, _⟩
              · have := mixI_len hlen.out m; rw [h0] at this; simp at this; omega
              · exact ⟨g, h⟩
            have lm : m < (mixI xs ys m).length := by rw [mixI_len hlen.out]; exact hmt
            have yat := LA.out m x ex
            have lb := LB2.out x (List.mem_of_getElem? ex)
            obtain ⟨x', cx, fx, hbg, ex', SET⟩ := OM.out.cell lm
            obtain rfl : x = x' := Option.some.inj (em.symm.trans ex'.out)
            by_cases h1 : x = -1
            · subst h1
              have KE : Hid (mixI xs ys (m + 1) = mixI xs ys m) := mixI_keep hlen.out ex (by rw [yat, if_pos rfl])
              have OM2 : Hid (OwI wi base (some ⟨g, 0, none⟩) c (mixI xs ys (m + 1))) := by
                have h : OwI wi base (some ⟨g, 0, none⟩) c (mixI xs ys (m + 1)) := by rw [KE.out]; exact OM.out
                exact h
              clear SET ex ex' em yat OM lb
              go_wp2_with (fail)
              go_roundw
              case rel => exact ⟨m + 1, by go_num, by omega, OM2.out.ext (by (repeat (first | assumption | exact Ext.rf _ | apply Ext.drew | apply Ext.drewN | apply Ext.alloc))), MM.out.ext (by (repeat (first | assumption | exact Ext.rf _ | apply Ext.drew | apply Ext.drewN | apply Ext.alloc)))⟩
              case measure => simp [intOf]; omega
            · have e1 : (x != -1) = true := by simpa using h1
              have lb2 := lb (by omega)
              have gb2 : 0 ≤ b := by omega
              rw [if_neg h1] at yat
              have OM2 : Hid (OwI (wi.setCell ⟨g, m, none⟩ (.int .i64 (x - b))) base (some ⟨g, 0, none⟩) c (mixI xs ys (m + 1))) := by
                have h : OwI (wi.setCell ⟨g, m, none⟩ (.int .i64 (x - b))) base (some ⟨g, 0, none⟩) c (mixI xs ys (m + 1)) := by
                  rw [← mixI_set hlen.out yat]
                  exact SET.out _
                exact h
              have MM2 : Hid (Mod (fun k => bl (some (⟨g, 0, none⟩ : Addr)) = some k) w (wi.setCell ⟨g, m, none⟩ (.int .i64 (x - b)))) := MM.out.set (p := ⟨g, m, none⟩) (.inl rfl) _
              clear SET ex ex' em yat OM lb MM
              go_wp2_with (fail)
              go_roundw
              case rel => exact ⟨m + 1, by go_num, by omega, OM2.out.ext (by (repeat (first | assumption | exact Ext.rf _ | apply Ext.drew | apply Ext.drewN | apply Ext.alloc))), MM2.out.ext (by (repeat (first | assumption | exact Ext.rf _ | apply Ext.drew | apply Ext.drewN | apply Ext.alloc)))⟩
              case measure => simp [intOf]; omega
          · obtain rfl : m = xs.length := by omega
            have E : Hid (b = max (leastG (-1) xs) 0) := by
              have h : b = max (leastG (-1) xs) 0 := by rw [hB2.out]; omega
              exact h
            go_wp2_with (fail)
            go_ret
            refine ⟨ret_i E.out, ?_, MM.out⟩
            have h := OM.out
            rw [mixI_full hlen.out, ← hys.out, ← hB2.out] at h
            exact h
end Go.Proofs.Ytcpadkaljnnieaa
namespace Go.Proofs.Ytcpadkaljnnieaa
open Go.RowKit Go.ChangeShapes Go.WideShapes Go.ChangeAt Go.Deep

theorem owi_modOf {w w' : World} {base c : Nat} {A : Option Addr} {xs : List Int} (h : OwI w base A c xs) (hm : Mod (fun z => bl A = some z) w w') : ModT base [3] w w' := by
  refine Mod.mono hm fun k _ hk => ?_
  rcases h.cases with ⟨rfl, _⟩ | ⟨g, cur, rfl, hb, hh, _⟩
  · simp [bl] at hk
  · simp [bl] at hk
    subst hk
    exact ⟨hb, cur, _, hh, by simp⟩
def lowR (r : List Int) : List Int := lowC r (leastG (-1) r)
theorem lowR_len (r : List Int) : (lowR r).length = r.length := lowC_len _ _
theorem lowR_at {r : List Int} {c : Nat} (hc : c < r.length) : (lowR r).getD c 0 = if r.getD c 0 = -1 then -1 else r.getD c 0 - leastG (-1) r := by
  have e : r[c]? = some r[c] := List.getElem?_eq_getElem hc
  have h : (lowR r)[c]? = some (if r[c] = -1 then -1 else r[c] - leastG (-1) r) := by unfold lowR lowC; rw [List.getElem?_map, e]; rfl
  rw [getD_some h, getD_some e]
theorem lowR_bd {r : List Int} (h : ∀ x ∈ r, -1 ≤ x ∧ x ≤ 2147483647) : ∀ x ∈ lowR r, -1 ≤ x ∧ x ≤ 2147483647 := fun x hx => by
  unfold lowR lowC at hx
  obtain ⟨y, hy, rfl⟩ := List.mem_map.1 hx
  have hb := h y hy
  split
  · omega
  · have := (leastG_low r (-1) (by omega)).2 y hy (by omega)
    omega
theorem col_low {c : Nat} : ∀ (ms : List (List Int)) (b : Int), (∀ r ∈ ms, c < r.length ∧ ∀ x ∈ r, -1 ≤ x ∧ x ≤ 2147483647) → leastG b (ms.map fun r => (lowR r).getD c 0) = colG c b ms (offG ms)
  | [], b, _ => rfl
  | r :: ms, b, h => by
    obtain ⟨h1, h2⟩ := h r (by simp)
    have hm := getD_mem h1
    have hb := h2 _ hm
    have hl := (leastG_low r (-1) (by omega)).2 _ hm
    have ih := fun b => col_low (c := c) ms b fun q hq => h q (by simp [hq])
    have e : offG (r :: ms) = max (leastG (-1) r) 0 :: offG ms := rfl
    rw [e]
    show leastG (if 0 ≤ (lowR r).getD c 0 ∧ (b < 0 ∨ (lowR r).getD c 0 < b) then (lowR r).getD c 0 else b) (ms.map fun r => (lowR r).getD c 0) = colG c (if 0 ≤ r.getD c 0 ∧ (b < 0 ∨ r.getD c 0 - max (leastG (-1) r) 0 < b) then r.getD c 0 - max (leastG (-1) r) 0 else b) ms (offG ms)
    rw [ih, lowR_at h1]
    congr 1
    by_cases hx : r.getD c 0 = -1
    · rw [if_pos hx, if_neg (by omega), if_neg (by omega)]
    · have h3 := hl (by omega)
      rw [if_neg hx, show max (leastG (-1) r) 0 = leastG (-1) r by omega]
      by_cases h4 : b < 0 ∨ r.getD c 0 - leastG (-1) r < b
      · rw [if_pos ⟨by omega, h4⟩, if_pos ⟨by omega, h4⟩]
      · rw [if_neg (fun h => h4 h.2), if_neg (fun h => h4 h.2)]
theorem RowsO.upd {w w' : World} {base : Nat} {us : List Value} {R : List (List Int)} {k n c c2 : Nat} {A : Option Addr} {r r' : List Int} (h : RowsO w base us R) (hd : RowsD us) (hk : us[k]? = some (.slice A n c)) (hr : R[k]? = some r) (hl : r'.length = r.length) (hn : n = r.length) (m : Mod (fun z => bl A = some z) w w') (o : OwI w' base A c2 r') (hc : c2 = c) : RowsO w' base us (R.set k r') := by
  subst hc hn
  obtain ⟨h1, h2⟩ := h
  have hkl := (List.getElem?_eq_some_iff.1 hr).1
  refine ⟨by rw [h1, List.length_set], fun j q hq => ?_⟩
  by_cases hj : k = j
  · subst hj
    rw [List.getElem?_set_self hkl] at hq
    obtain rfl := Option.some.inj hq
    exact ⟨A, c2, by rw [hl]; exact hk, o⟩
  · rw [List.getElem?_set_ne hj] at hq
    obtain ⟨A', c', g1, g2⟩ := h2 j q hq
    refine ⟨A', c', g1, g2.mod m fun b hb hs => ?_⟩
    rcases Nat.lt_or_gt_of_ne hj with hlt | hlt
    · exact hd k j _ _ hlt hk g1 b (by rw [ownBlock_bl]; exact hs) (by rw [ownBlock_bl]; exact hb)
    · exact hd j k _ _ hlt g1 hk b (by rw [ownBlock_bl]; exact hb) (by rw [ownBlock_bl]; exact hs)
def mixR (ms : List (List Int)) (k : Nat) : List (List Int) := (ms.take k).map lowR ++ ms.drop k
theorem mixR_at {ms : List (List Int)} {k : Nat} (hk : k < ms.length) : (mixR ms k)[k]? = ms[k]? := by
  unfold mixR
  rw [List.getElem?_append_right (by rw [List.length_map, List.length_take]; omega), List.length_map, List.length_take, List.getElem?_drop]
  congr 1
  omega
theorem mixR_set {ms : List (List Int)} {k : Nat} {r : List Int} (h : ms[k]? = some r) : (mixR ms k).set k (lowR r) = mixR ms (k + 1) := by
  have hm := (List.getElem?_eq_some_iff.1 h).1
  unfold mixR
  have e1 : ((ms.take k).map lowR).length = k := by rw [List.length_map, List.length_take]; omega
  rw [List.set_append_right (h := by omega), e1, Nat.sub_self, List.drop_eq_getElem_cons hm, List.set_cons_zero, List.take_add_one, h]
  simp
theorem mixR_full (ms : List (List Int)) : mixR ms ms.length = ms.map lowR := by
  unfold mixR
  rw [List.take_length, List.drop_length, List.append_nil]
def RedPost (base : Nat) (v : Int) (w : World) (e : Ending) (w' : World) : Prop := e = .returned (.int .i64 v) ∧ Below base w w'
set_option maxRecDepth 100000 in
theorem reduced_nil (base : Nat) (C : Option Addr) (cc : Nat) (w : World) :
    Calls Try.prog 177 #[.slice C 0 cc] w (RedPost base 0 w) := by
  go_enter Try.func177, Try.ntmps177
  go_wp2_with (fail)
  go_loopw [3, 12] (fun v3 v12 wr => v3 = .int .i64 0 ∧ v12 = .int .i64 0 ∧ Hid (wr = w)) (fun _ _ _ => 0)
  case atStart => exact ⟨rfl, rfl, rfl⟩
  case round =>
    obtain ⟨rfl, rfl, h⟩ := hrel
    have h' := h.out
    subst h'
    go_wp2_with (fail)
    go_ret
    exact ⟨rfl, Below.refl _ _⟩
set_option maxRecDepth 100000 in
set_option maxHeartbeats 4000000 in
theorem reduced_any (base : Nat) (C : Option Addr) (n cc L : Nat) (us : List Value) (ms : List (List Int)) (w : World) (hb : base ≤ w.heap.size) (hO : RdV w 22 C us) (hR : RowsO w base us ms) (hD : RowsD us) (hn : ms.length = n) (hn0 : 0 < n) (hn64 : n ≤ 64) (hL : ∀ r ∈ ms, r.length = L) (hL64 : L ≤ 64) (hx : ∀ r ∈ ms, ∀ x ∈ r, -1 ≤ x ∧ x ≤ 2147483647) :
    Calls Try.prog 177 #[.slice C n cc] w (RedPost base (rreduceG ms L) w) := by
  have OL : (offG ms).length = n := by unfold offG; rw [List.length_map, hn]
  have OA : Hid (∀ (k : Nat) (r : List Int), ms[k]? = some r → (offG ms)[k]? = some (max (leastG (-1) r) 0)) := fun k r h => by unfold offG; rw [List.getElem?_map, h]; rfl
  have OB : ∀ x ∈ offG ms, 0 ≤ x ∧ x ≤ 2147483647 := fun x hx2 => by
    unfold offG at hx2
    obtain ⟨r, hr, rfl⟩ := List.mem_map.1 hx2
    have := leastG_bd (b := -1) (fun y hy => (hx r hr y hy).2) (by omega : (-1 : Int) ≤ 2147483647)
    omega
  have CA : Hid (∀ c, c < L → (rcolG ms L)[c]? = some (max (leastG (-1) ((ms.map lowR).map fun r => r.getD c 0)) 0)) := fun c hc => by
    unfold rcolG
    rw [List.getElem?_map, List.getElem?_range hc, List.map_map]
    have := col_low (c := c) ms (-1) fun r hr => ⟨by rw [hL r hr]; exact hc, hx r hr⟩
    simp only [Option.map_some, Function.comp_def]
    rw [this]
  have CL : (rcolG ms L).length = L := by unfold rcolG; rw [List.length_map, List.length_range]
  have LB : Hid (∀ r ∈ ms.map lowR, r.length = L ∧ ∀ x ∈ r, -1 ≤ x ∧ x ≤ 2147483647) := fun r hr => by
    obtain ⟨q, hq, rfl⟩ := List.mem_map.1 hr
    exact ⟨by rw [lowR_len, hL q hq], lowR_bd (hx q hq)⟩
  have CB : ∀ x ∈ rcolG ms L, 0 ≤ x ∧ x ≤ 2147483647 := fun x hx2 => by
    obtain ⟨c, hc, rfl⟩ := List.getElem_of_mem hx2
    have h1 := CA.out c (by omega)
    rw [List.getElem?_eq_getElem hc] at h1
    have h2 := Option.some.inj h1
    rw [h2]
    have := leastG_bd (b := -1) (l := (ms.map lowR).map fun r => r.getD c 0) (B := 2147483647) (fun y hy => by
      obtain ⟨r, hr, rfl⟩ := List.mem_map.1 hy
      have := LB.out r hr
      exact (this.2 _ (getD_mem (by omega))).2) (by omega)
    omega
  have SO := Lib.hid (sum_take_bd OB (by omega))
  have SC := Lib.hid (sum_take_bd CB (by omega))
  have TOT : Hid (rreduceG ms L = sumL (offG ms) + sumL (rcolG ms L)) := rfl
  obtain ⟨tot, htot⟩ : ∃ tot, Hid (rreduceG ms L = tot) := ⟨_, rfl⟩
  rw [htot.out]
  have R0 : Hid (RowsO w base us (mixR ms 0)) := hR
  have S0 : Hid (sumL ((offG ms).take 0) = 0) := rfl
  have LU : us.length = n := by rw [hR.1, hn]
  generalize offG ms = offs_ at *
  generalize rcolG ms L = cols_ at *
  replace hO := Lib.hid hO
  replace hD := Lib.hid hD
  replace hn := Lib.hid hn
  replace hL := Lib.hid hL
  replace hx := Lib.hid hx
  replace OL := Lib.hid OL
  replace CL := Lib.hid CL
  replace LU := Lib.hid LU
  clear hR OB CB
  go_enter Try.func177, Try.ntmps177
  go_wp2_with (fail)
  go_loopw [3, 12] (fun v3 v12 wr => ∃ (k : Nat) (s : Int), v12 = .int .i64 k ∧ v3 = .int .i64 s ∧ k ≤ n ∧ 0 ≤ s ∧ s ≤ 2147483647 * k ∧ Hid (sumL (offs_.take k) = s) ∧ Hid (RowsO wr base us (mixR ms k)) ∧ Hid (ModT base [3] w wr)) (fun _ v _ => n - (intOf v).toNat)
  case atStart => exact ⟨0, 0, rfl, rfl, by omega, by omega, by omega, S0, R0, ModT.rf w⟩
  case round =>
    obtain ⟨wo, rfl⟩ : ∃ wo : World, wo = wr := ⟨_, rfl⟩
    clear S0 R0
    obtain ⟨k, s, rfl, rfl, hk, s0, s1, hS, hR, MM⟩ := hrel
    have RV := hO.out.modT MM.out (by decide)
    by_cases hlt : k < n
    · obtain ⟨r, er⟩ : ∃ r, ms[k]? = some r := ⟨_, List.getElem?_eq_getElem (by rw [hn.out]; exact hlt)⟩
      have rmem := List.mem_of_getElem? er
      obtain ⟨A, c, eu, oA⟩ := hR.out.2 k r (by rw [mixR_at (by rw [hn.out]; exact hlt), er])
      obtain ⟨ob, oo, v, rfl, zo, co, ev⟩ := RV.at (j := k) (by rw [LU.out]; exact hlt)
      obtain rfl : v = .slice A r.length c := Option.some.inj (ev.out.symm.trans eu)
      have q1 : (k : Int) < (n : Int) := by omega
      have LW := Lib.hid (lower_any base A c r wo oA (hx.out r rmem) (by rw [hL.out r rmem]; omega))
      have ES : Hid (sumL (offs_.take (k + 1)) = s + max (leastG (-1) r) 0) := by
        have h : sumL (offs_.take (k + 1)) = s + max (leastG (-1) r) 0 := by rw [sum_take_snoc (OA.out k r er), hS.out]
        exact h
      have sb := SO.out (k + 1)
      rw [ES.out] at sb
      have sb1 : 0 ≤ s + max (leastG (-1) r) 0 ∧ s + max (leastG (-1) r) 0 ≤ 2147483647 * (k + 1) := by
        have := leastG_bd (b := -1) (fun y hy => (hx.out r rmem y hy).2) (by omega : (-1 : Int) ≤ 2147483647)
        omega
      have UP := Lib.hid (fun (w' : World) (m : Mod (fun z => bl A = some z) wo w') (o : OwI w' base A c (lowC r (leastG (-1) r))) => (by
        have h := hR.out.upd hD.out eu (by rw [mixR_at (by rw [hn.out]; exact hlt), er]) (lowR_len r) rfl m o rfl
        rwa [mixR_set er] at h : RowsO w' base us (mixR ms (k + 1))))
      have MO := Lib.hid (fun (w' : World) (m : Mod (fun z => bl A = some z) wo w') => MM.out.tr (owi_modOf oA m))
      unfold LowPost at LW
      generalize max (leastG (-1) r) 0 = lr at *
      have k64 : (k : Int) ≤ 64 := by omega
      clear eu ev er rmem oA sb hS hR MM RV
      go_wp2_with (fail)
      refine LW.out.mono ?_
      rintro e w5 ⟨rfl, o5, m5⟩
      have R5 := Lib.hid (UP.out w5 m5 o5)
      have M5 := Lib.hid (MO.out w5 m5)
      clear LW UP MO o5 m5
      go_wp2_with (fail)
      go_roundw
      case rel => exact ⟨k + 1, s + lr, by go_num, by go_num, by omega, by omega, by omega, ES, R5, M5⟩
      case measure => simp [intOf]; omega
    · obtain rfl : k = n := by omega
      have R9 : Hid (RowsO wo base us (ms.map lowR)) := by
        have h := hR.out
        rw [← hn.out, mixR_full] at h
        exact h
      have ES : Hid (sumL offs_ = s) := by
        have h := hS.out
        rw [List.take_of_length_le (by rw [OL.out]; exact Nat.le_refl _)] at h
        exact h
      have RV9 := Lib.hid RV
      have ml : (ms.map lowR).length = k := by rw [List.length_map, hn.out]
      have k64 : (k : Int) ≤ 64 := by omega
      have e0 : ((k : Int) == 0) = false := by simp; omega
      obtain ⟨r0, er0⟩ : ∃ r, (ms.map lowR)[0]? = some r := ⟨_, List.getElem?_eq_getElem (by omega)⟩
      obtain ⟨A0, c0, eu0, -⟩ := R9.out.2 0 r0 er0
      have lr0 := (LB.out r0 (List.mem_of_getElem? er0)).1
      obtain ⟨ob, oo, v, rfl, zo, co, ev⟩ := RV.at (j := 0) (by rw [LU.out]; omega)
      obtain rfl : v = .slice A0 r0.length c0 := Option.some.inj (ev.out.symm.trans eu0)
      rw [lr0, Nat.add_zero] at co
      have C0 : Hid (sumL (cols_.take 0) = 0) := rfl
      have q0 : (0 : Int) < (k : Int) := by omega
      replace ml := Lib.hid ml
      generalize ms.map lowR = M' at *
      clear eu0 ev er0 hS hR RV lr0
      go_wp2_with (fail)
      go_loopw [3, 29] (fun v3 v29 wr => ∃ (c : Nat) (s2 : Int), v29 = .int .i64 c ∧ v3 = .int .i64 (s + s2) ∧ c ≤ L ∧ 0 ≤ s2 ∧ s2 ≤ 2147483647 * c ∧ Hid (sumL (cols_.take c) = s2) ∧ Hid (Ext wo wr)) (fun _ v _ => L - (intOf v).toNat)
      case atStart => exact ⟨0, 0, rfl, by simp, by omega, by omega, by omega, C0, by (repeat (first | assumption | exact Ext.rf _ | apply Ext.drew | apply Ext.drewN | apply Ext.alloc))⟩
      case round =>
        obtain ⟨wi, rfl⟩ : ∃ wi : World, wi = wr := ⟨_, rfl⟩
        clear C0
        obtain ⟨c, s2, rfl, rfl, hc, t0, t1, hS, Y⟩ := hrel
        by_cases hct : c < L
        · have q1 : (c : Int) < (L : Int) := by omega
          have c64 : (c : Int) ≤ 64 := by omega
          obtain ⟨ys, hys⟩ : ∃ ys, Hid (M'.map (fun r => r.getD c 0) = ys) := ⟨_, rfl⟩
          have yl : ys.length = k := by rw [← hys.out, List.length_map, ml.out]
          have YB : Hid (∀ x ∈ ys, -1 ≤ x ∧ x ≤ 2147483647) := fun x hx2 => by
            rw [← hys.out] at hx2
            obtain ⟨r, hr, rfl⟩ := List.mem_map.1 hx2
            have := LB.out r hr
            exact this.2 _ (getD_mem (by omega))
          have CC := CA.out c hct
          rw [hys.out] at CC
          have ES2 : Hid (sumL (cols_.take (c + 1)) = s2 + max (leastG (-1) ys) 0) := by
            have h : sumL (cols_.take (c + 1)) = s2 + max (leastG (-1) ys) 0 := by rw [sum_take_snoc CC, hS.out]
            exact h
          have sb1 : 0 ≤ s2 + max (leastG (-1) ys) 0 ∧ s2 + max (leastG (-1) ys) 0 ≤ 2147483647 * (c + 1) := by
            have := leastG_bd (b := -1) (fun y hy => (YB.out y hy).2) (by omega : (-1 : Int) ≤ 2147483647)
            omega
          have rl0 : (List.replicate k (0 : Int)).length = k := List.length_replicate ..
          have zi := Y.out.size
          go_wp2_with (at_make; refine wpl_make_i _ rfl _ _ rfl wi.heap.size _ _ k rfl rfl rfl rfl (by omega) (Nat.le_refl _) ?_; rintro w3 o3 g3)
          have X3 := Lib.hid ((Ext.rf wi).grownNone g3)
          have O3 : Hid (OwI w3 wi.heap.size (some ⟨wi.heap.size, 0, none⟩) k (mixI (List.replicate k 0) ys 0)) := o3
          replace yl := Lib.hid yl
          replace rl0 := Lib.hid rl0
          clear o3 g3 CC
          go_wp2_with (fail)
          go_loopw [37] (fun v37 wx => ∃ (j : Nat), v37 = .int .i64 j ∧ j ≤ k ∧ Hid (OwI wx wi.heap.size (some ⟨wi.heap.size, 0, none⟩) k (mixI (List.replicate k 0) ys j)) ∧ Hid (Ext wi wx)) (fun v _ => k - (intOf v).toNat)
          case atStart => exact ⟨0, rfl, by omega, O3, X3⟩
          case round =>
            obtain ⟨wj, rfl⟩ : ∃ wj : World, wj = wr := ⟨_, rfl⟩
            clear O3 X3
            obtain ⟨j, rfl, hj, OJ, XJ⟩ := hrel
            by_cases hjt : j < k
            · have r1 : (j : Int) < (k : Int) := by omega
              obtain ⟨r, er⟩ : ∃ r, M'[j]? = some r := ⟨_, List.getElem?_eq_getElem (by have := ml.out; omega)⟩
              obtain ⟨A, ac, eu, oA⟩ := R9.out.2 j r er
              have rL := (LB.out r (List.mem_of_getElem? er)).1
              have RVj := (RV9.out.ext Y.out).ext XJ.out
              obtain ⟨ob2, oo2, v, hoo, zo2, co2, ev⟩ := RVj.at (j := j) (by rw [LU.out]; exact hjt)
              have hoo' : ob = ob2 ∧ oo = oo2 := by simpa using hoo
              obtain ⟨rfl, rfl⟩ := hoo'
              obtain rfl : v = .slice A r.length ac := Option.some.inj (ev.out.symm.trans eu)
              rw [rL] at co2
              obtain ⟨pb, po, y, rfl, zy, cy, ey, _⟩ := ((oA.read.ext Y.out).ext XJ.out).at (k := c) (by omega)
              have lj : j < (mixI (List.replicate k 0) ys j).length := by rw [mixI_len (by rw [rl0.out, yl.out]), rl0.out]; exact hjt
              obtain ⟨z0, cz, fz, hbz, ez, SET⟩ := OJ.out.cell lj
              have yj : ys[j]? = some y := by rw [← hys.out, List.getElem?_map, er]; simp only [Option.map_some]; rw [getD_some ey.out]
              have OJ2 : Hid (OwI (wj.setCell ⟨wi.heap.size, j, none⟩ (.int .i64 y)) wi.heap.size (some ⟨wi.heap.size, 0, none⟩) k (mixI (List.replicate k 0) ys (j + 1))) := by
                have h : OwI (wj.setCell ⟨wi.heap.size, j, none⟩ (.int .i64 y)) wi.heap.size (some ⟨wi.heap.size, 0, none⟩) k (mixI (List.replicate k 0) ys (j + 1)) := by
                  rw [← mixI_set (by rw [rl0.out, yl.out]) yj]
                  exact SET.out _
                exact h
              have XJ2 := Lib.hid (XJ.out.setNew (p := ⟨wi.heap.size, j, none⟩) (Nat.le_refl _) (.int .i64 y))
              clear eu ev er oA SET ez ey yj OJ hoo RVj
              go_wp2_with (fail)
              go_roundw
              case rel => exact ⟨j + 1, by go_num, by omega, OJ2.out.ext (by (repeat (first | assumption | exact Ext.rf _ | apply Ext.drew | apply Ext.drewN | apply Ext.alloc))), XJ2.out.tr (by (repeat (first | assumption | exact Ext.rf _ | apply Ext.drew | apply Ext.drewN | apply Ext.alloc)))⟩
              case measure => simp [intOf]; omega
            · obtain rfl : j = k := by omega
              have OF : OwI wj wi.heap.size (some ⟨wi.heap.size, 0, none⟩) j ys := by
                have h := OJ.out
                have h2 := mixI_full (xs := List.replicate j 0) (ys := ys) (by rw [rl0.out, yl.out])
                rw [rl0.out] at h2
                rw [h2] at h
                exact h
              have LW := lower_any wi.heap.size (some ⟨wi.heap.size, 0, none⟩) j ys wj OF YB.out (by rw [yl.out]; omega)
              rw [yl.out] at LW
              unfold LowPost at LW
              have XF := Lib.hid (fun (w' : World) (m : Mod (fun z => bl (some (⟨wi.heap.size, 0, none⟩ : Addr)) = some z) wj w') => Y.out.tr (XJ.out.modT (owi_modOf OF m) (Nat.le_refl _)))
              generalize max (leastG (-1) ys) 0 = lc at *
              replace LW := Lib.hid LW
              clear OF OJ
              go_wp2_with (fail)
              refine LW.out.mono ?_
              rintro e w5 ⟨rfl, -, m5⟩
              have X5 := Lib.hid (XF.out w5 m5)
              clear LW XF m5
              go_wp2_with (fail)
              go_roundw
              case rel => exact ⟨c + 1, s2 + lc, by go_num, by go_num, by omega, by omega, by omega, ES2, X5⟩
              case measure => simp [intOf]; omega
        · obtain rfl : c = L := by omega
          have E : Hid (s + s2 = tot) := by
            have h : s + s2 = tot := by
              have h := hS.out
              rw [List.take_of_length_le (by rw [CL.out]; exact Nat.le_refl _)] at h
              rw [← htot.out, TOT.out, ES.out, h]
            exact h
          go_wp2_with (fail)
          go_ret
          exact ⟨ret_i E.out, (MM.out.below hb fun q hq hs => by have := hs.1; omega).trans (Below.mono Y.out (by have := MM.out.size; omega))⟩
end Go.Proofs.Ytcpadkaljnnieaa
namespace Go.Proofs.Ytcpadkaljnnieaa
open Go.RowKit Go.ChangeShapes Go.WideShapes Go.ChangeAt Go.Deep

/-- the checker's rows in memory -/
def RwB (w : World) (g : Nat) (rows : List (List Int)) : Prop := ∃ (C : Option Addr) (c : Nat), Blk w g 134 #[.slice C rows.length c] ∧ rows.length ≤ c ∧ c ≤ maxLen ∧ RdE 1 RInts w C rows
theorem RwB.ext {w w' : World} {g : Nat} {rows : List (List Int)} (h : RwB w g rows) (x : Ext w w') : RwB w' g rows := by
  obtain ⟨C, c, h1, h3, h4, h2⟩ := h
  exact ⟨C, c, h1.ext x, h3, h4, h2.ext x fun _ _ h => h.ext x⟩
theorem rdepthc_any (w : World) (g : Nat) (rows : List (List Int)) (H : RwB w g rows) :
    Calls Try.prog 175 #[.pointer (some ⟨g, 0, none⟩)] w fun e w' => e = .returned (.int .i64 rows.length) ∧ Ext w w' := by
  obtain ⟨C, c, h1, -, -, -⟩ := H
  have t1 : w.cell? ⟨g, 0, none⟩ = some (.slice C rows.length c) := h1.cell 0
  go_enter Try.func175, Try.ntmps175
  go_wp2_with (fail)
  go_ret
  exact ⟨rfl, by (repeat (first | assumption | exact Ext.rf _ | apply Ext.drew | apply Ext.drewN | apply Ext.alloc))⟩
theorem absL_succ (a k : Nat) (p : List Int) : absL a (k + 1) p = absL a k p ++ if (decide (a ≤ k) && !p.contains (k : Int)) = true then [(k : Int)] else [] := by
  unfold absL intsN
  rw [List.range_succ, List.filter_append, List.map_append]
  congr 1
  by_cases h : (decide (a ≤ k) && !p.contains (k : Int)) = true
  · rw [if_pos h]; simp only [List.filter_cons, List.filter_nil, h, if_true]; rfl
  · rw [if_neg h]; simp only [List.filter_cons, List.filter_nil, h]; rfl
theorem absL_len (a n : Nat) (p : List Int) : (absL a n p).length ≤ n := by
  unfold absL
  rw [intsN_len]
  have := List.length_filter_le (fun c : Nat => decide (a ≤ c) && !p.contains (c : Int)) (List.range n)
  rwa [List.length_range] at this
set_option maxRecDepth 100000 in
set_option maxHeartbeats 2000000 in
theorem rkidsc_any (w : World) (g : Nat) (rows : List (List Int)) (H : RwB w g rows) (h24 : rows.length ≤ 64) (P : Option Addr) (c : Nat) (p : List Int) (hP : RdI w P p) (lp : p.length ≤ 1000000000) :
    Calls Try.prog 176 #[.pointer (some ⟨g, 0, none⟩), .slice P p.length c] w (OwnK (absL 0 rows.length p) w) := by
  obtain ⟨C, cc, h1, -, -, -⟩ := H
  have t1 : w.cell? ⟨g, 0, none⟩ = some (.slice C rows.length cc) := h1.cell 0
  have AB := Lib.hid (fun (W : World) (x : Ext w W) (n : Int) => absent_any P c p n W (hP.ext x) lp)
  generalize rows.length = n at *
  have START : Hid (OwI w w.heap.size none 0 (absL 0 0 p)) := OwI.nil w _
  have AL := Lib.hid (fun k => absL_len 0 k p)
  have AS := Lib.hid (fun k => absL_succ 0 k p)
  replace h1 := Lib.hid h1
  clear hP
  go_enter Try.func176, Try.ntmps176
  go_wp2_with (fail)
  go_loopw [5, 12] (fun v5 v12 wr => ∃ (k : Nat) (A : Option Addr) (ac : Nat) (xs : List Int), v12 = .int .i64 k ∧ v5 = .slice A xs.length ac ∧ k ≤ n ∧ Hid (xs = absL 0 k p) ∧ Hid (OwI wr w.heap.size A ac xs) ∧ Hid (Ext w wr)) (fun _ v _ => n - (intOf v).toNat)
  case atStart => exact ⟨0, none, 0, [], rfl, rfl, by omega, rfl, START, by (repeat (first | assumption | exact Ext.rf _ | apply Ext.drew | apply Ext.drewN | apply Ext.alloc))⟩
  case round =>
    obtain ⟨wo, rfl⟩ : ∃ wo : World, wo = wr := ⟨_, rfl⟩
    clear START
    obtain ⟨k, A, ac, xs, rfl, rfl, hk, hx, oX, Y⟩ := hrel
    by_cases hlt : k < n
    · have q1 : (k : Int) < (n : Int) := by omega
      have lx : xs.length < 64 := by rw [hx.out]; have := AL.out k; omega
      have AS2 := AS.out k
      rw [← hx.out] at AS2
      by_cases hc : p.contains (k : Int) = true
      · have AS3 : Hid (xs = absL 0 (k + 1) p) := by
          have h : xs = absL 0 (k + 1) p := by rw [AS2, hc]; simp
          exact h
        have e1 : (!p.contains (k : Int)) = false := by rw [hc]; rfl
        have AB2 := Lib.hid (AB.out)
        clear AS2 hx
        go_wp2_with (fail)
        refine (AB2.out _ (Y.out.tr (by (repeat (first | assumption | exact Ext.rf _ | apply Ext.drew | apply Ext.drewN | apply Ext.alloc)))) _).mono ?_
        rintro e w2 ⟨rfl, x2⟩
        rw [e1]
        have X2 := Lib.hid (Ext.tr (a := wo) (by (repeat (first | assumption | exact Ext.rf _ | apply Ext.drew | apply Ext.drewN | apply Ext.alloc))) x2)
        clear x2
        go_wp2_with (fail)
        go_roundw
        case rel => exact ⟨k + 1, A, ac, xs, by go_num, rfl, by omega, AS3, oX.out.ext (Ext.tr X2.out (by (repeat (first | assumption | exact Ext.rf _ | apply Ext.drew | apply Ext.drewN | apply Ext.alloc)))), Y.out.tr (Ext.tr X2.out (by (repeat (first | assumption | exact Ext.rf _ | apply Ext.drew | apply Ext.drewN | apply Ext.alloc))))⟩
        case measure => simp [intOf]; omega
      · have hc' : p.contains (k : Int) = false := by simpa using hc
        have AS3 : Hid (xs ++ [(k : Int)] = absL 0 (k + 1) p) := by
          have h : xs ++ [(k : Int)] = absL 0 (k + 1) p := by rw [AS2, hc']; simp
          exact h
        have e1 : (!p.contains (k : Int)) = true := by rw [hc']; rfl
        have AB2 := Lib.hid (AB.out)
        clear AS2 hx
        go_wp2_with (fail)
        refine (AB2.out _ (Y.out.tr (by (repeat (first | assumption | exact Ext.rf _ | apply Ext.drew | apply Ext.drewN | apply Ext.alloc)))) _).mono ?_
        rintro e w2 ⟨rfl, x2⟩
        rw [e1]
        have X2 := Lib.hid (Ext.tr (a := wo) (by (repeat (first | assumption | exact Ext.rf _ | apply Ext.drew | apply Ext.drewN | apply Ext.alloc))) x2)
        clear x2
        have O2 := Lib.hid (oX.out.ext X2.out)
        have zz := (Y.out.tr X2.out).size
        go_wp2_with (at_builtin; (refine wpl_app_i _ rfl _ _ rfl w.heap.size A xs.length ac xs [(k : Int)] (some ⟨w2.heap.size, 0, none⟩) 1 rfl rfl rfl ?_ ?_ ?_ ?_ ?_; (exact O2.out.ext ((Ext.rf _).alloc _)); (exact .blk (.new (by simp)) rfl); (simp; omega); (simp; omega); rintro A7 c7 w7 o7 g7 _; have Y7 : Ext w w7 := Ext.grow (a := w) ((Y.out.tr X2.out).alloc _) g7 (fun kk hkk => (oX.out.lt kk hkk).1)))
        have O7 : Hid (OwI w7 w.heap.size A7 c7 (xs ++ [(k : Int)])) := o7
        replace Y7 := Lib.hid Y7
        clear o7 g7
        go_wp2_with (fail)
        go_roundw
        case rel => exact ⟨k + 1, A7, c7, xs ++ [(k : Int)], by go_num, by first | rfl | simp, by omega, AS3, OwI.ext O7.out (by (repeat (first | assumption | exact Ext.rf _ | apply Ext.drew | apply Ext.drewN | apply Ext.alloc))), Ext.tr Y7.out (by (repeat (first | assumption | exact Ext.rf _ | apply Ext.drew | apply Ext.drewN | apply Ext.alloc)))⟩
        case measure => simp [intOf]; omega
    · obtain rfl : k = n := by omega
      go_wp2_with (fail)
      go_ret
      rw [← hx.out]
      exact ⟨A, ac, rfl, oX.out, Y.out⟩
end Go.Proofs.Ytcpadkaljnnieaa
namespace Go.Proofs.Ytcpadkaljnnieaa
open Go.RowKit Go.ChangeShapes Go.WideShapes Go.ChangeAt Go.Deep

theorem Ext.below2 {a b c d : World} (x : Ext a b) (y : Ext b c) (z : Below a.heap.size c d) : Ext a d := (Ext.tr x y).trans z
set_option maxRecDepth 100000 in
set_option maxHeartbeats 4000000 in
theorem rboundc_any (w : World) (g : Nat) (co : List (List Int)) (H : RwB w g co) (rok : RowsOk co) (P : Option Addr) (c : Nat) (p : List Int) (hP : RdI w P p) (m : Nat) (hr : freeP co.length p = some m) :
    Calls Try.prog 174 #[.pointer (some ⟨g, 0, none⟩), .slice P p.length c] w fun e w' => e = .returned (.int .i64 (boundA co p).1) ∧ Ext w w' := by
  have l1 := rok.n1
  have l2 := rok.n2
  obtain ⟨hpl, hin, hS⟩ := freeP_in l2 hr
  have hlen := freeP_len l2 hr
  have KR := fun (W : World) (x : Ext w W) => rkidsc_any W g co (H.ext x) (by omega) P c p (hP.ext x) (by omega)
  rw [abs_assign l2 hr] at KR
  unfold OwnK at KR
  rw [intsN_len] at KR
  obtain ⟨C, d, h1, hd1, hd2, hC⟩ := H
  obtain ⟨tot, ht⟩ : ∃ tot, Hid (tot = costF co p + (if p.length < co.length then reduceP (co.drop p.length) (memsM m) else 0)) := ⟨_, rfl⟩
  have e : (boundA co p).1 = tot := by unfold boundA; rw [hr]; simp only [← ht.out]
  rw [e]
  clear e
  have RB := Lib.hid (reduceP_bd (rows := co.drop p.length) (m := m) (by rw [List.length_drop]; omega) (fun row hr c hc => rok.get (List.mem_of_mem_drop hr) (hS.2 c hc)))
  have hsub := Lib.hid hS.2
  replace KR := Lib.hid KR
  clear hr hS
  generalize memsM m = l at *
  have t0 : w.cell? ⟨g, 0, none⟩ = some (.slice C co.length d) := h1.cell 0
  have z0 := h1.lt
  obtain ⟨cb, cof, rfl⟩ : ∃ cb cof, C = some ⟨cb, cof, none⟩ := by
    obtain ⟨cb, cof, D', row, d', h, _⟩ := hC.ints (show 0 < co.length by omega)
    exact ⟨cb, cof, h⟩
  replace hin := Lib.hid hin
  replace rok := Lib.hid rok
  replace hC := Lib.hid hC
  replace hP := Lib.hid hP
  replace h1 := Lib.hid h1
  go_enter Try.func174, Try.ntmps174
  go_wp2_with (fail)
  go_loopw [5, 17] (fun s v wr => ∃ (k : Nat) (su : Int), v = .int .i64 k ∧ s = .int .i64 su ∧ k ≤ p.length ∧ Hid (costF co (p.take k) = su) ∧ Hid (Ext w wr)) (fun _ v _ => p.length - (intOf v).toNat)
  case atStart => exact ⟨0, 0, rfl, rfl, by omega, (by cases co <;> rfl : costF co (p.take 0) = 0), by (repeat (first | assumption | exact Ext.rf _ | apply Ext.drew | apply Ext.drewN | apply Ext.alloc))⟩
  case round =>
    obtain ⟨wo, rfl⟩ : ∃ wo : World, wo = wr := ⟨_, rfl⟩
    obtain ⟨k, su, rfl, rfl, hk, HS, Y⟩ := hrel
    have bdS : Hid (0 ≤ su ∧ su ≤ 2147483647 * 24) := by
      have h1 := costF_bd (B := 2147483647) (rows := co) (p := p.take k) (by omega) fun row hr c hc => by
        have := hin.out c (List.mem_of_mem_take hc)
        exact rok.out.get hr (by omega)
      have h2 : (p.take k).length ≤ 24 := by rw [List.length_take]; omega
      have h : 0 ≤ su ∧ su ≤ 2147483647 * 24 := by
        rw [← HS.out]
        omega
      exact h
    have d5 : wo.cell? ⟨g, 0, none⟩ = some (.slice (some ⟨cb, cof, none⟩) co.length d) := keepEL Y.out z0 t0
    by_cases hlt : k < p.length
    · have hkr : k < co.length := by omega
      obtain ⟨cb', cof', D', row, d', hq, _, cD, er, _, rD, iD, ld, md⟩ := (hC.out.ext Y.out fun _ _ h => h.ext Y.out).ints hkr
      obtain ⟨rfl, rfl⟩ : cb = cb' ∧ cof = cof' := by simpa using hq
      have hmem := List.mem_of_getElem? er.out
      obtain ⟨pb, po, c, rfl, zp, cp, ep, _⟩ := (hP.out.ext Y.out).at hlt
      have hc := hin.out c (List.mem_of_getElem? ep.out)
      obtain ⟨i, rfl⟩ : ∃ i : Nat, c = (i : Int) := ⟨c.toNat, by omega⟩
      have lrow := rok.out.row row hmem
      obtain ⟨rb, ro, y, rfl, zy, cy, ey, _⟩ := rD.at (k := i) (by omega)
      have yb := rok.out.get hmem (c := i) (by omega)
      rw [getD_some ey.out] at yb
      have b1 := bdS.out
      have hw : IntKind.i64.wrap (su + y) = su + y := IntWalk.i64_in _ (by omega)
      have HS2 : Hid (costF co (p.take (k + 1)) = su + y) := by
        have h : costF co (p.take (k + 1)) = su + y := by
          rw [costF_snoc er.out ep.out, HS.out, Int.toNat_natCast, getD_some ey.out]
        exact h
      have q1 : (k : Int) < (co.length : Int) := by omega
      have q2 : (k : Int) < (p.length : Int) := by omega
      have q3 : (i : Int) < (row.length : Int) := by omega
      clear er ep ey lrow b1 yb HS hc rD hmem hq
      go_wp2_with (fail)
      go_roundw
      case rel => exact ⟨k + 1, su + y, by go_num, by go_num, by omega, HS2, Y.out.tr (by (repeat (first | assumption | exact Ext.rf _ | apply Ext.drew | apply Ext.drewN | apply Ext.alloc)))⟩
      case measure => simp [intOf]; omega
    · obtain rfl : k = p.length := by omega
      have HS2 : Hid (costF co p = su) := by
        have h := HS.out
        rw [List.take_length] at h
        exact h
      clear HS
      go_wp2_with (fail)
      refine (KR.out _ (Y.out.tr (by (repeat (first | assumption | exact Ext.rf _ | apply Ext.drew | apply Ext.drewN | apply Ext.alloc))))).mono ?_
      rintro e w2 ⟨A2, c2, rfl, o2, x2⟩
      have X2 := Lib.hid (Y.out.tr (Ext.tr (by (repeat (first | assumption | exact Ext.rf _ | apply Ext.drew | apply Ext.drewN | apply Ext.alloc))) x2))
      have d6 : w2.cell? ⟨g, 0, none⟩ = some (.slice (some ⟨cb, cof, none⟩) co.length d) := keepEL X2.out z0 t0
      replace o2 := Lib.hid o2.read
      clear x2 d5
      by_cases hz : d = p.length
      · have hz2 : co.length = p.length := by omega
        have e0 : Hid (su = tot) := by
          have h : su = tot := by rw [ht.out, HS2.out, if_neg (by omega)]; omega
          exact h
        have RN := Lib.hid (fun (W : World) => reduced_nil W.heap.size none 0 W)
        have b1 := bdS.out
        have hw9 : IntKind.i64.wrap (su + 0) = su := by rw [Int.add_zero]; exact IntWalk.i64_in _ (by omega)
        unfold RedPost at RN
        clear KR hC rok hsub hin RB ht HS2 bdS h1 hP o2 hlen hd1
        go_wp2_with (fail)
        go_loopw [9, 46] (fun v9 v46 wr => v9 = .slice none 0 0 ∧ v46 = .int .i64 0 ∧ Hid (Ext w wr)) (fun _ _ _ => 0)
        case atStart => exact ⟨rfl, rfl, X2.out.tr (by (repeat (first | assumption | exact Ext.rf _ | apply Ext.drew | apply Ext.drewN | apply Ext.alloc)))⟩
        case round =>
          obtain ⟨wp, rfl⟩ : ∃ wp : World, wp = wr := ⟨_, rfl⟩
          obtain ⟨rfl, rfl, XP⟩ := hrel
          clear X2
          go_wp2_with (fail)
          refine (RN.out _).mono ?_
          rintro e w9 ⟨rfl, x9⟩
          have XE := Lib.hid (XP.out.tr (Ext.tr (by (repeat (first | assumption | exact Ext.rf _ | apply Ext.drew | apply Ext.drewN | apply Ext.alloc))) x9))
          clear x9 XP
          go_wp2_with (fail)
          go_ret
          exact ⟨by rw [← e0.out]; simp, XE.out.tr (by (repeat (first | assumption | exact Ext.rf _ | apply Ext.drew | apply Ext.drewN | apply Ext.alloc)))⟩
      · obtain ⟨i0, hi, hz0, hz1, hz2⟩ := info_parts (row_info)
        replace hi := Lib.hid hi
        replace hz0 := Lib.hid hz0
        replace hz1 := Lib.hid hz1
        replace hz2 := Lib.hid hz2
        have START : Hid (OwV w2 w2.heap.size 22 1 none 0 0 [] ∧ RowsO w2 w2.heap.size [] ((subM (co.drop p.length) l).take 0) ∧ RowsD [] ∧ Ext w2 w2) := ⟨OwV.nil _ _ _ _, RowsO.nil _ _, RowsD.nil, Ext.rf _⟩
        have hq : co.length - p.length ≤ 24 := by omega
        have q9 : ((co.length - p.length : Nat) : Int) = (co.length : Int) - (p.length : Int) := by omega
        obtain ⟨q, hq2⟩ : ∃ q, Hid (q = co.length - p.length) := ⟨_, rfl⟩
        have hq3 : q + p.length ≤ co.length := by have := hq2.out; omega
        have hq4 : co.length ≤ q + p.length := by have := hq2.out; omega
        have hq5 : q ≤ 24 := by omega
        have hl24 : l.length ≤ 24 := by omega
        replace hlen := Lib.hid hlen
        go_wp2_with (fail)
        rw [← hq2.out]
        clear hq q9
        go_loopw [9, 46] (fun mv v wr => ∃ (k : Nat) (M' : Option Addr) (mc : Nat) (ws : List Value), v = .int .i64 k ∧ mv = .slice M' k mc ∧ k ≤ q ∧ Hid (OwV wr w2.heap.size 22 1 M' k mc ws ∧ RowsO wr w2.heap.size ws ((subM (co.drop p.length) l).take k) ∧ RowsD ws ∧ Ext w2 wr)) (fun _ v _ => q - (intOf v).toNat)
        case atStart => exact ⟨0, none, 0, [], rfl, rfl, by omega, START⟩
        case round =>
          obtain ⟨wp, rfl⟩ : ∃ wp : World, wp = wr := ⟨_, rfl⟩
          obtain ⟨k, M', mc, ws, rfl, rfl, hk, HH⟩ := hrel
          clear START
          obtain ⟨oV, oR, oD, YP⟩ := HH.out
          have XP := Lib.hid (X2.out.tr YP)
          by_cases hrn : k < q
          · have q1 : (k : Int) < (q : Int) := by omega
            obtain ⟨cb', cof', D', row, d', hqq, zcb, cD, er, _, rD, iD, ld, md⟩ := (hC.out.ext XP.out fun _ _ h => h.ext XP.out).ints (show p.length + k < co.length by omega)
            obtain ⟨rfl, rfl⟩ : cb = cb' ∧ cof = cof' := by simpa using hqq
            have cD2 : wp.cell? ⟨cb, cof + p.length + k, none⟩ = some (.slice D' row.length d') := by rw [Nat.add_assoc]; exact cD
            have hmem := List.mem_of_getElem? er.out
            have lrow := Lib.hid (rok.out.row row hmem)
            have etk : Hid ((subM (co.drop p.length) l).take (k + 1) = (subM (co.drop p.length) l).take k ++ [l.map fun c => row.getD c 0]) := by
              have e0 : (subM (co.drop p.length) l)[k]? = some (l.map fun c => row.getD c 0) := by
                unfold subM
                rw [List.getElem?_map, List.getElem?_drop, er.out]
                rfl
              have h : (subM (co.drop p.length) l).take (k + 1) = (subM (co.drop p.length) l).take k ++ [l.map fun c => row.getD c 0] := by rw [List.take_add_one, e0]; rfl
              exact h
            have z1p := YP.size
            have S0 : Hid (OwI wp wp.heap.size none 0 []) := OwI.nil _ _
            have X0 : Hid (Ext wp wp) := Ext.rf _
            have hk24 : k ≤ 24 := by omega
            replace oV := Lib.hid oV
            replace oR := Lib.hid oR
            replace oD := Lib.hid oD
            replace YP := Lib.hid YP
            replace rD := Lib.hid rD
            have zD := World.block_lt_of_cell? _ _ cD
            clear er hmem HH cD hqq
            go_wp2_with (fail)
            go_loopw [12, 52] (fun rv v wr => ∃ (j : Nat) (R' : Option Addr) (rc : Nat) (xs : List Int), v = .int .i64 j ∧ rv = .slice R' xs.length rc ∧ j ≤ l.length ∧ Hid (xs = (l.take j).map fun c => row.getD c 0) ∧ Hid (OwI wr wp.heap.size R' rc xs) ∧ Hid (Ext wp wr)) (fun _ v _ => l.length - (intOf v).toNat)
            case atStart => exact ⟨0, none, 0, [], rfl, rfl, by omega, rfl, S0, by (repeat (first | assumption | exact Ext.rf _ | apply Ext.drew | apply Ext.drewN | apply Ext.alloc))⟩
            case round =>
              obtain ⟨wi, rfl⟩ : ∃ wi : World, wi = wr := ⟨_, rfl⟩
              obtain ⟨j, R', rc, xs, rfl, rfl, hj, hxs, oX, YI⟩ := hrel
              clear S0 X0
              have lxs : xs.length = j := by rw [hxs.out, List.length_map, List.length_take]; omega
              have lx24 : xs.length ≤ 24 := by omega
              replace lxs := Lib.hid lxs
              by_cases hjl : j < l.length
              · have YA := Lib.hid (YP.out.tr YI.out)
                have q2 : (j : Int) < (l.length : Int) := by omega
                have ej : l[j]? = some l[j] := List.getElem?_eq_getElem hjl
                have hjs := hsub.out _ (List.getElem_mem hjl)
                have hxs2 : Hid (xs ++ [row.getD l[j] 0] = (l.take (j + 1)).map fun c => row.getD c 0) := by
                  have h : xs ++ [row.getD l[j] 0] = (l.take (j + 1)).map fun c => row.getD c 0 := by
                    rw [List.take_add_one, ej, List.map_append, ← hxs.out]; rfl
                  exact h
                generalize l[j] = c at *
                obtain ⟨lb, lo, xk, rfl, zl, ck, exk, _⟩ := (o2.out.ext YP.out).at (k := j) (by rw [intsN_len]; exact hjl)
                obtain rfl : xk = (c : Int) := by
                  have h := exk.out
                  rw [intsN_get ej] at h
                  exact (Option.some.inj h).symm
                obtain ⟨rb, ro, y, rfl, zy, cy, ey, _⟩ := rD.out.at (k := c) (by rw [lrow.out]; exact hjs)
                rw [getD_some ey.out] at hxs2
                have q3 : (c : Int) < (row.length : Int) := by rw [lrow.out]; omega
                have ck' := keepEL YI.out zl ck
                have cy' := keepEL YI.out zy cy
                have zpi := YI.out.size
                have hj24 : j < 24 := by omega
                clear exk ej ey hjs hxs
                go_wp2_with (at_builtin; (refine wpl_app_i _ rfl _ _ rfl wp.heap.size R' xs.length rc xs [y] (some ⟨wi.heap.size, 0, none⟩) 1 rfl rfl rfl ?_ ?_ ?_ ?_ ?_; (exact oX.out.ext ((Ext.rf _).alloc _)); (exact .blk (.new (by simp)) rfl); (simp; omega); (simp; omega); rintro A7 c7 w7 o7 g7 _; have Y7 : Ext wp w7 := Ext.grow (a := wp) (YI.out.alloc _) g7 (fun kk hkk => (oX.out.lt kk hkk).1)))
                have O7 : Hid (OwI w7 wp.heap.size A7 c7 (xs ++ [y])) := o7
                replace Y7 := Lib.hid Y7
                clear o7 g7
                go_wp2_with (fail)
                go_roundw
                case rel => exact ⟨j + 1, A7, c7, xs ++ [y], by go_num, by first | rfl | simp, by omega, hxs2, OwI.ext O7.out (by (repeat (first | assumption | exact Ext.rf _ | apply Ext.drew | apply Ext.drewN | apply Ext.alloc))), Ext.tr Y7.out (by (repeat (first | assumption | exact Ext.rf _ | apply Ext.drew | apply Ext.drewN | apply Ext.alloc)))⟩
                case measure => simp [intOf]; omega
              · obtain rfl : j = l.length := by omega
                have hxs2 : Hid (xs = l.map fun c => row.getD c 0) := by
                  have h := hxs.out
                  rw [List.take_length] at h
                  exact h
                have X6 := Lib.hid ((Ext.tr YI.out ((Ext.rf wi).alloc (.cells #[.slice R' xs.length rc] 22))))
                have oV5 := oV.out.ext YI.out
                have zz := YI.out.size
                have M5 := Lib.hid (oV5.ext ((Ext.rf wi).alloc (.cells #[.slice R' xs.length rc] 22)))
                clear oV5 hxs
                go_wp2_with (at_builtin; (refine wpl_app_v _ (e := 22) Try.underlying59 hi.out hz0.out hz1.out hz2.out (by simp [Value.cells]) (by omega) rfl _ _ rfl w2.heap.size M' k mc ws (some ⟨wi.heap.size, 0, none⟩) 1 1 [.slice R' xs.length rc] rfl rfl M5.out (RdV.blk (.new (by simp))).rdC (by simp) (by simp [Value.oneCell']) (by simp only [maxLen]; omega) (by omega) (by simp; omega) ?_; rintro C6 c6 w6 o6 g6 _))
                have M6 := M5.out.grownT g6
                have NEW : Hid (OwV w6 w2.heap.size 22 1 C6 (k + 1) c6 (ws ++ [.slice R' xs.length rc]) ∧ RowsO w6 w2.heap.size (ws ++ [.slice R' xs.length rc]) ((subM (co.drop p.length) l).take (k + 1)) ∧ RowsD (ws ++ [.slice R' xs.length rc]) ∧ Ext w2 w6) := by
                  refine ⟨o6, ?_, oD.out.snoc oR.out oX.out, (YP.out.tr X6.out).modT M6 (Nat.le_refl _)⟩
                  rw [etk.out, ← hxs2.out]
                  exact ((oR.out.ext X6.out).modT M6 (by decide)).snoc (((oX.out.more z1p).ext ((Ext.rf _).alloc _)).modT M6 (by decide))
                clear o6 g6 M6
                go_wp2_with (fail)
                go_roundw
                case rel => exact ⟨k + 1, C6, c6, _, by go_num, rfl, by omega, NEW⟩
                case measure => simp [intOf]; omega
          · obtain rfl : k = q := by omega
            have lsub : (subM (co.drop p.length) l).length = k := by unfold subM; rw [List.length_map, List.length_drop]; omega
            rw [← lsub, List.take_length] at oR
            by_cases hk0 : k = 0
            · have e0 : Hid (su = tot) := by
                have h : su = tot := by rw [ht.out, HS2.out, if_neg (by omega)]; omega
                exact h
              subst hk0
              have RN := Lib.hid (fun (W : World) => reduced_nil W.heap.size M' mc W)
              have b1 := bdS.out
              unfold RedPost at RN
              clear KR hC rok hsub hin RB ht HS2 bdS h1 hP o2 hd1 HH oV oR oD YP lsub
              go_wp2_with (fail)
              refine (RN.out _).mono ?_
              rintro e w9 ⟨rfl, x9⟩
              have XE := Lib.hid (XP.out.tr (Ext.tr (by (repeat (first | assumption | exact Ext.rf _ | apply Ext.drew | apply Ext.drewN | apply Ext.alloc))) x9))
              clear x9 XP
              go_wp2_with (fail)
              go_ret
              exact ⟨by rw [← e0.out]; simp, XE.out.tr (by (repeat (first | assumption | exact Ext.rf _ | apply Ext.drew | apply Ext.drewN | apply Ext.alloc)))⟩
            · have e0 : Hid (su + reduceP (co.drop p.length) l = tot) := by
                have h : su + reduceP (co.drop p.length) l = tot := by rw [ht.out, HS2.out, if_pos (by omega)]
                exact h
              have RE : Hid (∀ W, Ext wp W → Calls Try.prog 177 #[.slice M' k mc] W (RedPost w2.heap.size (reduceP (co.drop p.length) l) W)) := by
                intro W x
                have hsm : ∀ row ∈ subM (co.drop p.length) l, ∃ q ∈ co.drop p.length, row = l.map fun c => q.getD c 0 := fun row h => by
                  obtain ⟨q, hq, rfl⟩ := List.mem_map.1 h
                  exact ⟨q, hq, rfl⟩
                have hn2 : ∀ row ∈ co.drop p.length, ∀ c ∈ l, 0 ≤ row.getD c 0 ∧ row.getD c 0 ≤ 2147483647 := fun row hq c hc => rok.out.get (List.mem_of_mem_drop hq) (hsub.out c hc)
                have hl0 : l ≠ [] := fun e => by have h := hlen.out; rw [e] at h; simp at h; omega
                have hm0 : co.drop p.length ≠ [] := fun e => by have := congrArg List.length e; rw [List.length_drop] at this; simp at this; omega
                have h := reduced_any w2.heap.size M' k mc l.length ws (subM (co.drop p.length) l) W (by have := YP.size; have := x.size; omega) (oV.ext x).read (oR.ext x) oD lsub (by omega) (by omega) (fun row h => by obtain ⟨q, _, rfl⟩ := hsm row h; simp) (by omega) (fun row h x hx => by
                  obtain ⟨q, hq, rfl⟩ := hsm row h
                  obtain ⟨c, hc, rfl⟩ := List.mem_map.1 hx
                  have := hn2 q hq c hc
                  omega)
                rw [show rreduceG (subM (co.drop p.length) l) l.length = reduceP (co.drop p.length) l from reduceG_sub hm0 hl0 hn2] at h
                exact h
              have rb := RB.out
              have b1 := bdS.out
              have XB : Hid (∀ W W', Ext wp W → Below w2.heap.size W W' → Ext w W') := fun W W' x b => (X2.out.tr (Ext.below2 YP x b))
              generalize reduceP (co.drop p.length) l = rp at *
              unfold RedPost at RE
              clear KR hC rok hsub hin RB ht HS2 bdS h1 hP o2 hd1 HH oV oR oD YP lsub
              go_wp2_with (fail)
              refine (RE.out _ (by (repeat (first | assumption | exact Ext.rf _ | apply Ext.drew | apply Ext.drewN | apply Ext.alloc)))).mono ?_
              rintro e w9 ⟨rfl, x9⟩
              have XE := Lib.hid (XB.out _ _ (by (repeat (first | assumption | exact Ext.rf _ | apply Ext.drew | apply Ext.drewN | apply Ext.alloc))) x9)
              clear x9 XP
              go_wp2_with (fail)
              go_ret
              exact ⟨ret_i e0.out, XE.out.tr (by (repeat (first | assumption | exact Ext.rf _ | apply Ext.drew | apply Ext.drewN | apply Ext.alloc)))⟩
end Go.Proofs.Ytcpadkaljnnieaa
namespace Go.Proofs.Ytcpadkaljnnieaa
open Go.RowKit Go.ChangeShapes Go.WideShapes Go.ChangeAt Go.Deep

/-- the checker's cities in memory -/
def CiB (w : World) (g : Nat) (mi : Bool) (rows : List (List Int)) : Prop := ∃ (C : Option Addr) (c : Nat), Blk w g 137 #[.slice C rows.length c, .bool mi] ∧ rows.length ≤ c ∧ c ≤ maxLen ∧ RdE 1 RInts w C rows
theorem CiB.ext {w w' : World} {g : Nat} {mi : Bool} {rows : List (List Int)} (h : CiB w g mi rows) (x : Ext w w') : CiB w' g mi rows := by
  obtain ⟨C, c, h1, h3, h4, h2⟩ := h
  exact ⟨C, c, h1.ext x, h3, h4, h2.ext x fun _ _ h => h.ext x⟩
set_option maxRecDepth 100000 in
theorem tdepthc_any (w : World) (g : Nat) (mi : Bool) (rows : List (List Int)) (H : CiB w g mi rows) (h1 : 1 ≤ rows.length) (h24 : rows.length ≤ 24) :
    Calls Try.prog 180 #[.pointer (some ⟨g, 0, none⟩)] w fun e w' => e = .returned (.int .i64 ((rows.length - 1 : Nat) : Int)) ∧ Ext w w' := by
  obtain ⟨C, c, h, -, -, -⟩ := H
  have t1 : w.cell? ⟨g, 0, none⟩ = some (.slice C rows.length c) := h.cell 0
  have hw : Hid (((rows.length : Int) - 1) = ((rows.length - 1 : Nat) : Int)) := by
    have h : ((rows.length : Int) - 1) = ((rows.length - 1 : Nat) : Int) := by omega
    exact h
  go_enter Try.func180, Try.ntmps180
  go_wp2_with (fail)
  go_ret
  exact ⟨ret_i hw.out, by (repeat (first | assumption | exact Ext.rf _ | apply Ext.drew | apply Ext.drewN | apply Ext.alloc))⟩
set_option maxRecDepth 100000 in
set_option maxHeartbeats 2000000 in
theorem tkidsc_any (w : World) (g : Nat) (mi : Bool) (rows : List (List Int)) (H : CiB w g mi rows) (h24 : rows.length ≤ 64) (P : Option Addr) (c : Nat) (p : List Int) (hP : RdI w P p) (lp : p.length ≤ 1000000000) :
    Calls Try.prog 181 #[.pointer (some ⟨g, 0, none⟩), .slice P p.length c] w (OwnK (absL 1 rows.length p) w) := by
  obtain ⟨C, cc, h1, -, -, -⟩ := H
  have t1 : w.cell? ⟨g, 0, none⟩ = some (.slice C rows.length cc) := h1.cell 0
  have AB := Lib.hid (fun (W : World) (x : Ext w W) (n : Int) => absent_any P c p n W (hP.ext x) lp)
  generalize rows.length = n at *
  have START : Hid (OwI w w.heap.size none 0 (absL 1 0 p)) := OwI.nil w _
  have AL := Lib.hid (fun k => absL_len 1 k p)
  have AS := Lib.hid (fun k => absL_succ 1 k p)
  replace h1 := Lib.hid h1
  clear hP
  go_enter Try.func181, Try.ntmps181
  go_wp2_with (fail)
  go_loopw [5, 12] (fun v5 v12 wr => ∃ (k : Nat) (A : Option Addr) (ac : Nat) (xs : List Int), v12 = .int .i64 k ∧ v5 = .slice A xs.length ac ∧ k ≤ n ∧ Hid (xs = absL 1 k p) ∧ Hid (OwI wr w.heap.size A ac xs) ∧ Hid (Ext w wr)) (fun _ v _ => n - (intOf v).toNat)
  case atStart => exact ⟨0, none, 0, [], rfl, rfl, by omega, rfl, START, by (repeat (first | assumption | exact Ext.rf _ | apply Ext.drew | apply Ext.drewN | apply Ext.alloc))⟩
  case round =>
    obtain ⟨wo, rfl⟩ : ∃ wo : World, wo = wr := ⟨_, rfl⟩
    clear START
    obtain ⟨k, A, ac, xs, rfl, rfl, hk, hx, oX, Y⟩ := hrel
    by_cases hlt : k < n
    · have q1 : (k : Int) < (n : Int) := by omega
      have lx : xs.length < 64 := by rw [hx.out]; have := AL.out k; omega
      have AS2 := AS.out k
      rw [← hx.out] at AS2
      by_cases hk0 : k = 0
      · subst hk0
        have AS3 : Hid (xs = absL 1 (0 + 1) p) := by
          have h : xs = absL 1 (0 + 1) p := by rw [AS2]; simp
          exact h
        clear AS2 hx
        go_wp2_with (fail)
        go_roundw
        case rel => exact ⟨1, A, ac, xs, by go_num, rfl, by omega, AS3, oX.out.ext (by (repeat (first | assumption | exact Ext.rf _ | apply Ext.drew | apply Ext.drewN | apply Ext.alloc))), Y.out.tr (by (repeat (first | assumption | exact Ext.rf _ | apply Ext.drew | apply Ext.drewN | apply Ext.alloc)))⟩
        case measure => simp [intOf]; omega
      have hk1 : (0 : Int) < (k : Int) := by omega
      have hk2 : decide (1 ≤ k) = true := decide_eq_true (by omega)
      rw [hk2] at AS2
      by_cases hc : p.contains (k : Int) = true
      · have AS3 : Hid (xs = absL 1 (k + 1) p) := by
          have h : xs = absL 1 (k + 1) p := by rw [AS2, hc]; simp
          exact h
        have e1 : (!p.contains (k : Int)) = false := by rw [hc]; rfl
        have AB2 := Lib.hid (AB.out)
        clear AS2 hx
        go_wp2_with (fail)
        refine (AB2.out _ (Y.out.tr (by (repeat (first | assumption | exact Ext.rf _ | apply Ext.drew | apply Ext.drewN | apply Ext.alloc)))) _).mono ?_
        rintro e w2 ⟨rfl, x2⟩
        rw [e1]
        have X2 := Lib.hid (Ext.tr (a := wo) (by (repeat (first | assumption | exact Ext.rf _ | apply Ext.drew | apply Ext.drewN | apply Ext.alloc))) x2)
        clear x2
        go_wp2_with (fail)
        go_roundw
        case rel => exact ⟨k + 1, A, ac, xs, by go_num, rfl, by omega, AS3, oX.out.ext (Ext.tr X2.out (by (repeat (first | assumption | exact Ext.rf _ | apply Ext.drew | apply Ext.drewN | apply Ext.alloc)))), Y.out.tr (Ext.tr X2.out (by (repeat (first | assumption | exact Ext.rf _ | apply Ext.drew | apply Ext.drewN | apply Ext.alloc))))⟩
        case measure => simp [intOf]; omega
      · have hc' : p.contains (k : Int) = false := by simpa using hc
        have AS3 : Hid (xs ++ [(k : Int)] = absL 1 (k + 1) p) := by
          have h : xs ++ [(k : Int)] = absL 1 (k + 1) p := by rw [AS2, hc']; simp
          exact h
        have e1 : (!p.contains (k : Int)) = true := by rw [hc']; rfl
        have AB2 := Lib.hid (AB.out)
        clear AS2 hx
        go_wp2_with (fail)
        refine (AB2.out _ (Y.out.tr (by (repeat (first | assumption | exact Ext.rf _ | apply Ext.drew | apply Ext.drewN | apply Ext.alloc)))) _).mono ?_
        rintro e w2 ⟨rfl, x2⟩
        rw [e1]
        have X2 := Lib.hid (Ext.tr (a := wo) (by (repeat (first | assumption | exact Ext.rf _ | apply Ext.drew | apply Ext.drewN | apply Ext.alloc))) x2)
        clear x2
        have O2 := Lib.hid (oX.out.ext X2.out)
        have zz := (Y.out.tr X2.out).size
        go_wp2_with (at_builtin; go_loud (refine wpl_app_i _ rfl _ _ rfl w.heap.size A xs.length ac xs [(k : Int)] (some ⟨w2.heap.size, 0, none⟩) 1 rfl rfl rfl ?_ ?_ ?_ ?_ ?_; (exact O2.out.ext ((Ext.rf _).alloc _)); (exact .blk (.new (by simp)) rfl); (simp; omega); (simp; omega); rintro A7 c7 w7 o7 g7 _; have Y7 : Ext w w7 := Ext.grow (a := w) ((Y.out.tr X2.out).alloc _) g7 (fun kk hkk => (oX.out.lt kk hkk).1)))
        have O7 : Hid (OwI w7 w.heap.size A7 c7 (xs ++ [(k : Int)])) := o7
        replace Y7 := Lib.hid Y7
        clear o7 g7
        go_wp2_with (fail)
        go_roundw
        case rel => exact ⟨k + 1, A7, c7, xs ++ [(k : Int)], by go_num, by first | rfl | simp, by omega, AS3, OwI.ext O7.out (by (repeat (first | assumption | exact Ext.rf _ | apply Ext.drew | apply Ext.drewN | apply Ext.alloc))), Ext.tr Y7.out (by (repeat (first | assumption | exact Ext.rf _ | apply Ext.drew | apply Ext.drewN | apply Ext.alloc)))⟩
        case measure => simp [intOf]; omega
    · obtain rfl : k = n := by omega
      go_wp2_with (fail)
      go_ret
      rw [← hx.out]
      exact ⟨A, ac, rfl, oX.out, Y.out⟩
theorem getD_some' {l : List (List Int)} {k : Nat} {x : List Int} (h : l[k]? = some x) : l.getD k [] = x := by simp [List.getD, h]
set_option maxRecDepth 100000 in
set_option maxHeartbeats 4000000 in
theorem gonec_any (w : World) (g : Nat) (mi : Bool) (co : List (List Int)) (H : CiB w g mi co) (rok : RowsOk co) (P : Option Addr) (c : Nat) (p : List Int) (hP : RdI w P p) (m last : Nat) (cost : Int) (hr : walkP co p = some (m, last, cost)) :
    Calls Try.prog 182 #[.pointer (some ⟨g, 0, none⟩), .slice P p.length c] w fun e w' => e = .returned (.tuple #[.int .i64 cost, .int .i64 last]) ∧ Ext w w' := by
  have l1 := rok.n1
  have l2 := rok.n2
  obtain ⟨l, W⟩ := walk_ok l1 l2 hr
  have hin : Hid (∀ c ∈ p, 0 ≤ c ∧ c < (co.length : Int)) := fun c hc => by
    rw [W.eq] at hc
    unfold intsN at hc
    obtain ⟨x, hx, rfl⟩ := List.mem_map.1 hc
    have := (W.inn x hx).1
    omega
  have hpl : p.length ≤ 24 := by have := W.len; have h2 := congrArg List.length W.eq; rw [intsN_len] at h2; omega
  have S0 : Hid (∃ m', walkT co m' 0 0 (p.drop 0) = some (m, last, cost)) := by
    unfold walkP at hr
    split at hr
    · cases hr
    · exact ⟨_, hr⟩
  obtain ⟨C, d, h1, hd1, hd2, hC⟩ := H
  have t0 : w.cell? ⟨g, 0, none⟩ = some (.slice C co.length d) := h1.cell 0
  have z0 := h1.lt
  replace rok := Lib.hid rok
  replace hC := Lib.hid hC
  replace hP := Lib.hid hP
  replace h1 := Lib.hid h1
  clear W hr
  go_enter Try.func182, Try.ntmps182
  go_wp2_with (fail)
  go_loopw [4, 5, 10] (fun v4 v5 v10 wr => ∃ (k la : Nat) (s : Int), v10 = .int .i64 k ∧ v4 = .int .i64 s ∧ v5 = .int .i64 la ∧ k ≤ p.length ∧ la < co.length ∧ 0 ≤ s ∧ s ≤ 2147483647 * k ∧ Hid (∃ m', walkT co m' la s (p.drop k) = some (m, last, cost)) ∧ Hid (Ext w wr)) (fun _ _ v _ => p.length - (intOf v).toNat)
  case atStart => exact ⟨0, 0, 0, rfl, rfl, rfl, by omega, by omega, by omega, by omega, S0, by (repeat (first | assumption | exact Ext.rf _ | apply Ext.drew | apply Ext.drewN | apply Ext.alloc))⟩
  case round =>
    obtain ⟨wo, rfl⟩ : ∃ wo : World, wo = wr := ⟨_, rfl⟩
    clear S0
    obtain ⟨k, la, s, rfl, rfl, rfl, hk, hla, s0, s1, hS, Y⟩ := hrel
    by_cases hlt : k < p.length
    · obtain ⟨cb, cof, D', row, d', rfl, _, cD, er, _, rD, iD, ld, md⟩ := (hC.out.ext Y.out fun _ _ h => h.ext Y.out).ints hla
      have hmem := List.mem_of_getElem? er.out
      obtain ⟨pb, po, c, rfl, zp, cp, ep, dp⟩ := (hP.out.ext Y.out).at hlt
      have hc := hin.out c (List.mem_of_getElem? ep.out)
      obtain ⟨i, rfl⟩ : ∃ i : Nat, c = (i : Int) := ⟨c.toNat, by omega⟩
      have lrow := rok.out.row row hmem
      obtain ⟨rb, ro, y, rfl, zy, cy, ey, _⟩ := rD.at (k := i) (by omega)
      have yb := rok.out.get hmem (c := i) (by omega)
      rw [getD_some ey.out] at yb
      have d5 : wo.cell? ⟨g, 0, none⟩ = some (.slice (some ⟨cb, cof, none⟩) co.length d) := keepEL Y.out z0 t0
      have HS2 : Hid (∃ m', walkT co m' i (s + y) (p.drop (k + 1)) = some (m, last, cost)) := by
        obtain ⟨m', h⟩ := hS.out
        rw [dp.out, walkT] at h
        split at h
        · rw [Int.toNat_natCast] at h
          unfold costAt at h
          rw [getD_some' er.out, getD_some ey.out] at h
          exact ⟨_, h⟩
        · cases h
      have q1 : (la : Int) < (co.length : Int) := by omega
      have q2 : (k : Int) < (p.length : Int) := by omega
      have q3 : (i : Int) < (row.length : Int) := by omega
      have k24 : (k : Int) ≤ 24 := by omega
      clear er ep dp ey lrow hS rD hmem
      go_wp2_with (fail)
      go_roundw
      case rel => exact ⟨k + 1, i, s + y, by go_num, by go_num, by go_num, by omega, by omega, by omega, by omega, HS2, Y.out.tr (by (repeat (first | assumption | exact Ext.rf _ | apply Ext.drew | apply Ext.drewN | apply Ext.alloc)))⟩
      case measure => simp [intOf]; omega
    · obtain rfl : k = p.length := by omega
      have E : s = cost ∧ la = last := by
        obtain ⟨m', h⟩ := hS.out
        rw [List.drop_length] at h
        have h' : some (m', la, s) = some (m, last, cost) := h
        injection h' with h'
        injection h' with h1 h2
        injection h2 with h2 h3
        exact ⟨h3, h2⟩
      obtain ⟨rfl, rfl⟩ := E
      clear hS
      go_wp2_with (fail)
      go_ret2
      exact ⟨rfl, Y.out.tr (by (repeat (first | assumption | exact Ext.rf _ | apply Ext.drew | apply Ext.drewN | apply Ext.alloc)))⟩
end Go.Proofs.Ytcpadkaljnnieaa
