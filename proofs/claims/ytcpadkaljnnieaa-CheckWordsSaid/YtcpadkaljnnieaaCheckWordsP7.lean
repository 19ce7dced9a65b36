/-
  The two least of some numbers.
  The checker's cities: the square of the ways that are left.
  The checker's cities: what meets at each.
  The checker's cities (a tour): bound.
  The checker's answer, whole; what it makes of a problem.
  The kids in rising order: by counting.
  The checker goes through a word: node and kids, by what is known of the problem behind its face.
  The checker's node, where a problem of kind 1 lies behind the face.
  The checker's kids, where a problem of kind 1 lies behind the face.
  The checker's node, where a problem of kind 2 lies behind the face.
  The checker's kids, where a problem of kind 2 lies behind the face.
  The checker's node, where a problem of kind 3 lies behind the face.
  The checker's kids, where a problem of kind 3 lies behind the face.
  check.Check, of all problems and certificates.
  What the laws on certificates share: a certificate as an argument; tame; the law's own example.
  The document's Best of nothing and Small, at problems in form; few.
  The document's order by keys (kurganref09.ByKey): by counting.
  The document's kernel of a knapsack: what may follow.
    The document's kernel of a knapsack: Answer.
  The document's kernel of a knapsack: Bound.
-/
import Derived.Test.YtcpadkaljnnieaaCheckWordsP6
namespace Go.Proofs.Ytcpadkaljnnieaa
open Go.RowKit Go.ChangeShapes Go.WideShapes Go.ChangeAt Go.Deep

set_option maxRecDepth 100000 in
set_option maxHeartbeats 4000000 in
theorem two_any (w : World) (P : Option Addr) (c : Nat) (a b : Int) (l : List Int) (hP : RdI w P (a :: b :: l)) (hc : (a :: b :: l).length ≤ c) (hc2 : c ≤ maxLen) (hl : l.length ≤ 1000) :
    Calls Try.prog 185 #[.slice P (a :: b :: l).length c] w fun e w' => e = .returned (.tuple #[.int .i64 (l.foldl putP (min a b, max a b)).1, .int .i64 (l.foldl putP (min a b, max a b)).2]) ∧ Ext w w' := by
  obtain ⟨ls, hls⟩ : ∃ ls, Hid (ls = a :: b :: l) := ⟨_, rfl⟩
  have ll : Hid (ls.length = l.length + 2) := by
    have h : ls.length = l.length + 2 := by rw [hls.out]; rfl
    exact h
  rw [← hls.out] at hP hc ⊢
  have l2 : 2 ≤ ls.length := by have := ll.out; omega
  obtain ⟨pb, po, x, rfl, z1, c1, e1, _⟩ := hP.at (k := 0) (by omega)
  obtain ⟨pb', po', y, hq, z2, c2, e2, _⟩ := hP.at (k := 1) (by omega)
  obtain ⟨rfl, rfl⟩ : pb = pb' ∧ po = po' := by simpa using hq
  obtain rfl : a = x := by have h := e1.out; rw [hls.out] at h; simpa using h
  obtain rfl : b = y := by have h := e2.out; rw [hls.out] at h; simpa using h
  clear e1 e2 hq
  rw [Nat.add_zero] at c1
  obtain ⟨q, hq⟩ : ∃ q, Hid (q = ls.length - 2) := ⟨_, rfl⟩
  have q1 : q + 2 ≤ ls.length := by have := hq.out; omega
  have q2 : ls.length ≤ q + 2 := by have := hq.out; omega
  have ql : Hid (q = l.length) := by
    have h : q = l.length := by have := ll.out; omega
    exact h
  have q5 : q ≤ 1000 := by have := ql.out; omega
  have q3 : (1 : Int) < (ls.length : Int) := by omega
  have q4 : 0 < ls.length := by omega
  have q6 : 1 < ls.length := by omega
  have AT : Hid (∀ (W : World), Ext w W → ∀ k, k < q → ∃ v, W.cell? ⟨pb, po + 2 + k, none⟩ = some (.int .i64 v) ∧ l.drop k = v :: l.drop (k + 1)) := fun W x k hk => by
    obtain ⟨pb', po', v, hq2, _, c3, e3, _⟩ := (hP.ext x).at (k := 2 + k) (by omega)
    obtain ⟨rfl, rfl⟩ : pb = pb' ∧ po = po' := by simpa using hq2
    have hk2 : k < l.length := by have := ql.out; omega
    have h := e3.out
    rw [hls.out, show 2 + k = k + 1 + 1 by omega, List.getElem?_cons_succ, List.getElem?_cons_succ, List.getElem?_eq_getElem hk2] at h
    refine ⟨v, by rw [Nat.add_assoc]; exact c3, ?_⟩
    rw [List.drop_eq_getElem_cons hk2, Option.some.inj h]
  obtain ⟨r, hr⟩ : ∃ r, Hid (l.foldl putP (min a b, max a b) = r) := ⟨_, rfl⟩
  rw [hr.out]
  replace hP := Lib.hid hP
  replace hc2 := Lib.hid hc2
  replace hls := Lib.hid hls
  clear hls
  generalize ls.length = n at *
  by_cases hcz : c = 2
  · obtain rfl : c = 2 := hcz
    obtain rfl : n = 2 := by omega
    by_cases hba : b < a
    · have S0 : Hid ((l.drop 0).foldl putP (b, a) = r) := by
        have h : (l.drop 0).foldl putP (b, a) = r := by rw [← hr.out, List.drop_zero, Int.min_eq_right (by omega), Int.max_eq_left (by omega)]
        exact h
      clear hr
      go_enter Try.func185, Try.ntmps185
      go_wp2_with (fail)
      go_region_held3 (fun w' => w'.cell? ⟨pb, po, none⟩ = some (.int .i64 a) ∧ w'.cell? ⟨pb, po + 1, none⟩ = some (.int .i64 b)) (go_keep) (fail)
      go_wp2_with (fail)
      go_loopw [4, 5, 22] (fun v4 v5 v22 wr => v22 = .int .i64 0 ∧ v4 = .int .i64 b ∧ v5 = .int .i64 a ∧ Hid (Ext w wr)) (fun _ _ _ _ => 0)
      case atStart => exact ⟨rfl, rfl, rfl, by (repeat (first | assumption | exact Ext.rf _ | apply Ext.drew | apply Ext.drewN | apply Ext.alloc))⟩
      case round =>
        obtain ⟨wo, rfl⟩ : ∃ wo : World, wo = wr := ⟨_, rfl⟩
        obtain ⟨rfl, rfl, rfl, Y⟩ := hrel
        have E : Hid (r = (b, a)) := by
          have h := S0.out
          rw [List.drop_of_length_le (by have := ql.out; omega)] at h
          exact h.symm
        clear S0
        go_wp2_with (fail)
        go_ret2
        rw [E.out]
        exact ⟨rfl, Y.out.tr (by (repeat (first | assumption | exact Ext.rf _ | apply Ext.drew | apply Ext.drewN | apply Ext.alloc)))⟩
    · have S0 : Hid ((l.drop 0).foldl putP (a, b) = r) := by
        have h : (l.drop 0).foldl putP (a, b) = r := by rw [← hr.out, List.drop_zero, Int.min_eq_left (by omega), Int.max_eq_right (by omega)]
        exact h
      clear hr
      go_enter Try.func185, Try.ntmps185
      go_wp2_with (fail)
      go_region_held3 (fun w' => w'.cell? ⟨pb, po, none⟩ = some (.int .i64 a) ∧ w'.cell? ⟨pb, po + 1, none⟩ = some (.int .i64 b)) (go_keep) (fail)
      go_wp2_with (fail)
      go_loopw [4, 5, 22] (fun v4 v5 v22 wr => v22 = .int .i64 0 ∧ v4 = .int .i64 a ∧ v5 = .int .i64 b ∧ Hid (Ext w wr)) (fun _ _ _ _ => 0)
      case atStart => exact ⟨rfl, rfl, rfl, by (repeat (first | assumption | exact Ext.rf _ | apply Ext.drew | apply Ext.drewN | apply Ext.alloc))⟩
      case round =>
        obtain ⟨wo, rfl⟩ : ∃ wo : World, wo = wr := ⟨_, rfl⟩
        obtain ⟨rfl, rfl, rfl, Y⟩ := hrel
        have E : Hid (r = (a, b)) := by
          have h := S0.out
          rw [List.drop_of_length_le (by have := ql.out; omega)] at h
          exact h.symm
        clear S0
        go_wp2_with (fail)
        go_ret2
        rw [E.out]
        exact ⟨rfl, Y.out.tr (by (repeat (first | assumption | exact Ext.rf _ | apply Ext.drew | apply Ext.drewN | apply Ext.alloc)))⟩
  · by_cases hba : b < a
    · have S0 : Hid ((l.drop 0).foldl putP (b, a) = r) := by
        have h : (l.drop 0).foldl putP (b, a) = r := by rw [← hr.out, List.drop_zero, Int.min_eq_right (by omega), Int.max_eq_left (by omega)]
        exact h
      clear hr
      go_enter Try.func185, Try.ntmps185
      go_wp2_with (fail)
      go_region_held3 (fun w' => w'.cell? ⟨pb, po, none⟩ = some (.int .i64 a) ∧ w'.cell? ⟨pb, po + 1, none⟩ = some (.int .i64 b)) (go_keep) (fail)
      go_wp2_with (fail)
      rw [← hq.out]
      clear hq
      go_loopw [4, 5, 22] (fun v4 v5 v22 wr => ∃ (k : Nat) (x y : Int), v22 = .int .i64 k ∧ v4 = .int .i64 x ∧ v5 = .int .i64 y ∧ k ≤ q ∧ Hid ((l.drop k).foldl putP (x, y) = r) ∧ Hid (Ext w wr)) (fun _ _ v _ => q - (intOf v).toNat)
      case atStart => exact ⟨0, b, a, rfl, rfl, rfl, by omega, S0, by (repeat (first | assumption | exact Ext.rf _ | apply Ext.drew | apply Ext.drewN | apply Ext.alloc))⟩
      case round =>
        obtain ⟨wo, rfl⟩ : ∃ wo : World, wo = wr := ⟨_, rfl⟩
        clear S0
        obtain ⟨k, x, y, rfl, rfl, rfl, hk, hS, Y⟩ := hrel
        by_cases hlt : k < q
        · obtain ⟨v, cv, dv⟩ := AT.out wo Y.out k hlt
          have r1 : (k : Int) < (q : Int) := by omega
          have HS := hS.out
          rw [dv, List.foldl_cons] at HS
          unfold putP at HS
          clear dv hS
          by_cases h1 : v < x
          · have HS2 : Hid ((l.drop (k + 1)).foldl putP (v, x) = r) := by rw [if_pos h1] at HS; exact HS
            clear HS
            go_wp2_with (fail)
            go_roundw
            case rel => exact ⟨k + 1, v, x, by go_num, by go_num, by go_num, by omega, HS2, Y.out.tr (by (repeat (first | assumption | exact Ext.rf _ | apply Ext.drew | apply Ext.drewN | apply Ext.alloc)))⟩
            case measure => simp [intOf]; omega
          · by_cases h2 : v < y
            · have HS2 : Hid ((l.drop (k + 1)).foldl putP (x, v) = r) := by rw [if_neg h1, if_pos h2] at HS; exact HS
              clear HS
              go_wp2_with (fail)
              go_roundw
              case rel => exact ⟨k + 1, x, v, by go_num, by go_num, by go_num, by omega, HS2, Y.out.tr (by (repeat (first | assumption | exact Ext.rf _ | apply Ext.drew | apply Ext.drewN | apply Ext.alloc)))⟩
              case measure => simp [intOf]; omega
            · have HS2 : Hid ((l.drop (k + 1)).foldl putP (x, y) = r) := by rw [if_neg h1, if_neg h2] at HS; exact HS
              clear HS
              go_wp2_with (fail)
              go_roundw
              case rel => exact ⟨k + 1, x, y, by go_num, by go_num, by go_num, by omega, HS2, Y.out.tr (by (repeat (first | assumption | exact Ext.rf _ | apply Ext.drew | apply Ext.drewN | apply Ext.alloc)))⟩
              case measure => simp [intOf]; omega
        · obtain rfl : k = q := by omega
          have E : Hid (r = (x, y)) := by
            have h := hS.out
            rw [ql.out, List.drop_length] at h
            exact h.symm
          clear hS
          go_wp2_with (fail)
          go_ret2
          rw [E.out]
          exact ⟨rfl, Y.out.tr (by (repeat (first | assumption | exact Ext.rf _ | apply Ext.drew | apply Ext.drewN | apply Ext.alloc)))⟩
    · have S0 : Hid ((l.drop 0).foldl putP (a, b) = r) := by
        have h : (l.drop 0).foldl putP (a, b) = r := by rw [← hr.out, List.drop_zero, Int.min_eq_left (by omega), Int.max_eq_right (by omega)]
        exact h
      clear hr
      go_enter Try.func185, Try.ntmps185
      go_wp2_with (fail)
      go_region_held3 (fun w' => w'.cell? ⟨pb, po, none⟩ = some (.int .i64 a) ∧ w'.cell? ⟨pb, po + 1, none⟩ = some (.int .i64 b)) (go_keep) (fail)
      go_wp2_with (fail)
      rw [← hq.out]
      clear hq
      go_loopw [4, 5, 22] (fun v4 v5 v22 wr => ∃ (k : Nat) (x y : Int), v22 = .int .i64 k ∧ v4 = .int .i64 x ∧ v5 = .int .i64 y ∧ k ≤ q ∧ Hid ((l.drop k).foldl putP (x, y) = r) ∧ Hid (Ext w wr)) (fun _ _ v _ => q - (intOf v).toNat)
      case atStart => exact ⟨0, a, b, rfl, rfl, rfl, by omega, S0, by (repeat (first | assumption | exact Ext.rf _ | apply Ext.drew | apply Ext.drewN | apply Ext.alloc))⟩
      case round =>
        obtain ⟨wo, rfl⟩ : ∃ wo : World, wo = wr := ⟨_, rfl⟩
        clear S0
        obtain ⟨k, x, y, rfl, rfl, rfl, hk, hS, Y⟩ := hrel
        by_cases hlt : k < q
        · obtain ⟨v, cv, dv⟩ := AT.out wo Y.out k hlt
          have r1 : (k : Int) < (q : Int) := by omega
          have HS := hS.out
          rw [dv, List.foldl_cons] at HS
          unfold putP at HS
          clear dv hS
          by_cases h1 : v < x
          · have HS2 : Hid ((l.drop (k + 1)).foldl putP (v, x) = r) := by rw [if_pos h1] at HS; exact HS
            clear HS
            go_wp2_with (fail)
            go_roundw
            case rel => exact ⟨k + 1, v, x, by go_num, by go_num, by go_num, by omega, HS2, Y.out.tr (by (repeat (first | assumption | exact Ext.rf _ | apply Ext.drew | apply Ext.drewN | apply Ext.alloc)))⟩
            case measure => simp [intOf]; omega
          · by_cases h2 : v < y
            · have HS2 : Hid ((l.drop (k + 1)).foldl putP (x, v) = r) := by rw [if_neg h1, if_pos h2] at HS; exact HS
              clear HS
              go_wp2_with (fail)
              go_roundw
              case rel => exact ⟨k + 1, x, v, by go_num, by go_num, by go_num, by omega, HS2, Y.out.tr (by (repeat (first | assumption | exact Ext.rf _ | apply Ext.drew | apply Ext.drewN | apply Ext.alloc)))⟩
              case measure => simp [intOf]; omega
            · have HS2 : Hid ((l.drop (k + 1)).foldl putP (x, y) = r) := by rw [if_neg h1, if_neg h2] at HS; exact HS
              clear HS
              go_wp2_with (fail)
              go_roundw
              case rel => exact ⟨k + 1, x, y, by go_num, by go_num, by go_num, by omega, HS2, Y.out.tr (by (repeat (first | assumption | exact Ext.rf _ | apply Ext.drew | apply Ext.drewN | apply Ext.alloc)))⟩
              case measure => simp [intOf]; omega
        · obtain rfl : k = q := by omega
          have E : Hid (r = (x, y)) := by
            have h := hS.out
            rw [ql.out, List.drop_length] at h
            exact h.symm
          clear hS
          go_wp2_with (fail)
          go_ret2
          rw [E.out]
          exact ⟨rfl, Y.out.tr (by (repeat (first | assumption | exact Ext.rf _ | apply Ext.drew | apply Ext.drewN | apply Ext.alloc)))⟩
end Go.Proofs.Ytcpadkaljnnieaa
namespace Go.Proofs.Ytcpadkaljnnieaa
open Go.RowKit Go.ChangeShapes Go.WideShapes Go.ChangeAt Go.Deep

theorem cent_us {rows : List (List Int)} {us : List Nat} {last src dst : Nat} (hd : dst ∈ us) (hl : last ∉ us) (h0 : 0 ∉ us) : entT rows us last src dst = if src = dst then -1 else costAt rows src dst := by
  unfold entT colsT
  by_cases e : src = last
  · subst e
    rw [if_pos rfl, if_pos hd, if_neg (fun e : src = dst => hl (by rw [e]; exact hd))]
  · rw [if_neg e]
    by_cases e2 : src = dst
    · subst e2
      rw [if_pos rfl, if_neg]
      intro h
      rcases List.mem_cons.1 h with h | h
      · exact h0 (h ▸ hd)
      · simp at h
    · rw [if_neg e2, if_pos]
      exact List.mem_cons.2 (.inr (List.mem_filter.2 ⟨hd, by simpa using e2⟩))
theorem cent_home {rows : List (List Int)} {us : List Nat} {last src : Nat} (h0 : 0 ∉ us) : entT rows us last src 0 = if src = last then -1 else costAt rows src 0 := by
  unfold entT colsT
  by_cases e : src = last
  · rw [if_pos e, if_pos e, if_neg h0]
  · rw [if_neg e, if_neg e, if_pos List.mem_cons_self]
/-- a square of the call's own -/
def OwnM (n : Nat) (ms : List (List Int)) (w : World) (e : Ending) (w' : World) : Prop := ∃ (M : Option Addr) (mc : Nat) (ws : List Value), e = .returned (.slice M n mc) ∧ OwV w' w.heap.size 22 1 M n mc ws ∧ RowsO w' w.heap.size ws ms ∧ RowsD ws ∧ Ext w w'
set_option maxRecDepth 100000 in
set_option maxHeartbeats 4000000 in
theorem squarec_any (w : World) (g : Nat) (mi : Bool) (co : List (List Int)) (H : CiB w g mi co) (rok : RowsOk co) (P : Option Addr) (c : Nat) (us : List Nat) (last : Nat) (hP : RdI w P (intsN us)) (hus : ∀ u ∈ us, u < co.length) (hla : last < co.length) (hl : last ∉ us) (h0 : 0 ∉ us) (hl24 : us.length ≤ 24) :
    Calls Try.prog 183 #[.pointer (some ⟨g, 0, none⟩), .slice P us.length c, .int .i64 last] w (OwnM (us.length + 1) (matT co us last) w) := by
  obtain ⟨C, d, h1, hd1, hd2, hC⟩ := H
  have t0 : w.cell? ⟨g, 0, none⟩ = some (.slice C co.length d) := h1.cell 0
  have z0 := h1.lt
  obtain ⟨ls, hls⟩ : ∃ ls, Hid (ls = intsN us) := ⟨_, rfl⟩
  have hn : Hid (ls.length = us.length) := by
    have h : ls.length = us.length := by rw [hls.out, intsN_len]
    exact h
  rw [← hls.out] at hP
  have MA : Hid (∀ k src, (last :: us)[k]? = some src → (matT co us last)[k]? = some ((us ++ [0]).map fun dst => entT co us last src dst)) := fun k src h => by
    unfold matT
    rw [List.getElem?_map, h]; rfl
  have ML : Hid ((matT co us last).length = ls.length + 1) := by
    have h : (matT co us last).length = ls.length + 1 := by unfold matT; rw [List.length_map, List.length_cons, hn.out]
    exact h
  have EU := Lib.hid (fun (src dst : Nat) (hd : dst ∈ us) => cent_us (rows := co) (src := src) hd hl h0)
  have EH := Lib.hid (fun (src : Nat) => cent_home (rows := co) (last := last) (src := src) h0)
  have LB : Hid (∀ k src, (last :: us)[k]? = some src → src < co.length) := fun k src h => by
    rcases List.mem_cons.1 (List.mem_of_getElem? h) with h | h
    · omega
    · exact hus _ h
  have hn24 : ls.length ≤ 24 := by rw [hn.out]; exact hl24
  rw [← hn.out]
  unfold OwnM
  have l2 := rok.n2
  obtain ⟨i0, hi, hz0, hz1, hz2⟩ := info_parts (row_info)
  replace hi := Lib.hid hi
  replace hz0 := Lib.hid hz0
  replace hz1 := Lib.hid hz1
  replace hz2 := Lib.hid hz2
  generalize matT co us last = MT at *
  replace rok := Lib.hid rok
  replace hC := Lib.hid hC
  replace hP := Lib.hid hP
  replace hus := Lib.hid hus
  replace h1 := Lib.hid h1
  replace hl := Lib.hid hl
  replace h0 := Lib.hid h0
  clear hl24
  have OL := Lib.hid (own_lit1 (w := w) (last : Int))
  go_enter Try.func183, Try.ntmps183
  go_wp2_with (at_builtin; (refine wpl_app_i _ rfl _ _ rfl w.heap.size (some ⟨w.heap.size, 0, none⟩) 1 1 [(last : Int)] ls P c rfl rfl rfl ?_ ?_ ?_ ?_ ?_; (exact OL.out); (exact hP.out.ext ((Ext.rf _).alloc _)); (simp; omega); (simp); rintro A1 c1 w1 o1 g1 _; have Y1 : Ext w w1 := Ext.grow (a := w) ((Ext.rf w).alloc _) g1 (fun kk hkk => (OL.out.lt kk hkk).1)))
  have X1 := Lib.hid Y1
  have B1 := Lib.hid Y1.size
  have o1r : Hid (RdI w1 A1 (intsN (last :: us))) := by
    have h : RdI w1 A1 (intsN (last :: us)) := by
      have h := o1.read
      rw [hls.out] at h
      exact h
    exact h
  have LEN : Hid ((intsN (last :: us)).length = ls.length + 1) := by
    have h : (intsN (last :: us)).length = ls.length + 1 := by rw [intsN_len, hn.out]; rfl
    exact h
  clear o1 g1 Y1
  have START : Hid (OwV w1 w1.heap.size 22 1 none 0 0 [] ∧ RowsO w1 w1.heap.size [] (MT.take 0) ∧ RowsD [] ∧ Ext w1 w1) := ⟨OwV.nil _ _ _ _, RowsO.nil _ _, RowsD.nil, Ext.rf _⟩
  go_loopw [7, 19] (fun mv v wr => ∃ (k : Nat) (M' : Option Addr) (mc : Nat) (ws : List Value), v = .int .i64 k ∧ mv = .slice M' k mc ∧ k ≤ ls.length + 1 ∧ Hid (OwV wr w1.heap.size 22 1 M' k mc ws ∧ RowsO wr w1.heap.size ws (MT.take k) ∧ RowsD ws ∧ Ext w1 wr)) (fun _ v _ => ls.length + 1 - (intOf v).toNat)
  case atStart => exact ⟨0, none, 0, [], rfl, rfl, by omega, START⟩
  case round =>
    obtain ⟨wp, rfl⟩ : ∃ wp : World, wp = wr := ⟨_, rfl⟩
    obtain ⟨k, M', mc, ws, rfl, rfl, hk, HH⟩ := hrel
    clear START
    obtain ⟨oV, oR, oD, YP⟩ := HH.out
    have XP := Lib.hid (X1.out.tr YP)
    by_cases hkn : k < ls.length + 1
    · have q1 : (k : Int) < (ls.length : Int) + 1 := by omega
      obtain ⟨src, es⟩ : ∃ src, (last :: us)[k]? = some src := ⟨_, List.getElem?_eq_getElem (by rw [List.length_cons, ← hn.out]; exact hkn)⟩
      obtain ⟨ab, ao, sv, rfl, za, ca, ea, _⟩ := (o1r.out.ext YP).at (k := k) (by rw [LEN.out]; exact hkn)
      obtain rfl : sv = (src : Int) := by
        have h := ea.out
        rw [intsN_get es] at h
        exact (Option.some.inj h).symm
      have hsl := LB.out k src es
      obtain ⟨cb, cof, D', row, d', rfl, zcb, cD, er, _, rD, iD, ld, md⟩ := (hC.out.ext XP.out fun _ _ h => h.ext XP.out).ints hsl
      have hmem := List.mem_of_getElem? er.out
      have lrow := Lib.hid (rok.out.row row hmem)
      have hrow : Hid (∀ dst, costAt co src dst = row.getD dst 0) := fun dst => by unfold costAt; rw [getD_some' er.out]
      have etk : Hid (MT.take (k + 1) = MT.take k ++ [(us ++ [0]).map fun dst => entT co us last src dst]) := by
        have h : MT.take (k + 1) = MT.take k ++ [(us ++ [0]).map fun dst => entT co us last src dst] := by rw [List.take_add_one, MA.out k src es]; rfl
        exact h
      have z1p := YP.size
      have S0 : Hid (OwI wp wp.heap.size none 0 []) := OwI.nil _ _
      have X0 : Hid (Ext wp wp) := Ext.rf _
      have q2 : (src : Int) < (co.length : Int) := by omega
      have tg : wp.cell? ⟨g, 0, none⟩ = some (.slice (some ⟨cb, cof, none⟩) co.length d) := keepEL XP.out z0 t0
      have zg : g < wp.heap.size := by have := XP.out.size; omega
      replace oV := Lib.hid oV
      replace oR := Lib.hid oR
      replace oD := Lib.hid oD
      replace YP := Lib.hid YP
      replace rD := Lib.hid rD
      have zD := World.block_lt_of_cell? _ _ cD
      clear er hmem HH ea es
      go_wp2_with (fail)
      go_loopw [10, 25] (fun rv v wr => ∃ (j : Nat) (R' : Option Addr) (rc : Nat) (xs : List Int), v = .int .i64 j ∧ rv = .slice R' xs.length rc ∧ j ≤ ls.length ∧ Hid (xs = (us.take j).map fun dst => entT co us last src dst) ∧ Hid (OwI wr wp.heap.size R' rc xs) ∧ Hid (Ext wp wr)) (fun _ v _ => ls.length - (intOf v).toNat)
      case atStart => exact ⟨0, none, 0, [], rfl, rfl, by omega, rfl, S0, by (repeat (first | assumption | exact Ext.rf _ | apply Ext.drew | apply Ext.drewN | apply Ext.alloc))⟩
      case round =>
        obtain ⟨wi, rfl⟩ : ∃ wi : World, wi = wr := ⟨_, rfl⟩
        obtain ⟨j, R', rc, xs, rfl, rfl, hj, hxs, oX, YI⟩ := hrel
        clear S0 X0
        have lx24 : xs.length ≤ 24 := by rw [hxs.out, List.length_map, List.length_take]; omega
        have zpi := YI.out.size
        have tg2 := keepEL YI.out zg tg
        have cD2 := keepEL YI.out zD cD
        by_cases hjl : j < ls.length
        · have q3 : (j : Int) < (ls.length : Int) := by omega
          have hju : j < us.length := by rw [← hn.out]; exact hjl
          have ej : us[j]? = some us[j] := List.getElem?_eq_getElem hju
          have hjs := hus.out _ (List.getElem_mem hju)
          have ENT := EU.out src _ (List.getElem_mem hju)
          have hxs2 : Hid (xs ++ [entT co us last src us[j]] = (us.take (j + 1)).map fun dst => entT co us last src dst) := by
            have h : xs ++ [entT co us last src us[j]] = (us.take (j + 1)).map fun dst => entT co us last src dst := by
              rw [List.take_add_one, ej, List.map_append, ← hxs.out]; rfl
            exact h
          generalize us[j] = dst at *
          obtain ⟨lb, lo, xk, rfl, zl, ck, exk, _⟩ := ((hP.out.ext XP.out).ext YI.out).at (k := j) hjl
          obtain rfl : xk = (dst : Int) := by
            have h := exk.out
            rw [hls.out, intsN_get ej] at h
            exact (Option.some.inj h).symm
          obtain ⟨rb, ro, y, rfl, zy, cy, ey, _⟩ := (rD.out.ext YI.out).at (k := dst) (by rw [lrow.out]; exact hjs)
          rw [hrow.out, getD_some ey.out] at ENT
          have q4 : (dst : Int) < (row.length : Int) := by rw [lrow.out]; omega
          clear exk ej ey hjs hxs hju
          by_cases hsd : src = dst
          · rw [if_pos hsd] at ENT
            rw [ENT] at hxs2
            subst hsd
            clear ENT
            go_wp2_with (at_builtin; (refine wpl_app_i _ rfl _ _ rfl wp.heap.size R' xs.length rc xs [-1] (some ⟨wi.heap.size, 0, none⟩) 1 rfl rfl rfl ?_ ?_ ?_ ?_ ?_; (exact oX.out.ext ((Ext.rf _).alloc _)); (exact .blk (.new (by simp)) rfl); (simp; omega); (simp; omega); rintro A7 c7 w7 o7 g7 _; have Y7 : Ext wp w7 := Ext.grow (a := wp) (YI.out.alloc _) g7 (fun kk hkk => (oX.out.lt kk hkk).1)))
            have O7 : Hid (OwI w7 wp.heap.size A7 c7 (xs ++ [-1])) := o7
            replace Y7 := Lib.hid Y7
            clear o7 g7
            go_wp2_with (fail)
            go_roundw
            case rel => exact ⟨j + 1, A7, c7, xs ++ [-1], by go_num, by first | rfl | simp, by omega, hxs2, OwI.ext O7.out (by (repeat (first | assumption | exact Ext.rf _ | apply Ext.drew | apply Ext.drewN | apply Ext.alloc))), Ext.tr Y7.out (by (repeat (first | assumption | exact Ext.rf _ | apply Ext.drew | apply Ext.drewN | apply Ext.alloc)))⟩
            case measure => simp [intOf]; omega
          · rw [if_neg hsd] at ENT
            rw [ENT] at hxs2
            have hsd2 : ((src : Int) == (dst : Int)) = false := by simp; omega
            have hsd3 : ¬ ((src : Int) = (dst : Int)) := by omega
            clear ENT
            go_wp2_with (at_builtin; (refine wpl_app_i _ rfl _ _ rfl wp.heap.size R' xs.length rc xs [y] (some ⟨wi.heap.size, 0, none⟩) 1 rfl rfl rfl ?_ ?_ ?_ ?_ ?_; (exact oX.out.ext ((Ext.rf _).alloc _)); (exact .blk (.new (by simp)) rfl); (simp; omega); (simp; omega); rintro A7 c7 w7 o7 g7 _; have Y7 : Ext wp w7 := Ext.grow (a := wp) (YI.out.alloc _) g7 (fun kk hkk => (oX.out.lt kk hkk).1)))
            have O7 : Hid (OwI w7 wp.heap.size A7 c7 (xs ++ [y])) := o7
            replace Y7 := Lib.hid Y7
            clear o7 g7
            go_wp2_with (fail)
            go_roundw
            case rel => exact ⟨j + 1, A7, c7, xs ++ [y], by go_num, by first | rfl | simp, by omega, hxs2, OwI.ext O7.out (by (repeat (first | assumption | exact Ext.rf _ | apply Ext.drew | apply Ext.drewN | apply Ext.alloc))), Ext.tr Y7.out (by (repeat (first | assumption | exact Ext.rf _ | apply Ext.drew | apply Ext.drewN | apply Ext.alloc)))⟩
            case measure => simp [intOf]; omega
        · obtain rfl : j = ls.length := by omega
          have hxs2 : Hid (xs = us.map fun dst => entT co us last src dst) := by
            have h := hxs.out
            rw [hn.out, List.take_length] at h
            exact h
          have hxs4 : Hid (xs ++ [entT co us last src 0] = (us ++ [0]).map fun dst => entT co us last src dst) := by
            have h : xs ++ [entT co us last src 0] = (us ++ [0]).map fun dst => entT co us last src dst := by rw [List.map_append, ← hxs2.out]; rfl
            exact h
          have ENT := EH.out src
          obtain ⟨rb, ro, y, rfl, zy, cy, ey, _⟩ := (rD.out.ext YI.out).at (k := 0) (by rw [lrow.out]; omega)
          rw [hrow.out, getD_some ey.out] at ENT
          rw [Nat.add_zero] at cy
          have q4 : (0 : Int) < (row.length : Int) := by rw [lrow.out]; omega
          have q5 : 0 < row.length := by omega
          clear ey hxs hxs2
          by_cases hsl2 : src = last
          · rw [if_pos hsl2] at ENT
            have hxs3 := hxs4
            rw [ENT] at hxs3
            subst hsl2
            clear ENT hxs4
            go_wp2_with (first
              | (at_builtin; (refine wpl_app_i _ rfl _ _ rfl wp.heap.size R' xs.length rc xs [-1] (some ⟨wi.heap.size, 0, none⟩) 1 rfl rfl rfl ?_ ?_ ?_ ?_ ?_; (exact oX.out.ext ((Ext.rf _).alloc _)); (exact .blk (.new (by simp)) rfl); (simp; omega); (simp; omega); rintro A7 c7 w7 o7 g7 _; have Y7 : Ext wp w7 := Ext.grow (a := wp) (YI.out.alloc _) g7 (fun kk hkk => (oX.out.lt kk hkk).1); have z7 := Y7.size; have M5 := Lib.hid ((oV.out.ext Y7).ext ((Ext.rf w7).alloc (.cells #[.slice A7 (xs.length + 1) c7] 22)))))
              | (at_builtin; (refine wpl_app_v _ (e := 22) Try.underlying59 hi.out hz0.out hz1.out hz2.out (by simp [Value.cells]) (by omega) rfl _ _ rfl w1.heap.size M' k mc ws (some ⟨w7.heap.size, 0, none⟩) 1 1 [.slice A7 (xs.length + 1) c7] rfl rfl M5.out (RdV.blk (.new (by simp))).rdC (by simp) (by simp [Value.oneCell']) (by simp only [maxLen]; omega) (by omega) (by simp; omega) ?_; rintro C6 c6 w6 o6 g6 _)))
            have M6 := M5.out.grownT g6
            have X6 := Lib.hid (Y7.alloc (.cells #[.slice A7 (xs.length + 1) c7] 22))
            have O7 : OwI w7 wp.heap.size A7 c7 (xs ++ [-1]) := o7
            have L7 : (xs ++ [-1]).length = xs.length + 1 := by simp
            have NEW : Hid (OwV w6 w1.heap.size 22 1 C6 (k + 1) c6 (ws ++ [.slice A7 (xs.length + 1) c7]) ∧ RowsO w6 w1.heap.size (ws ++ [.slice A7 (xs.length + 1) c7]) (MT.take (k + 1)) ∧ RowsD (ws ++ [.slice A7 (xs.length + 1) c7]) ∧ Ext w1 w6) := by
              rw [← L7]
              refine ⟨by rw [L7]; exact o6, ?_, oD.out.snoc oR.out O7, (YP.out.tr X6.out).modT M6 (Nat.le_refl _)⟩
              rw [etk.out, ← hxs3.out]
              exact ((oR.out.ext X6.out).modT M6 (by decide)).snoc (((O7.more z1p).ext ((Ext.rf _).alloc _)).modT M6 (by decide))
            clear o6 g6 M6 o7 g7 O7 L7 Y7 M5
            go_wp2_with (fail)
            go_roundw
            case rel => exact ⟨k + 1, C6, c6, _, by go_num, rfl, by omega, NEW⟩
            case measure => simp [intOf]; omega
          · rw [if_neg hsl2] at ENT
            have hxs3 := hxs4
            rw [ENT] at hxs3
            have hsd2 : ((src : Int) == (last : Int)) = false := by simp; omega
            have hsd3 : ¬ ((src : Int) = (last : Int)) := by omega
            clear ENT hxs4
            go_wp2_with (first
              | (at_builtin; (refine wpl_app_i _ rfl _ _ rfl wp.heap.size R' xs.length rc xs [y] (some ⟨wi.heap.size, 0, none⟩) 1 rfl rfl rfl ?_ ?_ ?_ ?_ ?_; (exact oX.out.ext ((Ext.rf _).alloc _)); (exact .blk (.new (by simp)) rfl); (simp; omega); (simp; omega); rintro A7 c7 w7 o7 g7 _; have Y7 : Ext wp w7 := Ext.grow (a := wp) (YI.out.alloc _) g7 (fun kk hkk => (oX.out.lt kk hkk).1); have z7 := Y7.size; have M5 := Lib.hid ((oV.out.ext Y7).ext ((Ext.rf w7).alloc (.cells #[.slice A7 (xs.length + 1) c7] 22)))))
              | (at_builtin; (refine wpl_app_v _ (e := 22) Try.underlying59 hi.out hz0.out hz1.out hz2.out (by simp [Value.cells]) (by omega) rfl _ _ rfl w1.heap.size M' k mc ws (some ⟨w7.heap.size, 0, none⟩) 1 1 [.slice A7 (xs.length + 1) c7] rfl rfl M5.out (RdV.blk (.new (by simp))).rdC (by simp) (by simp [Value.oneCell']) (by simp only [maxLen]; omega) (by omega) (by simp; omega) ?_; rintro C6 c6 w6 o6 g6 _)))
            have M6 := M5.out.grownT g6
            have X6 := Lib.hid (Y7.alloc (.cells #[.slice A7 (xs.length + 1) c7] 22))
            have O7 : OwI w7 wp.heap.size A7 c7 (xs ++ [y]) := o7
            have L7 : (xs ++ [y]).length = xs.length + 1 := by simp
            have NEW : Hid (OwV w6 w1.heap.size 22 1 C6 (k + 1) c6 (ws ++ [.slice A7 (xs.length + 1) c7]) ∧ RowsO w6 w1.heap.size (ws ++ [.slice A7 (xs.length + 1) c7]) (MT.take (k + 1)) ∧ RowsD (ws ++ [.slice A7 (xs.length + 1) c7]) ∧ Ext w1 w6) := by
              rw [← L7]
              refine ⟨by rw [L7]; exact o6, ?_, oD.out.snoc oR.out O7, (YP.out.tr X6.out).modT M6 (Nat.le_refl _)⟩
              rw [etk.out, ← hxs3.out]
              exact ((oR.out.ext X6.out).modT M6 (by decide)).snoc (((O7.more z1p).ext ((Ext.rf _).alloc _)).modT M6 (by decide))
            clear o6 g6 M6 o7 g7 O7 L7 Y7 M5
            go_wp2_with (fail)
            go_roundw
            case rel => exact ⟨k + 1, C6, c6, _, by go_num, rfl, by omega, NEW⟩
            case measure => simp [intOf]; omega
    · obtain rfl : k = ls.length + 1 := by omega
      have F : Hid (RowsO wp w.heap.size ws MT) := by
        have h := oR
        rw [← ML.out, List.take_length] at h
        exact h.more B1.out
      have V := Lib.hid (oV.more B1.out)
      replace oD := Lib.hid oD
      clear HH oV oR
      go_wp2_with (fail)
      go_ret
      exact ⟨M', mc, ws, rfl, V.out.ext (by (repeat (first | assumption | exact Ext.rf _ | apply Ext.drew | apply Ext.drewN | apply Ext.alloc))), F.out.ext (by (repeat (first | assumption | exact Ext.rf _ | apply Ext.drew | apply Ext.drewN | apply Ext.alloc))), oD.out, XP.out.tr (by (repeat (first | assumption | exact Ext.rf _ | apply Ext.drew | apply Ext.drewN | apply Ext.alloc)))⟩
end Go.Proofs.Ytcpadkaljnnieaa
namespace Go.Proofs.Ytcpadkaljnnieaa
open Go.RowKit Go.ChangeShapes Go.WideShapes Go.ChangeAt Go.Deep

theorem ci_row {w : World} {cb cof : Nat} {co : List (List Int)} (hC : RdE 1 RInts w (some ⟨cb, cof, none⟩) co) (rok : RowsOk co) {a : Nat} (ha : a < co.length) : ∃ rb ro d', w.cell? ⟨cb, cof + a, none⟩ = some (.slice (some ⟨rb, ro, none⟩) co.length d') ∧ cb < w.heap.size ∧ rb < w.heap.size ∧ ∀ x, x < co.length → w.cell? ⟨rb, ro + x, none⟩ = some (.int .i64 (costAt co a x)) := by
  obtain ⟨cb', cof', D', row, d', hq, _, cD, er, _, rD, iD, ld, md⟩ := hC.ints ha
  obtain ⟨rfl, rfl⟩ : cb = cb' ∧ cof = cof' := by simpa using hq
  have lrow := rok.row row (List.mem_of_getElem? er.out)
  have l1 := rok.n1
  obtain ⟨rb, ro, y, rfl, zy, _, _, _⟩ := rD.at (k := 0) (by omega)
  refine ⟨rb, ro, d', by rw [← lrow]; exact cD, World.block_lt_of_cell? _ _ cD, zy, fun x hx => ?_⟩
  obtain ⟨rb', ro', y, hq2, zy, cy, ey, _⟩ := rD.at (k := x) (by omega)
  obtain ⟨rfl, rfl⟩ : rb = rb' ∧ ro = ro' := by simpa using hq2
  unfold costAt
  rw [getD_some' er.out, getD_some ey.out]
  exact cy
theorem least_first (f : Nat → Int) (u : Nat) (q : List Nat) (h : 0 ≤ f u) : leastN f (f u) (u :: q) = leastN f (-1) (u :: q) := by
  have e : ∀ d : Int, leastN f d (u :: q) = leastN f (if d < 0 then f u else if f u < d then f u else d) q := fun d => rfl
  rw [e, e, if_neg (by omega), if_neg (by omega), if_pos (by omega)]
theorem meet_ends {co : List (List Int)} {us : List Nat} {last : Nat} {u : Nat} {q : List Nat} (hu : us = u :: q) (num : ∀ v ∈ us, 0 ≤ costAt co last v ∧ 0 ≤ costAt co v 0) {s o i : Int} (h : meetC co us last us (0, costAt co last u, costAt co u 0) = (s, o, i)) : s + o + i = endsT co us last := by
  have hn := num u (by rw [hu]; exact List.mem_cons_self)
  rw [meet_sum co us last us _ _ _ hn.1 hn.2 num] at h
  injection h with h1 h2
  injection h2 with h2 h3
  unfold endsT
  rw [← h1, ← h2, ← h3]
  have e1 := least_first (fun v => costAt co last v) u q hn.1
  have e2 := least_first (fun v => costAt co v 0) u q hn.2
  rw [← hu] at e1 e2
  rw [e1, e2]
  omega
theorem pair_fold (co : List (List Int)) (us : List Nat) (last u : Nat) : (((us.filter fun x => decide (u ≠ x)).map fun v => costAt co u v).foldl putP (min (costAt co u last) (costAt co u 0), max (costAt co u last) (costAt co u 0))) = pairT co us last u := by
  rw [List.foldl_map]
  rfl
set_option maxRecDepth 100000 in
set_option maxHeartbeats 4000000 in
theorem meetc_any (w : World) (g : Nat) (mi : Bool) (co : List (List Int)) (H : CiB w g mi co) (rok : RowsOk co) (P : Option Addr) (c : Nat) (us : List Nat) (last : Nat) (hP : RdI w P (intsN us)) (hne : us ≠ []) (hus : ∀ u ∈ us, u < co.length) (hla : last < co.length) (hl24 : us.length ≤ 24) :
    Calls Try.prog 184 #[.pointer (some ⟨g, 0, none⟩), .slice P us.length c, .int .i64 last] w fun e w' => e = .returned (.int .i64 (endsT co us last)) ∧ Ext w w' := by
  obtain ⟨C, d, h1, hd1, hd2, hC⟩ := H
  have l1 := rok.n1
  have t0 : w.cell? ⟨g, 0, none⟩ = some (.slice C co.length d) := h1.cell 0
  have z0 := h1.lt
  obtain ⟨cb, cof, rfl⟩ : ∃ cb cof, C = some ⟨cb, cof, none⟩ := by
    obtain ⟨cb, cof, D', row, d', h, _⟩ := hC.ints (show 0 < co.length by omega)
    exact ⟨cb, cof, h⟩
  obtain ⟨ls, hls⟩ : ∃ ls, Hid (ls = intsN us) := ⟨_, rfl⟩
  have hn : Hid (ls.length = us.length) := by
    have h : ls.length = us.length := by rw [hls.out, intsN_len]
    exact h
  rw [← hls.out] at hP
  rw [← hn.out]
  have hn24 : ls.length ≤ 24 := by rw [hn.out]; exact hl24
  have ln0 : 0 < ls.length := by rw [hn.out]; cases us with
    | nil => exact absurd rfl hne
    | cons a l => simp
  have ln1 : (0 : Int) < (ls.length : Int) := by omega
  obtain ⟨u0, q0, hu0⟩ : ∃ u q, Hid (us = u :: q) := by
    cases us with
    | nil => exact absurd rfl hne
    | cons a l => exact ⟨a, l, rfl⟩
  have hu0l := hus u0 (by rw [hu0.out]; exact List.mem_cons_self)
  obtain ⟨lb, lo, xk, rfl, zl, ck, exk, _⟩ := hP.at (k := 0) ln0
  obtain rfl : xk = (u0 : Int) := by
    have h := exk.out
    rw [hls.out, hu0.out] at h
    simp [intsN] at h
    exact h.symm
  rw [Nat.add_zero] at ck
  obtain ⟨rb, ro, rd, cr, zc, zr, CR⟩ := ci_row hC rok hla
  obtain ⟨sb, so, sd, cs, _, zs, CS⟩ := ci_row hC rok hu0l
  have c1 := CR u0 hu0l
  have c2 := CS 0 (by omega)
  rw [Nat.add_zero] at c2
  have i1 : (last : Int) < (co.length : Int) := by omega
  have i2 : (u0 : Int) < (co.length : Int) := by omega
  have i3 : (0 : Int) < (co.length : Int) := by omega
  have i4 : 0 < co.length := by omega
  have bd := Lib.hid (fun (a b : Nat) (ha : a < co.length) (hb : b < co.length) => num_of rok a b ha hb)
  have S0 : Hid (meetC co us last (us.drop 0) (0, costAt co last u0, costAt co u0 0) = meetC co us last us (0, costAt co last u0, costAt co u0 0)) := rfl
  have b1 := bd.out last u0 hla hu0l
  have b2 := bd.out u0 0 hu0l (by omega)
  have FIN : Hid (∀ s o i, meetC co us last us (0, costAt co last u0, costAt co u0 0) = (s, o, i) → s + o + i = endsT co us last) := fun s o i h => meet_ends hu0.out (fun v hv => ⟨(bd.out last v hla (hus v hv)).1, (bd.out v 0 (hus v hv) (by omega)).1⟩) h
  generalize meetC co us last us (0, costAt co last u0, costAt co u0 0) = fin_ at *
  generalize endsT co us last = tot at *
  generalize costAt co last u0 = A0 at *
  generalize costAt co u0 0 = B0 at *
  replace hC := Lib.hid hC
  replace hP := Lib.hid hP
  replace rok := Lib.hid rok
  replace hus := Lib.hid hus
  replace h1 := Lib.hid h1
  clear CR CS exk hl24 hne
  go_enter Try.func184, Try.ntmps184
  go_wp2_with (fail)
  go_region_held3 (fun w' => w'.cell? ⟨g, 0, none⟩ = some (.slice (some ⟨cb, cof, none⟩) co.length d) ∧ w'.cell? ⟨lb, lo, none⟩ = some (.int .i64 u0) ∧ w'.cell? ⟨cb, cof + last, none⟩ = some (.slice (some ⟨rb, ro, none⟩) co.length rd) ∧ w'.cell? ⟨cb, cof + u0, none⟩ = some (.slice (some ⟨sb, so, none⟩) co.length sd) ∧ w'.cell? ⟨rb, ro + u0, none⟩ = some (.int .i64 A0) ∧ w'.cell? ⟨sb, so, none⟩ = some (.int .i64 B0)) (go_keep) (fail)
  go_wp2_with (fail)
  go_loopw [7, 8, 9, 42] (fun v7 v8 v9 v42 wr => ∃ (k : Nat) (s o i : Int), v42 = .int .i64 k ∧ v7 = .int .i64 s ∧ v8 = .int .i64 o ∧ v9 = .int .i64 i ∧ k ≤ ls.length ∧ (0 ≤ s ∧ s ≤ 4294967294 * k) ∧ (0 ≤ o ∧ o ≤ 2147483647) ∧ (0 ≤ i ∧ i ≤ 2147483647) ∧ Hid (meetC co us last (us.drop k) (s, o, i) = fin_) ∧ Hid (Ext w wr)) (fun _ _ _ v _ => ls.length - (intOf v).toNat)
  case atStart => exact ⟨0, 0, A0, B0, rfl, rfl, rfl, rfl, by omega, by omega, by omega, by omega, S0, by (repeat (first | assumption | exact Ext.rf _ | apply Ext.drew | apply Ext.drewN | apply Ext.alloc))⟩
  case round =>
    obtain ⟨wo, rfl⟩ : ∃ wo : World, wo = wr := ⟨_, rfl⟩
    clear S0 b1 b2 c1 c2 cr cs
    obtain ⟨k, s, o, i, rfl, rfl, rfl, rfl, hk, hs, ho, hi, hM, Y⟩ := hrel
    by_cases hlt : k < ls.length
    · have q1 : (k : Int) < (ls.length : Int) := by omega
      have k24 : (k : Int) ≤ 24 := by omega
      have hku : k < us.length := by rw [← hn.out]; exact hlt
      have ej : us[k]? = some us[k] := List.getElem?_eq_getElem hku
      have hjs := hus.out _ (List.getElem_mem hku)
      have HM : Hid (meetC co us last (us.drop (k + 1)) (s + ((pairT co us last us[k]).1 + (pairT co us last us[k]).2), min o (costAt co last us[k]), min i (costAt co us[k] 0)) = fin_) := by
        have h := hM.out
        rw [List.drop_eq_getElem_cons hku] at h
        exact h
      generalize us[k] = u at *
      obtain ⟨kb, ko, xk, hq, zk, ck2, exk, _⟩ := (hP.out.ext Y.out).at (k := k) hlt
      obtain ⟨rfl, rfl⟩ : lb = kb ∧ lo = ko := by simpa using hq
      obtain rfl : xk = (u : Int) := by
        have h := exk.out
        rw [hls.out, intsN_get ej] at h
        exact (Option.some.inj h).symm
      obtain ⟨ub, uo, ud, cu, zcu, zu, CU⟩ := ci_row (hC.out.ext Y.out fun _ _ h => h.ext Y.out) rok.out hjs
      have tg : wo.cell? ⟨g, 0, none⟩ = some (.slice (some ⟨cb, cof, none⟩) co.length d) := keepEL Y.out z0 t0
      have e1 := CU last hla
      have e2 := CU 0 (by omega)
      rw [Nat.add_zero] at e2
      have i6 : (u : Int) < (co.length : Int) := by omega
      have PF := pair_fold co us last u
      have n1 := bd.out u last hjs hla
      have n2 := bd.out u 0 hjs (by omega)
      replace CU := Lib.hid CU
      replace PF := Lib.hid PF
      clear hq exk ej hku hM
      obtain ⟨x1, hx1⟩ : ∃ x1, Hid (x1 = costAt co u last) := ⟨_, rfl⟩
      obtain ⟨x2, hx2⟩ : ∃ x2, Hid (x2 = costAt co u 0) := ⟨_, rfl⟩
      rw [← hx1.out] at e1 n1
      rw [← hx2.out] at e2 n2
      go_wp2_with (fail)
      go_region_held3 (fun w' => w'.cell? ⟨g, 0, none⟩ = some (.slice (some ⟨cb, cof, none⟩) co.length d) ∧ w'.cell? ⟨cb, cof + u, none⟩ = some (.slice (some ⟨ub, uo, none⟩) co.length ud) ∧ w'.cell? ⟨ub, uo + last, none⟩ = some (.int .i64 x1) ∧ w'.cell? ⟨ub, uo, none⟩ = some (.int .i64 x2)) (go_keep) (fail)
      go_wp2_with (fail)
      have zg : g < wo.heap.size := by have := Y.out.size; omega
      have O0 : Hid (OwI (wo.alloc (.cells #[.int .i64 x1, .int .i64 x2] 3)).drew wo.heap.size (some ⟨wo.heap.size, 0, none⟩) 2 [x1, x2]) := OwI.ext (own_lit2 x1 x2) (by (repeat (first | assumption | exact Ext.rf _ | apply Ext.drew | apply Ext.drewN | apply Ext.alloc)))
      go_loopw [12, 68] (fun rv v wr => ∃ (j : Nat) (R' : Option Addr) (rc : Nat) (xs : List Int), v = .int .i64 j ∧ rv = .slice R' xs.length rc ∧ j ≤ ls.length ∧ Hid (xs = x1 :: x2 :: ((us.take j).filter fun x => decide (u ≠ x)).map fun v => costAt co u v) ∧ Hid (OwI wr wo.heap.size R' rc xs) ∧ Hid (Ext wo wr)) (fun _ v _ => ls.length - (intOf v).toNat)
      case atStart => exact ⟨0, _, 2, [x1, x2], rfl, rfl, by omega, rfl, O0, by (repeat (first | assumption | exact Ext.rf _ | apply Ext.drew | apply Ext.drewN | apply Ext.alloc))⟩
      case round =>
        obtain ⟨wi, rfl⟩ : ∃ wi : World, wi = wr := ⟨_, rfl⟩
        clear O0
        obtain ⟨j, R', rc, xs, rfl, rfl, hj, hxs, oX, YI⟩ := hrel
        have lx24 : xs.length ≤ 26 := by
          rw [hxs.out, List.length_cons, List.length_cons, List.length_map]
          have h1 := List.length_filter_le (fun x => decide (u ≠ x)) (us.take j)
          rw [List.length_take] at h1
          omega
        have zpi := YI.out.size
        have tg2 := keepEL YI.out zg tg
        have cu2 := keepEL YI.out zcu cu
        by_cases hjl : j < ls.length
        · have q3 : (j : Int) < (ls.length : Int) := by omega
          have hju : j < us.length := by rw [← hn.out]; exact hjl
          have ej : us[j]? = some us[j] := List.getElem?_eq_getElem hju
          have hjs2 := hus.out _ (List.getElem_mem hju)
          have FS : (us.take (j + 1)).filter (fun x => decide (u ≠ x)) = (us.take j).filter (fun x => decide (u ≠ x)) ++ if decide (u ≠ us[j]) = true then [us[j]] else [] := by
            rw [List.take_add_one, ej, List.filter_append]
            congr 1
            by_cases h : decide (u ≠ us[j]) = true
            · rw [if_pos h]; simp only [Option.toList, List.filter_cons, List.filter_nil, h, if_true]
            · rw [if_neg h]; simp only [Option.toList, List.filter_cons, List.filter_nil, h]; rfl
          generalize us[j] = v at *
          obtain ⟨kb, ko, xk, hq, zk2, ck3, exk, _⟩ := ((hP.out.ext Y.out).ext YI.out).at (k := j) hjl
          obtain ⟨rfl, rfl⟩ : lb = kb ∧ lo = ko := by simpa using hq
          obtain rfl : xk = (v : Int) := by
            have h := exk.out
            rw [hls.out, intsN_get ej] at h
            exact (Option.some.inj h).symm
          have e3 := keepEL YI.out zu (CU.out v hjs2)
          have i7 : (v : Int) < (co.length : Int) := by omega
          obtain ⟨y, hy⟩ : ∃ y, Hid (y = costAt co u v) := ⟨_, rfl⟩
          rw [← hy.out] at e3
          clear hq exk ej hju
          by_cases hvu : u = v
          · have hxs2 : Hid (xs = x1 :: x2 :: ((us.take (j + 1)).filter fun x => decide (u ≠ x)).map fun v => costAt co u v) := by
              have h : xs = x1 :: x2 :: ((us.take (j + 1)).filter fun x => decide (u ≠ x)).map fun v => costAt co u v := by
                rw [FS, if_neg (by simp [hvu]), List.append_nil]; exact hxs.out
              exact h
            subst hvu
            clear FS hxs
            go_wp2_with (fail)
            go_roundw
            case rel => exact ⟨j + 1, R', rc, xs, by go_num, rfl, by omega, hxs2, oX.out.ext (by (repeat (first | assumption | exact Ext.rf _ | apply Ext.drew | apply Ext.drewN | apply Ext.alloc))), YI.out.tr (by (repeat (first | assumption | exact Ext.rf _ | apply Ext.drew | apply Ext.drewN | apply Ext.alloc)))⟩
            case measure => simp [intOf]; omega
          · have hxs2 : Hid (xs ++ [y] = x1 :: x2 :: ((us.take (j + 1)).filter fun x => decide (u ≠ x)).map fun v => costAt co u v) := by
              have h : xs ++ [y] = x1 :: x2 :: ((us.take (j + 1)).filter fun x => decide (u ≠ x)).map fun v => costAt co u v := by
                rw [FS, if_pos (by simp [hvu]), List.map_append, hxs.out, hy.out]; rfl
              exact h
            have h3 : ¬ ((v : Int) = (u : Int)) := by omega
            clear FS hxs
            go_wp2_with (at_builtin; (refine wpl_app_i _ rfl _ _ rfl wo.heap.size R' xs.length rc xs [y] (some ⟨wi.heap.size, 0, none⟩) 1 rfl rfl rfl ?_ ?_ ?_ ?_ ?_; (exact oX.out.ext ((Ext.rf _).alloc _)); (exact .blk (.new (by simp)) rfl); (simp; omega); (simp; omega); rintro A7 c7 w7 o7 g7 _; have Y7 : Ext wo w7 := Ext.grow (a := wo) (YI.out.alloc _) g7 (fun kk hkk => (oX.out.lt kk hkk).1)))
            have O7 : Hid (OwI w7 wo.heap.size A7 c7 (xs ++ [y])) := o7
            replace Y7 := Lib.hid Y7
            clear o7 g7
            go_wp2_with (fail)
            go_roundw
            case rel => exact ⟨j + 1, A7, c7, xs ++ [y], by go_num, by first | rfl | simp, by omega, hxs2, OwI.ext O7.out (by (repeat (first | assumption | exact Ext.rf _ | apply Ext.drew | apply Ext.drewN | apply Ext.alloc))), Ext.tr Y7.out (by (repeat (first | assumption | exact Ext.rf _ | apply Ext.drew | apply Ext.drewN | apply Ext.alloc)))⟩
            case measure => simp [intOf]; omega
        · obtain rfl : j = ls.length := by omega
          obtain ⟨lq, hlq⟩ : ∃ lq, Hid (lq = (us.filter fun x => decide (u ≠ x)).map fun v => costAt co u v) := ⟨_, rfl⟩
          have hx4 : xs = x1 :: x2 :: lq := by
            have h := hxs.out
            rw [hn.out, List.take_length] at h
            rw [hlq.out]; exact h
          have ol := oX.out.le
          have llq : lq.length ≤ 1000 := by rw [hx4] at lx24; simp at lx24; omega
          have TW := fun (W : World) (x : Ext wi W) => two_any W R' rc x1 x2 lq (by rw [← hx4]; exact oX.out.read.ext x) (by rw [← hx4]; exact ol.1) ol.2 llq
          rw [← hx4, hlq.out, hx1.out, hx2.out, PF.out] at TW
          have PB := pairT_bd (rows := co) (us := us) (last := last) (fun a b ha hb => bd.out a b ha hb) (by omega) hla hus.out hjs
          obtain ⟨pa, hpa⟩ : ∃ pa, Hid (pa = (pairT co us last u).1) := ⟨_, rfl⟩
          obtain ⟨pb, hpb⟩ : ∃ pb, Hid (pb = (pairT co us last u).2) := ⟨_, rfl⟩
          rw [← hpa.out, ← hpb.out] at TW PB HM
          replace TW := Lib.hid TW
          obtain ⟨vb, vo, vd, cv, zcv, zv, CV⟩ := ci_row ((hC.out.ext Y.out fun _ _ h => h.ext Y.out).ext YI.out fun _ _ h => h.ext YI.out) rok.out hla
          have e4 := CV u hjs
          have e5 := keepEL YI.out zu e2
          have zgi : g < wi.heap.size := by omega
          have zui : ub < wi.heap.size := by omega
          have m1 := bd.out last u hla hjs
          obtain ⟨y1, hy1⟩ : ∃ y1, Hid (y1 = costAt co last u) := ⟨_, rfl⟩
          rw [← hy1.out] at e4 m1 HM
          rw [← hx2.out] at HM
          have mo : 0 ≤ min o y1 ∧ min o y1 ≤ 2147483647 := by omega
          have mi2 : 0 ≤ min i x2 ∧ min i x2 ≤ 2147483647 := by omega
          have MN : Hid (∀ a b : Int, (if a < b then a else b) = min b a) := fun a b => by split <;> omega
          clear hxs hx4 CV PF
          go_wp2_with (fail)
          refine (TW.out _ (by (repeat (first | assumption | exact Ext.rf _ | apply Ext.drew | apply Ext.drewN | apply Ext.alloc)))).mono ?_
          rintro e w5 ⟨rfl, x5⟩
          have X5 := Lib.hid (Ext.tr (a := wi) (by (repeat (first | assumption | exact Ext.rf _ | apply Ext.drew | apply Ext.drewN | apply Ext.alloc))) x5)
          have tg5 := keepEL X5.out zgi tg2
          have cu5 := keepEL X5.out zcv cu2
          have cv5 := keepEL X5.out zcv cv
          have e45 := keepEL X5.out zv e4
          have e55 := keepEL X5.out zui e5
          clear x5 tg2 cu2 cv e4 e5 TW
          go_wp2_with (fail)
          go_region_held3 (fun w' => w'.cell? ⟨g, 0, none⟩ = some (.slice (some ⟨cb, cof, none⟩) co.length d) ∧ w'.cell? ⟨cb, cof + u, none⟩ = some (.slice (some ⟨ub, uo, none⟩) co.length ud) ∧ w'.cell? ⟨cb, cof + last, none⟩ = some (.slice (some ⟨vb, vo, none⟩) co.length vd) ∧ w'.cell? ⟨vb, vo + u, none⟩ = some (.int .i64 y1) ∧ w'.cell? ⟨ub, uo, none⟩ = some (.int .i64 x2)) (go_keep) (fail)
          go_wp2_with (fail)
          all_goals
            go_roundw
            case rel => exact ⟨k + 1, s + (pa + pb), min o y1, min i x2, by go_num, rfl, by first | rfl | rw [MN.out], by first | rfl | rw [MN.out], by omega, by omega, mo, mi2, HM, (Y.out.tr YI.out).tr (X5.out.tr (by (repeat (first | assumption | exact Ext.rf _ | apply Ext.drew | apply Ext.drewN | apply Ext.alloc))))⟩
            case measure => simp [intOf]; omega
    · obtain rfl : k = ls.length := by omega
      have E : Hid (s + o + i = tot) := by
        have h := hM.out
        rw [hn.out, List.drop_length] at h
        exact FIN.out s o i h.symm
      have k24 : (ls.length : Int) ≤ 24 := by omega
      clear hM
      go_wp2_with (fail)
      go_ret
      exact ⟨ret_i E.out, Y.out.tr (by (repeat (first | assumption | exact Ext.rf _ | apply Ext.drew | apply Ext.drewN | apply Ext.alloc)))⟩
end Go.Proofs.Ytcpadkaljnnieaa
namespace Go.Proofs.Ytcpadkaljnnieaa
open Go.RowKit Go.ChangeShapes Go.WideShapes Go.ChangeAt Go.Deep

theorem entT_bd {rows : List (List Int)} {us : List Nat} {last src dst : Nat} (h : 0 ≤ costAt rows src dst ∧ costAt rows src dst ≤ 2147483647) : -1 ≤ entT rows us last src dst ∧ entT rows us last src dst ≤ 2147483647 := by
  unfold entT
  split <;> omega
theorem matT_bd {rows : List (List Int)} {us : List Nat} {last : Nat} (num : ∀ a b, a < rows.length → b < rows.length → 0 ≤ costAt rows a b ∧ costAt rows a b ≤ 2147483647) (h0 : 0 < rows.length) (hl : last < rows.length) (hu : ∀ x ∈ us, x < rows.length) : ∀ r ∈ matT rows us last, ∀ x ∈ r, -1 ≤ x ∧ x ≤ 2147483647 := fun r hr x hx => by
  unfold matT at hr
  obtain ⟨src, hs, rfl⟩ := List.mem_map.1 hr
  obtain ⟨dst, hd, rfl⟩ := List.mem_map.1 hx
  refine entT_bd (num src dst ?_ ?_)
  · rcases List.mem_cons.1 hs with rfl | h
    · exact hl
    · exact hu _ h
  · rcases List.mem_append.1 hd with h | h
    · exact hu _ h
    · rw [List.mem_singleton.1 h]; exact h0
set_option maxRecDepth 100000 in
set_option maxHeartbeats 4000000 in
theorem tboundc_any (w : World) (g : Nat) (mi : Bool) (co : List (List Int)) (H : CiB w g mi co) (rok : RowsOk co) (P : Option Addr) (c : Nat) (p : List Int) (hP : RdI w P p) (m last : Nat) (cost : Int) (hr : walkP co p = some (m, last, cost)) :
    Calls Try.prog 179 #[.pointer (some ⟨g, 0, none⟩), .slice P p.length c] w fun e w' => e = .returned (.int .i64 (boundT co mi p).1) ∧ Ext w w' := by
  have l1 := rok.n1
  have l2 := rok.n2
  obtain ⟨pl, WO⟩ := walk_ok l1 l2 hr
  have hS := WO.sub
  have hla := walk_last l1 WO
  have h0m : 0 ∉ memsM m := fun h => ((WO.rest 0).1 h).1.2 rfl
  have hlen : (memsM m).length ≤ 23 := by have := WO.len; omega
  have hnl : last ∉ memsM m := fun h => by
    have h1 := (WO.rest last).1 h
    rw [WO.last] at h1
    rcases lastT_mem pl 0 with e | e
    · rw [e] at h1; exact h1.1.2 rfl
    · exact h1.2 e
  have num := num_of rok
  have lp : p.length ≤ 24 := by
    have := WO.len
    rw [WO.eq, intsN_len]; omega
  have bcost : 0 ≤ cost ∧ cost ≤ 2147483647 * 24 := by
    have h1 := wayC_bd num pl 0 (by omega) fun x hx => (WO.inn x hx).1
    have h2 := WO.len
    rw [WO.cost]
    omega
  have GO := Lib.hid (fun (W : World) (x : Ext w W) => gonec_any W g mi co (H.ext x) rok P c p (hP.ext x) m last cost hr)
  have KR := fun (W : World) (x : Ext w W) => tkidsc_any W g mi co (H.ext x) (by omega) P c p (hP.ext x) (by omega)
  rw [abs_tour l1 l2 hr] at KR
  unfold OwnK at KR
  rw [intsN_len] at KR
  replace KR := Lib.hid KR
  have SQ := fun (W : World) (x : Ext w W) (A : Option Addr) (ac : Nat) (hA : RdI W A (intsN (memsM m))) => squarec_any W g mi co (H.ext x) rok A ac (memsM m) last hA hS.2 hla hnl h0m (by omega)
  unfold OwnM at SQ
  replace SQ := Lib.hid SQ
  have MT := Lib.hid (fun (hne : memsM m ≠ []) (W : World) (x : Ext w W) (A : Option Addr) (ac : Nat) (hA : RdI W A (intsN (memsM m))) => meetc_any W g mi co (H.ext x) rok A ac (memsM m) last hA hne hS.2 hla (by omega))
  have bred := reduceT_bd num (by omega) hla hS.2 (show (memsM m).length ≤ 24 by omega)
  have bend := endsT_bd num (by omega) hla hS.2 (show (memsM m).length ≤ 24 by omega)
  have RM := reduceG_mat (rows := co) (us := memsM m) (last := last) (fun a b ha hb => (num a b (by rcases ha with rfl | ha; exact hla; exact hS.2 _ ha) (by rcases hb with rfl | hb; omega; exact hS.2 _ hb)).1) hnl h0m
  have MB := matT_bd (us := memsM m) num (by omega) hla hS.2
  have ML : (matT co (memsM m) last).length = (memsM m).length + 1 := by unfold matT; rw [List.length_map, List.length_cons]
  have MR : ∀ r ∈ matT co (memsM m) last, r.length = (memsM m).length + 1 := fun r hr => by
    unfold matT at hr
    obtain ⟨src, hs, rfl⟩ := List.mem_map.1 hr
    rw [List.length_map, List.length_append]; rfl
  have e : (boundT co mi p).1 = cost + (if memsM m = [] then costAt co last 0 else if mi = true then max (reduceT co (memsM m) last) ((endsT co (memsM m) last + 1) / 2) else reduceT co (memsM m) last) := by unfold boundT; rw [hr]
  obtain ⟨tot, ht⟩ : ∃ tot, Hid (tot = cost + (if memsM m = [] then costAt co last 0 else if mi = true then max (reduceT co (memsM m) last) ((endsT co (memsM m) last + 1) / 2) else reduceT co (memsM m) last)) := ⟨_, rfl⟩
  rw [e, ← ht.out]
  clear e
  obtain ⟨C, d, h1, hd1, hd2, hC⟩ := H
  have t0 : w.cell? ⟨g, 0, none⟩ = some (.slice C co.length d) := h1.cell 0
  have t1 : w.cell? ⟨g, 1, none⟩ = some (.bool mi) := h1.cell 1
  have z0 := h1.lt
  obtain ⟨cb, cof, rfl⟩ : ∃ cb cof, C = some ⟨cb, cof, none⟩ := by
    obtain ⟨cb, cof, D', row, d', h, _⟩ := hC.ints (show 0 < co.length by omega)
    exact ⟨cb, cof, h⟩
  obtain ⟨rb, ro, rd, cr, zc, zr, CR⟩ := ci_row hC rok hla
  have c1 := CR 0 (by omega)
  rw [Nat.add_zero] at c1
  have b0 := num last 0 hla (by omega)
  have i1 : (last : Int) < (co.length : Int) := by omega
  have i2 : (0 : Int) < (co.length : Int) := by omega
  have i3 : 0 < co.length := by omega
  replace h1 := Lib.hid h1
  replace hP := Lib.hid hP
  replace hC := Lib.hid hC
  replace rok := Lib.hid rok
  have hsub0 : ∀ u ∈ memsM m, u < co.length := hS.2
  clear WO hS h0m hnl num CR hr
  obtain ⟨y0, hy0⟩ : ∃ y0, Hid (y0 = costAt co last 0) := ⟨_, rfl⟩
  rw [← hy0.out] at c1 b0 ht
  generalize memsM m = us at *
  obtain ⟨n, hn⟩ : ∃ n, Hid (n = us.length) := ⟨_, rfl⟩
  have hn2 : n ≤ 23 := by rw [hn.out]; exact hlen
  rw [← hn.out] at KR SQ MT RM MR ML
  by_cases hn0 : n = 0
  · have hu0 : us = [] := List.eq_nil_of_length_eq_zero (by rw [← hn.out]; exact hn0)
    have E : Hid (cost + y0 = tot) := by
      have h : cost + y0 = tot := by rw [ht.out, if_pos hu0]
      exact h
    subst hn0
    clear SQ MT bred bend RM MB ML MR ht hu0
    go_enter Try.func179, Try.ntmps179
    go_wp2_with (fail)
    refine (GO.out _ (by (repeat (first | assumption | exact Ext.rf _ | apply Ext.drew | apply Ext.drewN | apply Ext.alloc)))).mono ?_
    rintro e w1 ⟨rfl, x1⟩
    have X1 := Lib.hid (Ext.tr (a := w) (by (repeat (first | assumption | exact Ext.rf _ | apply Ext.drew | apply Ext.drewN | apply Ext.alloc))) x1)
    clear x1
    go_wp2_with (fail)
    refine (KR.out _ (X1.out.tr (by (repeat (first | assumption | exact Ext.rf _ | apply Ext.drew | apply Ext.drewN | apply Ext.alloc))))).mono ?_
    rintro e w2 ⟨A, ac, rfl, oA, x2⟩
    have X2 := Lib.hid (X1.out.tr (Ext.tr (by (repeat (first | assumption | exact Ext.rf _ | apply Ext.drew | apply Ext.drewN | apply Ext.alloc))) x2))
    have d0 := keepEL X2.out z0 t0
    have dr := keepEL X2.out zc cr
    have d1 := keepEL X2.out zr c1
    clear x2 oA t0 t1 cr c1
    go_wp2_with (fail)
    go_ret
    exact ⟨ret_i E.out, X2.out.tr (by (repeat (first | assumption | exact Ext.rf _ | apply Ext.drew | apply Ext.drewN | apply Ext.alloc)))⟩
  · have hne : us ≠ [] := fun h => hn0 (by rw [hn.out, h]; rfl)
    have bend := bend hne
    replace MT := Lib.hid (MT.out hne)
    obtain ⟨rv, hrv⟩ : ∃ rv, Hid (rv = reduceT co us last) := ⟨_, rfl⟩
    obtain ⟨ev, hev⟩ : ∃ ev, Hid (ev = endsT co us last) := ⟨_, rfl⟩
    have ht2 : Hid (tot = cost + (if mi = true then max rv ((ev + 1) / 2) else rv)) := by
      have h := ht.out
      rw [if_neg hne, ← hrv.out, ← hev.out] at h
      exact h
    rw [← hrv.out] at RM bred
    rw [← hev.out] at MT bend
    have ne1 : ¬ ((n : Int) = 0) := by omega
    have RD := Lib.hid (fun (base : Nat) (M : Option Addr) (mc : Nat) (ws : List Value) (W : World) (hb : base ≤ W.heap.size) (hV : RdV W 22 M ws) (hR : RowsO W base ws (matT co us last)) (hD : RowsD ws) => by
      have h := reduced_any base M (n + 1) mc (n + 1) ws (matT co us last) W hb hV hR hD ML (by omega) (by omega) MR (by omega) MB
      rw [RM] at h
      exact h)
    unfold RedPost at RD
    clear RM MB ML MR ht hne
    go_enter Try.func179, Try.ntmps179
    go_wp2_with (fail)
    refine (GO.out _ (by (repeat (first | assumption | exact Ext.rf _ | apply Ext.drew | apply Ext.drewN | apply Ext.alloc)))).mono ?_
    rintro e w1 ⟨rfl, x1⟩
    have X1 := Lib.hid (Ext.tr (a := w) (by (repeat (first | assumption | exact Ext.rf _ | apply Ext.drew | apply Ext.drewN | apply Ext.alloc))) x1)
    clear x1
    go_wp2_with (fail)
    refine (KR.out _ (X1.out.tr (by (repeat (first | assumption | exact Ext.rf _ | apply Ext.drew | apply Ext.drewN | apply Ext.alloc))))).mono ?_
    rintro e w2 ⟨A, ac, rfl, oA, x2⟩
    have X2 := Lib.hid (X1.out.tr (Ext.tr (by (repeat (first | assumption | exact Ext.rf _ | apply Ext.drew | apply Ext.drewN | apply Ext.alloc))) x2))
    have rA := Lib.hid oA.read
    clear x2 oA
    go_wp2_with (fail)
    refine (SQ.out _ (X2.out.tr (by (repeat (first | assumption | exact Ext.rf _ | apply Ext.drew | apply Ext.drewN | apply Ext.alloc)))) A ac (rA.out.ext (by (repeat (first | assumption | exact Ext.rf _ | apply Ext.drew | apply Ext.drewN | apply Ext.alloc))))).mono ?_
    rintro e w3 ⟨M, mc, ws, rfl, oV, oR, oD, x3⟩
    have X3 := Lib.hid (X2.out.tr (Ext.tr (by (repeat (first | assumption | exact Ext.rf _ | apply Ext.drew | apply Ext.drewN | apply Ext.alloc))) x3))
    have Y3 := Lib.hid (Ext.tr (a := w2) (by (repeat (first | assumption | exact Ext.rf _ | apply Ext.drew | apply Ext.drewN | apply Ext.alloc))) x3)
    replace oV := Lib.hid oV
    replace oR := Lib.hid oR
    replace oD := Lib.hid oD
    have z3 := Y3.out.size
    clear x3
    go_wp2_with (fail)
    refine (RD.out w2.heap.size M mc ws _ (by first | exact z3 | (simp; exact z3)) (oV.out.ext (by (repeat (first | assumption | exact Ext.rf _ | apply Ext.drew | apply Ext.drewN | apply Ext.alloc)))).read (oR.out.ext (by (repeat (first | assumption | exact Ext.rf _ | apply Ext.drew | apply Ext.drewN | apply Ext.alloc)))) oD.out).mono ?_
    rintro e w4 ⟨rfl, x4⟩
    have Y4 : Hid (Ext w2 w4) := Ext.below2 (Ext.rf w2) (Y3.out.tr (by (repeat (first | assumption | exact Ext.rf _ | apply Ext.drew | apply Ext.drewN | apply Ext.alloc)))) x4
    have X4 := Lib.hid (X2.out.tr Y4.out)
    have d1 := keepEL X4.out z0 t1
    clear x4 oV oR oD Y3 X3
    cases mi with
    | false =>
      have E : Hid (cost + rv = tot) := ht2.out.symm
      go_wp2_with (fail)
      go_ret
      exact ⟨ret_i E.out, X4.out.tr (by (repeat (first | assumption | exact Ext.rf _ | apply Ext.drew | apply Ext.drewN | apply Ext.alloc)))⟩
    | true =>
      have hq : (ev + 1).tdiv 2 = (ev + 1) / 2 := Int.tdiv_eq_ediv_of_nonneg (by omega)
      have hw2 : IntKind.i64.wrap ((ev + 1) / 2) = (ev + 1) / 2 := IntWalk.i64_in _ (by omega)
      have hmax : (if rv < (ev + 1) / 2 then (ev + 1) / 2 else rv) = max rv ((ev + 1) / 2) := by split <;> omega
      obtain ⟨mv, hmv⟩ : ∃ mv, Hid (max rv ((ev + 1) / 2) = mv) := ⟨_, rfl⟩
      have bmv : 0 ≤ mv ∧ mv ≤ 4294967294 * 100 := by rw [← hmv.out]; omega
      rw [hmv.out] at hmax
      have E : Hid (cost + mv = tot) := by
        have h := ht2.out
        rw [if_pos rfl, hmv.out] at h
        exact h.symm
      go_wp2_with (fail)
      refine (MT.out _ (X4.out.tr (by (repeat (first | assumption | exact Ext.rf _ | apply Ext.drew | apply Ext.drewN | apply Ext.alloc)))) A ac (rA.out.ext (Y4.out.tr (by (repeat (first | assumption | exact Ext.rf _ | apply Ext.drew | apply Ext.drewN | apply Ext.alloc)))))).mono ?_
      rintro e w5 ⟨rfl, x5⟩
      have X5 := Lib.hid (X4.out.tr (Ext.tr (by (repeat (first | assumption | exact Ext.rf _ | apply Ext.drew | apply Ext.drewN | apply Ext.alloc))) x5))
      clear x5
      go_wp2_with (fail)
      go_ret
      exact ⟨ret_i E.out, X5.out.tr (by (repeat (first | assumption | exact Ext.rf _ | apply Ext.drew | apply Ext.drewN | apply Ext.alloc)))⟩
end Go.Proofs.Ytcpadkaljnnieaa
namespace Go.Proofs.Ytcpadkaljnnieaa
open Go.RowKit Go.ChangeShapes Go.WideShapes Go.ChangeAt Go.Deep

set_option maxRecDepth 100000 in
theorem answer0c_any (i : InstP) (us : List Value) (P : Option Addr) (c : Nat) (x : List Int) (w : World) (H : RInst w us i) (hc : checkP i = 0) (lx : ¬ (x.length : Int) = i.n) :
    Calls Try.prog 63 #[.agg (List.toArray us), .slice P x.length c] w fun e w' => e = .returned (.tuple #[.int .i64 (answR i x).1, .int .i64 (answR i x).2.1, .int .i64 (answR i x).2.2]) ∧ Ext w w' := by
  rw [answ_len hc lx]
  obtain ⟨kind, nn, cap, xw, xv, co⟩ := i
  obtain ⟨A, a, B, b, D, d, rfl, -, -, -⟩ := H
  simp only at *
  have e1 : ((x.length : Int) == nn) = false := by simpa using lx
  clear hc
  go_enter Try.func63, Try.ntmps63
  go_wp2_with (fail)
  go_ret3
  exact ⟨rfl, by (repeat (first | assumption | exact Ext.rf _ | apply Ext.drew | apply Ext.drewN | apply Ext.alloc))⟩
set_option maxRecDepth 100000 in
theorem answer1c_any (i : InstP) (us : List Value) (P : Option Addr) (c : Nat) (x : List Int) (w : World) (H : RInst w us i) (hc : checkP i = 0) (hk : i.kind = 1) (hP : RdI w P x) (lx : (x.length : Int) = i.n) :
    Calls Try.prog 63 #[.agg (List.toArray us), .slice P x.length c] w fun e w' => e = .returned (.tuple #[.int .i64 (answR i x).1, .int .i64 (answR i x).2.1, .int .i64 (answR i x).2.2]) ∧ Ext w w' := by
  have WE := Lib.hid (fun (W : World) (y : Ext w W) => weighc_any i us P c x W (H.ext y) (knap_ok hc hk) (hP.ext y) lx)
  rw [answ_weigh hc hk lx]
  obtain ⟨RES, hR⟩ : ∃ RES, Hid (weighR i x = RES) := ⟨_, rfl⟩
  rw [hR.out] at WE ⊢
  clear hR hP hc
  obtain ⟨r1, r2, r3⟩ := RES
  obtain ⟨kind, nn, cap, xw, xv, co⟩ := i
  obtain ⟨A, a, B, b, D, d, rfl, -, -, -⟩ := H
  simp only at *
  subst hk
  replace lx := Lib.hid lx
  have e1 : ((x.length : Int) == nn) = true := by rw [lx.out]; simp
  go_enter Try.func63, Try.ntmps63
  go_wp2_with (fail)
  refine (WE.out _ (by (repeat (first | assumption | exact Ext.rf _ | apply Ext.drew | apply Ext.drewN | apply Ext.alloc)))).mono ?_
  rintro e w1 ⟨rfl, x1⟩
  have X1 := Lib.hid (Ext.tr (a := w) (by (repeat (first | assumption | exact Ext.rf _ | apply Ext.drew | apply Ext.drewN | apply Ext.alloc))) x1)
  clear x1 WE
  go_wp2_with (fail)
  go_ret3
  exact ⟨rfl, X1.out.tr (by (repeat (first | assumption | exact Ext.rf _ | apply Ext.drew | apply Ext.drewN | apply Ext.alloc)))⟩
theorem answerc_any (i : InstP) (us : List Value) (P : Option Addr) (c : Nat) (x : List Int) (w : World) (H : RInst w us i) (hc : checkP i = 0) (hP : RdI w P x) (lc : x.length ≤ c) (mc : c ≤ maxLen) :
    Calls Try.prog 63 #[.agg (List.toArray us), .slice P x.length c] w fun e w' => e = .returned (.tuple #[.int .i64 (answR i x).1, .int .i64 (answR i x).2.1, .int .i64 (answR i x).2.2]) ∧ Ext w w' := by
  by_cases lx : (x.length : Int) = i.n
  · rcases check_kind hc with h | h | h
    · exact answer1c_any i us P c x w H hc h hP lx
    · exact answer2c_any i us P c x w H hc h hP lx lc mc
    · exact answer3c_any i us P c x w H hc h hP lx lc mc
  · exact answer0c_any i us P c x w H hc lx
/-- what is made of a problem: a value behind the checker's face -/
def OfPost (T : TypeId) (R : World → Nat → Prop) (w : World) (e : Ending) (w' : World) : Prop := ∃ g, e = .returned (.iface T (.pointer (some ⟨g, 0, none⟩))) ∧ R w' g ∧ Ext w w'
set_option maxRecDepth 100000 in
theorem of1_any (i : InstP) (us : List Value) (w : World) (H : RInst w us i) (hc : checkP i = 0) (hk : i.kind = 1) :
    Calls Try.prog 64 #[.agg (List.toArray us)] w (OfPost 130 (fun W g => KnB W g i.cap (wsP i) (vsP i)) w) := by
  have OR := Lib.hid (fun (W : World) (y : Ext w W) => orderedc_any i us W (H.ext y) hc hk)
  obtain ⟨R, hR⟩ : ∃ R : World → Nat → Prop, Hid (R = fun W g => KnB W g i.cap (wsP i) (vsP i)) := ⟨_, rfl⟩
  have RE : Hid (∀ W W' g, R W g → Ext W W' → R W' g) := fun W W' g h x => by
    rw [hR.out] at h ⊢
    exact KnB.ext h x
  have OR2 : Hid (∀ W, Ext w W → Calls Try.prog 103 #[.agg (List.toArray us)] W fun e w' => ∃ g, e = .returned (.pointer (some ⟨g, 0, none⟩)) ∧ R w' g ∧ Ext W w') := fun W y => by
    have h := OR.out W y
    unfold OrdPost at h
    rw [hR.out]
    exact h
  unfold OfPost
  rw [← hR.out]
  clear hR OR hc
  obtain ⟨kind, nn, cap, xw, xv, co⟩ := i
  obtain ⟨A, a, B, b, D, d, rfl, -, -, -⟩ := H
  simp only at *
  subst hk
  go_enter Try.func64, Try.ntmps64
  go_wp2_with (fail)
  refine (OR2.out _ (by (repeat (first | assumption | exact Ext.rf _ | apply Ext.drew | apply Ext.drewN | apply Ext.alloc)))).mono ?_
  rintro e w1 ⟨g, rfl, r1, x1⟩
  have X1 := Lib.hid (Ext.tr (a := w) (by (repeat (first | assumption | exact Ext.rf _ | apply Ext.drew | apply Ext.drewN | apply Ext.alloc))) x1)
  have R1 := Lib.hid r1
  clear x1 r1
  go_wp2_with (fail)
  go_ret
  exact ⟨g, rfl, RE.out _ _ _ R1.out (by (repeat (first | assumption | exact Ext.rf _ | apply Ext.drew | apply Ext.drewN | apply Ext.alloc))), X1.out.tr (by (repeat (first | assumption | exact Ext.rf _ | apply Ext.drew | apply Ext.drewN | apply Ext.alloc)))⟩
set_option maxRecDepth 100000 in
theorem of2_any (i : InstP) (us : List Value) (w : World) (H : RInst w us i) (hk : i.kind = 2) :
    Calls Try.prog 64 #[.agg (List.toArray us)] w (OfPost 132 (fun W g => RwB W g i.cost) w) := by
  obtain ⟨kind, nn, cap, xw, xv, co⟩ := i
  obtain ⟨A, a, B, b, D, d, rfl, -, -, hC, hC1, hC2⟩ := H
  simp only at *
  subst hk
  unfold OfPost
  replace hC := Lib.hid hC
  have FIN : Hid (∀ (W : World) (x : Ext w W), RwB (W.alloc (.cells #[.slice D co.length d] 134)) W.heap.size co) := fun W x => ⟨D, d, .new rfl, hC1, hC2, (hC.out.ext x fun _ _ h => h.ext x).ext ((Ext.rf _).alloc _) fun _ _ h => h.ext ((Ext.rf _).alloc _)⟩
  go_enter Try.func64, Try.ntmps64
  go_upto_region 5 with (fail)
  obtain ⟨wb, hwb⟩ : ∃ wb, wb = w.alloc (.cells #[.int .i64 2, .int .i64 nn, .int .i64 cap, .slice A xw.length a, .slice B xv.length b, .slice D co.length d] 61) := ⟨_, rfl⟩
  have XB : Hid (Ext w wb) := by
    have h : Ext w wb := by rw [hwb]; exact (Ext.rf w).alloc _
    exact h
  have B1 : Hid (Blk wb w.heap.size 61 #[.int .i64 2, .int .i64 nn, .int .i64 cap, .slice A xw.length a, .slice B xv.length b, .slice D co.length d]) := by
    have h : Blk wb w.heap.size 61 #[.int .i64 2, .int .i64 nn, .int .i64 cap, .slice A xw.length a, .slice B xv.length b, .slice D co.length d] := by rw [hwb]; exact .new rfl
    exact h
  have d5 : wb.cell? ⟨w.heap.size, 5, none⟩ = some (.slice D co.length d) := B1.out.cell 5
  rw [← hwb]
  clear hwb
  go_wp2_with (fail)
  go_ret
  exact ⟨_, rfl, FIN.out _ XB.out, XB.out.tr (by (repeat (first | assumption | exact Ext.rf _ | apply Ext.drew | apply Ext.drewN | apply Ext.alloc)))⟩
set_option maxRecDepth 100000 in
set_option maxHeartbeats 1000000 in
theorem of3_any (i : InstP) (us : List Value) (w : World) (H : RInst w us i) (hc : checkP i = 0) (hk : i.kind = 3) :
    Calls Try.prog 64 #[.agg (List.toArray us)] w (OfPost 135 (fun W g => CiB W g (mirP i.cost) i.cost) w) := by
  have MI := Lib.hid (fun (W : World) (y : Ext w W) => mirror_any i us W (H.ext y) hc hk)
  obtain ⟨mm, hmm⟩ : ∃ mm, Hid (mirP i.cost = mm) := ⟨_, rfl⟩
  unfold OfPost
  rw [hmm.out] at MI ⊢
  clear hmm hc
  obtain ⟨kind, nn, cap, xw, xv, co⟩ := i
  obtain ⟨A, a, B, b, D, d, rfl, -, -, hC, hC1, hC2⟩ := H
  simp only at *
  subst hk
  replace hC := Lib.hid hC
  have FIN : Hid (∀ (W : World) (x : Ext w W), CiB (W.alloc (.cells #[.slice D co.length d, .bool mm] 137)) W.heap.size mm co) := fun W x => ⟨D, d, .new rfl, hC1, hC2, (hC.out.ext x fun _ _ h => h.ext x).ext ((Ext.rf _).alloc _) fun _ _ h => h.ext ((Ext.rf _).alloc _)⟩
  have B1 : Hid (Blk (w.alloc (.cells #[.int .i64 3, .int .i64 nn, .int .i64 cap, .slice A xw.length a, .slice B xv.length b, .slice D co.length d] 61)) w.heap.size 61 #[.int .i64 3, .int .i64 nn, .int .i64 cap, .slice A xw.length a, .slice B xv.length b, .slice D co.length d]) := .new rfl
  go_enter Try.func64, Try.ntmps64
  go_wp2_with (fail)
  obtain ⟨wb, hwb⟩ : ∃ wb, wb = w.alloc (.cells #[.int .i64 3, .int .i64 nn, .int .i64 cap, .slice A xw.length a, .slice B xv.length b, .slice D co.length d] 61) := ⟨_, rfl⟩
  have XB : Hid (Ext w wb) := by
    have h : Ext w wb := by rw [hwb]; exact (Ext.rf w).alloc _
    exact h
  rw [← hwb] at B1 ⊢
  clear hwb
  have d0 : wb.cell? ⟨w.heap.size, 0, none⟩ = some (.int .i64 3) := B1.out.cell 0
  have d1 : wb.cell? ⟨w.heap.size, 1, none⟩ = some (.int .i64 nn) := B1.out.cell 1
  have d2 : wb.cell? ⟨w.heap.size, 2, none⟩ = some (.int .i64 cap) := B1.out.cell 2
  have d3 : wb.cell? ⟨w.heap.size, 3, none⟩ = some (.slice A xw.length a) := B1.out.cell 3
  have d4 : wb.cell? ⟨w.heap.size, 4, none⟩ = some (.slice B xv.length b) := B1.out.cell 4
  have d5 : wb.cell? ⟨w.heap.size, 5, none⟩ = some (.slice D co.length d) := B1.out.cell 5
  have zw := B1.out.lt
  go_region_held3 (fun w' => w'.cell? ⟨w.heap.size, 0, none⟩ = some (.int .i64 3) ∧ w'.cell? ⟨w.heap.size, 1, none⟩ = some (.int .i64 nn) ∧ w'.cell? ⟨w.heap.size, 2, none⟩ = some (.int .i64 cap) ∧ w'.cell? ⟨w.heap.size, 3, none⟩ = some (.slice A xw.length a) ∧ w'.cell? ⟨w.heap.size, 4, none⟩ = some (.slice B xv.length b) ∧ w'.cell? ⟨w.heap.size, 5, none⟩ = some (.slice D co.length d)) (go_keep)
    (first | (go_at_call 104; refine (MI.out _ (XB.out.tr (by (repeat (first | assumption | exact Ext.rf _ | apply Ext.drew | apply Ext.drewN | apply Ext.alloc))))).mono ?_; rintro e w2 ⟨rfl, x2⟩; have Y2 := Ext.tr (a := wb) (by (repeat (first | assumption | exact Ext.rf _ | apply Ext.drew | apply Ext.drewN | apply Ext.alloc))) x2; have s1 := keepEL Y2 zw d0; have s2 := keepEL Y2 zw d1; have s3 := keepEL Y2 zw d2; have s4 := keepEL Y2 zw d3; have s5 := keepEL Y2 zw d4; have s6 := keepEL Y2 zw d5))
  all_goals
    have X2 := Lib.hid (XB.out.tr Y2)
    go_wp2_with (fail)
    go_ret
    exact ⟨_, rfl, FIN.out _ X2.out, X2.out.tr (by (repeat (first | assumption | exact Ext.rf _ | apply Ext.drew | apply Ext.drewN | apply Ext.alloc)))⟩
end Go.Proofs.Ytcpadkaljnnieaa
namespace Go.Proofs.Ytcpadkaljnnieaa

def ltK (l : List Int) (a b : Nat) : Bool := decide (l.getD a 0 < l.getD b 0)
theorem ltK_weak (l : List Int) : Weak (ltK l) where
  asym := fun a b h => by
    unfold ltK at h ⊢
    have := of_decide_eq_true h
    exact decide_eq_false (by omega)
  neg := fun a b c h => by
    unfold ltK at h ⊢
    have := of_decide_eq_true h
    by_cases h1 : l.getD a 0 < l.getD b 0
    · exact .inl (decide_eq_true h1)
    · exact .inr (decide_eq_true (by omega))
def byKey (l : List Int) : List Nat := sortP (ltK l) (List.range l.length)
theorem byKey_len (l : List Int) : (byKey l).length = l.length := by unfold byKey; rw [sortP_len, List.length_range]
theorem byKey_lt {l : List Int} {k a : Nat} (h : (byKey l)[k]? = some a) : a < l.length := by
  have hm := List.mem_of_getElem? h
  unfold byKey at hm
  have := (sortP_is (ltK_weak l) List.pairwise_lt_range).mem.1 hm
  exact List.mem_range.1 this
def rising (l : List Int) : List Int := (byKey l).map fun a => l.getD a 0
theorem rising_len (l : List Int) : (rising l).length = l.length := by unfold rising; rw [List.length_map, byKey_len]
theorem range_map (l : List Int) : (List.range l.length).map (fun a => l.getD a 0) = l := by
  apply List.ext_getElem
  · simp
  · intro k h1 h2
    simp [List.getD, List.getElem?_eq_getElem h2]
theorem rising_eq {l k : List Int} (hp : k.Perm l) (hs : k.Pairwise (· < ·)) : rising l = k := by
  have I := sortP_is (ltK_weak l) (List.pairwise_lt_range (n := l.length))
  refine List.Perm.eq_of_pairwise (le := (· ≤ ·)) (fun a b _ _ h1 h2 => by omega) ?_ (hs.imp fun h => by omega) ?_
  · unfold rising
    rw [List.pairwise_map]
    refine I.2.imp fun {a b} h => ?_
    rcases h with h | ⟨h, _⟩
    · unfold ltK at h
      have := of_decide_eq_true h
      omega
    · unfold ltK at h
      have := of_decide_eq_false h
      omega
  · have h1 : (rising l).Perm ((List.range l.length).map fun a => l.getD a 0) := I.1.map _
    rw [range_map] at h1
    exact h1.trans hp.symm
/-- the kids as the kernel's document tells them -/
def kidsR (i : InstP) (p : List Int) : List Int := if i.kind = 1 then (kidsP i.cap (wsP i) (vsP i) p).1 else if i.kind = 2 then (kidsA i.cost p).1 else (kidsT i.cost p).1
theorem ints_sorted (m : Nat) : (intsN (memsM m)).Pairwise (· < ·) := by
  unfold intsN
  rw [List.pairwise_map]
  exact (memsM_sorted m).imp fun h => by omega
theorem kids_rise {i : InstP} (hc : checkP i = 0) {p : List Int} (ho : okI i p) (hl : p.length < depthI i) : rising (kidsR i p) = kidsI i p := by
  have hh : (kidsI i p).Perm (kidsR i p) ∧ (kidsI i p).Pairwise (· < ·) := by
    unfold okI at ho
    rcases check_kind hc with h | h | h
    · have ok := knap_ok hc h
      obtain ⟨f1, f2, f3, f4, f5⟩ := knap_facts ok
      rw [if_pos h] at ho
      obtain ⟨⟨r, o⟩, hs⟩ := ho
      have hd : depthI i = (wsP i).length := by unfold depthI; rw [if_neg (by omega)]; omega
      rw [hd] at hl
      unfold kidsI kidsR kidsK
      rw [if_pos h, if_pos h, (st_roomC hs).1]
      unfold kidsP
      rw [hs]
      have e := List.drop_eq_getElem_cons hl
      rw [e]
      simp only
      split
      · exact ⟨List.Perm.swap 1 0 [], by simp⟩
      · exact ⟨List.Perm.refl _, by simp⟩
    · have sq := square_ok hc (by omega)
      have rok := rows_ok sq
      rw [if_neg (by omega), if_pos h] at ho
      obtain ⟨m, hm⟩ := ho
      obtain ⟨l, e1, e2, _⟩ := kidsA_of hm
      have e : kidsI i p = intsN (memsM m) := by unfold kidsI; rw [if_neg (by omega), if_pos h, abs_assign rok.n2 hm]
      have e' : kidsR i p = intsN l := by unfold kidsR; rw [if_neg (by omega), if_pos h, e1]
      rw [e, e']
      exact ⟨(e2.symm).map _, ints_sorted m⟩
    · have sq := square_ok hc (by omega)
      have rok := rows_ok sq
      rw [if_neg (by omega), if_neg (by omega)] at ho
      obtain ⟨⟨m, last, cost⟩, hm⟩ := ho
      obtain ⟨l, e1, e2, _⟩ := kidsT_of hm
      have e : kidsI i p = intsN (memsM m) := by unfold kidsI; rw [if_neg (by omega), if_neg (by omega), abs_tour rok.n1 rok.n2 hm]
      have e' : kidsR i p = intsN l := by unfold kidsR; rw [if_neg (by omega), if_neg (by omega), e1]
      rw [e, e']
      exact ⟨(e2.symm).map _, ints_sorted m⟩
  exact rising_eq hh.1 hh.2
end Go.Proofs.Ytcpadkaljnnieaa
namespace Go.Proofs.Ytcpadkaljnnieaa
open Go.RowKit Go.ChangeShapes Go.WideShapes Go.ChangeAt Go.Deep

/-- what is known of the problem behind the checker's face -/
structure PV (i : InstP) (g : Nat) (W0 : World) (px : Value) (fD fK fB : Nat) : Prop where
  chk : checkP i = 0
  n64 : depthI i ≤ 64
  cD : ∀ (W : World), Below g W0 W → Calls Try.prog fD #[px] W fun e w' => e = .returned (.int .i64 (depthI i)) ∧ Ext W w'
  cK : ∀ (W : World) (P : Option Addr) (c : Nat) (p : List Int), Below g W0 W → RdI W P p → okI i p → p.length < depthI i → Calls Try.prog fK #[px, .slice P p.length c] W (OwnK (kidsI i p) W)
  cB : ∀ (W : World) (P : Option Addr) (c : Nat) (p : List Int), Below g W0 W → RdI W P p → okI i p → Calls Try.prog fB #[px, .slice P p.length c] W fun e w' => e = .returned (.int .i64 (boundI i p)) ∧ Ext W w'
def NodeP (g : Nat) (T : TypeId) (px : Value) (cost : Int) (res : Int × Wd) (W : World) (e : Ending) (W' : World) : Prop :=
  e = .returned (.int .i64 res.1) ∧ Blk W' g 119 #[.iface T px, .int .i64 cost, .string ⟨res.2.toArray⟩] ∧ Mod (fun k => k = g) W W'
theorem RdI.modW {W W' : World} {P : Option Addr} {p : List Int} {g : Nat} (h : RdI W P p) (m : Mod (fun k => k = g) W W') (hne : ∀ b, bl P = some b → b ≠ g) : RdI W' P p := by
  rcases h with rfl | ⟨b, off, rfl, hlt, hc⟩
  · exact .inl rfl
  · refine .inr ⟨b, off, rfl, Nat.lt_of_lt_of_le hlt m.size, fun j x hj => ?_⟩
    rw [← hc j x hj]
    exact World.cell?_of_block (m.block b hlt (hne b rfl))
theorem below_modG {W0 W W' : World} {g : Nat} (h : Below g W0 W) (m : Mod (fun k => k = g) W W') (hg : g ≤ W.heap.size) : Below g W0 W' := h.trans (m.below hg fun k hk e => by omega)
def NodeC (i : InstP) (g : Nat) (W0 : World) (T : TypeId) (px : Value) (cost : Int) (f : Nat) : Prop :=
  ∀ (W : World) (P : Option Addr) (c : Nat) (p : List Int) (r : Wd), Below g W0 W → Blk W g 119 #[.iface T px, .int .i64 cost, .string ⟨r.toArray⟩] → RdI W P p → (∀ b, bl P = some b → b ≠ g) → okI i p → f + p.length = depthI i + 1 → r.length ≤ 1000 →
    Calls Try.prog 65 #[.pointer (some ⟨g, 0, none⟩), .slice P p.length c] W (NodeP g T px cost (nodeC (depthI i) (kidsI i) (boundI i) cost f p r) W)
def KidsC (i : InstP) (g : Nat) (W0 : World) (T : TypeId) (px : Value) (cost : Int) (f : Nat) : Prop :=
  ∀ (W : World) (P : Option Addr) (c : Nat) (p : List Int) (r : Wd), Below g W0 W → Blk W g 119 #[.iface T px, .int .i64 cost, .string ⟨r.toArray⟩] → RdI W P p → (∀ b, bl P = some b → b ≠ g) → okI i p → f + p.length = depthI i → p.length < depthI i → r.length ≤ 1000 →
    Calls Try.prog 105 #[.pointer (some ⟨g, 0, none⟩), .slice P p.length c] W (NodeP g T px cost (seqC (fun n v => nodeC (depthI i) (kidsI i) (boundI i) cost f (p ++ [n]) v) (kidsI i p) r) W)
theorem nodeC_rest {D : Nat} {kids : List Int → List Int} {bound : List Int → Int} {cost : Int} : ∀ (f : Nat) (p : List Int) (r : Wd), (nodeC D kids bound cost f p r).2.length ≤ r.length
  | 0, p, r => Nat.le_refl _
  | f + 1, p, [] => Nat.le_refl _
  | f + 1, p, c :: r => by
    rw [nodeC_cons]
    have key : ∀ (l : List Int) (r : Wd), (seqC (fun n v => nodeC D kids bound cost f (p ++ [n]) v) l r).2.length ≤ r.length := by
      intro l
      induction l with
      | nil => intro r; exact Nat.le_refl _
      | cons n l ih =>
        intro r
        unfold seqC
        split
        · exact Nat.le_trans (ih _) (nodeC_rest f _ r)
        · exact nodeC_rest f _ r
    repeat' split
    all_goals (simp only [List.length_cons]; try omega)
    exact Nat.le_trans (key _ r) (by omega)
theorem owi_grownT {w w' : World} {base : Nat} {A : Option Addr} {c : Nat} {xs : List Int} (h : OwI w base A c xs) (hg : w.grownBy w' (bl A)) : ModT base [3] w w' := by
  refine Mod.grown hg fun g hA => ?_
  rcases h.cases with ⟨rfl, _, _⟩ | ⟨g', cur, rfl, hb, hh, _⟩
  · simp [bl] at hA
  · simp [bl] at hA
    subst hA
    exact ⟨hb, cur, _, hh, by simp⟩
end Go.Proofs.Ytcpadkaljnnieaa
namespace Go.Proofs.Ytcpadkaljnnieaa
open Go.RowKit Go.ChangeShapes Go.WideShapes Go.ChangeAt Go.Deep

set_option maxRecDepth 100000 in
set_option maxHeartbeats 800000 in
theorem node_step_knapsack {i : InstP} {g : Nat} {W0 : World} {px : Value} {cost : Int} (H : PV i g W0 px 167 168 166) (f : Nat) (ihk : KidsC i g W0 130 px cost f) : NodeC i g W0 130 px cost (f + 1) := by
  intro W P c p r hB hblk hP hne ho hf hr
  cases r with
  | nil =>
    have t2 : W.cell? ⟨g, 2, none⟩ = some (.string ⟨#[]⟩) := hblk.cell 2
    have e : nodeC (depthI i) (kidsI i) (boundI i) cost (f + 1) p [] = (6, []) := rfl
    rw [e]
    go_enter Try.func65, Try.ntmps65
    go_wp2_with (fail)
    go_ret
    exact ⟨rfl, hblk, Mod.rf _⟩
  | cons x r =>
    have t2 : W.cell? ⟨g, 2, none⟩ = some (.string ⟨(x :: r).toArray⟩) := hblk.cell 2
    have f2 := hblk.free 2
    have EX : (⟨(x :: r).toArray⟩ : ByteArray).extract 1 (r.length + 1) = ⟨r.toArray⟩ := by
      apply ByteArray.ext
      rw [ByteArray.data_extract]
      simp
    have hsz : 0 < (⟨(x :: r).toArray⟩ : ByteArray).size := by simp [ByteArray.size]
    have E0 : (⟨(x :: r).toArray⟩ : ByteArray)[0]'hsz = x := rfl
    have hB1 := Lib.hid (hblk.set 2 (.string ⟨r.toArray⟩))
    have MM : Hid (Mod (fun k => k = g) W (W.setCell ⟨g, 2, none⟩ (.string ⟨r.toArray⟩))) := Mod.set (S := fun k => k = g) (Mod.rf W) (p := ⟨g, 2, none⟩) (.inl rfl) _
    have gl := hblk.lt
    obtain ⟨RES, hRES⟩ : ∃ RES, Hid (nodeC (depthI i) (kidsI i) (boundI i) cost (f + 1) p (x :: r) = RES) := ⟨_, rfl⟩
    rw [hRES.out]
    have RE := hRES.out
    rw [nodeC_cons] at RE
    replace RE := Lib.hid RE
    have hBl := Lib.hid (below_modG hB MM.out (by omega))
    have hPl := Lib.hid (hP.modW MM.out hne)
    have mD : ∀ (x : Value) (u : World), (callMethod (.iface 130 x) "kurgan/check.depth" #[]).run Try.prog u = .ok (.enter 167 #[x]) u := fun _ _ => by kernel_rfl
    have mB : ∀ (x : Value) (u : World), (method 307 130 x "kurgan/check.bound").run Try.prog u = .ok (166, x) u := fun _ _ => by kernel_rfl
    have hlen := (by omega : p.length ≤ depthI i)
    have hr' : r.length ≤ 1000 := by simp at hr; omega
    clear hRES
    go_enter Try.func65, Try.ntmps65
    go_upto_region 5 with (fail)
    generalize W.setCell ⟨g, 2, none⟩ (.string ⟨r.toArray⟩) = W1 at *
    have B1 := Lib.hid (show Blk W1 g 119 #[.iface 130 px, .int .i64 cost, .string ⟨r.toArray⟩] from hB1.out)
    have t0 : W1.cell? ⟨g, 0, none⟩ = some (.iface 130 px) := B1.out.cell 0
    clear t2 f2 EX E0 hB1 hsz hblk
    go_wp2_with (fail)
    refine (H.cD _ (hBl.out.trans (Below.refl _ _))).mono ?_
    rintro e W2 ⟨rfl, x2⟩
    have B2 := Lib.hid (B1.out.ext x2)
    have M2 := Lib.hid (MM.out.ext x2)
    have P2 := Lib.hid (hPl.out.ext x2)
    have hB2 := Lib.hid (hBl.out.trans (Below.mono x2 (by have := MM.out.size; omega)))
    clear x2 t0 B1 MM hPl hBl
    have gl2 := B2.out.lt
    have t0 : W2.cell? ⟨g, 0, none⟩ = some (.iface 130 px) := B2.out.cell 0
    have t1 : W2.cell? ⟨g, 1, none⟩ = some (.int .i64 cost) := B2.out.cell 1
    have CB := Lib.hid (fun (W : World) (y : Ext W2 W) => H.cB W P c p (hB2.out.trans (Below.mono y (by omega))) (P2.out.ext y) ho)
    by_cases hw : p.length = depthI i
    · have e1 : ((p.length : Int) == (depthI i : Int)) = true := by simp [hw]
      replace hw := Lib.hid hw
      by_cases h98 : x = 98
      · subst h98
        obtain rfl : RES = (8, r) := by have h := RE.out; rw [if_pos rfl, if_pos hw.out] at h; exact h.symm
        go_wp2_with (fail)
        go_ret
        exact ⟨rfl, B2.out, M2.out⟩
      · have n98 : ((x.toNat : Int) == 98) = false := by
          have : x.toNat ≠ 98 := fun h => h98 (UInt8.toNat_inj.1 h)
          simp; omega
        by_cases h108 : x = 108
        · subst h108
          have RB : Hid ((if boundI i p < cost then ((13, r) : Int × Wd) else (0, r)) = RES) := by
            have h : (if boundI i p < cost then ((13, r) : Int × Wd) else (0, r)) = RES := by
              have h := RE.out
              rw [if_neg h98, if_pos rfl, if_pos hw.out] at h
              exact h
            exact h
          by_cases hb : boundI i p < cost
          · obtain rfl : RES = (13, r) := by have h := RB.out; rw [if_pos hb] at h; exact h.symm
            go_wp2_with (fail)
            go_region_held3 (fun w' => w'.cell? ⟨g, 0, none⟩ = some (.iface 130 px) ∧ w'.cell? ⟨g, 1, none⟩ = some (.int .i64 cost)) (go_keep)
              (first | (go_at_call 166; refine (CB.out _ (by (repeat (first | assumption | exact Ext.rf _ | apply Ext.drew | apply Ext.drewN | apply Ext.alloc)))).mono ?_; rintro e W3 ⟨rfl, x3⟩; have y3 := Ext.tr (a := W2) (by (repeat (first | assumption | exact Ext.rf _ | apply Ext.drew | apply Ext.drewN | apply Ext.alloc))) x3; have s1 := keepEL y3 gl2 t0; have s2 := keepEL y3 gl2 t1))
            all_goals go_wp2_with (fail)
            all_goals go_ret
            all_goals exact ⟨rfl, B2.out.ext y3, M2.out.ext y3⟩
          · obtain rfl : RES = (0, r) := by have h := RB.out; rw [if_neg hb] at h; exact h.symm
            go_wp2_with (fail)
            go_region_held3 (fun w' => w'.cell? ⟨g, 0, none⟩ = some (.iface 130 px) ∧ w'.cell? ⟨g, 1, none⟩ = some (.int .i64 cost)) (go_keep)
              (first | (go_at_call 166; refine (CB.out _ (by (repeat (first | assumption | exact Ext.rf _ | apply Ext.drew | apply Ext.drewN | apply Ext.alloc)))).mono ?_; rintro e W3 ⟨rfl, x3⟩; have y3 := Ext.tr (a := W2) (by (repeat (first | assumption | exact Ext.rf _ | apply Ext.drew | apply Ext.drewN | apply Ext.alloc))) x3; have s1 := keepEL y3 gl2 t0; have s2 := keepEL y3 gl2 t1))
            all_goals go_wp2_with (fail)
            all_goals go_ret
            all_goals exact ⟨rfl, B2.out.ext y3, M2.out.ext y3⟩
        · have n108 : ((x.toNat : Int) == 108) = false := by
            have : x.toNat ≠ 108 := fun h => h108 (UInt8.toNat_inj.1 h)
            simp; omega
          by_cases h112 : x = 112
          · subst h112
            have RB : Hid ((if boundI i p < cost then ((13, r) : Int × Wd) else (0, r)) = RES) := by
              have h : (if boundI i p < cost then ((13, r) : Int × Wd) else (0, r)) = RES := by
                have h := RE.out
                rw [if_neg h98, if_neg h108, if_pos rfl] at h
                exact h
              exact h
            by_cases hb : boundI i p < cost
            · obtain rfl : RES = (13, r) := by have h := RB.out; rw [if_pos hb] at h; exact h.symm
              go_wp2_with (fail)
              go_region_held3 (fun w' => w'.cell? ⟨g, 0, none⟩ = some (.iface 130 px) ∧ w'.cell? ⟨g, 1, none⟩ = some (.int .i64 cost)) (go_keep)
                (first | (go_at_call 166; refine (CB.out _ (by (repeat (first | assumption | exact Ext.rf _ | apply Ext.drew | apply Ext.drewN | apply Ext.alloc)))).mono ?_; rintro e W3 ⟨rfl, x3⟩; have y3 := Ext.tr (a := W2) (by (repeat (first | assumption | exact Ext.rf _ | apply Ext.drew | apply Ext.drewN | apply Ext.alloc))) x3; have s1 := keepEL y3 gl2 t0; have s2 := keepEL y3 gl2 t1))
              all_goals go_wp2_with (fail)
              all_goals go_ret
              all_goals exact ⟨rfl, B2.out.ext y3, M2.out.ext y3⟩
            · obtain rfl : RES = (0, r) := by have h := RB.out; rw [if_neg hb] at h; exact h.symm
              go_wp2_with (fail)
              go_region_held3 (fun w' => w'.cell? ⟨g, 0, none⟩ = some (.iface 130 px) ∧ w'.cell? ⟨g, 1, none⟩ = some (.int .i64 cost)) (go_keep)
                (first | (go_at_call 166; refine (CB.out _ (by (repeat (first | assumption | exact Ext.rf _ | apply Ext.drew | apply Ext.drewN | apply Ext.alloc)))).mono ?_; rintro e W3 ⟨rfl, x3⟩; have y3 := Ext.tr (a := W2) (by (repeat (first | assumption | exact Ext.rf _ | apply Ext.drew | apply Ext.drewN | apply Ext.alloc))) x3; have s1 := keepEL y3 gl2 t0; have s2 := keepEL y3 gl2 t1))
              all_goals go_wp2_with (fail)
              all_goals go_ret
              all_goals exact ⟨rfl, B2.out.ext y3, M2.out.ext y3⟩
          · have n112 : ((x.toNat : Int) == 112) = false := by
              have : x.toNat ≠ 112 := fun h => h112 (UInt8.toNat_inj.1 h)
              simp; omega
            obtain rfl : RES = (2, r) := by have h := RE.out; rw [if_neg h98, if_neg h108, if_neg h112] at h; exact h.symm
            go_wp2_with (fail)
            go_ret
            exact ⟨rfl, B2.out, M2.out⟩
    · have e1 : ((p.length : Int) == (depthI i : Int)) = false := by simp; omega
      by_cases h98 : x = 98
      · subst h98
        have RK : Hid (seqC (fun n v => nodeC (depthI i) (kidsI i) (boundI i) cost f (p ++ [n]) v) (kidsI i p) r = RES) := by
          have h : seqC (fun n v => nodeC (depthI i) (kidsI i) (boundI i) cost f (p ++ [n]) v) (kidsI i p) r = RES := by
            have h := RE.out
            rw [if_pos rfl, if_neg hw] at h
            exact h
          exact h
        have K := Lib.hid (ihk W2 P c p r hB2.out B2.out P2.out hne ho (by omega) (by omega) hr')
        rw [RK.out] at K
        go_wp2_with (fail)
        refine K.out.mono ?_
        rintro e W3 ⟨rfl, b3, m3⟩
        have M3 := Lib.hid (M2.out.tr m3)
        replace b3 := Lib.hid b3
        clear m3
        go_wp2_with (fail)
        go_ret
        exact ⟨rfl, b3.out, M3.out⟩
      · have n98 : ((x.toNat : Int) == 98) = false := by
          have : x.toNat ≠ 98 := fun h => h98 (UInt8.toNat_inj.1 h)
          simp; omega
        by_cases h108 : x = 108
        · subst h108
          obtain rfl : RES = (8, r) := by have h := RE.out; rw [if_neg h98, if_pos rfl, if_neg hw] at h; exact h.symm
          go_wp2_with (fail)
          go_ret
          exact ⟨rfl, B2.out, M2.out⟩
        · have n108 : ((x.toNat : Int) == 108) = false := by
            have : x.toNat ≠ 108 := fun h => h108 (UInt8.toNat_inj.1 h)
            simp; omega
          by_cases h112 : x = 112
          · subst h112
            have RB : Hid ((if boundI i p < cost then ((13, r) : Int × Wd) else (0, r)) = RES) := by
              have h : (if boundI i p < cost then ((13, r) : Int × Wd) else (0, r)) = RES := by
                have h := RE.out
                rw [if_neg h98, if_neg h108, if_pos rfl] at h
                exact h
              exact h
            by_cases hb : boundI i p < cost
            · obtain rfl : RES = (13, r) := by have h := RB.out; rw [if_pos hb] at h; exact h.symm
              go_wp2_with (fail)
              go_region_held3 (fun w' => w'.cell? ⟨g, 0, none⟩ = some (.iface 130 px) ∧ w'.cell? ⟨g, 1, none⟩ = some (.int .i64 cost)) (go_keep)
                (first | (go_at_call 166; refine (CB.out _ (by (repeat (first | assumption | exact Ext.rf _ | apply Ext.drew | apply Ext.drewN | apply Ext.alloc)))).mono ?_; rintro e W3 ⟨rfl, x3⟩; have y3 := Ext.tr (a := W2) (by (repeat (first | assumption | exact Ext.rf _ | apply Ext.drew | apply Ext.drewN | apply Ext.alloc))) x3; have s1 := keepEL y3 gl2 t0; have s2 := keepEL y3 gl2 t1))
              all_goals go_wp2_with (fail)
              all_goals go_ret
              all_goals exact ⟨rfl, B2.out.ext y3, M2.out.ext y3⟩
            · obtain rfl : RES = (0, r) := by have h := RB.out; rw [if_neg hb] at h; exact h.symm
              go_wp2_with (fail)
              go_region_held3 (fun w' => w'.cell? ⟨g, 0, none⟩ = some (.iface 130 px) ∧ w'.cell? ⟨g, 1, none⟩ = some (.int .i64 cost)) (go_keep)
                (first | (go_at_call 166; refine (CB.out _ (by (repeat (first | assumption | exact Ext.rf _ | apply Ext.drew | apply Ext.drewN | apply Ext.alloc)))).mono ?_; rintro e W3 ⟨rfl, x3⟩; have y3 := Ext.tr (a := W2) (by (repeat (first | assumption | exact Ext.rf _ | apply Ext.drew | apply Ext.drewN | apply Ext.alloc))) x3; have s1 := keepEL y3 gl2 t0; have s2 := keepEL y3 gl2 t1))
              all_goals go_wp2_with (fail)
              all_goals go_ret
              all_goals exact ⟨rfl, B2.out.ext y3, M2.out.ext y3⟩
          · have n112 : ((x.toNat : Int) == 112) = false := by
              have : x.toNat ≠ 112 := fun h => h112 (UInt8.toNat_inj.1 h)
              simp; omega
            obtain rfl : RES = (2, r) := by have h := RE.out; rw [if_neg h98, if_neg h108, if_neg h112] at h; exact h.symm
            go_wp2_with (fail)
            go_ret
            exact ⟨rfl, B2.out, M2.out⟩
end Go.Proofs.Ytcpadkaljnnieaa
namespace Go.Proofs.Ytcpadkaljnnieaa
open Go.RowKit Go.ChangeShapes Go.WideShapes Go.ChangeAt Go.Deep

set_option maxRecDepth 100000 in
set_option maxHeartbeats 800000 in
theorem kids_step_knapsack {i : InstP} {g : Nat} {W0 : World} {px : Value} {cost : Int} (H : PV i g W0 px 167 168 166) (f : Nat) (ihn : NodeC i g W0 130 px cost f) : KidsC i g W0 130 px cost f := by
  intro W P c p r hB hblk hP hne ho hf hlt0 hr
  have n64 := H.n64
  have t0 : W.cell? ⟨g, 0, none⟩ = some (.iface 130 px) := hblk.cell 0
  have gl := hblk.lt
  have mK : ∀ (x a : Value) (u : World), (callMethod (.iface 130 x) "kurgan/check.kids" #[a]).run Try.prog u = .ok (.enter 168 #[x, a]) u := fun _ _ _ => by kernel_rfl
  have CK := Lib.hid (fun (W' : World) (y : Ext W W') => H.cK W' P c p (hB.trans (Below.mono y (by omega))) (hP.ext y) ho hlt0)
  have KID := Lib.hid ((krn_inst H.chk).kid p ho hlt0)
  obtain ⟨RES, hRES⟩ : ∃ RES, Hid (seqC (fun n v => nodeC (depthI i) (kidsI i) (boundI i) cost f (p ++ [n]) v) (kidsI i p) r = RES) := ⟨_, rfl⟩
  rw [hRES.out]
  have KL : (kidsI i p).length ≤ 64 := by
    have := kidsI_len H.chk p ho hlt0
    split at this <;> omega
  have S0 : Hid (seqC (fun n v => nodeC (depthI i) (kidsI i) (boundI i) cost f (p ++ [n]) v) ((kidsI i p).drop 0) r = RES) := hRES
  generalize kidsI i p = l at *
  replace hblk := Lib.hid hblk
  replace hP := Lib.hid hP
  replace hB := Lib.hid hB
  replace hf := Lib.hid hf
  replace hlt0 := Lib.hid hlt0
  clear hRES
  unfold OwnK at CK
  go_enter Try.func105, Try.ntmps105
  go_wp2_with (fail)
  refine (CK.out _ (by (repeat (first | assumption | exact Ext.rf _ | apply Ext.drew | apply Ext.drewN | apply Ext.alloc)))).mono ?_
  rintro e W2 ⟨A, ac, rfl, oA, x2⟩
  have X2 := Ext.tr (a := W) (by (repeat (first | assumption | exact Ext.rf _ | apply Ext.drew | apply Ext.drewN | apply Ext.alloc))) x2
  have B2 := Lib.hid (hblk.out.ext X2)
  have M2 : Hid (Mod (fun k => k = g) W W2) := Mod.of_ext X2
  have RA := Lib.hid oA.read
  have neA : Hid (∀ b, bl A = some b → b ≠ g) := fun b hb => by have := (oA.lt b hb).1; omega
  clear x2 X2 oA CK t0
  go_wp2_with (fail)
  go_loopw [16] (fun v16 wr => ∃ (m : Nat) (r' : Wd), v16 = .int .i64 m ∧ m ≤ l.length ∧ r'.length ≤ 1000 ∧ Hid (seqC (fun n v => nodeC (depthI i) (kidsI i) (boundI i) cost f (p ++ [n]) v) (l.drop m) r' = RES) ∧ Hid (Blk wr g 119 #[.iface 130 px, .int .i64 cost, .string ⟨r'.toArray⟩]) ∧ Hid (RdI wr A l) ∧ Hid (Mod (fun k => k = g) W wr)) (fun v _ => l.length - (intOf v).toNat)
  case atStart => exact ⟨0, r, rfl, by omega, hr, S0, B2, RA, M2⟩
  case round =>
    obtain ⟨wo, rfl⟩ : ∃ wo : World, wo = wr := ⟨_, rfl⟩
    clear S0 B2 RA M2
    obtain ⟨m, r', rfl, hm, hr', hS, BB, RA, MM⟩ := hrel
    have zo := MM.out.size
    by_cases hmt : m < l.length
    · obtain ⟨pb, po, n, rfl, zn, cn, en, dn⟩ := RA.out.at (k := m) hmt
      have q1 : (m : Int) < (l.length : Int) := by omega
      have RP := Lib.hid (hP.out.modW MM.out hne)
      have OKN := Lib.hid (KID.out n (List.mem_of_getElem? en.out))
      have p64 : p.length ≤ 64 := by have := hlt0.out; omega
      have el : (p ++ [n]).length = p.length + 1 := by simp
      have SD := hS.out
      rw [dn.out, seqC] at SD
      replace SD := Lib.hid SD
      clear en dn hS
      go_wp2_with (first
        | (at_builtin; refine wpl_copy_i _ rfl _ _ rfl wo.heap.size _ p P c rfl rfl ?_ ?_ ?_ ?_ ?_; (first | exact .new (by simp) | exact .drew (.new (by simp)) | exact .alloc (.new (by simp)) _ | exact .drew (.alloc (.new (by simp)) _) | exact .alloc (.alloc (.new (by simp)) _) _ | exact .drew (.alloc (.alloc (.new (by simp)) _) _) | (repeat (first | assumption | (refine Blk.new ?_; (focus (simp; done))) | apply Blk.drew | apply Blk.drewN | apply Blk.alloc))); (first | exact Nat.le_refl _ | omega | (focus (simp; try omega))); (refine RP.out.ext ?_; (repeat (first | assumption | exact Ext.rf _ | apply Ext.drew | apply Ext.drewN | apply Ext.alloc))); omega; rintro A7 c7 w7 o7 x7; have y7 := Ext.tr (a := wo) (by (repeat (first | assumption | exact Ext.rf _ | apply Ext.drew | apply Ext.drewN | apply Ext.alloc))) x7; have zw7 := y7.size)
        | (at_builtin; refine wpl_app_i _ rfl _ _ rfl wo.heap.size A7 p.length c7 p [n] (some ⟨w7.heap.size, 0, none⟩) 1 rfl rfl rfl (o7.ext ((Ext.rf _).alloc _)) (.blk (.new rfl) rfl) (by simp; omega) (by simp; omega) ?_; rintro A8 c8 w8 o8 g8 _))
      have y8 : Ext wo (w7.alloc (.cells #[.int .i64 n] 3)) := y7.alloc _
      have X8 := y8.modT (owi_grownT (o7.ext ((Ext.rf w7).alloc (.cells #[.int .i64 n] 3))) g8) (Nat.le_refl _)
      have B8 := BB.out.ext X8
      have M8 := MM.out.ext X8
      have ne8 : ∀ b, bl A8 = some b → b ≠ g := fun b hb => by have := (o8.lt b hb).1; omega
      have hB8 := below_modG hB.out M8 (by omega)
      have CN := ihn w8 A8 c8 (p ++ [n]) r' hB8 B8 o8.read ne8 OKN.out (by rw [el]; have := hf.out; omega) hr'
      rw [el] at CN
      have RL : (nodeC (depthI i) (kidsI i) (boundI i) cost f (p ++ [n]) r').2.length ≤ 1000 := Nat.le_trans (nodeC_rest f _ _) hr'
      generalize nodeC (depthI i) (kidsI i) (boundI i) cost f (p ++ [n]) r' = res at *
      obtain ⟨re, rr⟩ := res
      have RA8 := Lib.hid (RA.out.ext X8)
      have z8 := M8.size
      replace CN := Lib.hid CN
      replace M8 := Lib.hid M8
      unfold NodeP at CN
      clear y8 X8 B8 o8 g8 o7 y7 zw7 ne8 hB8 x7 OKN RP el
      go_wp2_with (fail)
      refine CN.out.mono ?_
      rintro e w9 ⟨rfl, b9, m9⟩
      have M9 := Lib.hid (M8.out.tr m9)
      have RA9 := Lib.hid (RA8.out.modW m9 neA.out)
      replace b9 := Lib.hid b9
      clear m9 CN RA8 M8 BB RA MM
      try simp only at SD
      try simp only at b9
      try simp only at RL
      by_cases he : re = 0
      · subst he
        have SD2 : Hid (seqC (fun n v => nodeC (depthI i) (kidsI i) (boundI i) cost f (p ++ [n]) v) (l.drop (m + 1)) rr = RES) := by
          have h := SD.out
          rw [if_pos rfl] at h
          exact h
        clear SD
        go_wp2_with (fail)
        go_roundw
        case rel => exact ⟨m + 1, rr, by go_num, by omega, RL, SD2, b9, RA9, M9⟩
        case measure => simp [intOf]; omega
      · have e1 : (re != 0) = true := by simpa using he
        obtain rfl : RES = (re, rr) := by have h := SD.out; rw [if_neg he] at h; exact h.symm
        clear SD
        go_wp2_with (fail)
        go_ret
        exact ⟨rfl, b9.out, M9.out⟩
    · have q1 : ¬ (m : Int) < (l.length : Int) := by omega
      obtain rfl : RES = (0, r') := by
        have h := hS.out
        rw [List.drop_of_length_le (by omega)] at h
        exact h.symm
      go_wp2_with (fail)
      go_ret
      exact ⟨rfl, BB.out, MM.out⟩
theorem node_all_knapsack {i : InstP} {g : Nat} {W0 : World} {px : Value} {cost : Int} (H : PV i g W0 px 167 168 166) : ∀ f, NodeC i g W0 130 px cost (f + 1)
  | 0 => node_step_knapsack H 0 (fun W P c p r _ _ _ _ _ hf hl _ => by omega)
  | f + 1 => node_step_knapsack H (f + 1) (kids_step_knapsack H (f + 1) (node_all_knapsack H f))
end Go.Proofs.Ytcpadkaljnnieaa
namespace Go.Proofs.Ytcpadkaljnnieaa
open Go.RowKit Go.ChangeShapes Go.WideShapes Go.ChangeAt Go.Deep

set_option maxRecDepth 100000 in
set_option maxHeartbeats 800000 in
theorem node_step_rows {i : InstP} {g : Nat} {W0 : World} {px : Value} {cost : Int} (H : PV i g W0 px 175 176 174) (f : Nat) (ihk : KidsC i g W0 132 px cost f) : NodeC i g W0 132 px cost (f + 1) := by
  intro W P c p r hB hblk hP hne ho hf hr
  cases r with
  | nil =>
    have t2 : W.cell? ⟨g, 2, none⟩ = some (.string ⟨#[]⟩) := hblk.cell 2
    have e : nodeC (depthI i) (kidsI i) (boundI i) cost (f + 1) p [] = (6, []) := rfl
    rw [e]
    go_enter Try.func65, Try.ntmps65
    go_wp2_with (fail)
    go_ret
    exact ⟨rfl, hblk, Mod.rf _⟩
  | cons x r =>
    have t2 : W.cell? ⟨g, 2, none⟩ = some (.string ⟨(x :: r).toArray⟩) := hblk.cell 2
    have f2 := hblk.free 2
    have EX : (⟨(x :: r).toArray⟩ : ByteArray).extract 1 (r.length + 1) = ⟨r.toArray⟩ := by
      apply ByteArray.ext
      rw [ByteArray.data_extract]
      simp
    have hsz : 0 < (⟨(x :: r).toArray⟩ : ByteArray).size := by simp [ByteArray.size]
    have E0 : (⟨(x :: r).toArray⟩ : ByteArray)[0]'hsz = x := rfl
    have hB1 := Lib.hid (hblk.set 2 (.string ⟨r.toArray⟩))
    have MM : Hid (Mod (fun k => k = g) W (W.setCell ⟨g, 2, none⟩ (.string ⟨r.toArray⟩))) := Mod.set (S := fun k => k = g) (Mod.rf W) (p := ⟨g, 2, none⟩) (.inl rfl) _
    have gl := hblk.lt
    obtain ⟨RES, hRES⟩ : ∃ RES, Hid (nodeC (depthI i) (kidsI i) (boundI i) cost (f + 1) p (x :: r) = RES) := ⟨_, rfl⟩
    rw [hRES.out]
    have RE := hRES.out
    rw [nodeC_cons] at RE
    replace RE := Lib.hid RE
    have hBl := Lib.hid (below_modG hB MM.out (by omega))
    have hPl := Lib.hid (hP.modW MM.out hne)
    have mD : ∀ (x : Value) (u : World), (callMethod (.iface 132 x) "kurgan/check.depth" #[]).run Try.prog u = .ok (.enter 175 #[x]) u := fun _ _ => by kernel_rfl
    have mB : ∀ (x : Value) (u : World), (method 307 132 x "kurgan/check.bound").run Try.prog u = .ok (174, x) u := fun _ _ => by kernel_rfl
    have hlen := (by omega : p.length ≤ depthI i)
    have hr' : r.length ≤ 1000 := by simp at hr; omega
    clear hRES
    go_enter Try.func65, Try.ntmps65
    go_upto_region 5 with (fail)
    generalize W.setCell ⟨g, 2, none⟩ (.string ⟨r.toArray⟩) = W1 at *
    have B1 := Lib.hid (show Blk W1 g 119 #[.iface 132 px, .int .i64 cost, .string ⟨r.toArray⟩] from hB1.out)
    have t0 : W1.cell? ⟨g, 0, none⟩ = some (.iface 132 px) := B1.out.cell 0
    clear t2 f2 EX E0 hB1 hsz hblk
    go_wp2_with (fail)
    refine (H.cD _ (hBl.out.trans (Below.refl _ _))).mono ?_
    rintro e W2 ⟨rfl, x2⟩
    have B2 := Lib.hid (B1.out.ext x2)
    have M2 := Lib.hid (MM.out.ext x2)
    have P2 := Lib.hid (hPl.out.ext x2)
    have hB2 := Lib.hid (hBl.out.trans (Below.mono x2 (by have := MM.out.size; omega)))
    clear x2 t0 B1 MM hPl hBl
    have gl2 := B2.out.lt
    have t0 : W2.cell? ⟨g, 0, none⟩ = some (.iface 132 px) := B2.out.cell 0
    have t1 : W2.cell? ⟨g, 1, none⟩ = some (.int .i64 cost) := B2.out.cell 1
    have CB := Lib.hid (fun (W : World) (y : Ext W2 W) => H.cB W P c p (hB2.out.trans (Below.mono y (by omega))) (P2.out.ext y) ho)
    by_cases hw : p.length = depthI i
    · have e1 : ((p.length : Int) == (depthI i : Int)) = true := by simp [hw]
      replace hw := Lib.hid hw
      by_cases h98 : x = 98
      · subst h98
        obtain rfl : RES = (8, r) := by have h := RE.out; rw [if_pos rfl, if_pos hw.out] at h; exact h.symm
        go_wp2_with (fail)
        go_ret
        exact ⟨rfl, B2.out, M2.out⟩
      · have n98 : ((x.toNat : Int) == 98) = false := by
          have : x.toNat ≠ 98 := fun h => h98 (UInt8.toNat_inj.1 h)
          simp; omega
        by_cases h108 : x = 108
        · subst h108
          have RB : Hid ((if boundI i p < cost then ((13, r) : Int × Wd) else (0, r)) = RES) := by
            have h : (if boundI i p < cost then ((13, r) : Int × Wd) else (0, r)) = RES := by
              have h := RE.out
              rw [if_neg h98, if_pos rfl, if_pos hw.out] at h
              exact h
            exact h
          by_cases hb : boundI i p < cost
          · obtain rfl : RES = (13, r) := by have h := RB.out; rw [if_pos hb] at h; exact h.symm
            go_wp2_with (fail)
            go_region_held3 (fun w' => w'.cell? ⟨g, 0, none⟩ = some (.iface 132 px) ∧ w'.cell? ⟨g, 1, none⟩ = some (.int .i64 cost)) (go_keep)
              (first | (go_at_call 174; refine (CB.out _ (by (repeat (first | assumption | exact Ext.rf _ | apply Ext.drew | apply Ext.drewN | apply Ext.alloc)))).mono ?_; rintro e W3 ⟨rfl, x3⟩; have y3 := Ext.tr (a := W2) (by (repeat (first | assumption | exact Ext.rf _ | apply Ext.drew | apply Ext.drewN | apply Ext.alloc))) x3; have s1 := keepEL y3 gl2 t0; have s2 := keepEL y3 gl2 t1))
            all_goals go_wp2_with (fail)
            all_goals go_ret
            all_goals exact ⟨rfl, B2.out.ext y3, M2.out.ext y3⟩
          · obtain rfl : RES = (0, r) := by have h := RB.out; rw [if_neg hb] at h; exact h.symm
            go_wp2_with (fail)
            go_region_held3 (fun w' => w'.cell? ⟨g, 0, none⟩ = some (.iface 132 px) ∧ w'.cell? ⟨g, 1, none⟩ = some (.int .i64 cost)) (go_keep)
              (first | (go_at_call 174; refine (CB.out _ (by (repeat (first | assumption | exact Ext.rf _ | apply Ext.drew | apply Ext.drewN | apply Ext.alloc)))).mono ?_; rintro e W3 ⟨rfl, x3⟩; have y3 := Ext.tr (a := W2) (by (repeat (first | assumption | exact Ext.rf _ | apply Ext.drew | apply Ext.drewN | apply Ext.alloc))) x3; have s1 := keepEL y3 gl2 t0; have s2 := keepEL y3 gl2 t1))
            all_goals go_wp2_with (fail)
            all_goals go_ret
            all_goals exact ⟨rfl, B2.out.ext y3, M2.out.ext y3⟩
        · have n108 : ((x.toNat : Int) == 108) = false := by
            have : x.toNat ≠ 108 := fun h => h108 (UInt8.toNat_inj.1 h)
            simp; omega
          by_cases h112 : x = 112
          · subst h112
            have RB : Hid ((if boundI i p < cost then ((13, r) : Int × Wd) else (0, r)) = RES) := by
              have h : (if boundI i p < cost then ((13, r) : Int × Wd) else (0, r)) = RES := by
                have h := RE.out
                rw [if_neg h98, if_neg h108, if_pos rfl] at h
                exact h
              exact h
            by_cases hb : boundI i p < cost
            · obtain rfl : RES = (13, r) := by have h := RB.out; rw [if_pos hb] at h; exact h.symm
              go_wp2_with (fail)
              go_region_held3 (fun w' => w'.cell? ⟨g, 0, none⟩ = some (.iface 132 px) ∧ w'.cell? ⟨g, 1, none⟩ = some (.int .i64 cost)) (go_keep)
                (first | (go_at_call 174; refine (CB.out _ (by (repeat (first | assumption | exact Ext.rf _ | apply Ext.drew | apply Ext.drewN | apply Ext.alloc)))).mono ?_; rintro e W3 ⟨rfl, x3⟩; have y3 := Ext.tr (a := W2) (by (repeat (first | assumption | exact Ext.rf _ | apply Ext.drew | apply Ext.drewN | apply Ext.alloc))) x3; have s1 := keepEL y3 gl2 t0; have s2 := keepEL y3 gl2 t1))
              all_goals go_wp2_with (fail)
              all_goals go_ret
              all_goals exact ⟨rfl, B2.out.ext y3, M2.out.ext y3⟩
            · obtain rfl : RES = (0, r) := by have h := RB.out; rw [if_neg hb] at h; exact h.symm
              go_wp2_with (fail)
              go_region_held3 (fun w' => w'.cell? ⟨g, 0, none⟩ = some (.iface 132 px) ∧ w'.cell? ⟨g, 1, none⟩ = some (.int .i64 cost)) (go_keep)
                (first | (go_at_call 174; refine (CB.out _ (by (repeat (first | assumption | exact Ext.rf _ | apply Ext.drew | apply Ext.drewN | apply Ext.alloc)))).mono ?_; rintro e W3 ⟨rfl, x3⟩; have y3 := Ext.tr (a := W2) (by (repeat (first | assumption | exact Ext.rf _ | apply Ext.drew | apply Ext.drewN | apply Ext.alloc))) x3; have s1 := keepEL y3 gl2 t0; have s2 := keepEL y3 gl2 t1))
              all_goals go_wp2_with (fail)
              all_goals go_ret
              all_goals exact ⟨rfl, B2.out.ext y3, M2.out.ext y3⟩
          · have n112 : ((x.toNat : Int) == 112) = false := by
              have : x.toNat ≠ 112 := fun h => h112 (UInt8.toNat_inj.1 h)
              simp; omega
            obtain rfl : RES = (2, r) := by have h := RE.out; rw [if_neg h98, if_neg h108, if_neg h112] at h; exact h.symm
            go_wp2_with (fail)
            go_ret
            exact ⟨rfl, B2.out, M2.out⟩
    · have e1 : ((p.length : Int) == (depthI i : Int)) = false := by simp; omega
      by_cases h98 : x = 98
      · subst h98
        have RK : Hid (seqC (fun n v => nodeC (depthI i) (kidsI i) (boundI i) cost f (p ++ [n]) v) (kidsI i p) r = RES) := by
          have h : seqC (fun n v => nodeC (depthI i) (kidsI i) (boundI i) cost f (p ++ [n]) v) (kidsI i p) r = RES := by
            have h := RE.out
            rw [if_pos rfl, if_neg hw] at h
            exact h
          exact h
        have K := Lib.hid (ihk W2 P c p r hB2.out B2.out P2.out hne ho (by omega) (by omega) hr')
        rw [RK.out] at K
        go_wp2_with (fail)
        refine K.out.mono ?_
        rintro e W3 ⟨rfl, b3, m3⟩
        have M3 := Lib.hid (M2.out.tr m3)
        replace b3 := Lib.hid b3
        clear m3
        go_wp2_with (fail)
        go_ret
        exact ⟨rfl, b3.out, M3.out⟩
      · have n98 : ((x.toNat : Int) == 98) = false := by
          have : x.toNat ≠ 98 := fun h => h98 (UInt8.toNat_inj.1 h)
          simp; omega
        by_cases h108 : x = 108
        · subst h108
          obtain rfl : RES = (8, r) := by have h := RE.out; rw [if_neg h98, if_pos rfl, if_neg hw] at h; exact h.symm
          go_wp2_with (fail)
          go_ret
          exact ⟨rfl, B2.out, M2.out⟩
        · have n108 : ((x.toNat : Int) == 108) = false := by
            have : x.toNat ≠ 108 := fun h => h108 (UInt8.toNat_inj.1 h)
            simp; omega
          by_cases h112 : x = 112
          · subst h112
            have RB : Hid ((if boundI i p < cost then ((13, r) : Int × Wd) else (0, r)) = RES) := by
              have h : (if boundI i p < cost then ((13, r) : Int × Wd) else (0, r)) = RES := by
                have h := RE.out
                rw [if_neg h98, if_neg h108, if_pos rfl] at h
                exact h
              exact h
            by_cases hb : boundI i p < cost
            · obtain rfl : RES = (13, r) := by have h := RB.out; rw [if_pos hb] at h; exact h.symm
              go_wp2_with (fail)
              go_region_held3 (fun w' => w'.cell? ⟨g, 0, none⟩ = some (.iface 132 px) ∧ w'.cell? ⟨g, 1, none⟩ = some (.int .i64 cost)) (go_keep)
                (first | (go_at_call 174; refine (CB.out _ (by (repeat (first | assumption | exact Ext.rf _ | apply Ext.drew | apply Ext.drewN | apply Ext.alloc)))).mono ?_; rintro e W3 ⟨rfl, x3⟩; have y3 := Ext.tr (a := W2) (by (repeat (first | assumption | exact Ext.rf _ | apply Ext.drew | apply Ext.drewN | apply Ext.alloc))) x3; have s1 := keepEL y3 gl2 t0; have s2 := keepEL y3 gl2 t1))
              all_goals go_wp2_with (fail)
              all_goals go_ret
              all_goals exact ⟨rfl, B2.out.ext y3, M2.out.ext y3⟩
            · obtain rfl : RES = (0, r) := by have h := RB.out; rw [if_neg hb] at h; exact h.symm
              go_wp2_with (fail)
              go_region_held3 (fun w' => w'.cell? ⟨g, 0, none⟩ = some (.iface 132 px) ∧ w'.cell? ⟨g, 1, none⟩ = some (.int .i64 cost)) (go_keep)
                (first | (go_at_call 174; refine (CB.out _ (by (repeat (first | assumption | exact Ext.rf _ | apply Ext.drew | apply Ext.drewN | apply Ext.alloc)))).mono ?_; rintro e W3 ⟨rfl, x3⟩; have y3 := Ext.tr (a := W2) (by (repeat (first | assumption | exact Ext.rf _ | apply Ext.drew | apply Ext.drewN | apply Ext.alloc))) x3; have s1 := keepEL y3 gl2 t0; have s2 := keepEL y3 gl2 t1))
              all_goals go_wp2_with (fail)
              all_goals go_ret
              all_goals exact ⟨rfl, B2.out.ext y3, M2.out.ext y3⟩
          · have n112 : ((x.toNat : Int) == 112) = false := by
              have : x.toNat ≠ 112 := fun h => h112 (UInt8.toNat_inj.1 h)
              simp; omega
            obtain rfl : RES = (2, r) := by have h := RE.out; rw [if_neg h98, if_neg h108, if_neg h112] at h; exact h.symm
            go_wp2_with (fail)
            go_ret
            exact ⟨rfl, B2.out, M2.out⟩
end Go.Proofs.Ytcpadkaljnnieaa
namespace Go.Proofs.Ytcpadkaljnnieaa
open Go.RowKit Go.ChangeShapes Go.WideShapes Go.ChangeAt Go.Deep

set_option maxRecDepth 100000 in
set_option maxHeartbeats 800000 in
theorem kids_step_rows {i : InstP} {g : Nat} {W0 : World} {px : Value} {cost : Int} (H : PV i g W0 px 175 176 174) (f : Nat) (ihn : NodeC i g W0 132 px cost f) : KidsC i g W0 132 px cost f := by
  intro W P c p r hB hblk hP hne ho hf hlt0 hr
  have n64 := H.n64
  have t0 : W.cell? ⟨g, 0, none⟩ = some (.iface 132 px) := hblk.cell 0
  have gl := hblk.lt
  have mK : ∀ (x a : Value) (u : World), (callMethod (.iface 132 x) "kurgan/check.kids" #[a]).run Try.prog u = .ok (.enter 176 #[x, a]) u := fun _ _ _ => by kernel_rfl
  have CK := Lib.hid (fun (W' : World) (y : Ext W W') => H.cK W' P c p (hB.trans (Below.mono y (by omega))) (hP.ext y) ho hlt0)
  have KID := Lib.hid ((krn_inst H.chk).kid p ho hlt0)
  obtain ⟨RES, hRES⟩ : ∃ RES, Hid (seqC (fun n v => nodeC (depthI i) (kidsI i) (boundI i) cost f (p ++ [n]) v) (kidsI i p) r = RES) := ⟨_, rfl⟩
  rw [hRES.out]
  have KL : (kidsI i p).length ≤ 64 := by
    have := kidsI_len H.chk p ho hlt0
    split at this <;> omega
  have S0 : Hid (seqC (fun n v => nodeC (depthI i) (kidsI i) (boundI i) cost f (p ++ [n]) v) ((kidsI i p).drop 0) r = RES) := hRES
  generalize kidsI i p = l at *
  replace hblk := Lib.hid hblk
  replace hP := Lib.hid hP
  replace hB := Lib.hid hB
  replace hf := Lib.hid hf
  replace hlt0 := Lib.hid hlt0
  clear hRES
  unfold OwnK at CK
  go_enter Try.func105, Try.ntmps105
  go_wp2_with (fail)
  refine (CK.out _ (by (repeat (first | assumption | exact Ext.rf _ | apply Ext.drew | apply Ext.drewN | apply Ext.alloc)))).mono ?_
  rintro e W2 ⟨A, ac, rfl, oA, x2⟩
  have X2 := Ext.tr (a := W) (by (repeat (first | assumption | exact Ext.rf _ | apply Ext.drew | apply Ext.drewN | apply Ext.alloc))) x2
  have B2 := Lib.hid (hblk.out.ext X2)
  have M2 : Hid (Mod (fun k => k = g) W W2) := Mod.of_ext X2
  have RA := Lib.hid oA.read
  have neA : Hid (∀ b, bl A = some b → b ≠ g) := fun b hb => by have := (oA.lt b hb).1; omega
  clear x2 X2 oA CK t0
  go_wp2_with (fail)
  go_loopw [16] (fun v16 wr => ∃ (m : Nat) (r' : Wd), v16 = .int .i64 m ∧ m ≤ l.length ∧ r'.length ≤ 1000 ∧ Hid (seqC (fun n v => nodeC (depthI i) (kidsI i) (boundI i) cost f (p ++ [n]) v) (l.drop m) r' = RES) ∧ Hid (Blk wr g 119 #[.iface 132 px, .int .i64 cost, .string ⟨r'.toArray⟩]) ∧ Hid (RdI wr A l) ∧ Hid (Mod (fun k => k = g) W wr)) (fun v _ => l.length - (intOf v).toNat)
  case atStart => exact ⟨0, r, rfl, by omega, hr, S0, B2, RA, M2⟩
  case round =>
    obtain ⟨wo, rfl⟩ : ∃ wo : World, wo = wr := ⟨_, rfl⟩
    clear S0 B2 RA M2
    obtain ⟨m, r', rfl, hm, hr', hS, BB, RA, MM⟩ := hrel
    have zo := MM.out.size
    by_cases hmt : m < l.length
    · obtain ⟨pb, po, n, rfl, zn, cn, en, dn⟩ := RA.out.at (k := m) hmt
      have q1 : (m : Int) < (l.length : Int) := by omega
      have RP := Lib.hid (hP.out.modW MM.out hne)
      have OKN := Lib.hid (KID.out n (List.mem_of_getElem? en.out))
      have p64 : p.length ≤ 64 := by have := hlt0.out; omega
      have el : (p ++ [n]).length = p.length + 1 := by simp
      have SD := hS.out
      rw [dn.out, seqC] at SD
      replace SD := Lib.hid SD
      clear en dn hS
      go_wp2_with (first
        | (at_builtin; refine wpl_copy_i _ rfl _ _ rfl wo.heap.size _ p P c rfl rfl ?_ ?_ ?_ ?_ ?_; (first | exact .new (by simp) | exact .drew (.new (by simp)) | exact .alloc (.new (by simp)) _ | exact .drew (.alloc (.new (by simp)) _) | exact .alloc (.alloc (.new (by simp)) _) _ | exact .drew (.alloc (.alloc (.new (by simp)) _) _) | (repeat (first | assumption | (refine Blk.new ?_; (focus (simp; done))) | apply Blk.drew | apply Blk.drewN | apply Blk.alloc))); (first | exact Nat.le_refl _ | omega | (focus (simp; try omega))); (refine RP.out.ext ?_; (repeat (first | assumption | exact Ext.rf _ | apply Ext.drew | apply Ext.drewN | apply Ext.alloc))); omega; rintro A7 c7 w7 o7 x7; have y7 := Ext.tr (a := wo) (by (repeat (first | assumption | exact Ext.rf _ | apply Ext.drew | apply Ext.drewN | apply Ext.alloc))) x7; have zw7 := y7.size)
        | (at_builtin; refine wpl_app_i _ rfl _ _ rfl wo.heap.size A7 p.length c7 p [n] (some ⟨w7.heap.size, 0, none⟩) 1 rfl rfl rfl (o7.ext ((Ext.rf _).alloc _)) (.blk (.new rfl) rfl) (by simp; omega) (by simp; omega) ?_; rintro A8 c8 w8 o8 g8 _))
      have y8 : Ext wo (w7.alloc (.cells #[.int .i64 n] 3)) := y7.alloc _
      have X8 := y8.modT (owi_grownT (o7.ext ((Ext.rf w7).alloc (.cells #[.int .i64 n] 3))) g8) (Nat.le_refl _)
      have B8 := BB.out.ext X8
      have M8 := MM.out.ext X8
      have ne8 : ∀ b, bl A8 = some b → b ≠ g := fun b hb => by have := (o8.lt b hb).1; omega
      have hB8 := below_modG hB.out M8 (by omega)
      have CN := ihn w8 A8 c8 (p ++ [n]) r' hB8 B8 o8.read ne8 OKN.out (by rw [el]; have := hf.out; omega) hr'
      rw [el] at CN
      have RL : (nodeC (depthI i) (kidsI i) (boundI i) cost f (p ++ [n]) r').2.length ≤ 1000 := Nat.le_trans (nodeC_rest f _ _) hr'
      generalize nodeC (depthI i) (kidsI i) (boundI i) cost f (p ++ [n]) r' = res at *
      obtain ⟨re, rr⟩ := res
      have RA8 := Lib.hid (RA.out.ext X8)
      have z8 := M8.size
      replace CN := Lib.hid CN
      replace M8 := Lib.hid M8
      unfold NodeP at CN
      clear y8 X8 B8 o8 g8 o7 y7 zw7 ne8 hB8 x7 OKN RP el
      go_wp2_with (fail)
      refine CN.out.mono ?_
      rintro e w9 ⟨rfl, b9, m9⟩
      have M9 := Lib.hid (M8.out.tr m9)
      have RA9 := Lib.hid (RA8.out.modW m9 neA.out)
      replace b9 := Lib.hid b9
      clear m9 CN RA8 M8 BB RA MM
      try simp only at SD
      try simp only at b9
      try simp only at RL
      by_cases he : re = 0
      · subst he
        have SD2 : Hid (seqC (fun n v => nodeC (depthI i) (kidsI i) (boundI i) cost f (p ++ [n]) v) (l.drop (m + 1)) rr = RES) := by
          have h := SD.out
          rw [if_pos rfl] at h
          exact h
        clear SD
        go_wp2_with (fail)
        go_roundw
        case rel => exact ⟨m + 1, rr, by go_num, by omega, RL, SD2, b9, RA9, M9⟩
        case measure => simp [intOf]; omega
      · have e1 : (re != 0) = true := by simpa using he
        obtain rfl : RES = (re, rr) := by have h := SD.out; rw [if_neg he] at h; exact h.symm
        clear SD
        go_wp2_with (fail)
        go_ret
        exact ⟨rfl, b9.out, M9.out⟩
    · have q1 : ¬ (m : Int) < (l.length : Int) := by omega
      obtain rfl : RES = (0, r') := by
        have h := hS.out
        rw [List.drop_of_length_le (by omega)] at h
        exact h.symm
      go_wp2_with (fail)
      go_ret
      exact ⟨rfl, BB.out, MM.out⟩
theorem node_all_rows {i : InstP} {g : Nat} {W0 : World} {px : Value} {cost : Int} (H : PV i g W0 px 175 176 174) : ∀ f, NodeC i g W0 132 px cost (f + 1)
  | 0 => node_step_rows H 0 (fun W P c p r _ _ _ _ _ hf hl _ => by omega)
  | f + 1 => node_step_rows H (f + 1) (kids_step_rows H (f + 1) (node_all_rows H f))
end Go.Proofs.Ytcpadkaljnnieaa
namespace Go.Proofs.Ytcpadkaljnnieaa
open Go.RowKit Go.ChangeShapes Go.WideShapes Go.ChangeAt Go.Deep

set_option maxRecDepth 100000 in
set_option maxHeartbeats 800000 in
theorem node_step_cities {i : InstP} {g : Nat} {W0 : World} {px : Value} {cost : Int} (H : PV i g W0 px 180 181 179) (f : Nat) (ihk : KidsC i g W0 135 px cost f) : NodeC i g W0 135 px cost (f + 1) := by
  intro W P c p r hB hblk hP hne ho hf hr
  cases r with
  | nil =>
    have t2 : W.cell? ⟨g, 2, none⟩ = some (.string ⟨#[]⟩) := hblk.cell 2
    have e : nodeC (depthI i) (kidsI i) (boundI i) cost (f + 1) p [] = (6, []) := rfl
    rw [e]
    go_enter Try.func65, Try.ntmps65
    go_wp2_with (fail)
    go_ret
    exact ⟨rfl, hblk, Mod.rf _⟩
  | cons x r =>
    have t2 : W.cell? ⟨g, 2, none⟩ = some (.string ⟨(x :: r).toArray⟩) := hblk.cell 2
    have f2 := hblk.free 2
    have EX : (⟨(x :: r).toArray⟩ : ByteArray).extract 1 (r.length + 1) = ⟨r.toArray⟩ := by
      apply ByteArray.ext
      rw [ByteArray.data_extract]
      simp
    have hsz : 0 < (⟨(x :: r).toArray⟩ : ByteArray).size := by simp [ByteArray.size]
    have E0 : (⟨(x :: r).toArray⟩ : ByteArray)[0]'hsz = x := rfl
    have hB1 := Lib.hid (hblk.set 2 (.string ⟨r.toArray⟩))
    have MM : Hid (Mod (fun k => k = g) W (W.setCell ⟨g, 2, none⟩ (.string ⟨r.toArray⟩))) := Mod.set (S := fun k => k = g) (Mod.rf W) (p := ⟨g, 2, none⟩) (.inl rfl) _
    have gl := hblk.lt
    obtain ⟨RES, hRES⟩ : ∃ RES, Hid (nodeC (depthI i) (kidsI i) (boundI i) cost (f + 1) p (x :: r) = RES) := ⟨_, rfl⟩
    rw [hRES.out]
    have RE := hRES.out
    rw [nodeC_cons] at RE
    replace RE := Lib.hid RE
    have hBl := Lib.hid (below_modG hB MM.out (by omega))
    have hPl := Lib.hid (hP.modW MM.out hne)
    have mD : ∀ (x : Value) (u : World), (callMethod (.iface 135 x) "kurgan/check.depth" #[]).run Try.prog u = .ok (.enter 180 #[x]) u := fun _ _ => by kernel_rfl
    have mB : ∀ (x : Value) (u : World), (method 307 135 x "kurgan/check.bound").run Try.prog u = .ok (179, x) u := fun _ _ => by kernel_rfl
    have hlen := (by omega : p.length ≤ depthI i)
    have hr' : r.length ≤ 1000 := by simp at hr; omega
    clear hRES
    go_enter Try.func65, Try.ntmps65
    go_upto_region 5 with (fail)
    generalize W.setCell ⟨g, 2, none⟩ (.string ⟨r.toArray⟩) = W1 at *
    have B1 := Lib.hid (show Blk W1 g 119 #[.iface 135 px, .int .i64 cost, .string ⟨r.toArray⟩] from hB1.out)
    have t0 : W1.cell? ⟨g, 0, none⟩ = some (.iface 135 px) := B1.out.cell 0
    clear t2 f2 EX E0 hB1 hsz hblk
    go_wp2_with (fail)
    refine (H.cD _ (hBl.out.trans (Below.refl _ _))).mono ?_
    rintro e W2 ⟨rfl, x2⟩
    have B2 := Lib.hid (B1.out.ext x2)
    have M2 := Lib.hid (MM.out.ext x2)
    have P2 := Lib.hid (hPl.out.ext x2)
    have hB2 := Lib.hid (hBl.out.trans (Below.mono x2 (by have := MM.out.size; omega)))
    clear x2 t0 B1 MM hPl hBl
    have gl2 := B2.out.lt
    have t0 : W2.cell? ⟨g, 0, none⟩ = some (.iface 135 px) := B2.out.cell 0
    have t1 : W2.cell? ⟨g, 1, none⟩ = some (.int .i64 cost) := B2.out.cell 1
    have CB := Lib.hid (fun (W : World) (y : Ext W2 W) => H.cB W P c p (hB2.out.trans (Below.mono y (by omega))) (P2.out.ext y) ho)
    by_cases hw : p.length = depthI i
    · have e1 : ((p.length : Int) == (depthI i : Int)) = true := by simp [hw]
      replace hw := Lib.hid hw
      by_cases h98 : x = 98
      · subst h98
        obtain rfl : RES = (8, r) := by have h := RE.out; rw [if_pos rfl, if_pos hw.out] at h; exact h.symm
        go_wp2_with (fail)
        go_ret
        exact ⟨rfl, B2.out, M2.out⟩
      · have n98 : ((x.toNat : Int) == 98) = false := by
          have : x.toNat ≠ 98 := fun h => h98 (UInt8.toNat_inj.1 h)
          simp; omega
        by_cases h108 : x = 108
        · subst h108
          have RB : Hid ((if boundI i p < cost then ((13, r) : Int × Wd) else (0, r)) = RES) := by
            have h : (if boundI i p < cost then ((13, r) : Int × Wd) else (0, r)) = RES := by
              have h := RE.out
              rw [if_neg h98, if_pos rfl, if_pos hw.out] at h
              exact h
            exact h
          by_cases hb : boundI i p < cost
          · obtain rfl : RES = (13, r) := by have h := RB.out; rw [if_pos hb] at h; exact h.symm
            go_wp2_with (fail)
            go_region_held3 (fun w' => w'.cell? ⟨g, 0, none⟩ = some (.iface 135 px) ∧ w'.cell? ⟨g, 1, none⟩ = some (.int .i64 cost)) (go_keep)
              (first | (go_at_call 179; refine (CB.out _ (by (repeat (first | assumption | exact Ext.rf _ | apply Ext.drew | apply Ext.drewN | apply Ext.alloc)))).mono ?_; rintro e W3 ⟨rfl, x3⟩; have y3 := Ext.tr (a := W2) (by (repeat (first | assumption | exact Ext.rf _ | apply Ext.drew | apply Ext.drewN | apply Ext.alloc))) x3; have s1 := keepEL y3 gl2 t0; have s2 := keepEL y3 gl2 t1))
            all_goals go_wp2_with (fail)
            all_goals go_ret
            all_goals exact ⟨rfl, B2.out.ext y3, M2.out.ext y3⟩
          · obtain rfl : RES = (0, r) := by have h := RB.out; rw [if_neg hb] at h; exact h.symm
            go_wp2_with (fail)
            go_region_held3 (fun w' => w'.cell? ⟨g, 0, none⟩ = some (.iface 135 px) ∧ w'.cell? ⟨g, 1, none⟩ = some (.int .i64 cost)) (go_keep)
              (first | (go_at_call 179; refine (CB.out _ (by (repeat (first | assumption | exact Ext.rf _ | apply Ext.drew | apply Ext.drewN | apply Ext.alloc)))).mono ?_; rintro e W3 ⟨rfl, x3⟩; have y3 := Ext.tr (a := W2) (by (repeat (first | assumption | exact Ext.rf _ | apply Ext.drew | apply Ext.drewN | apply Ext.alloc))) x3; have s1 := keepEL y3 gl2 t0; have s2 := keepEL y3 gl2 t1))
            all_goals go_wp2_with (fail)
            all_goals go_ret
            all_goals exact ⟨rfl, B2.out.ext y3, M2.out.ext y3⟩
        · have n108 : ((x.toNat : Int) == 108) = false := by
            have : x.toNat ≠ 108 := fun h => h108 (UInt8.toNat_inj.1 h)
            simp; omega
          by_cases h112 : x = 112
          · subst h112
            have RB : Hid ((if boundI i p < cost then ((13, r) : Int × Wd) else (0, r)) = RES) := by
              have h : (if boundI i p < cost then ((13, r) : Int × Wd) else (0, r)) = RES := by
                have h := RE.out
                rw [if_neg h98, if_neg h108, if_pos rfl] at h
                exact h
              exact h
            by_cases hb : boundI i p < cost
            · obtain rfl : RES = (13, r) := by have h := RB.out; rw [if_pos hb] at h; exact h.symm
              go_wp2_with (fail)
              go_region_held3 (fun w' => w'.cell? ⟨g, 0, none⟩ = some (.iface 135 px) ∧ w'.cell? ⟨g, 1, none⟩ = some (.int .i64 cost)) (go_keep)
                (first | (go_at_call 179; refine (CB.out _ (by (repeat (first | assumption | exact Ext.rf _ | apply Ext.drew | apply Ext.drewN | apply Ext.alloc)))).mono ?_; rintro e W3 ⟨rfl, x3⟩; have y3 := Ext.tr (a := W2) (by (repeat (first | assumption | exact Ext.rf _ | apply Ext.drew | apply Ext.drewN | apply Ext.alloc))) x3; have s1 := keepEL y3 gl2 t0; have s2 := keepEL y3 gl2 t1))
              all_goals go_wp2_with (fail)
              all_goals go_ret
              all_goals exact ⟨rfl, B2.out.ext y3, M2.out.ext y3⟩
            · obtain rfl : RES = (0, r) := by have h := RB.out; rw [if_neg hb] at h; exact h.symm
              go_wp2_with (fail)
              go_region_held3 (fun w' => w'.cell? ⟨g, 0, none⟩ = some (.iface 135 px) ∧ w'.cell? ⟨g, 1, none⟩ = some (.int .i64 cost)) (go_keep)
                (first | (go_at_call 179; refine (CB.out _ (by (repeat (first | assumption | exact Ext.rf _ | apply Ext.drew | apply Ext.drewN | apply Ext.alloc)))).mono ?_; rintro e W3 ⟨rfl, x3⟩; have y3 := Ext.tr (a := W2) (by (repeat (first | assumption | exact Ext.rf _ | apply Ext.drew | apply Ext.drewN | apply Ext.alloc))) x3; have s1 := keepEL y3 gl2 t0; have s2 := keepEL y3 gl2 t1))
              all_goals go_wp2_with (fail)
              all_goals go_ret
              all_goals exact ⟨rfl, B2.out.ext y3, M2.out.ext y3⟩
          · have n112 : ((x.toNat : Int) == 112) = false := by
              have : x.toNat ≠ 112 := fun h => h112 (UInt8.toNat_inj.1 h)
              simp; omega
            obtain rfl : RES = (2, r) := by have h := RE.out; rw [if_neg h98, if_neg h108, if_neg h112] at h; exact h.symm
            go_wp2_with (fail)
            go_ret
            exact ⟨rfl, B2.out, M2.out⟩
    · have e1 : ((p.length : Int) == (depthI i : Int)) = false := by simp; omega
      by_cases h98 : x = 98
      · subst h98
        have RK : Hid (seqC (fun n v => nodeC (depthI i) (kidsI i) (boundI i) cost f (p ++ [n]) v) (kidsI i p) r = RES) := by
          have h : seqC (fun n v => nodeC (depthI i) (kidsI i) (boundI i) cost f (p ++ [n]) v) (kidsI i p) r = RES := by
            have h := RE.out
            rw [if_pos rfl, if_neg hw] at h
            exact h
          exact h
        have K := Lib.hid (ihk W2 P c p r hB2.out B2.out P2.out hne ho (by omega) (by omega) hr')
        rw [RK.out] at K
        go_wp2_with (fail)
        refine K.out.mono ?_
        rintro e W3 ⟨rfl, b3, m3⟩
        have M3 := Lib.hid (M2.out.tr m3)
        replace b3 := Lib.hid b3
        clear m3
        go_wp2_with (fail)
        go_ret
        exact ⟨rfl, b3.out, M3.out⟩
      · have n98 : ((x.toNat : Int) == 98) = false := by
          have : x.toNat ≠ 98 := fun h => h98 (UInt8.toNat_inj.1 h)
          simp; omega
        by_cases h108 : x = 108
        · subst h108
          obtain rfl : RES = (8, r) := by have h := RE.out; rw [if_neg h98, if_pos rfl, if_neg hw] at h; exact h.symm
          go_wp2_with (fail)
          go_ret
          exact ⟨rfl, B2.out, M2.out⟩
        · have n108 : ((x.toNat : Int) == 108) = false := by
            have : x.toNat ≠ 108 := fun h => h108 (UInt8.toNat_inj.1 h)
            simp; omega
          by_cases h112 : x = 112
          · subst h112
            have RB : Hid ((if boundI i p < cost then ((13, r) : Int × Wd) else (0, r)) = RES) := by
              have h : (if boundI i p < cost then ((13, r) : Int × Wd) else (0, r)) = RES := by
                have h := RE.out
                rw [if_neg h98, if_neg h108, if_pos rfl] at h
                exact h
              exact h
            by_cases hb : boundI i p < cost
            · obtain rfl : RES = (13, r) := by have h := RB.out; rw [if_pos hb] at h; exact h.symm
              go_wp2_with (fail)
              go_region_held3 (fun w' => w'.cell? ⟨g, 0, none⟩ = some (.iface 135 px) ∧ w'.cell? ⟨g, 1, none⟩ = some (.int .i64 cost)) (go_keep)
                (first | (go_at_call 179; refine (CB.out _ (by (repeat (first | assumption | exact Ext.rf _ | apply Ext.drew | apply Ext.drewN | apply Ext.alloc)))).mono ?_; rintro e W3 ⟨rfl, x3⟩; have y3 := Ext.tr (a := W2) (by (repeat (first | assumption | exact Ext.rf _ | apply Ext.drew | apply Ext.drewN | apply Ext.alloc))) x3; have s1 := keepEL y3 gl2 t0; have s2 := keepEL y3 gl2 t1))
              all_goals go_wp2_with (fail)
              all_goals go_ret
              all_goals exact ⟨rfl, B2.out.ext y3, M2.out.ext y3⟩
            · obtain rfl : RES = (0, r) := by have h := RB.out; rw [if_neg hb] at h; exact h.symm
              go_wp2_with (fail)
              go_region_held3 (fun w' => w'.cell? ⟨g, 0, none⟩ = some (.iface 135 px) ∧ w'.cell? ⟨g, 1, none⟩ = some (.int .i64 cost)) (go_keep)
                (first | (go_at_call 179; refine (CB.out _ (by (repeat (first | assumption | exact Ext.rf _ | apply Ext.drew | apply Ext.drewN | apply Ext.alloc)))).mono ?_; rintro e W3 ⟨rfl, x3⟩; have y3 := Ext.tr (a := W2) (by (repeat (first | assumption | exact Ext.rf _ | apply Ext.drew | apply Ext.drewN | apply Ext.alloc))) x3; have s1 := keepEL y3 gl2 t0; have s2 := keepEL y3 gl2 t1))
              all_goals go_wp2_with (fail)
              all_goals go_ret
              all_goals exact ⟨rfl, B2.out.ext y3, M2.out.ext y3⟩
          · have n112 : ((x.toNat : Int) == 112) = false := by
              have : x.toNat ≠ 112 := fun h => h112 (UInt8.toNat_inj.1 h)
              simp; omega
            obtain rfl : RES = (2, r) := by have h := RE.out; rw [if_neg h98, if_neg h108, if_neg h112] at h; exact h.symm
            go_wp2_with (fail)
            go_ret
            exact ⟨rfl, B2.out, M2.out⟩
end Go.Proofs.Ytcpadkaljnnieaa
namespace Go.Proofs.Ytcpadkaljnnieaa
open Go.RowKit Go.ChangeShapes Go.WideShapes Go.ChangeAt Go.Deep

set_option maxRecDepth 100000 in
set_option maxHeartbeats 800000 in
theorem kids_step_cities {i : InstP} {g : Nat} {W0 : World} {px : Value} {cost : Int} (H : PV i g W0 px 180 181 179) (f : Nat) (ihn : NodeC i g W0 135 px cost f) : KidsC i g W0 135 px cost f := by
  intro W P c p r hB hblk hP hne ho hf hlt0 hr
  have n64 := H.n64
  have t0 : W.cell? ⟨g, 0, none⟩ = some (.iface 135 px) := hblk.cell 0
  have gl := hblk.lt
  have mK : ∀ (x a : Value) (u : World), (callMethod (.iface 135 x) "kurgan/check.kids" #[a]).run Try.prog u = .ok (.enter 181 #[x, a]) u := fun _ _ _ => by kernel_rfl
  have CK := Lib.hid (fun (W' : World) (y : Ext W W') => H.cK W' P c p (hB.trans (Below.mono y (by omega))) (hP.ext y) ho hlt0)
  have KID := Lib.hid ((krn_inst H.chk).kid p ho hlt0)
  obtain ⟨RES, hRES⟩ : ∃ RES, Hid (seqC (fun n v => nodeC (depthI i) (kidsI i) (boundI i) cost f (p ++ [n]) v) (kidsI i p) r = RES) := ⟨_, rfl⟩
  rw [hRES.out]
  have KL : (kidsI i p).length ≤ 64 := by
    have := kidsI_len H.chk p ho hlt0
    split at this <;> omega
  have S0 : Hid (seqC (fun n v => nodeC (depthI i) (kidsI i) (boundI i) cost f (p ++ [n]) v) ((kidsI i p).drop 0) r = RES) := hRES
  generalize kidsI i p = l at *
  replace hblk := Lib.hid hblk
  replace hP := Lib.hid hP
  replace hB := Lib.hid hB
  replace hf := Lib.hid hf
  replace hlt0 := Lib.hid hlt0
  clear hRES
  unfold OwnK at CK
  go_enter Try.func105, Try.ntmps105
  go_wp2_with (fail)
  refine (CK.out _ (by (repeat (first | assumption | exact Ext.rf _ | apply Ext.drew | apply Ext.drewN | apply Ext.alloc)))).mono ?_
  rintro e W2 ⟨A, ac, rfl, oA, x2⟩
  have X2 := Ext.tr (a := W) (by (repeat (first | assumption | exact Ext.rf _ | apply Ext.drew | apply Ext.drewN | apply Ext.alloc))) x2
  have B2 := Lib.hid (hblk.out.ext X2)
  have M2 : Hid (Mod (fun k => k = g) W W2) := Mod.of_ext X2
  have RA := Lib.hid oA.read
  have neA : Hid (∀ b, bl A = some b → b ≠ g) := fun b hb => by have := (oA.lt b hb).1; omega
  clear x2 X2 oA CK t0
  go_wp2_with (fail)
  go_loopw [16] (fun v16 wr => ∃ (m : Nat) (r' : Wd), v16 = .int .i64 m ∧ m ≤ l.length ∧ r'.length ≤ 1000 ∧ Hid (seqC (fun n v => nodeC (depthI i) (kidsI i) (boundI i) cost f (p ++ [n]) v) (l.drop m) r' = RES) ∧ Hid (Blk wr g 119 #[.iface 135 px, .int .i64 cost, .string ⟨r'.toArray⟩]) ∧ Hid (RdI wr A l) ∧ Hid (Mod (fun k => k = g) W wr)) (fun v _ => l.length - (intOf v).toNat)
  case atStart => exact ⟨0, r, rfl, by omega, hr, S0, B2, RA, M2⟩
  case round =>
    obtain ⟨wo, rfl⟩ : ∃ wo : World, wo = wr := ⟨_, rfl⟩
    clear S0 B2 RA M2
    obtain ⟨m, r', rfl, hm, hr', hS, BB, RA, MM⟩ := hrel
    have zo := MM.out.size
    by_cases hmt : m < l.length
    · obtain ⟨pb, po, n, rfl, zn, cn, en, dn⟩ := RA.out.at (k := m) hmt
      have q1 : (m : Int) < (l.length : Int) := by omega
      have RP := Lib.hid (hP.out.modW MM.out hne)
      have OKN := Lib.hid (KID.out n (List.mem_of_getElem? en.out))
      have p64 : p.length ≤ 64 := by have := hlt0.out; omega
      have el : (p ++ [n]).length = p.length + 1 := by simp
      have SD := hS.out
      rw [dn.out, seqC] at SD
      replace SD := Lib.hid SD
      clear en dn hS
      go_wp2_with (first
        | (at_builtin; refine wpl_copy_i _ rfl _ _ rfl wo.heap.size _ p P c rfl rfl ?_ ?_ ?_ ?_ ?_; (first | exact .new (by simp) | exact .drew (.new (by simp)) | exact .alloc (.new (by simp)) _ | exact .drew (.alloc (.new (by simp)) _) | exact .alloc (.alloc (.new (by simp)) _) _ | exact .drew (.alloc (.alloc (.new (by simp)) _) _) | (repeat (first | assumption | (refine Blk.new ?_; (focus (simp; done))) | apply Blk.drew | apply Blk.drewN | apply Blk.alloc))); (first | exact Nat.le_refl _ | omega | (focus (simp; try omega))); (refine RP.out.ext ?_; (repeat (first | assumption | exact Ext.rf _ | apply Ext.drew | apply Ext.drewN | apply Ext.alloc))); omega; rintro A7 c7 w7 o7 x7; have y7 := Ext.tr (a := wo) (by (repeat (first | assumption | exact Ext.rf _ | apply Ext.drew | apply Ext.drewN | apply Ext.alloc))) x7; have zw7 := y7.size)
        | (at_builtin; refine wpl_app_i _ rfl _ _ rfl wo.heap.size A7 p.length c7 p [n] (some ⟨w7.heap.size, 0, none⟩) 1 rfl rfl rfl (o7.ext ((Ext.rf _).alloc _)) (.blk (.new rfl) rfl) (by simp; omega) (by simp; omega) ?_; rintro A8 c8 w8 o8 g8 _))
      have y8 : Ext wo (w7.alloc (.cells #[.int .i64 n] 3)) := y7.alloc _
      have X8 := y8.modT (owi_grownT (o7.ext ((Ext.rf w7).alloc (.cells #[.int .i64 n] 3))) g8) (Nat.le_refl _)
      have B8 := BB.out.ext X8
      have M8 := MM.out.ext X8
      have ne8 : ∀ b, bl A8 = some b → b ≠ g := fun b hb => by have := (o8.lt b hb).1; omega
      have hB8 := below_modG hB.out M8 (by omega)
      have CN := ihn w8 A8 c8 (p ++ [n]) r' hB8 B8 o8.read ne8 OKN.out (by rw [el]; have := hf.out; omega) hr'
      rw [el] at CN
      have RL : (nodeC (depthI i) (kidsI i) (boundI i) cost f (p ++ [n]) r').2.length ≤ 1000 := Nat.le_trans (nodeC_rest f _ _) hr'
      generalize nodeC (depthI i) (kidsI i) (boundI i) cost f (p ++ [n]) r' = res at *
      obtain ⟨re, rr⟩ := res
      have RA8 := Lib.hid (RA.out.ext X8)
      have z8 := M8.size
      replace CN := Lib.hid CN
      replace M8 := Lib.hid M8
      unfold NodeP at CN
      clear y8 X8 B8 o8 g8 o7 y7 zw7 ne8 hB8 x7 OKN RP el
      go_wp2_with (fail)
      refine CN.out.mono ?_
      rintro e w9 ⟨rfl, b9, m9⟩
      have M9 := Lib.hid (M8.out.tr m9)
      have RA9 := Lib.hid (RA8.out.modW m9 neA.out)
      replace b9 := Lib.hid b9
      clear m9 CN RA8 M8 BB RA MM
      try simp only at SD
      try simp only at b9
      try simp only at RL
      by_cases he : re = 0
      · subst he
        have SD2 : Hid (seqC (fun n v => nodeC (depthI i) (kidsI i) (boundI i) cost f (p ++ [n]) v) (l.drop (m + 1)) rr = RES) := by
          have h := SD.out
          rw [if_pos rfl] at h
          exact h
        clear SD
        go_wp2_with (fail)
        go_roundw
        case rel => exact ⟨m + 1, rr, by go_num, by omega, RL, SD2, b9, RA9, M9⟩
        case measure => simp [intOf]; omega
      · have e1 : (re != 0) = true := by simpa using he
        obtain rfl : RES = (re, rr) := by have h := SD.out; rw [if_neg he] at h; exact h.symm
        clear SD
        go_wp2_with (fail)
        go_ret
        exact ⟨rfl, b9.out, M9.out⟩
    · have q1 : ¬ (m : Int) < (l.length : Int) := by omega
      obtain rfl : RES = (0, r') := by
        have h := hS.out
        rw [List.drop_of_length_le (by omega)] at h
        exact h.symm
      go_wp2_with (fail)
      go_ret
      exact ⟨rfl, BB.out, MM.out⟩
theorem node_all_cities {i : InstP} {g : Nat} {W0 : World} {px : Value} {cost : Int} (H : PV i g W0 px 180 181 179) : ∀ f, NodeC i g W0 135 px cost (f + 1)
  | 0 => node_step_cities H 0 (fun W P c p r _ _ _ _ _ hf hl _ => by omega)
  | f + 1 => node_step_cities H (f + 1) (kids_step_cities H (f + 1) (node_all_cities H f))
end Go.Proofs.Ytcpadkaljnnieaa
namespace Go.Proofs.Ytcpadkaljnnieaa
open Go.RowKit Go.ChangeShapes Go.WideShapes Go.ChangeAt Go.Deep

theorem pv1 {i : InstP} (hc : checkP i = 0) (hk : i.kind = 1) {W0 : World} {g : Nat} (H : KnB W0 g i.cap (wsP i) (vsP i)) : PV i W0.heap.size W0 (.pointer (some ⟨g, 0, none⟩)) 167 168 166 := by
  have ok := knap_ok hc hk
  obtain ⟨f1, f2, f3, f4, f5⟩ := knap_facts ok
  have n2 := ok.n2
  have hd : depthI i = (wsP i).length := by unfold depthI; rw [if_neg (by omega)]; omega
  have sw := small_inOrder (l := orderP i) ok.sw
  have sv := small_inOrder (l := orderP i) ok.sv
  have hlen : ∀ p q, stP i.cap 0 (wsP i) (vsP i) p = some q → p.length ≤ (wsP i).length := fun p q h => by
    have := (krn_inst hc).len p (by unfold okI; rw [if_pos hk]; exact ⟨q, h⟩)
    omega
  refine ⟨hc, by omega, fun W x => ?_, fun W P c p x hP ho hl => ?_, fun W P c p x hP ho => ?_⟩
  · rw [hd]
    exact kdepthc_any W g i.cap (wsP i) (vsP i) (H.ext x)
  · unfold okI at ho
    rw [if_pos hk] at ho
    obtain ⟨⟨r, o⟩, hs⟩ := ho
    have e : kidsI i p = kidsK i.cap (wsP i) p := by unfold kidsI; rw [if_pos hk]
    rw [e]
    exact kkidsc_any W g i.cap (wsP i) (vsP i) (H.ext x) sw f1 ok.cap P c p hP r o hs (by omega) (by omega)
  · unfold okI at ho
    rw [if_pos hk] at ho
    obtain ⟨⟨r, o⟩, hs⟩ := ho
    have e : boundI i p = (boundP i.cap (wsP i) (vsP i) p).1 := by unfold boundI; rw [if_pos hk]
    rw [e]
    exact kboundc_any W g i.cap (wsP i) (vsP i) (H.ext x) sw sv f1 ok.cap P c p hP r o hs (hlen _ _ hs) (by omega)
theorem pv2 {i : InstP} (hc : checkP i = 0) (hk : i.kind = 2) {W0 : World} {g : Nat} (H : RwB W0 g i.cost) : PV i W0.heap.size W0 (.pointer (some ⟨g, 0, none⟩)) 175 176 174 := by
  have sq := square_ok hc (by omega)
  have rok := rows_ok sq
  have l2 := rok.n2
  have hd : depthI i = i.cost.length := by unfold depthI; rw [if_neg (by omega)]; have := sq.len; omega
  have hok : ∀ p, okI i p → ∃ m, freeP i.cost.length p = some m := fun p ho => by
    unfold okI at ho
    rw [if_neg (by omega), if_pos hk] at ho
    exact ho
  refine ⟨hc, by omega, fun W x => ?_, fun W P c p x hP ho hl => ?_, fun W P c p x hP ho => ?_⟩
  · rw [hd]
    exact rdepthc_any W g i.cost (H.ext x)
  · obtain ⟨m, hm⟩ := hok p ho
    have e : kidsI i p = absL 0 i.cost.length p := by unfold kidsI; rw [if_neg (by omega), if_pos hk]
    rw [e]
    exact rkidsc_any W g i.cost (H.ext x) (by omega) P c p hP (by have := (freeP_in l2 hm).1; omega)
  · obtain ⟨m, hm⟩ := hok p ho
    have e : boundI i p = (boundA i.cost p).1 := by unfold boundI; rw [if_neg (by omega), if_pos hk]
    rw [e]
    exact rboundc_any W g i.cost (H.ext x) rok P c p hP m hm
theorem pv3 {i : InstP} (hc : checkP i = 0) (hk : i.kind = 3) {W0 : World} {g : Nat} (H : CiB W0 g (mirP i.cost) i.cost) : PV i W0.heap.size W0 (.pointer (some ⟨g, 0, none⟩)) 180 181 179 := by
  have sq := square_ok hc (by omega)
  have rok := rows_ok sq
  have l1 := rok.n1
  have l2 := rok.n2
  have hd : depthI i = i.cost.length - 1 := by unfold depthI; rw [if_pos hk]; have := sq.len; omega
  have hok : ∀ p, okI i p → ∃ s, walkP i.cost p = some s := fun p ho => by
    unfold okI at ho
    rw [if_neg (by omega), if_neg (by omega)] at ho
    exact ho
  refine ⟨hc, by omega, fun W x => ?_, fun W P c p x hP ho hl => ?_, fun W P c p x hP ho => ?_⟩
  · rw [hd]
    exact tdepthc_any W g (mirP i.cost) i.cost (H.ext x) l1 l2
  · have e : kidsI i p = absL 1 i.cost.length p := by unfold kidsI; rw [if_neg (by omega), if_neg (by omega)]
    rw [e]
    exact tkidsc_any W g (mirP i.cost) i.cost (H.ext x) (by omega) P c p hP (by omega)
  · obtain ⟨⟨m, last, cost⟩, hm⟩ := hok p ho
    have e : boundI i p = (boundT i.cost (mirP i.cost) p).1 := by unfold boundI; rw [if_neg (by omega), if_neg (by omega)]
    rw [e]
    exact tboundc_any W g (mirP i.cost) i.cost (H.ext x) rok P c p hP m last cost hm
/-- what Check answers -/
def checkR (i : InstP) (x : List Int) (v : Int) (tr : Wd) : Int := if checkP i ≠ 0 then checkP i else if (answR i x).2.2 ≠ 0 then (answR i x).2.2 else if (answR i x).2.1 ≠ v then 13 else wholeC (depthI i) (kidsI i) (boundI i) (answR i x).1 tr
/-- what goes through a word behind the face -/
def OfNode (i : InstP) (T : TypeId) (w : World) (e : Ending) (w' : World) : Prop := ∃ px, e = .returned (.iface T px) ∧ (∀ cost f, NodeC i w'.heap.size w' T px cost (f + 1)) ∧ Ext w w'
theorem ofn1 (i : InstP) (us : List Value) (w : World) (H : RInst w us i) (hc : checkP i = 0) (hk : i.kind = 1) : Calls Try.prog 64 #[.agg (List.toArray us)] w (OfNode i 130 w) := by
  refine (of1_any i us w H hc hk).mono ?_
  rintro e w' ⟨g, rfl, h, x⟩
  exact ⟨_, rfl, fun cost f => node_all_knapsack (pv1 hc hk h) f, x⟩
theorem ofn2 (i : InstP) (us : List Value) (w : World) (H : RInst w us i) (hc : checkP i = 0) (hk : i.kind = 2) : Calls Try.prog 64 #[.agg (List.toArray us)] w (OfNode i 132 w) := by
  refine (of2_any i us w H hk).mono ?_
  rintro e w' ⟨g, rfl, h, x⟩
  exact ⟨_, rfl, fun cost f => node_all_rows (pv2 hc hk h) f, x⟩
theorem ofn3 (i : InstP) (us : List Value) (w : World) (H : RInst w us i) (hc : checkP i = 0) (hk : i.kind = 3) : Calls Try.prog 64 #[.agg (List.toArray us)] w (OfNode i 135 w) := by
  refine (of3_any i us w H hc hk).mono ?_
  rintro e w' ⟨g, rfl, h, x⟩
  exact ⟨_, rfl, fun cost f => node_all_cities (pv3 hc hk h) f, x⟩
set_option maxRecDepth 100000 in
set_option maxHeartbeats 2000000 in
theorem check_yes (i : InstP) (us : List Value) (v : Int) (X : Option Addr) (xc : Nat) (x : List Int) (tr : Wd) (T : TypeId) (w : World) (H : RInst w us i) (hc : checkP i = 0) (lw : i.weight.length ≤ 1000000000) (lv : i.value.length ≤ 1000000000) (hX : RdI w X x) (lx : x.length ≤ xc) (mx : xc ≤ maxLen) (lt : tr.length ≤ 1000)
    (OF : ∀ W, Ext w W → Calls Try.prog 64 #[.agg (List.toArray us)] W (OfNode i T W)) :
    Calls Try.prog 33 #[.agg (List.toArray us), .agg #[.int .i64 v, .slice X x.length xc, .string ⟨tr.toArray⟩]] w fun e w' => e = .returned (.int .i64 (checkR i x v tr)) ∧ Ext w w' := by
  have CH := fun (W : World) (y : Ext w W) => check_any i us W (H.ext y) lw lv
  rw [hc] at CH
  have AN := Lib.hid (fun (W : World) (y : Ext w W) => answerc_any i us X xc x W (H.ext y) hc (hX.ext y) lx mx)
  have e : checkR i x v tr = if (answR i x).2.2 ≠ 0 then (answR i x).2.2 else if (answR i x).2.1 ≠ v then 13 else wholeC (depthI i) (kidsI i) (boundI i) (answR i x).1 tr := by
    unfold checkR
    rw [if_neg (by simpa using hc)]
  obtain ⟨RES, hR⟩ : ∃ RES, Hid (checkR i x v tr = RES) := ⟨_, rfl⟩
  rw [hR.out] at e ⊢
  replace e := Lib.hid e
  clear hR
  have OKN := Lib.hid (okI_nil hc)
  unfold OfNode at OF
  replace OF := Lib.hid OF
  replace CH := Lib.hid CH
  obtain ⟨AR, hans⟩ : ∃ AR, Hid (answR i x = AR) := ⟨_, rfl⟩
  rw [hans.out] at e AN
  clear hans hc lx mx hX
  obtain ⟨a1, a2, a3⟩ := AR
  simp only at e AN
  obtain ⟨A, a, B, b, D, d, rfl, -, -, -⟩ := H
  obtain ⟨kind, hkd⟩ : ∃ q, Hid (q = i.kind) := ⟨_, rfl⟩
  obtain ⟨nn, hnn⟩ : ∃ q, Hid (q = i.n) := ⟨_, rfl⟩
  obtain ⟨cap, hcap⟩ : ∃ q, Hid (q = i.cap) := ⟨_, rfl⟩
  obtain ⟨lxw, hxw⟩ : ∃ q, Hid (q = i.weight.length) := ⟨_, rfl⟩
  obtain ⟨lxv, hxv⟩ : ∃ q, Hid (q = i.value.length) := ⟨_, rfl⟩
  obtain ⟨lco, hco⟩ : ∃ q, Hid (q = i.cost.length) := ⟨_, rfl⟩
  rw [← hkd.out, ← hnn.out, ← hcap.out, ← hxw.out, ← hxv.out, ← hco.out] at CH AN OF ⊢
  clear hkd hnn hcap hxw hxv hco lw lv
  obtain ⟨wb, hwb⟩ : ∃ wb, Hid (wb = (w.alloc (.cells #[.int .i64 kind, .int .i64 nn, .int .i64 cap, .slice A lxw a, .slice B lxv b, .slice D lco d] 61)).alloc (.cells #[.int .i64 v, .slice X x.length xc, .string ⟨tr.toArray⟩] 71)) := ⟨_, rfl⟩
  have XB : Hid (Ext w wb) := by
    have h : Ext w wb := by rw [hwb.out]; exact ((Ext.rf w).alloc _).alloc _
    exact h
  have B1 : Hid (Blk wb w.heap.size 61 #[.int .i64 kind, .int .i64 nn, .int .i64 cap, .slice A lxw a, .slice B lxv b, .slice D lco d]) := by
    have h : Blk wb w.heap.size 61 #[.int .i64 kind, .int .i64 nn, .int .i64 cap, .slice A lxw a, .slice B lxv b, .slice D lco d] := by rw [hwb.out]; exact .alloc (.new rfl) _
    exact h
  have B2 : Hid (Blk wb (w.heap.size + 1) 71 #[.int .i64 v, .slice X x.length xc, .string ⟨tr.toArray⟩]) := by
    have h : Blk wb (w.heap.size + 1) 71 #[.int .i64 v, .slice X x.length xc, .string ⟨tr.toArray⟩] := by rw [hwb.out]; exact .new (by simp)
    exact h
  go_enter Try.func33, Try.ntmps33
  go_upto_region 1 with (fail)
  rw [← hwb.out]
  have d0 : wb.cell? ⟨w.heap.size, 0, none⟩ = some (.int .i64 kind) := B1.out.cell 0
  have d1 : wb.cell? ⟨w.heap.size, 1, none⟩ = some (.int .i64 nn) := B1.out.cell 1
  have d2 : wb.cell? ⟨w.heap.size, 2, none⟩ = some (.int .i64 cap) := B1.out.cell 2
  have d3 : wb.cell? ⟨w.heap.size, 3, none⟩ = some (.slice A lxw a) := B1.out.cell 3
  have d4 : wb.cell? ⟨w.heap.size, 4, none⟩ = some (.slice B lxv b) := B1.out.cell 4
  have d5 : wb.cell? ⟨w.heap.size, 5, none⟩ = some (.slice D lco d) := B1.out.cell 5
  go_wp2_with (fail)
  refine (CH.out _ (XB.out.tr (by (repeat (first | assumption | exact Ext.rf _ | apply Ext.drew | apply Ext.drewN | apply Ext.alloc))))).mono ?_
  rintro e w1 ⟨rfl, x1⟩
  have Y1 := Lib.hid (Ext.tr (a := wb) (by (repeat (first | assumption | exact Ext.rf _ | apply Ext.drew | apply Ext.drewN | apply Ext.alloc))) x1)
  have B11 := Lib.hid (B1.out.ext Y1.out)
  have B21 := Lib.hid (B2.out.ext Y1.out)
  clear x1 d0 d1 d2 d3 d4 d5
  have d0 : w1.cell? ⟨w.heap.size, 0, none⟩ = some (.int .i64 kind) := B11.out.cell 0
  have d1 : w1.cell? ⟨w.heap.size, 1, none⟩ = some (.int .i64 nn) := B11.out.cell 1
  have d2 : w1.cell? ⟨w.heap.size, 2, none⟩ = some (.int .i64 cap) := B11.out.cell 2
  have d3 : w1.cell? ⟨w.heap.size, 3, none⟩ = some (.slice A lxw a) := B11.out.cell 3
  have d4 : w1.cell? ⟨w.heap.size, 4, none⟩ = some (.slice B lxv b) := B11.out.cell 4
  have d5 : w1.cell? ⟨w.heap.size, 5, none⟩ = some (.slice D lco d) := B11.out.cell 5
  have c1 : w1.cell? ⟨w.heap.size + 1, 1, none⟩ = some (.slice X x.length xc) := B21.out.cell 1
  go_wp2_with (fail)
  refine (AN.out _ (XB.out.tr (Y1.out.tr (by (repeat (first | assumption | exact Ext.rf _ | apply Ext.drew | apply Ext.drewN | apply Ext.alloc)))))).mono ?_
  rintro e w2 ⟨rfl, x2⟩
  have Y2 := Lib.hid (Y1.out.tr (Ext.tr (by (repeat (first | assumption | exact Ext.rf _ | apply Ext.drew | apply Ext.drewN | apply Ext.alloc))) x2))
  have B12 := Lib.hid (B1.out.ext Y2.out)
  have B22 := Lib.hid (B2.out.ext Y2.out)
  clear x2 d0 d1 d2 d3 d4 d5 c1
  by_cases h3 : a3 = 0
  · subst h3
    have c0 : w2.cell? ⟨w.heap.size + 1, 0, none⟩ = some (.int .i64 v) := B22.out.cell 0
    by_cases h2 : a2 = v
    · subst h2
      have E : Hid (RES = wholeC (depthI i) (kidsI i) (boundI i) a1 tr) := by
        have h := e.out
        rw [if_neg (by simp), if_neg (by simp)] at h
        exact h
      clear e
      have d0 : w2.cell? ⟨w.heap.size, 0, none⟩ = some (.int .i64 kind) := B12.out.cell 0
      have d1 : w2.cell? ⟨w.heap.size, 1, none⟩ = some (.int .i64 nn) := B12.out.cell 1
      have d2 : w2.cell? ⟨w.heap.size, 2, none⟩ = some (.int .i64 cap) := B12.out.cell 2
      have d3 : w2.cell? ⟨w.heap.size, 3, none⟩ = some (.slice A lxw a) := B12.out.cell 3
      have d4 : w2.cell? ⟨w.heap.size, 4, none⟩ = some (.slice B lxv b) := B12.out.cell 4
      have d5 : w2.cell? ⟨w.heap.size, 5, none⟩ = some (.slice D lco d) := B12.out.cell 5
      have c2 : w2.cell? ⟨w.heap.size + 1, 2, none⟩ = some (.string ⟨tr.toArray⟩) := B22.out.cell 2
      have zw := B12.out.lt
      have zc := B22.out.lt
      go_wp2_with (fail)
      go_region_held3 (fun w' => w'.cell? ⟨w.heap.size, 0, none⟩ = some (.int .i64 kind) ∧ w'.cell? ⟨w.heap.size, 1, none⟩ = some (.int .i64 nn) ∧ w'.cell? ⟨w.heap.size, 2, none⟩ = some (.int .i64 cap) ∧ w'.cell? ⟨w.heap.size, 3, none⟩ = some (.slice A lxw a) ∧ w'.cell? ⟨w.heap.size, 4, none⟩ = some (.slice B lxv b) ∧ w'.cell? ⟨w.heap.size, 5, none⟩ = some (.slice D lco d) ∧ w'.cell? ⟨w.heap.size + 1, 2, none⟩ = some (.string ⟨tr.toArray⟩)) (go_keep)
        (first | (go_at_call 64; refine (OF.out _ (XB.out.tr (Y2.out.tr (by (repeat (first | assumption | exact Ext.rf _ | apply Ext.drew | apply Ext.drewN | apply Ext.alloc)))))).mono ?_; rintro e w3 ⟨px, rfl, ND, x3⟩; have Y3 := Ext.tr (a := w2) (by (repeat (first | assumption | exact Ext.rf _ | apply Ext.drew | apply Ext.drewN | apply Ext.alloc))) x3; have s1 := keepEL Y3 zw d0; have s2 := keepEL Y3 zw d1; have s3 := keepEL Y3 zw d2; have s4 := keepEL Y3 zw d3; have s5 := keepEL Y3 zw d4; have s6 := keepEL Y3 zw d5; have s7 := keepEL Y3 zc c2))
      all_goals
        have X3 := Lib.hid (XB.out.tr (Y2.out.tr Y3))
        clear s1 s2 s3 s4 s5 s6 s7 d0 d1 d2 d3 d4 d5 c2 c0 x3 Y3
        have BW : ∀ (W : World), W = w3.alloc (.cells #[.iface T px, .int .i64 a1, .string ⟨tr.toArray⟩] 119) → Blk W w3.heap.size 119 #[.iface T px, .int .i64 a1, .string ⟨tr.toArray⟩] := fun W h => by rw [h]; exact .new rfl
        replace BW := Lib.hid BW
        have ND1 := Lib.hid (ND a1 (depthI i))
        clear ND
        obtain ⟨res, hres⟩ : ∃ res, Hid (nodeC (depthI i) (kidsI i) (boundI i) a1 (depthI i + 1) [] tr = res) := ⟨_, rfl⟩
        have ND2 := Lib.hid (fun (W : World) (x : Ext w3 W) (hb : Blk W w3.heap.size 119 #[.iface T px, .int .i64 a1, .string ⟨tr.toArray⟩]) => ND1.out W none 0 [] tr x hb (.inl rfl) (fun b h => by simp [bl] at h) OKN.out (by simp) lt)
        unfold NodeP at ND2
        rw [hres.out] at ND2
        have E2 : Hid (RES = if res.1 = 0 then (if res.2 = [] then 0 else 7) else res.1) := by
          have h := E.out
          unfold wholeC at h
          rw [hres.out] at h
          exact h
        clear ND1 E hres OKN
        obtain ⟨re, rr⟩ := res
        go_wp2_with (fail)
        refine (ND2.out _ (by (repeat (first | assumption | exact Ext.rf _ | apply Ext.drew | apply Ext.drewN | apply Ext.alloc))) (.new rfl)).mono ?_
        rintro e w5 ⟨rfl, b5, m5⟩
        have X5 : Hid (Ext w w5) := X3.out.mod (((Mod.rf w3).alloc _).tr m5) (fun k hk e => by have := X3.out.size; omega)
        have c2 : w5.cell? ⟨w3.heap.size, 2, none⟩ = some (.string ⟨rr.toArray⟩) := b5.cell 2
        clear m5 ND2
        try simp only at E2
        by_cases hre : re = 0
        · subst hre
          cases rr with
          | nil =>
            have E3 : Hid (RES = 0) := by
              have h := E2.out
              rw [if_pos rfl, if_pos rfl] at h
              exact h
            clear E2
            go_wp2_with (fail)
            go_ret
            exact ⟨ret_i E3.out.symm, X5.out.tr (by (repeat (first | assumption | exact Ext.rf _ | apply Ext.drew | apply Ext.drewN | apply Ext.alloc)))⟩
          | cons y r =>
            have E3 : Hid (RES = 7) := by
              have h := E2.out
              rw [if_pos rfl, if_neg (by simp)] at h
              exact h
            have hne : (⟨(y :: r).toArray⟩ : ByteArray) ≠ ⟨#[]⟩ := by simp
            clear E2
            go_wp2_with (fail)
            go_ret
            exact ⟨ret_i E3.out.symm, X5.out.tr (by (repeat (first | assumption | exact Ext.rf _ | apply Ext.drew | apply Ext.drewN | apply Ext.alloc)))⟩
        · have E3 : Hid (RES = re) := by
            have h := E2.out
            rw [if_neg hre] at h
            exact h
          have hre1 : (re == 0) = false := by simpa using hre
          clear E2
          go_wp2_with (fail)
          go_ret
          exact ⟨ret_i E3.out.symm, X5.out.tr (by (repeat (first | assumption | exact Ext.rf _ | apply Ext.drew | apply Ext.drewN | apply Ext.alloc)))⟩
    · have E : Hid (RES = 13) := by
        have h := e.out
        rw [if_neg (by simp), if_pos h2] at h
        exact h
      have h21 : (a2 == v) = false := by simpa using h2
      clear e
      go_wp2_with (fail)
      go_ret
      exact ⟨ret_i E.out.symm, XB.out.tr (Y2.out.tr (by (repeat (first | assumption | exact Ext.rf _ | apply Ext.drew | apply Ext.drewN | apply Ext.alloc))))⟩
  · have E : Hid (RES = a3) := by
      have h := e.out
      rw [if_pos h3] at h
      exact h
    have h31 : (a3 == 0) = false := by simpa using h3
    clear e
    go_wp2_with (fail)
    go_ret
    exact ⟨ret_i E.out.symm, XB.out.tr (Y2.out.tr (by (repeat (first | assumption | exact Ext.rf _ | apply Ext.drew | apply Ext.drewN | apply Ext.alloc))))⟩
set_option maxRecDepth 100000 in
theorem check_no (i : InstP) (us : List Value) (v : Int) (X : Option Addr) (xc : Nat) (x : List Int) (tr : Wd) (w : World) (H : RInst w us i) (hc : checkP i ≠ 0) (lw : i.weight.length ≤ 1000000000) (lv : i.value.length ≤ 1000000000) :
    Calls Try.prog 33 #[.agg (List.toArray us), .agg #[.int .i64 v, .slice X x.length xc, .string ⟨tr.toArray⟩]] w fun e w' => e = .returned (.int .i64 (checkR i x v tr)) ∧ Ext w w' := by
  have CH := fun (W : World) (y : Ext w W) => check_any i us W (H.ext y) lw lv
  have e : checkR i x v tr = checkP i := by
    unfold checkR
    rw [if_pos hc]
  rw [e]
  generalize checkP i = q at *
  have h1 : (q == 0) = false := by simpa using hc
  replace CH := Lib.hid CH
  obtain ⟨A, a, B, b, D, d, rfl, -, -, -⟩ := H
  clear e hc
  go_enter Try.func33, Try.ntmps33
  go_wp2_with (fail)
  refine (CH.out _ (by (repeat (first | assumption | exact Ext.rf _ | apply Ext.drew | apply Ext.drewN | apply Ext.alloc)))).mono ?_
  rintro e w1 ⟨rfl, x1⟩
  have Y1 := Lib.hid (Ext.tr (a := w) (by (repeat (first | assumption | exact Ext.rf _ | apply Ext.drew | apply Ext.drewN | apply Ext.alloc))) x1)
  clear x1
  go_wp2_with (fail)
  go_ret
  exact ⟨rfl, Y1.out.tr (by (repeat (first | assumption | exact Ext.rf _ | apply Ext.drew | apply Ext.drewN | apply Ext.alloc)))⟩
theorem checkc_any (i : InstP) (us : List Value) (v : Int) (X : Option Addr) (xc : Nat) (x : List Int) (tr : Wd) (w : World) (H : RInst w us i) (lw : i.weight.length ≤ 1000000000) (lv : i.value.length ≤ 1000000000) (hX : RdI w X x) (lx : x.length ≤ xc) (mx : xc ≤ maxLen) (lt : tr.length ≤ 1000) :
    Calls Try.prog 33 #[.agg (List.toArray us), .agg #[.int .i64 v, .slice X x.length xc, .string ⟨tr.toArray⟩]] w fun e w' => e = .returned (.int .i64 (checkR i x v tr)) ∧ Ext w w' := by
  by_cases hc : checkP i = 0
  · rcases check_kind hc with h | h | h
    · exact check_yes i us v X xc x tr _ w H hc lw lv hX lx mx lt fun W y => ofn1 i us W (H.ext y) hc h
    · exact check_yes i us v X xc x tr _ w H hc lw lv hX lx mx lt fun W y => ofn2 i us W (H.ext y) hc h
    · exact check_yes i us v X xc x tr _ w H hc lw lv hX lx mx lt fun W y => ofn3 i us W (H.ext y) hc h
  · exact check_no i us v X xc x tr w H hc lw lv
end Go.Proofs.Ytcpadkaljnnieaa
namespace Go.Proofs.Ytcpadkaljnnieaa
open Go.RowKit Go.ChangeShapes Go.WideShapes Go.ChangeAt Go.Deep

section
variable {H : Type} {enc : TypeId × Value → H} {W : World}
end
def exC : InstP := ⟨1, 1, 1, [1], [5], []⟩
theorem exC_yes : checkR exC [1] 5 [98, 112, 108] = 0 := by decide +kernel
theorem exC_no : checkR exC [0] 0 [98, 108, 108] = 13 := by decide +kernel
theorem exC_rinst {w1 : World} {a b : Nat} (b0 : Blk w1 a 3 #[.int .i64 1]) (b1 : Blk w1 b 3 #[.int .i64 5]) :
    RInst w1 [.int .i64 1, .int .i64 1, .int .i64 1, .slice (some ⟨a, 0, none⟩) 1 1, .slice (some ⟨b, 0, none⟩) 1 1, .slice none 0 0] exC := by
  have hz : 1 ≤ maxLen := by simp [maxLen]
  have hi : ∀ z : Int, 0 ≤ z ∧ z ≤ 10 → Ints [z] := fun z h x hx => by simp at hx; omega
  exact ⟨some ⟨a, 0, none⟩, 1, some ⟨b, 0, none⟩, 1, none, 0, rfl, ⟨.blk b0 rfl, hi 1 (by omega), Nat.le_refl 1, hz⟩, ⟨.blk b1 rfl, hi 5 (by omega), Nat.le_refl 1, hz⟩, ⟨.inl rfl, Nat.le_refl 0, zero_le_maxLen⟩⟩
set_option maxRecDepth 100000 in
set_option maxHeartbeats 2000000 in
theorem checks_any (w : World) : Calls Try.prog 28 #[] w fun e w' => e = .returned (.bool true) ∧ Ext w w' := by
  have C1 := fun (us : List Value) (X : Option Addr) (W : World) (H : RInst W us exC) (hX : RdI W X [1]) => checkc_any exC us 5 X 1 [1] [98, 112, 108] W H (by simp [exC]) (by simp [exC]) hX (Nat.le_refl 1) (by simp [maxLen]) (by simp)
  have C2 := fun (us : List Value) (X : Option Addr) (W : World) (H : RInst W us exC) (hX : RdI W X [0]) => checkc_any exC us 0 X 1 [0] [98, 108, 108] W H (by simp [exC]) (by simp [exC]) hX (Nat.le_refl 1) (by simp [maxLen]) (by simp)
  rw [exC_yes] at C1
  rw [exC_no] at C2
  simp only [List.length_cons, List.length_nil, Nat.reduceAdd] at C1 C2
  replace C1 := Lib.hid C1
  replace C2 := Lib.hid C2
  obtain ⟨w1, hw1⟩ : ∃ w1, Hid (w1 = ((w.alloc (.cells #[.int .i64 1] 3)).alloc (.cells #[.int .i64 5] 3)).alloc (.cells #[.int .i64 1, .int .i64 1, .int .i64 1, .slice (some ⟨w.heap.size, 0, none⟩) 1 1, .slice (some ⟨w.heap.size + 1, 0, none⟩) 1 1, .slice none 0 0] 61)) := ⟨_, rfl⟩
  have b0 : Blk w1 w.heap.size 3 #[.int .i64 1] := by rw [hw1.out]; exact .alloc (.alloc (.new rfl) _) _
  have b1 : Blk w1 (w.heap.size + 1) 3 #[.int .i64 5] := by rw [hw1.out]; exact .alloc (.new (by simp)) _
  have b4 : Hid (Blk w1 (w.heap.size + 1 + 1) 61 #[.int .i64 1, .int .i64 1, .int .i64 1, .slice (some ⟨w.heap.size, 0, none⟩) 1 1, .slice (some ⟨w.heap.size + 1, 0, none⟩) 1 1, .slice none 0 0]) := by
    have h : Blk w1 (w.heap.size + 1 + 1) 61 #[.int .i64 1, .int .i64 1, .int .i64 1, .slice (some ⟨w.heap.size, 0, none⟩) 1 1, .slice (some ⟨w.heap.size + 1, 0, none⟩) 1 1, .slice none 0 0] := by rw [hw1.out]; exact .new (by simp)
    exact h
  have R := Lib.hid (exC_rinst b0 b1)
  have X1 : Hid (Ext w w1) := by
    have h : Ext w w1 := by rw [hw1.out]; exact (((Ext.rf w).alloc _).alloc _).alloc _
    exact h
  clear b0 b1
  go_enter Try.func28, Try.ntmps28
  go_upto_region 2 with (fail)
  rw [← hw1.out]
  have t0 : w1.cell? ⟨w.heap.size + 1 + 1, 0, none⟩ = some (.int .i64 1) := b4.out.cell 0
  have t1 : w1.cell? ⟨w.heap.size + 1 + 1, 1, none⟩ = some (.int .i64 1) := b4.out.cell 1
  have t2 : w1.cell? ⟨w.heap.size + 1 + 1, 2, none⟩ = some (.int .i64 1) := b4.out.cell 2
  have t3 : w1.cell? ⟨w.heap.size + 1 + 1, 3, none⟩ = some (.slice (some ⟨w.heap.size, 0, none⟩) 1 1) := b4.out.cell 3
  have t4 : w1.cell? ⟨w.heap.size + 1 + 1, 4, none⟩ = some (.slice (some ⟨w.heap.size + 1, 0, none⟩) 1 1) := b4.out.cell 4
  have t5 : w1.cell? ⟨w.heap.size + 1 + 1, 5, none⟩ = some (.slice none 0 0) := b4.out.cell 5
  go_wp2_with (fail)
  have y := Ext.alloc (Ext.rf w1) (.cells #[.int .i64 1] 3)
  refine (C1.out _ _ _ (R.out.ext y) (.blk (.new rfl) rfl)).mono ?_
  rintro e w2 ⟨rfl, x2⟩
  have Y2 := Lib.hid (y.tr x2)
  have B2 := Lib.hid (b4.out.ext Y2.out)
  clear x2 y t0 t1 t2 t3 t4 t5
  have t0 : w2.cell? ⟨w.heap.size + 1 + 1, 0, none⟩ = some (.int .i64 1) := B2.out.cell 0
  have t1 : w2.cell? ⟨w.heap.size + 1 + 1, 1, none⟩ = some (.int .i64 1) := B2.out.cell 1
  have t2 : w2.cell? ⟨w.heap.size + 1 + 1, 2, none⟩ = some (.int .i64 1) := B2.out.cell 2
  have t3 : w2.cell? ⟨w.heap.size + 1 + 1, 3, none⟩ = some (.slice (some ⟨w.heap.size, 0, none⟩) 1 1) := B2.out.cell 3
  have t4 : w2.cell? ⟨w.heap.size + 1 + 1, 4, none⟩ = some (.slice (some ⟨w.heap.size + 1, 0, none⟩) 1 1) := B2.out.cell 4
  have t5 : w2.cell? ⟨w.heap.size + 1 + 1, 5, none⟩ = some (.slice none 0 0) := B2.out.cell 5
  go_wp2_with (fail)
  have y := Ext.alloc (Ext.rf w2) (.cells #[.int .i64 0] 3)
  refine (C2.out _ _ _ (R.out.ext (Y2.out.tr y)) (.blk (.new rfl) rfl)).mono ?_
  rintro e w3 ⟨rfl, x3⟩
  have Y3 := Lib.hid (Y2.out.tr (y.tr x3))
  clear x3 y t0 t1 t2 t3 t4 t5
  go_wp2_with (fail)
  go_ret
  exact ⟨rfl, X1.out.tr (Y3.out.tr (by (repeat (first | assumption | exact Ext.rf _ | apply Ext.drew | apply Ext.drewN | apply Ext.alloc))))⟩
end Go.Proofs.Ytcpadkaljnnieaa
namespace Go.Proofs.Ytcpadkaljnnieaa
open Go.RowKit Go.ChangeShapes Go.WideShapes Go.ChangeAt Go.Deep

theorem rbestI_any (i : InstP) (us : List Value) (w : World) (H : RInst w us i) (hc : checkP i = 0) :
    Calls Try.prog 32 #[.agg (List.toArray us), .slice none 0 0] w fun e w' => e = .returned (.int .i64 (bestI i)) ∧ Ext w w' := by
  rcases check_kind hc with hk | hk | hk
  · have ok := knap_ok hc hk
    have k1 := ok.n1
    have h := best1_any i us hc hk i.n.toNat (by omega) i.n.toNat none 0 [] w (by simp) (by simp) H (.inl rfl)
    have e : bestI i = best1 i.cap i.weight i.value i.n.toNat [] := by unfold bestI; rw [if_pos hk]
    rw [e]
    exact h
  · have h := best2_any i us hc hk i.cost.length none 0 [] _ w freeP_root (by simp) H (.inl rfl)
    have e : bestI i = bestA i.cost i.cost.length i.cost.length [] := by
      unfold bestI bxI
      rw [if_neg (by omega), if_neg (by omega), if_pos hk]
      rfl
    rw [e]
    exact h
  · have sq := square_ok hc (by omega)
    have rok := rows_ok sq
    have h1 := rok.n1
    have h2 := rok.n2
    have num : ∀ a b, a < i.cost.length → b < i.cost.length → 0 ≤ costAt i.cost a b := fun a b ha hb => (ends_num rok a b ha hb).1
    obtain ⟨l, W⟩ := walk_ok h1 h2 (walkP_root (rows := i.cost))
    have hl : l = [] := List.eq_nil_of_length_eq_zero (by have := congrArg List.length W.eq; rw [intsN_len] at this; exact this.symm)
    subst hl
    obtain ⟨q, a1, a2⟩ := bestT_some h1 h2 num (i.cost.length - 1) [] _ _ _ [] walkP_root W (by simp)
    have e : bestI i = bestT i.cost (i.cost.length - 1) [] := by
      unfold bestI bxI
      rw [if_neg (by omega), if_neg (by omega), if_neg (by omega)]
      rfl
    have hb : 0 ≤ bestT i.cost (i.cost.length - 1) [] := by
      rw [a2]
      exact pathT_pos num _ _ (by omega) fun y hy => ((W.rest y).1 (a1.mem_iff.1 hy)).1.1
    have h := best3_root i us none 0 [] w H hk (.inl rfl) (by simp) rfl i.cost.length sq.len.symm h1 (by omega) (by simp; omega) (fun _ => bestT i.cost (i.cost.length - 1) []) (fun k A d q hk0 hq W y hr => by
      subst hk0 hq
      exact best3_any i us hc hk (i.cost.length - 1) A d [] _ _ _ W walkP_root (by simp) (H.ext y) hr)
    have e2 : pkB (-1) (bestT i.cost (i.cost.length - 1) []) = bestT i.cost (i.cost.length - 1) [] := by
      unfold pkB
      split <;> omega
    rw [e2] at h
    rw [e]
    exact h
end Go.Proofs.Ytcpadkaljnnieaa
namespace Go.Proofs.Ytcpadkaljnnieaa
open Go.RowKit Go.ChangeShapes Go.WideShapes Go.ChangeAt Go.Deep

theorem strB_key (l : List Int) (x y : Nat) : strB (ltK l) x y = (decide (l.getD x 0 < l.getD y 0) || (decide (l.getD x 0 = l.getD y 0) && decide (x < y))) := by
  unfold strB ltK
  rw [Bool.eq_iff_iff]
  simp only [Bool.or_eq_true, Bool.and_eq_true, Bool.not_eq_true', decide_eq_true_eq, decide_eq_false_iff_not]
  omega
/-- how many stand ahead of x, of the first j -/
def ahK (l : List Int) (j x : Nat) : Nat := aheadL (ltK l) (List.range j) x
theorem ahK_succ (l : List Int) (j x : Nat) : ahK l (j + 1) x = ahK l j x + if (decide (l.getD j 0 < l.getD x 0) || (decide (l.getD j 0 = l.getD x 0) && decide (j < x))) = true then 1 else 0 := by
  unfold ahK
  rw [List.range_succ, aheadL_snoc, strB_key]
def plK (l : List Int) (k : Nat) : List Int := placeK (ahK l l.length) (List.range l.length) k
theorem plK_succ (l : List Int) (k : Nat) (h : k < l.length) : plK l (k + 1) = (plK l k).set (ahK l l.length k) (k : Int) := by
  have e : (List.range l.length).getD k 0 = k := by simp [List.getD, h]
  show (placeK (ahK l l.length) (List.range l.length) k).set (ahK l l.length ((List.range l.length).getD k 0)) (((List.range l.length).getD k 0 : Nat) : Int) = _
  rw [e]
  rfl
theorem plK_len (l : List Int) (k : Nat) : (plK l k).length = l.length := by unfold plK; rw [placeK_len, List.length_range]
theorem plK_full (l : List Int) : plK l l.length = intsN (byKey l) := by
  have h := place_sort (ltK_weak l) (List.pairwise_lt_range (n := l.length))
  rw [List.length_range] at h
  exact h
theorem ahK_lt (l : List Int) {k : Nat} (h : k < l.length) : ahK l l.length k < l.length := by
  have W := ltK_weak l
  have hs := List.pairwise_lt_range (n := l.length)
  obtain ⟨k', hk', e'⟩ := List.mem_iff_getElem.1 ((sortP_is W hs).mem.2 (List.mem_range.2 h))
  unfold ahK
  rw [aheadL_at W hs (by rw [List.getElem?_eq_getElem hk', e'])]
  rwa [sortP_len, List.length_range] at hk'
theorem ahK_le (l : List Int) (j x : Nat) : ahK l j x ≤ j := by
  have := aheadL_le (ltK l) (List.range j) x
  rwa [List.length_range] at this
/-- a list of the call's own is told -/
def OwnL (l : List Int) (w : World) (e : Ending) (w' : World) : Prop := ∃ (A : Option Addr) (c : Nat), e = .returned (.slice A l.length c) ∧ OwI w' w.heap.size A c l ∧ Ext w w'
set_option maxRecDepth 100000 in
set_option maxHeartbeats 4000000 in
theorem byKey_any (A1 : Option Addr) (c1 : Nat) (l : List Int) (w : World) (hA : RdI w A1 l) (hl : l.length ≤ 1000) :
    Calls Try.prog 95 #[.slice A1 l.length c1] w (OwnL (intsN (byKey l)) w) := by
  unfold OwnL
  rw [intsN_len, byKey_len]
  have PS := Lib.hid (fun k => plK_succ l k)
  have PL := Lib.hid (fun k => plK_len l k)
  have PF := Lib.hid (plK_full l)
  have AS := Lib.hid (fun j x => ahK_succ l j x)
  have AL := Lib.hid (fun k => ahK_lt l (k := k))
  have AE := Lib.hid (fun j x => ahK_le l j x)
  have P0 : Hid (plK l 0 = List.replicate l.length 0) := by
    have h : plK l 0 = List.replicate l.length 0 := by
      show List.replicate (List.range l.length).length (0 : Int) = _
      rw [List.length_range]
    exact h
  replace hA := Lib.hid hA
  go_enter Try.func95, Try.ntmps95
  go_wp2_with (at_make; refine wpl_make_i _ rfl _ _ rfl w.heap.size _ _ l.length rfl rfl rfl rfl (by omega) (Nat.le_refl _) ?_; rintro w3 o3 g3)
  have x3 : Ext w w3 := (Ext.rf _).grownNone g3
  rw [← P0.out] at o3
  have S3 : Hid (OwI w3 w.heap.size (some ⟨w.heap.size, 0, none⟩) l.length (plK l 0) ∧ Ext w w3) := ⟨o3, x3⟩
  clear o3 g3 x3
  go_wp2_with (fail)
  go_loopw [4] (fun v wr => ∃ k : Nat, v = .int .i64 k ∧ k ≤ l.length ∧ Hid (OwI wr w.heap.size (some ⟨w.heap.size, 0, none⟩) l.length (plK l k) ∧ Ext w wr)) (fun v _ => l.length - (intOf v).toNat)
  case atStart => exact ⟨0, rfl, by omega, S3⟩
  case round =>
    obtain ⟨wo, rfl⟩ : ∃ wo : World, wo = wr := ⟨_, rfl⟩
    obtain ⟨k, rfl, hk, HS⟩ := hrel
    clear S3
    by_cases hlt : k < l.length
    · have q2 : (k : Int) < (l.length : Int) := by omega
      have HPK := Lib.hid (PS.out k hlt)
      have hal := AL.out k hlt
      obtain ⟨O, Y⟩ := HS.out
      clear HS
      replace O := Lib.hid O
      replace Y := Lib.hid Y
      have A0 : Hid (ahK l 0 k = 0) := rfl
      go_wp2_with (fail)
      go_loopw [6, 5] (fun v nv wr => ∃ j ah : Nat, v = .int .i64 j ∧ nv = .int .i64 ah ∧ j ≤ l.length ∧ Hid (ahK l j k = ah) ∧ Hid (Ext wo wr)) (fun v _ _ => l.length - (intOf v).toNat)
      case atStart => exact ⟨0, 0, rfl, rfl, by omega, A0, Ext.rf _⟩
      case round =>
        obtain ⟨wi, rfl⟩ : ∃ wi : World, wi = wr := ⟨_, rfl⟩
        clear A0
        obtain ⟨j, ah, rfl, rfl, hj, HA, YI⟩ := hrel
        have hale := AE.out j k
        rw [HA.out] at hale
        have rl : RdI wi A1 l := (hA.out.ext Y.out).ext YI.out
        obtain ⟨lb, lo, yk, rfl, _, ck, exk, _⟩ := rl.at (k := k) hlt
        by_cases hjl : j < l.length
        · have q3 : (j : Int) < (l.length : Int) := by omega
          obtain ⟨lb2, lo2, yj, hq, _, cj, exj, _⟩ := rl.at (k := j) hjl
          obtain ⟨rfl, rfl⟩ : lb = lb2 ∧ lo = lo2 := by simpa using hq
          have HA2 : Hid (ahK l (j + 1) k = ah + if (decide (yj < yk) || (decide (yj = yk) && decide (j < k))) = true then 1 else 0) := by
            have h := AS.out j k
            rw [HA.out, getD_some exk.out, getD_some exj.out] at h
            exact h
          clear HA exk exj hq rl
          by_cases t1 : yj < yk
          · have d1 : decide (yj < yk) = true := decide_eq_true t1
            have HA3 : Hid (ahK l (j + 1) k = ah + 1) := by
              have h := HA2.out
              rw [d1, Bool.true_or, if_pos rfl] at h
              exact h
            clear HA2
            go_wp2_with (fail)
            go_quiet (fail)
            go_wp2_with (fail)
            go_roundw
            case rel => exact ⟨j + 1, ah + 1, by go_num, by go_num, by omega, HA3, YI.out.drewN _⟩
            case measure => simp [intOf]; omega
          · have d1 : decide (yj < yk) = false := decide_eq_false t1
            by_cases t2 : yj = yk
            · have d2 : (yj == yk) = true := by rw [beq_iff_eq]; exact t2
              have d2' : decide (yj = yk) = true := decide_eq_true t2
              replace t2 := Lib.hid t2
              by_cases t3 : j < k
              · have d3 : decide (j < k) = true := decide_eq_true t3
                have HA3 : Hid (ahK l (j + 1) k = ah + 1) := by
                  have h := HA2.out
                  rw [d1, d2', d3] at h
                  exact h
                clear HA2 d2'
                go_wp2_with (fail)
                go_quiet (fail)
                go_wp2_with (fail)
                go_roundw
                case rel => exact ⟨j + 1, ah + 1, by go_num, by go_num, by omega, HA3, YI.out.drewN _⟩
                case measure => simp [intOf]; omega
              · have d3 : decide (j < k) = false := decide_eq_false t3
                have HA3 : Hid (ahK l (j + 1) k = ah) := by
                  have h := HA2.out
                  rw [d1, d2', d3] at h
                  exact h
                clear HA2 d2'
                go_wp2_with (fail)
                go_quiet (fail)
                go_wp2_with (fail)
                go_roundw
                case rel => exact ⟨j + 1, ah, by go_num, rfl, by omega, HA3, YI.out.drewN _⟩
                case measure => simp [intOf]; omega
            · have d2 : (yj == yk) = false := by rw [beq_eq_false_iff_ne]; exact t2
              have d2' : decide (yj = yk) = false := decide_eq_false t2
              have HA3 : Hid (ahK l (j + 1) k = ah) := by
                have h := HA2.out
                rw [d1, d2'] at h
                exact h
              clear HA2 d2'
              go_wp2_with (fail)
              go_quiet (fail)
              go_wp2_with (fail)
              go_roundw
              case rel => exact ⟨j + 1, ah, by go_num, rfl, by omega, HA3, YI.out.drewN _⟩
              case measure => simp [intOf]; omega
        · obtain rfl : j = l.length := by omega
          have q3 : ¬ (l.length : Int) < (l.length : Int) := by omega
          rw [HA.out] at hal HPK
          obtain ⟨v9, c9, f9, _, _, s9⟩ := OwI.cell (OwI.ext O.out YI.out) (k := ah) (by rw [PL.out]; exact hal)
          have q4 : (ah : Int) < (l.length : Int) := by omega
          have NX : Hid (∀ W2, Ext wi W2 → OwI (W2.setCell ⟨w.heap.size, ah, none⟩ (.int .i64 k)) w.heap.size (some ⟨w.heap.size, 0, none⟩) l.length (plK l (k + 1)) ∧ Ext w (W2.setCell ⟨w.heap.size, ah, none⟩ (.int .i64 k))) := by
            intro W2 x2
            rw [HPK.out]
            obtain ⟨_, _, _, _, _, s8⟩ := OwI.cell (OwI.ext (OwI.ext O.out YI.out) x2) (k := ah) (by rw [PL.out]; exact hal)
            exact ⟨s8.out _, ((Y.out.tr YI.out).tr x2).setNew (p := ⟨w.heap.size, ah, none⟩) (Nat.le_refl _) _⟩
          clear s9 HPK rl HA exk
          go_wp2_with (first | go_quiet (fail) | go_region)
          go_roundw
          case rel => exact ⟨k + 1, by go_num, by omega, NX.out _ (by (repeat (first | assumption | exact Ext.rf _ | apply Ext.drew | apply Ext.drewN | apply Ext.alloc)))⟩
          case measure => simp [intOf]; omega
    · obtain rfl : k = l.length := by omega
      have q2 : ¬ (l.length : Int) < (l.length : Int) := by omega
      obtain ⟨O, Y⟩ := HS.out
      rw [PF.out] at O
      replace O := Lib.hid O
      replace Y := Lib.hid Y
      clear HS
      go_wp2_with (fail)
      go_ret
      exact ⟨_, _, rfl, O.out, Y.out⟩
set_option maxRecDepth 100000 in
set_option maxHeartbeats 2000000 in
theorem rising_any (P : Option Addr) (pc : Nat) (l : List Int) (w : World) (hP : RdI w P l) (hl : l.length ≤ 1000) :
    Calls Try.prog 96 #[.slice P l.length pc] w (OwnL (rising l) w) := by
  have BK := fun (W : World) (x : Ext w W) => byKey_any P pc l W (hP.ext x) hl
  unfold OwnL at BK ⊢
  rw [intsN_len, byKey_len] at BK
  have bl1 := byKey_len l
  have BL : Hid (∀ k a, (byKey l)[k]? = some a → a < l.length) := fun k a h => byKey_lt h
  have RL := rising_len l
  have RE : rising l = (byKey l).map fun a => l.getD a 0 := rfl
  obtain ⟨R, hR⟩ : ∃ R, Hid (rising l = R) := ⟨_, rfl⟩
  rw [hR.out] at RE RL ⊢
  replace RE := Lib.hid RE
  rw [RL]
  replace BK := Lib.hid BK
  generalize byKey l = o at *
  replace hP := Lib.hid hP
  replace RL := Lib.hid RL
  replace bl1 := Lib.hid bl1
  clear hR
  go_enter Try.func96, Try.ntmps96
  go_wp2_with (fail)
  refine (BK.out _ (by (repeat (first | assumption | exact Ext.rf _ | apply Ext.drew | apply Ext.drewN | apply Ext.alloc)))).mono ?_
  rintro e w1 ⟨A1, c1, rfl, o1, x1⟩
  have X1 := Lib.hid (Ext.tr (a := w) (by (repeat (first | assumption | exact Ext.rf _ | apply Ext.drew | apply Ext.drewN | apply Ext.alloc))) x1)
  have r1 := Lib.hid o1.read
  have z1 := X1.out.size
  clear x1 o1 BK
  have S0 : Hid (OwI (w1.alloc (.cells #[] 3)) w1.heap.size (some ⟨w1.heap.size, 0, none⟩) 0 []) := OwI.empty (.new rfl) (Nat.le_refl _)
  go_wp2_with (fail)
  go_loopw [4, 5] (fun v4 v wr => ∃ (k : Nat) (B : Option Addr) (bc : Nat) (xs : List Int), v = .int .i64 k ∧ v4 = .slice B xs.length bc ∧ k ≤ l.length ∧ Hid (xs = (o.take k).map fun a => l.getD a 0) ∧ Hid (OwI wr w1.heap.size B bc xs) ∧ Hid (Ext w1 wr)) (fun _ v _ => l.length - (intOf v).toNat)
  case atStart => exact ⟨0, _, 0, [], rfl, rfl, by omega, rfl, S0.out.ext (by (repeat (first | assumption | exact Ext.rf _ | apply Ext.drew | apply Ext.drewN | apply Ext.alloc))), by (repeat (first | assumption | exact Ext.rf _ | apply Ext.drew | apply Ext.drewN | apply Ext.alloc))⟩
  case round =>
    obtain ⟨wo, rfl⟩ : ∃ wo : World, wo = wr := ⟨_, rfl⟩
    clear S0
    obtain ⟨k, B, bc, xs, rfl, rfl, hk, hx, oB, Y⟩ := hrel
    have lk : xs.length ≤ l.length := by rw [hx.out, List.length_map, List.length_take, bl1.out]; omega
    by_cases hlt : k < l.length
    · obtain ⟨a, ha⟩ : ∃ a, Hid (o[k]? = some a) := ⟨o[k]'(by rw [bl1.out]; exact hlt), List.getElem?_eq_getElem _⟩
      have hal := BL.out k a ha.out
      obtain ⟨ob, oo, av, rfl, zo, co, eo, _⟩ := (r1.out.ext Y.out).at (k := k) (by rw [intsN_len, bl1.out]; exact hlt)
      obtain rfl : av = (a : Int) := by
        have h := eo.out
        rw [intsN_get ha.out] at h
        exact (Option.some.inj h).symm
      obtain ⟨lb, lo, x, rfl, zl, cl, el, _⟩ := ((hP.out.ext X1.out).ext Y.out).at (k := a) hal
      have q1 : (k : Int) < (l.length : Int) := by omega
      have q2 : (a : Int) < (l.length : Int) := by omega
      have NX : Hid (xs ++ [x] = (o.take (k + 1)).map fun a => l.getD a 0) := by
        have h : xs ++ [x] = (o.take (k + 1)).map fun a => l.getD a 0 := by
          rw [List.take_add_one, ha.out, List.map_append, hx.out]
          simp [List.getD, el.out]
        exact h
      clear eo el hx
      go_wp2_with (at_builtin; (refine wpl_app_i _ rfl _ _ rfl w1.heap.size B xs.length bc xs [x] (some ⟨wo.heap.size, 0, none⟩) 1 rfl rfl rfl ?_ ?_ ?_ ?_ ?_; (exact oB.out.ext ((Ext.rf _).alloc _)); (exact .blk (.new (by simp)) rfl); (simp; omega); (have := Y.out.size; simp; omega); rintro A7 c7 w7 o7 g7 _; have Y7 : Ext w1 w7 := Ext.grow (a := w1) (Y.out.alloc _) g7 (fun kk hkk => (oB.out.lt kk hkk).1)))
      have O7 : Hid (OwI w7 w1.heap.size A7 c7 (xs ++ [x])) := o7
      replace Y7 := Lib.hid Y7
      clear o7 g7
      go_wp2_with (fail)
      go_roundw
      case rel => exact ⟨k + 1, A7, c7, xs ++ [x], by go_num, by first | rfl | simp, by omega, NX, OwI.ext O7.out (by (repeat (first | assumption | exact Ext.rf _ | apply Ext.drew | apply Ext.drewN | apply Ext.alloc))), Ext.tr Y7.out (by (repeat (first | assumption | exact Ext.rf _ | apply Ext.drew | apply Ext.drewN | apply Ext.alloc)))⟩
      case measure => simp [intOf]; omega
    · obtain rfl : k = l.length := by omega
      have E : Hid (xs = R) := by
        have h := hx.out
        rw [← bl1.out, List.take_length, ← RE.out] at h
        exact h
      have E2 : Hid (OwI wo w.heap.size B bc R) := by
        have h := oB.out
        rw [E.out] at h
        exact h.more z1
      have E3 : Hid (Value.slice B xs.length bc = .slice B l.length bc) := by
        have h : Value.slice B xs.length bc = .slice B l.length bc := by rw [E.out, RL.out]
        exact h
      rw [E3.out]
      go_wp2_with (fail)
      go_ret
      exact ⟨B, bc, rfl, E2.out.ext (by (repeat (first | assumption | exact Ext.rf _ | apply Ext.drew | apply Ext.drewN | apply Ext.alloc))), (X1.out.tr Y.out).tr (by (repeat (first | assumption | exact Ext.rf _ | apply Ext.drew | apply Ext.drewN | apply Ext.alloc)))⟩
end Go.Proofs.Ytcpadkaljnnieaa
namespace Go.Proofs.Ytcpadkaljnnieaa
open Go.RowKit Go.ChangeShapes Go.WideShapes Go.ChangeAt Go.Deep

set_option maxRecDepth 100000 in
set_option maxHeartbeats 4000000 in
theorem rkids_any (i : InstP) (us : List Value) (P : Option Addr) (c : Nat) (p : List Int) (w : World) (H : RInst w us i) (ok : KnapOk i) (hP : RdI w P p) (lp : p.length ≤ 1000000000) :
    Calls Try.prog 124 #[.agg (List.toArray us), .slice P p.length c] w (KidsPost (kidsP i.cap (wsP i) (vsP i) p).1 (kidsP i.cap (wsP i) (vsP i) p).2 w) := by
  have K := kok ok
  have lN := orderP_len ok
  have ST := fun (W : World) (x : Ext w W) => rstate_any i us P c p W (H.ext x) ok (hP.ext x) lp
  have LM : ∀ k q, (orderP i)[k]? = some q → q < i.weight.length := fun k q h => by
    have h1 := ratioP_lt h
    have := ok.w
    have := ok.v
    omega
  have EW : ∀ k q x, (orderP i)[k]? = some q → i.weight[q]? = some x → (wsP i)[k]? = some x := fun k q x h1 h2 => inOrder_get h1 h2
  have K2 := K.l64
  have K3 := K.lw
  generalize orderP i = l at *
  generalize wsP i = ws at *
  generalize vsP i = vs at *
  clear K ok
  obtain ⟨kind, nn, cap, xw, xv, co⟩ := i
  obtain ⟨A, a, B, b, D, d, rfl, ⟨rA, iA, lA, mA⟩, -, -⟩ := H
  simp only at *
  obtain ⟨n, rfl⟩ : ∃ n : Nat, nn = (n : Int) := ⟨nn.toNat, by omega⟩
  have hn : l.length = n := by omega
  clear lN
  have hn2 : n ≤ 64 := by omega
  replace ST := Lib.hid ST
  replace LM := Lib.hid LM
  replace EW := Lib.hid EW
  replace K3 := Lib.hid K3
  replace rA := Lib.hid rA
  replace iA := Lib.hid iA
  replace mA := Lib.hid mA
  replace hn := Lib.hid hn
  have B1 : Hid (Blk (w.alloc (.cells #[.int .i64 kind, .int .i64 n, .int .i64 cap, .slice A xw.length a, .slice B xv.length b, .slice D co.length d] 61)) w.heap.size 61 #[.int .i64 kind, .int .i64 n, .int .i64 cap, .slice A xw.length a, .slice B xv.length b, .slice D co.length d]) := .new rfl
  obtain ⟨ks, hks⟩ : ∃ ks, Hid (kidsP cap ws vs p = ks) := ⟨_, rfl⟩
  rw [hks.out]
  have HK : ∀ o, stP cap 0 ws vs p = o → ks = (match o with
    | none => ([], 1)
    | some (room, _) => match ws.drop p.length with
      | [] => ([], 0)
      | u :: _ => if u ≤ room then ([1, 0], 0) else ([0], 0)) := fun o ho => by subst ho; exact hks.out.symm
  have HL : Hid (∀ q, stP cap 0 ws vs p = some q → p.length ≤ n) := fun q hq => by
    by_cases h : ws.length < p.length
    · rw [stP_long h] at hq; cases hq
    · have h3 := K3.out; have h4 := hn.out; omega
  replace HK := Lib.hid HK
  obtain ⟨st, hst⟩ : ∃ st, Hid (stP cap 0 ws vs p = st) := ⟨_, rfl⟩
  rw [hst.out] at ST
  have HK2 := HK.out _ hst.out
  clear HK hks
  rcases st with _ | ⟨room, out⟩
  · simp only at HK2
    subst HK2
    go_enter Try.func124, Try.ntmps124
    go_wp2_with (fail)
    refine (ST.out _ (by (repeat (first | assumption | exact Ext.rf _ | apply Ext.drew | apply Ext.drewN | apply Ext.alloc)))).mono ?_
    rintro e w1 ⟨x1, rfl⟩
    have X1 := Ext.tr (a := w) (by (repeat (first | assumption | exact Ext.rf _ | apply Ext.drew | apply Ext.drewN | apply Ext.alloc))) x1
    go_wp2
    go_ret2
    exact ⟨none, 0, rfl, .inl rfl, by simp, by omega, X1⟩
  · have hle := HL.out _ hst.out
    simp only at HK2
    by_cases hpl : p.length = n
    · have hd : ws.drop p.length = [] := List.drop_of_length_le (by have h3 := K3.out; have h4 := hn.out; omega)
      rw [hd] at HK2
      simp only at HK2
      subst HK2
      have hpl' : ((p.length : Int) == (n : Int)) = true := by rw [beq_iff_eq]; omega
      clear hd hpl
      go_enter Try.func124, Try.ntmps124
      go_wp2_with (fail)
      refine (ST.out _ (by (repeat (first | assumption | exact Ext.rf _ | apply Ext.drew | apply Ext.drewN | apply Ext.alloc)))).mono ?_
      rintro e w1 ⟨x1, LA, lc, rfl, rL⟩
      have X1 := Ext.tr (a := w) (by (repeat (first | assumption | exact Ext.rf _ | apply Ext.drew | apply Ext.drewN | apply Ext.alloc))) x1
      have d1 : w1.cell? ⟨w.heap.size, 1, none⟩ = some (.int .i64 n) := (B1.out.ext x1).cell 1
      go_wp2
      go_ret2
      exact ⟨none, 0, rfl, .inl rfl, by simp, by omega, X1⟩
    · have hpn : p.length < n := by omega
      have hpl' : ((p.length : Int) == (n : Int)) = false := by rw [beq_eq_false_iff_ne]; omega
      have hkl : p.length < l.length := by rw [hn.out]; exact hpn
      obtain ⟨q, hq0⟩ : ∃ q, Hid (l[p.length]? = some q) := ⟨l[p.length], List.getElem?_eq_getElem hkl⟩
      have hqw := LM.out _ q hq0.out
      obtain ⟨wb, wo, u, rfl, zu, cu, eu, _⟩ := rA.out.at hqw
      have du : ws.drop p.length = u :: ws.drop (p.length + 1) := by
        obtain ⟨h1, h2⟩ := List.getElem?_eq_some_iff.1 (EW.out _ q u hq0.out eu.out)
        rw [List.drop_eq_getElem_cons h1, h2]
      rw [du] at HK2
      simp only at HK2
      have qi1 : (q : Int) < (xw.length : Int) := by omega
      have qi3 : (p.length : Int) < (l.length : Int) := by omega
      clear du hpl eu
      have step : ∀ (W : World), W.cell? ⟨w.heap.size, 1, none⟩ = some (.int .i64 n) → True := fun _ _ => trivial
      clear step
      by_cases hu : u ≤ room
      · rw [if_pos hu] at HK2
        subst HK2
        go_enter Try.func124, Try.ntmps124
        go_wp2_with (fail)
        refine (ST.out _ (by (repeat (first | assumption | exact Ext.rf _ | apply Ext.drew | apply Ext.drewN | apply Ext.alloc)))).mono ?_
        rintro e w1 ⟨x1, LA, lc, rfl, rL⟩
        have X1 := Ext.tr (a := w) (by (repeat (first | assumption | exact Ext.rf _ | apply Ext.drew | apply Ext.drewN | apply Ext.alloc))) x1
        have d1 : w1.cell? ⟨w.heap.size, 1, none⟩ = some (.int .i64 n) := (B1.out.ext x1).cell 1
        have d3 : w1.cell? ⟨w.heap.size, 3, none⟩ = some (.slice (some ⟨wb, wo, none⟩) xw.length a) := (B1.out.ext x1).cell 3
        obtain ⟨qb, qo, qi, rfl, zq, cq, eq, _⟩ := rL.at (k := p.length) (by rw [nl_len]; exact hkl)
        obtain rfl : qi = (q : Int) := by
          have h1 := nl_get hq0.out
          rw [eq.out] at h1
          exact Option.some.inj h1
        have ku := keepEL X1 zu cu
        clear eq rL
        go_wp2_with (go_quiet (fail))
        all_goals go_ret2
        all_goals exact ⟨some ⟨w1.heap.size, 0, none⟩, 2, rfl, .blk (by (first | exact .new (by simp) | exact .drew (.new (by simp)) | exact .alloc (.new (by simp)) _ | exact .drew (.alloc (.new (by simp)) _) | exact .alloc (.alloc (.new (by simp)) _) _ | exact .drew (.alloc (.alloc (.new (by simp)) _) _) | (repeat (first | assumption | (refine Blk.new ?_; (focus (simp; done))) | apply Blk.drew | apply Blk.drewN | apply Blk.alloc)))) rfl, by simp, by omega, by (repeat (first | assumption | exact Ext.rf _ | apply Ext.drew | apply Ext.drewN | apply Ext.alloc))⟩
      · rw [if_neg hu] at HK2
        subst HK2
        go_enter Try.func124, Try.ntmps124
        go_wp2_with (fail)
        refine (ST.out _ (by (repeat (first | assumption | exact Ext.rf _ | apply Ext.drew | apply Ext.drewN | apply Ext.alloc)))).mono ?_
        rintro e w1 ⟨x1, LA, lc, rfl, rL⟩
        have X1 := Ext.tr (a := w) (by (repeat (first | assumption | exact Ext.rf _ | apply Ext.drew | apply Ext.drewN | apply Ext.alloc))) x1
        have d1 : w1.cell? ⟨w.heap.size, 1, none⟩ = some (.int .i64 n) := (B1.out.ext x1).cell 1
        have d3 : w1.cell? ⟨w.heap.size, 3, none⟩ = some (.slice (some ⟨wb, wo, none⟩) xw.length a) := (B1.out.ext x1).cell 3
        obtain ⟨qb, qo, qi, rfl, zq, cq, eq, _⟩ := rL.at (k := p.length) (by rw [nl_len]; exact hkl)
        obtain rfl : qi = (q : Int) := by
          have h1 := nl_get hq0.out
          rw [eq.out] at h1
          exact Option.some.inj h1
        have ku := keepEL X1 zu cu
        clear eq rL
        go_wp2_with (go_quiet (fail))
        all_goals go_ret2
        all_goals exact ⟨some ⟨w1.heap.size, 0, none⟩, 1, rfl, .blk (by (first | exact .new (by simp) | exact .drew (.new (by simp)) | exact .alloc (.new (by simp)) _ | exact .drew (.alloc (.new (by simp)) _) | exact .alloc (.alloc (.new (by simp)) _) _ | exact .drew (.alloc (.alloc (.new (by simp)) _) _) | (repeat (first | assumption | (refine Blk.new ?_; (focus (simp; done))) | apply Blk.drew | apply Blk.drewN | apply Blk.alloc)))) rfl, by simp, by omega, by (repeat (first | assumption | exact Ext.rf _ | apply Ext.drew | apply Ext.drewN | apply Ext.alloc))⟩
end Go.Proofs.Ytcpadkaljnnieaa
namespace Go.Proofs.Ytcpadkaljnnieaa
open Go.RowKit Go.ChangeShapes Go.WideShapes Go.ChangeAt Go.Deep

end Go.Proofs.Ytcpadkaljnnieaa
namespace Go.Proofs.Ytcpadkaljnnieaa
open Go.RowKit Go.ChangeShapes Go.WideShapes Go.ChangeAt Go.Deep

set_option maxRecDepth 100000 in
set_option maxHeartbeats 4000000 in
theorem rbound_any (i : InstP) (us : List Value) (P : Option Addr) (c : Nat) (p : List Int) (w : World) (H : RInst w us i) (ok : KnapOk i) (hP : RdI w P p) (lp : p.length ≤ 1000000000) :
    Calls Try.prog 91 #[.agg (List.toArray us), .slice P p.length c] w fun e w' => e = .returned (BoundVal (boundP i.cap (wsP i) (vsP i) p)) ∧ Ext w w' := by
  have K := kok ok
  have lN := orderP_len ok
  have ST := fun (W : World) (x : Ext w W) => rstate_any i us P c p W (H.ext x) ok (hP.ext x) lp
  have LM : ∀ k q, (orderP i)[k]? = some q → q < i.weight.length ∧ q < i.value.length := fun k q h => by
    have h1 := ratioP_lt h
    have := ok.w
    have := ok.v
    omega
  have EW : ∀ k q x, (orderP i)[k]? = some q → i.weight[q]? = some x → (wsP i)[k]? = some x := fun k q x h1 h2 => inOrder_get h1 h2
  have EV : ∀ k q x, (orderP i)[k]? = some q → i.value[q]? = some x → (vsP i)[k]? = some x := fun k q x h1 h2 => inOrder_get h1 h2
  have K1 := K.cap
  have K2 := K.l64
  have K3 := K.lw
  have K4 := K.lv
  have K5 := K.sw
  have K6 := K.sv
  generalize orderP i = l at *
  generalize wsP i = ws at *
  generalize vsP i = vs at *
  clear K ok
  obtain ⟨kind, nn, cap, xw, xv, co⟩ := i
  obtain ⟨A, a, B, b, D, d, rfl, ⟨rA, iA, lA, mA⟩, ⟨rB, iB, lB, mB⟩, -⟩ := H
  simp only at *
  obtain ⟨n, rfl⟩ : ∃ n : Nat, nn = (n : Int) := ⟨nn.toNat, by omega⟩
  have hn : l.length = n := by omega
  clear lN
  have hn2 : n ≤ 64 := by omega
  replace ST := Lib.hid ST
  replace LM := Lib.hid LM
  replace EW := Lib.hid EW
  replace EV := Lib.hid EV
  replace K3 := Lib.hid K3
  replace K4 := Lib.hid K4
  replace K5 := Lib.hid K5
  replace K6 := Lib.hid K6
  replace rA := Lib.hid rA
  replace rB := Lib.hid rB
  replace iA := Lib.hid iA
  replace iB := Lib.hid iB
  replace mA := Lib.hid mA
  replace mB := Lib.hid mB
  replace hn := Lib.hid hn
  have B1 : Hid (Blk (w.alloc (.cells #[.int .i64 kind, .int .i64 n, .int .i64 cap, .slice A xw.length a, .slice B xv.length b, .slice D co.length d] 61)) w.heap.size 61 #[.int .i64 kind, .int .i64 n, .int .i64 cap, .slice A xw.length a, .slice B xv.length b, .slice D co.length d]) := .new rfl
  obtain ⟨bd, hbd⟩ : ∃ bd, Hid (boundP cap ws vs p = bd) := ⟨_, rfl⟩
  rw [hbd.out]
  have HK : ∀ o, stP cap 0 ws vs p = o → bd = (match o with
    | none => (0, 1)
    | some (room, out) => (out + sumL (vs.drop p.length) - bringsP room (ws.drop p.length) (vs.drop p.length), 0)) := fun o ho => by subst ho; exact hbd.out.symm
  have HL : Hid (∀ q, stP cap 0 ws vs p = some q → p.length ≤ n) := fun q hq => by
    by_cases h : ws.length < p.length
    · rw [stP_long h] at hq; cases hq
    · have h3 := K3.out; have h4 := hn.out; omega
  replace HK := Lib.hid HK
  obtain ⟨st, hst⟩ : ∃ st, Hid (stP cap 0 ws vs p = st) := ⟨_, rfl⟩
  rw [hst.out] at ST
  have HK2 := HK.out _ hst.out
  clear HK hbd
  rcases st with _ | ⟨room, out⟩
  · simp only at HK2
    subst HK2
    go_enter Try.func91, Try.ntmps91
    go_wp2_with (fail)
    refine (ST.out _ (by (repeat (first | assumption | exact Ext.rf _ | apply Ext.drew | apply Ext.drewN | apply Ext.alloc)))).mono ?_
    rintro e w1 ⟨x1, rfl⟩
    have X1 := Ext.tr (a := w) (by (repeat (first | assumption | exact Ext.rf _ | apply Ext.drew | apply Ext.drewN | apply Ext.alloc))) x1
    go_wp2
    go_ret2
    exact ⟨rfl, X1⟩
  · simp only at HK2
    have hle := HL.out _ hst.out
    have bR := stP_room (fun x hx => (K5.out x hx).1) K1.1 hst.out
    have bO := stP_out K6.out hst.out
    obtain ⟨T, hT⟩ : ∃ T, Hid (T = sumL (vs.drop p.length)) := ⟨_, rfl⟩
    obtain ⟨G, hG⟩ : ∃ G, Hid (G = bringsP room (ws.drop p.length) (vs.drop p.length)) := ⟨_, rfl⟩
    rw [← hT.out, ← hG.out] at HK2
    subst HK2
    have bT := sumL_bd K6.out p.length
    have b0 : 0 ≤ G := by
      rw [hG.out]
      exact bringsP_nonneg bR.1 (fun x hx => (K5.out x (List.mem_of_mem_drop hx)).1) (fun x hx => (K6.out x (List.mem_of_mem_drop hx)).1)
    have b9 : G ≤ T := by
      rw [hG.out, hT.out]
      exact bringsP_le bR.1 (fun x hx => (K5.out x (List.mem_of_mem_drop hx)).1) (fun x hx => (K6.out x (List.mem_of_mem_drop hx)).1)
    have bT2 : T ≤ 137438953408 := by
      have h3 := K4.out
      have h4 := hn.out
      rw [← hT.out] at bT
      have := bT.2
      omega
    clear bT
    obtain ⟨bR1, bR2⟩ := bR
    obtain ⟨bO1, bO2⟩ := bO
    obtain ⟨kc1, kc2⟩ := K1
    go_enter Try.func91, Try.ntmps91
    go_wp2_with (fail)
    refine (ST.out _ (by (repeat (first | assumption | exact Ext.rf _ | apply Ext.drew | apply Ext.drewN | apply Ext.alloc)))).mono ?_
    rintro e w1 ⟨x1, LA, lc, rfl, rL⟩
    have X1 := Lib.hid (Ext.tr (a := w) (by (repeat (first | assumption | exact Ext.rf _ | apply Ext.drew | apply Ext.drewN | apply Ext.alloc))) x1)
    have BB := Lib.hid (B1.out.ext x1)
    have d1 : w1.cell? ⟨w.heap.size, 1, none⟩ = some (.int .i64 n) := BB.out.cell 1
    have d3 : w1.cell? ⟨w.heap.size, 3, none⟩ = some (.slice A xw.length a) := BB.out.cell 3
    have d4 : w1.cell? ⟨w.heap.size, 4, none⟩ = some (.slice B xv.length b) := BB.out.cell 4
    have zb := BB.out.lt
    replace rL := Lib.hid rL
    clear x1
    go_wp2_with (fail)
    go_loopw [7, 10, 11, 12, 13] (fun r t u m i wr => ∃ (k : Nat) (rm rest up : Int) (more : Bool), i = .int .i64 k ∧ r = .int .i64 rm ∧ t = .int .i64 rest ∧ u = .int .i64 up ∧ m = .bool more ∧ k ≤ n ∧ 0 ≤ rm ∧ rm ≤ 2147483647 ∧ 0 ≤ rest ∧ rest ≤ 2147483647 * (k : Int) ∧ 0 ≤ up ∧ up ≤ rest ∧
        Hid (T = rest + sumL (vs.drop k)) ∧ Hid (if more = true then G = up + bringsP rm (ws.drop k) (vs.drop k) else G = up) ∧ Ext w1 wr) (fun _ _ _ _ i _ => n - (intOf i).toNat)
    case atStart => exact ⟨p.length, room, 0, 0, true, rfl, rfl, rfl, rfl, rfl, hle, bR1, by omega, by omega, by omega, by omega, by omega, by rw [Int.zero_add]; exact hT, by
      have h : G = 0 + bringsP room (ws.drop p.length) (vs.drop p.length) := by rw [Int.zero_add]; exact hG.out
      exact h, Ext.rf _⟩
    case round =>
      obtain ⟨wo, rfl⟩ : ∃ wo : World, wo = wr := ⟨_, rfl⟩
      obtain ⟨k, rm, rest, up, more, rfl, rfl, rfl, rfl, rfl, hk, q1, q2, q3, q4, q5, q6, HT, HG, Y⟩ := hrel
      have e1 := keepEL Y zb d1
      by_cases hlt : k < n
      · have hkl : k < l.length := by rw [hn.out]; exact hlt
        obtain ⟨q, hq0⟩ : ∃ q, Hid (l[k]? = some q) := ⟨l[k], List.getElem?_eq_getElem hkl⟩
        obtain ⟨qb, qo, qi, rfl, zq, cq, eq, _⟩ := (rL.out.ext Y).at (k := k) (by rw [nl_len]; exact hkl)
        obtain rfl : qi = (q : Int) := by
          have h1 := nl_get hq0.out
          rw [eq.out] at h1
          exact Option.some.inj h1
        obtain ⟨hqw, hqv⟩ := LM.out k q hq0.out
        obtain ⟨wb, wo', u, rfl, zu, cu, eu, _⟩ := (rA.out.ext (X1.out.tr Y)).at hqw
        obtain ⟨vb, vo', v, rfl, zv, cv, ev, _⟩ := (rB.out.ext (X1.out.tr Y)).at hqv
        have du : Hid (ws.drop k = u :: ws.drop (k + 1)) := by
          obtain ⟨h1, h2⟩ := List.getElem?_eq_some_iff.1 (EW.out k q u hq0.out eu.out)
          exact (by rw [List.drop_eq_getElem_cons h1, h2] : ws.drop k = u :: ws.drop (k + 1))
        have dv : Hid (vs.drop k = v :: vs.drop (k + 1)) := by
          obtain ⟨h1, h2⟩ := List.getElem?_eq_some_iff.1 (EV.out k q v hq0.out ev.out)
          exact (by rw [List.drop_eq_getElem_cons h1, h2] : vs.drop k = v :: vs.drop (k + 1))
        have bu := K5.out.get (EW.out k q u hq0.out eu.out)
        have bv := K6.out.get (EV.out k q v hq0.out ev.out)
        have e3 := keepEL Y zb d3
        have e4 := keepEL Y zb d4
        have qi1 : (q : Int) < (xw.length : Int) := by omega
        have qi2 : (q : Int) < (xv.length : Int) := by omega
        have qi3 : (k : Int) < (l.length : Int) := by omega
        have HT2 : Hid (T = (rest + v) + sumL (vs.drop (k + 1))) := by
          have h := HT.out
          rw [dv.out] at h
          simp only [sumL] at h
          have h2 : T = (rest + v) + sumL (vs.drop (k + 1)) := by omega
          exact h2
        clear HT eu ev eq
        cases more with
        | false =>
          have hG2 : (if (false : Bool) = true then G = up + bringsP rm (ws.drop (k + 1)) (vs.drop (k + 1)) else G = up) := by
            have h := HG.out
            rw [if_neg (by decide)] at h ⊢
            exact h
          have HG2 := Lib.hid hG2
          clear hG2 HG du dv
          go_wp2_with (go_quiet (fail))
          go_roundw
          case rel => exact ⟨k + 1, rm, rest + v, up, false, by go_num, rfl, rfl, rfl, rfl, by omega, by omega, by omega, by omega, by omega, by omega, by omega, HT2, HG2, by repeat (first | exact Y | apply Ext.drewN)⟩
          case measure => simp [intOf]; omega
        | true =>
          have hG1 : G = up + bringsP rm (u :: ws.drop (k + 1)) (v :: vs.drop (k + 1)) := by
            have h := HG.out
            rw [if_pos rfl, du.out, dv.out] at h
            exact h
          replace hG1 := Lib.hid hG1
          clear HG du dv
          by_cases hle2 : u ≤ rm
          · have hG2 : (if (true : Bool) = true then G = (up + v) + bringsP (rm - u) (ws.drop (k + 1)) (vs.drop (k + 1)) else G = up + v) := by
              have h := hG1.out
              rw [bringsP, if_neg (by omega), ← Int.add_assoc] at h
              rw [if_pos rfl]
              exact h
            have HG2 := Lib.hid hG2
            clear hG2
            go_wp2_with (go_quiet (fail))
            go_roundw
            case rel => exact ⟨k + 1, rm - u, rest + v, up + v, true, by go_num, rfl, rfl, rfl, rfl, by omega, by omega, by omega, by omega, by omega, by omega, by omega, HT2, HG2, by repeat (first | exact Y | apply Ext.drewN)⟩
            case measure => simp [intOf]; omega
          · have hm := mul_bd bv.1 bv.2 q1 q2
            have hpos : 0 < u := by omega
            have hqv2 : v * rm / u ≤ v := by
              have h1 : v * rm ≤ v * u := Int.mul_le_mul_of_nonneg_left (by omega) bv.1
              have h2 : v * rm / u ≤ v * u / u := Int.ediv_le_ediv hpos h1
              rwa [Int.mul_ediv_cancel _ (by omega)] at h2
            have hq0' : 0 ≤ v * rm / u := Int.ediv_nonneg hm.1 (by omega)
            have hG2 : (if (false : Bool) = true then G = (up + v * rm / u) + bringsP rm (ws.drop (k + 1)) (vs.drop (k + 1)) else G = up + v * rm / u) := by
              have h := hG1.out
              rw [bringsP, if_pos (by omega)] at h
              rw [if_neg (by decide)]
              exact h
            have HG2 := Lib.hid hG2
            clear hG2
            obtain ⟨z, hz⟩ : ∃ z, Hid (z = v * rm / u) := ⟨_, rfl⟩
            rw [← hz.out] at hqv2 hq0' HG2
            have w1' : wrap64 (v * rm) = v * rm := IntWalk.wrap64_in _ ⟨by omega, by omega⟩
            have w2' : (v * rm).tdiv u = z := by rw [Int.tdiv_eq_ediv_of_nonneg hm.1, hz.out]
            have w3' : v * rm / u = z := hz.out.symm
            clear hm
            go_wp2_with (go_quiet (fail))
            go_roundw
            case rel => exact ⟨k + 1, rm, rest + v, up + z, false, by go_num, rfl, rfl, rfl, rfl, by omega, by omega, by omega, by omega, by omega, by omega, by omega, HT2, HG2, by repeat (first | exact Y | apply Ext.drewN)⟩
            case measure => simp [intOf]; omega
      · obtain rfl : k = n := by omega
        have HT2 : Hid (rest = T) := by
          have h := HT.out
          rw [List.drop_of_length_le (l := vs) (i := k) (by have h3 := K4.out; have h4 := hn.out; omega)] at h
          simp only [sumL] at h
          have h2 : rest = T := by omega
          exact h2
        have HG2 : Hid (up = G) := by
          have h := HG.out
          rw [List.drop_of_length_le (l := ws) (i := k) (by have h3 := K3.out; have h4 := hn.out; omega)] at h
          have h0 : bringsP rm [] (vs.drop k) = 0 := by cases vs.drop k <;> rfl
          rw [h0, Int.add_zero] at h
          have h2 : up = G := by
            cases more with
            | true => rw [if_pos rfl] at h; exact h.symm
            | false => rw [if_neg (by decide)] at h; exact h.symm
          exact h2
        obtain rfl := HT2.out
        obtain rfl := HG2.out
        clear HT HG hT hG HT2 HG2
        go_wp2_with (fail)
        go_ret2
        exact ⟨rfl, X1.out.tr Y⟩
end Go.Proofs.Ytcpadkaljnnieaa
