/-
  log.Join: what it answers.
-/
import Derived.Test.YtpngflmngnjjoaaRecG
namespace Go.Proofs.Ytpngflmngnjjoaa
open Go.RowKit Go.ChangeShapes Go.WideShapes Go.ChangeAt Go.Deep

theorem RecsO.app {w : World} {base : Nat} {us vs : List Value} {rs qs : List Rec} (h : RecsO w base us rs) (k : RecsO w base vs qs) : RecsO w base (us ++ vs) (rs ++ qs) := by
  refine ⟨by rw [List.length_append, List.length_append, h.1, k.1, Nat.add_mul], fun i r hr => ?_⟩
  by_cases hi : i < rs.length
  · rw [List.getElem?_append_left hi] at hr
    obtain ⟨A, c, h1, h2, h3⟩ := h.2 i r hr
    have := h.1
    exact ⟨A, c, by rw [List.getElem?_append_left (by omega)]; exact h1, by rw [List.getElem?_append_left (by omega)]; exact h2, h3⟩
  · rw [List.getElem?_append_right (by omega)] at hr
    obtain ⟨A, c, h1, h2, h3⟩ := k.2 _ r hr
    have := h.1
    refine ⟨A, c, ?_, ?_, h3⟩
    · rw [List.getElem?_append_right (by omega), show i * 2 - us.length = (i - rs.length) * 2 by omega]; exact h1
    · rw [List.getElem?_append_right (by omega), show i * 2 + 1 - us.length = (i - rs.length) * 2 + 1 by omega]; exact h2
theorem RecsO.one {w : World} {base : Nat} {vs : List Value} {rs : List Rec} (h : RecsO w base vs rs) : ∀ u ∈ vs, u.oneCell' = true := by
  intro u hu
  obtain ⟨j, hj, rfl⟩ := List.mem_iff_getElem.1 hu
  have hl := h.1
  have hi : j / 2 < rs.length := by omega
  obtain ⟨A, c, h1, h2, _⟩ := h.2 (j / 2) _ (recAt_get hi)
  rcases Nat.mod_two_eq_zero_or_one j with e | e
  · rw [show j / 2 * 2 = j by omega, List.getElem?_eq_getElem hj] at h1
    rw [Option.some.inj h1]; rfl
  · rw [show j / 2 * 2 + 1 = j by omega, List.getElem?_eq_getElem hj] at h2
    rw [Option.some.inj h2]; rfl
/-- logs, some of them nobody's -/
def LogsAt (w : World) (base : Nat) (ps : List Value) (rss : List (List Rec)) : Prop := ps.length = rss.length ∧ ∀ (i : Nat) (rs : List Rec), rss[i]? = some rs → (ps[i]? = some (Value.pointer none) ∧ rs = []) ∨ ∃ g, ps[i]? = some (Value.pointer (some ⟨g, 0, none⟩)) ∧ LogRep w base g rs
def JoinPost (rs : List Rec) (w : World) (e : Ending) (w' : World) : Prop := ∃ A c, e = .returned (.slice A rs.length c) ∧ RecSl w' w.heap.size 43 A c (sortedR rs) ∧ Ext w w'
theorem flat_take {rss : List (List Rec)} {k : Nat} {rs : List Rec} (h : rss[k]? = some rs) : (rss.take (k + 1)).flatten = (rss.take k).flatten ++ rs := by
  rw [List.take_add_one, h, List.flatten_append]
  simp
theorem flat_le {rss : List (List Rec)} {k : Nat} {rs : List Rec} (h : rss[k]? = some rs) : (rss.take k).flatten.length + rs.length ≤ rss.flatten.length := by
  have e := congrArg List.length (congrArg List.flatten (List.take_append_drop (k + 1) rss))
  rw [List.flatten_append, flat_take h, List.length_append, List.length_append] at e
  omega
set_option maxRecDepth 100000 in
set_option maxHeartbeats 1000000 in
theorem join_any (base : Nat) (P : Option Addr) (cp : Nat) (ps : List Value) (rss : List (List Rec)) (al : List Rec) (hal : al = rss.flatten) (w : World) (hP : RdV w 23 P ps) (hL : LogsAt w base ps rss) (hn : ps.length ≤ 1000) (hl : al.length ≤ 1000) (hp : ∀ r ∈ al, r.path.length ≤ 1000) :
    Calls Try.prog 5 #[.slice P ps.length cp] w (JoinPost al w) := by
  replace hal := Lib.hid hal
  obtain ⟨i0, hi, hz0, hz1, hz2⟩ := info_parts rec_info
  replace hi := Lib.hid hi
  replace hz0 := Lib.hid hz0
  replace hz1 := Lib.hid hz1
  replace hz2 := Lib.hid hz2
  have hlen := Lib.hid hL.1
  replace hL := Lib.hid hL
  replace hP := Lib.hid hP
  replace hp := Lib.hid hp
  go_enter Try.func5, Try.ntmps5
  go_wp2_with (fail)
  go_loopw [3, 8] (fun v i wr => ∃ (k n : Nat) (A' : Option Addr) (c' : Nat) (us : List Value), i = .int .i64 k ∧ v = .slice A' n c' ∧ k ≤ ps.length ∧ Hid (n = (rss.take k).flatten.length) ∧ Hid (OwV wr w.heap.size 43 2 A' n c' us) ∧ Hid (RecsO wr w.heap.size us (rss.take k).flatten) ∧ Ext w wr) (fun _ i _ => ps.length - (intOf i).toNat)
  case atStart => exact ⟨0, 0, none, 0, [], rfl, rfl, by omega, Lib.hid (by simp), OwV.nil _ _ _ _, Lib.hid (by simpa using RecsO.nil w w.heap.size), Ext.rf _⟩
  case round =>
    obtain ⟨k, n, A', c', us, rfl, rfl, hk, hnn, ho, hV, X⟩ := hrel
    by_cases hlt : k < ps.length
    · obtain ⟨rs, hrs⟩ : ∃ rs, rss[k]? = some rs := ⟨_, List.getElem?_eq_getElem (by rw [← hlen.out]; exact hlt)⟩
      have hft := Lib.hid (flat_take hrs)
      have hfl := Lib.hid (flat_le hrs)
      have hn1 : n + rs.length ≤ 1000 := by rw [hnn.out]; have := hfl.out; rw [hal.out] at hl; omega
      have hzr := X.size
      have hmem : Hid (∀ r ∈ rs, r.path.length ≤ 1000) := fun r hr => hp.out r (by rw [hal.out]; exact List.mem_flatten.2 ⟨rs, List.mem_of_getElem? hrs, hr⟩)
      obtain ⟨pb, po, v, rfl, hpb, hc, hv⟩ := (hP.out.ext X).at hlt
      rcases hL.out.2 k rs hrs with ⟨e1, rfl⟩ | ⟨g, e1, hR⟩
      · have ev := hv.out
        rw [e1] at ev
        obtain rfl := Option.some.inj ev
        clear ev hv e1 hrs
        go_wp2_with (fail)
        refine (all_none _).mono ?_
        rintro e w2 ⟨rfl, rfl⟩
        go_wp2_with (at_builtin; refine wpl_app_v _ (e := 43) Try.underlying26 hi.out hz0.out hz1.out hz2.out (by simp [Value.cells]) (by omega) rfl _ _ rfl w.heap.size A' n c' us none 0 0 [] rfl rfl ?_ ?_ ?_ ?_ ?_ ?_ ?_ ?_; (exact ho.out.ext (by (repeat (first | assumption | exact Ext.rf _ | apply Ext.drew | apply Ext.drewN | apply Ext.alloc)))); (exact (RdV.nil _ 43 _).rdC); (simp); (simp); (simp only [maxLen]; omega); omega; (first | exact Nat.le_refl _ | omega | (focus (simp; try omega))); rintro A5 c5 w5 o5 g5 _)
        have M5 : ModT w.heap.size [43] wr w5 := (ModT.of_ext (by (repeat (first | assumption | exact Ext.rf _ | apply Ext.drew | apply Ext.drewN | apply Ext.alloc)))).tr ((ho.out.ext (by (repeat (first | assumption | exact Ext.rf _ | apply Ext.drew | apply Ext.drewN | apply Ext.alloc)))).grownT g5)
        have o6 := Lib.hid o5
        have V6 : Hid (RecsO w5 w.heap.size (us ++ []) (rss.take (k + 1)).flatten) := by
          rw [hft.out, List.append_nil, List.append_nil]
          exact hV.out.modT M5 (by decide)
        have hn6 : Hid (n + 0 = (rss.take (k + 1)).flatten.length) := by
          rw [hft.out, hnn.out, List.length_append]
          exact rfl
        clear o5
        go_roundw
        case rel => exact ⟨k + 1, n + 0, A5, c5, us ++ [], by go_num, rfl, by omega, hn6, o6, V6, X.modT M5 (Nat.le_refl _)⟩
        case measure => simp [intOf]; omega
      · have ev := hv.out
        rw [e1] at ev
        obtain rfl := Option.some.inj ev
        have hR := Lib.hid hR
        clear ev hv e1 hrs
        go_wp2_with (fail)
        refine (all_any g base rs _ (hR.out.ext (by (repeat (first | assumption | exact Ext.rf _ | apply Ext.drew | apply Ext.drewN | apply Ext.alloc)))) (by omega) (fun r hr => by have := hmem.out r hr; omega)).mono ?_
        rintro e w2 ⟨A3, c3, rfl, ⟨vs, o3, r3⟩, x3⟩
        have y3 := Ext.tr (a := wr) (by (repeat (first | assumption | exact Ext.rf _ | apply Ext.drew | apply Ext.drewN | apply Ext.alloc))) x3
        have hz3 := y3.size
        have h3l := Lib.hid o3.len
        have h31 := Lib.hid r3.one
        have h3r := Lib.hid o3.read.rdC
        have o4 := Lib.hid (ho.out.ext y3)
        have V4 := Lib.hid (hV.out.ext y3)
        have r4 := Lib.hid (r3.more (base' := w.heap.size) (by simpa using hzr))
        have X4 := X.tr y3
        clear ho hV o3 r3 x3 X
        go_wp2_with (at_builtin; refine wpl_app_v _ (e := 43) Try.underlying26 hi.out hz0.out hz1.out hz2.out (by simp [Value.cells]) (by omega) rfl _ _ rfl w.heap.size A' n c' us A3 rs.length c3 vs rfl rfl ?_ ?_ ?_ ?_ ?_ ?_ ?_ ?_; (exact o4.out.ext (by (repeat (first | assumption | exact Ext.rf _ | apply Ext.drew | apply Ext.drewN | apply Ext.alloc)))); (exact h3r.out.ext (by (repeat (first | assumption | exact Ext.rf _ | apply Ext.drew | apply Ext.drewN | apply Ext.alloc)))); (exact h3l.out); (exact h31.out); (simp only [maxLen]; omega); omega; (first | exact Nat.le_refl _ | omega | (focus (simp; try omega))); rintro A5 c5 w5 o5 g5 _)
        have M5 : ModT w.heap.size [43] w2 w5 := (ModT.of_ext (by (repeat (first | assumption | exact Ext.rf _ | apply Ext.drew | apply Ext.drewN | apply Ext.alloc)))).tr ((o4.out.ext (by (repeat (first | assumption | exact Ext.rf _ | apply Ext.drew | apply Ext.drewN | apply Ext.alloc)))).grownT g5)
        have o6 := Lib.hid o5
        have V6 : Hid (RecsO w5 w.heap.size (us ++ vs) (rss.take (k + 1)).flatten) := by
          rw [hft.out]
          exact (V4.out.modT M5 (by decide)).app (r4.out.modT M5 (by decide))
        have hn6 : Hid (n + rs.length = (rss.take (k + 1)).flatten.length) := by
          rw [hft.out, hnn.out, List.length_append]
          exact rfl
        clear o5
        go_roundw
        case rel => exact ⟨k + 1, n + rs.length, A5, c5, us ++ vs, by go_num, rfl, by omega, hn6, o6, V6, X4.modT M5 (Nat.le_refl _)⟩
        case measure => simp [intOf]; omega
    · obtain rfl : k = ps.length := by omega
      have hall : Hid (rss.take ps.length = rss) := by
        rw [hlen.out]
        exact List.take_length
      have en := hnn.out
      rw [hall.out] at en
      rw [← hal.out] at en
      subst en
      have HS : Hid (RecSl wr w.heap.size 43 A' c' al) := ⟨us, ho.out, by have := hV.out; rwa [hall.out, ← hal.out] at this⟩
      clear ho hV hnn
      go_wp2_with (fail)
      refine (sortrecs_any w.heap.size A' c' al _ (HS.out.ext (by (repeat (first | assumption | exact Ext.rf _ | apply Ext.drew | apply Ext.drewN | apply Ext.alloc)))) hl hp.out).mono ?_
      rintro e w2 ⟨rfl, s2, m2⟩
      have s3 := Lib.hid s2
      have X2 := (X.tr (by (repeat (first | assumption | exact Ext.rf _ | apply Ext.drew | apply Ext.drewN | apply Ext.alloc)))).modT m2 (Nat.le_refl _)
      clear s2
      go_wp2_with (fail)
      go_ret
      exact ⟨A', c', rfl, s3.out, X2⟩
end Go.Proofs.Ytpngflmngnjjoaa
