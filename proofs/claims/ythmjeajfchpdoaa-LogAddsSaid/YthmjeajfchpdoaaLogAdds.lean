/-
  LogAdds: a log has what was added, as it came; what is handed in, and what is answered, is copied. No condition.
-/
import Derived.Test.YthmjeajfchpdoaaLogD
namespace Go.Proofs.Ythmjeajfchpdoaa.logAdds
open Go.RowKit Go.ChangeShapes Go.WideShapes Go.ChangeAt

theorem poke {w : World} {base c : Nat} {A : Option Addr} {ys : List Int} (h : OwI w base A c ys) (b j : Nat) (v : Int) : ∃ zs : List Int, zs.length = ys.length ∧ OwI (w.setCell ⟨b, j, none⟩ (.int .i64 v)) base A c zs := by
  rcases h.cases with ⟨rfl, rfl, rfl⟩ | ⟨g, cur, rfl, hb, hh, hn, hm, hs, ht⟩
  · exact ⟨[], rfl, OwI.nil _ _⟩
  · by_cases hg : g = b
    · subst hg
      refine ⟨ys.set j v, by simp, .mk (cur := cur.setIfInBounds j (.int .i64 v)) hb ?_ (by simpa using hn) hm (by simpa using hs) ?_⟩
      · simp [World.setCell, Array.getElem?_modify, hh]
      · rw [List.length_set, Array.toList_setIfInBounds, List.take_set, ht, List.map_set]
    · exact ⟨ys, rfl, .mk hb ((Below.heap_setCell w ⟨b, j, none⟩ _ g hg).trans hh) hn hm hs ht⟩
/-- records whose paths may have turned -/
def RecsK (w : World) (base : Nat) (vs : List Value) (rs : List Rec) : Prop :=
  vs.length = rs.length * 2 ∧ ∀ (i : Nat) (r : Rec), rs[i]? = some r → ∃ (A : Option Addr) (c : Nat) (ys : List Int), vs[i * 2 + 1]? = some (.slice A r.path.length c) ∧ ys.length = r.path.length ∧ OwI w base A c ys
theorem RecsK.of {w : World} {base : Nat} {vs : List Value} {rs : List Rec} (h : RecsO w base vs rs) : RecsK w base vs rs :=
  ⟨h.1, fun i r hr => by obtain ⟨A, c, _, h2, h3⟩ := h.2 i r hr; exact ⟨A, c, r.path, h2, rfl, h3⟩⟩
theorem RecsK.poke {w : World} {base : Nat} {vs : List Value} {rs : List Rec} (h : RecsK w base vs rs) (b j : Nat) (v : Int) : RecsK (w.setCell ⟨b, j, none⟩ (.int .i64 v)) base vs rs :=
  ⟨h.1, fun i r hr => by
    obtain ⟨A, c, ys, h1, h2, h3⟩ := h.2 i r hr
    obtain ⟨zs, k1, k2⟩ := logAdds.poke h3 b j v
    exact ⟨A, c, zs, h1, k1.trans h2, k2⟩⟩
theorem RecsK.drewN {w : World} {base : Nat} {vs : List Value} {rs : List Rec} (h : RecsK w base vs rs) (n : Nat) : RecsK (w.drewN n) base vs rs :=
  ⟨h.1, fun i r hr => by obtain ⟨A, c, ys, h1, h2, h3⟩ := h.2 i r hr; exact ⟨A, c, ys, h1, h2, h3.ext ((Ext.rf _).drewN n)⟩⟩
theorem RecsK.at {w : World} {base : Nat} {E : TypeId} {A : Option Addr} {vs : List Value} {rs : List Rec} (h : RecsK w base vs rs) (hr : RdV w E A vs) {i : Nat} (hi : i < rs.length) :
    ∃ b off r A' c' ys, A = some ⟨b, off, none⟩ ∧ w.cell? ⟨b, off + i * 2 + 1, none⟩ = some (.slice A' r.path.length c') ∧ Hid (ys.length = r.path.length) ∧ OwI w base A' c' ys ∧ Hid (rs[i]? = some r) := by
  obtain ⟨h1, h2⟩ := h
  obtain ⟨A', c', ys, q1, q2, q3⟩ := h2 i rs[i] (List.getElem?_eq_getElem hi)
  obtain ⟨b, off, rfl, hb, hc⟩ := hr.form (fun e => by rw [e] at h1; simp at h1; omega)
  exact ⟨b, off, rs[i], A', c', ys, rfl, by rw [Nat.add_assoc]; exact hc _ _ q1, q2, q3, List.getElem?_eq_getElem hi⟩
theorem OwV.aside {w : World} {base base' n c c' : Nat} {A A' : Option Addr} {vs : List Value} {ys : List Int} (h : OwV w base 51 2 A n c vs) (o : OwI w base' A' c' ys) {z : Nat} (hz : bl A' = some z) (j : Nat) (u : Value) : OwV (w.setCell ⟨z, j, none⟩ u) base 51 2 A n c vs := by
  rcases o.cases with ⟨rfl, _⟩ | ⟨g, cur, rfl, _, hh, _⟩
  · simp [bl] at hz
  · simp [bl] at hz
    subst hz
    exact h.mod (S := fun k => k = g) (Mod.set (S := fun k => k = g) (p := ⟨g, j, none⟩) (Mod.rf w) (.inl rfl) u) (h.ne (show Blk w g 3 cur from hh) (by decide))
theorem want_bd {rs : List Rec} {k : Nat} : ∀ r ∈ wantP rs k, r.path.length ≤ 20 := by
  intro r hr
  obtain ⟨q, _, rfl⟩ := List.mem_map.1 hr
  exact List.length_take_le _ _

set_option maxRecDepth 100000 in
set_option maxHeartbeats 2000000 in
theorem walk (A : Option Addr) (c : Nat) (xs : List Rec) (w : World) (hx : RdE 2 RRec w A xs) (lx : xs.length ≤ c) (lc : c ≤ maxLen) :
    Calls Try.prog 6 #[.slice A xs.length c] w fun e w' => e = .returned (.bool true) ∧ Ext w w' := by
  go_enter Try.func6, Try.ntmps6
  go_wp2_with (first
    | (go_at_call 26; refine (none25 _).mono ?_; rintro e w' ⟨rfl, rfl⟩)
    | (go_at_call 27; refine (add_none _ _ _ _ _).mono ?_; rintro e w' ⟨rfl, rfl⟩))
  refine (fill_any A c xs _ hx lx lc).mono ?_
  rintro e w1 ⟨g, A1, c1, rfl, L1, R1, X1⟩
  have hlen := wantP_len (rs := xs) (k := min xs.length 40) (Nat.min_le_left _ _)
  have h40 : min xs.length 40 ≤ 40 := Nat.min_le_right _ _
  have hbd := want_bd (rs := xs) (k := min xs.length 40)
  generalize hW : wantP xs (min xs.length 40) = W at *
  clear hW
  rw [← hlen]
  rw [← hlen] at h40
  generalize min xs.length 40 = mm at *
  subst hlen
  have RW : RdR w1 95 A1 W := by
    obtain ⟨vs, h1, h2⟩ := R1
    exact ⟨vs, h1.read, h2.more (Nat.zero_le _)⟩
  have hl40 : ∀ r ∈ W, r.path.length ≤ 2 ^ 40 := fun r hr => Nat.le_trans (hbd r hr) (by omega)
  have KLen := fun V (h : Ext w1 V) => loglen_any g w.heap.size W V (L1.ext h)
  have KAll := fun V (h : Ext w1 V) => all_any g w.heap.size W V (L1.ext h) (by omega) hl40
  have KSame := fun V B b (hB : RdR V 95 B W) (h : Ext w1 V) => sameR_any B A1 b c1 W V hB (RW.ext h) (by omega) hl40
  replace KLen := Lib.hid KLen
  replace KAll := Lib.hid KAll
  replace KSame := Lib.hid KSame
  replace hbd := Lib.hid hbd
  replace hl40 := Lib.hid hl40
  clear L1 R1 RW hx
  go_wp2_with (fail)
  refine (logs_any _).mono ?_
  rintro e w2 ⟨rfl, x2⟩
  go_wp2_with (first
    | (go_at_call 26; refine (none25 _).mono ?_; rintro e w' ⟨rfl, rfl⟩)
    | (go_at_call_of 29 (Value.pointer none); refine (loglen_none _).mono ?_; rintro e w' ⟨rfl, rfl⟩)
    | (go_at_call_of 30 (Value.pointer none); refine (all_none _).mono ?_; rintro e w' ⟨rfl, rfl⟩))
  refine (KLen.out _ x2).mono ?_
  rintro e w' ⟨rfl, rfl⟩
  go_wp2_with (fail)
  refine (KAll.out _ x2).mono ?_
  rintro e w3 ⟨A3, c3, rfl, ⟨vs, o3, r3⟩, x3⟩
  have hz2 : w.heap.size ≤ w2.heap.size := (X1.tr x2).size
  have S3 : RecSl w3 w2.heap.size 51 A3 c3 W := ⟨vs, o3, r3⟩
  replace o3 := Lib.hid o3
  have k3 := Lib.hid (RecsK.of r3)
  replace S3 := Lib.hid S3
  clear r3
  go_wp2_with (fail)
  refine (fromR_any w2.heap.size A3 c3 W _ S3.out (by omega)).mono ?_
  rintro e w4 ⟨A4, c4, rfl, ⟨us, o4, r4⟩, x4⟩
  have R4 : RdR w4 95 A4 W := ⟨us, o4.read, r4⟩
  replace R4 := Lib.hid R4
  clear o4 r4
  go_wp2_with (fail)
  refine (KSame.out _ A4 c4 R4.out ((x2.tr x3).tr x4)).mono ?_
  rintro e w5 ⟨rfl, x5⟩
  have y5 : Ext w2 w5 := (x3.tr x4).tr x5
  have o5 := Lib.hid (o3.out.ext (x4.tr x5))
  have k5 := Lib.hid (show RecsK w5 w2.heap.size vs W from ⟨k3.out.1, fun i r hr => by obtain ⟨A', c', ys, q1, q2, q3⟩ := k3.out.2 i r hr; exact ⟨A', c', ys, q1, q2, q3.ext (x4.tr x5)⟩⟩)
  clear o3 k3 S3 R4 x3 x4 x5
  go_wp2_with (fail)
  go_loopw [6] (fun i wr => ∃ k : Nat, i = .int .i64 k ∧ k ≤ W.length ∧ Hid (OwV wr w2.heap.size 51 2 A3 W.length c3 vs) ∧ Hid (RecsK wr w2.heap.size vs W) ∧ Ext w2 wr) (fun i _ => W.length - (intOf i).toNat)
  case atStart => exact ⟨0, rfl, by omega, o5, k5, y5⟩
  case round =>
    clear o5 k5 y5
    obtain ⟨k, rfl, hk, ho, hK, Y⟩ := hrel
    by_cases hlt : k < W.length
    · go_wp2_with (fail)
      obtain ⟨wo, rfl⟩ : ∃ wo : World, wo = wr := ⟨_, rfl⟩
      go_loopw [7] (fun i wr => ∃ j : Nat, i = .int .i64 j ∧ j ≤ 20 ∧ Hid (OwV wr w2.heap.size 51 2 A3 W.length c3 vs) ∧ Hid (RecsK wr w2.heap.size vs W) ∧ Ext w2 wr) (fun i _ => 20 - (intOf i).toNat)
      case atStart => exact ⟨0, rfl, by omega, ho, hK, Y⟩
      case round =>
        clear ho hK Y
        obtain ⟨j, rfl, hj, ho, hK, Y⟩ := hrel
        obtain ⟨b, off, r, A', c', ys, rfl, a1, hys, oy, hr⟩ := hK.out.at ho.out.read hlt
        have hr20 := hbd.out r (List.mem_of_getElem? hr.out)
        by_cases hj2 : j < r.path.length
        · obtain ⟨z, y, rfl, hz1, hz3, hcy, hfy, _, hsy⟩ := oy.at (k := j) (by have := hys.out; omega)
          have O6 := Lib.hid (OwV.aside ho.out oy (z := z) rfl j (.int .i64 77))
          have K6 := Lib.hid (hK.out.poke z j 77)
          have Y6 := Y.setNew (p := ⟨z, j, none⟩) hz1 (.int .i64 77)
          replace hr := Lib.hid hr
          clear hsy oy
          go_wp2_with (fail)
          go_roundw
          case rel => exact ⟨j + 1, by go_num, by omega, O6, K6, Y6⟩
          case measure => simp [intOf]; omega
        · clear oy
          go_wp2_with (fail)
          go_roundw
          case rel => exact ⟨k + 1, by go_num, by omega, ho, hK, Y⟩
          case measure => simp [intOf]; omega
    · go_wp2_with (fail)
      refine (KAll.out _ (x2.tr Y)).mono ?_
      rintro e w6 ⟨A6, c6, rfl, S6, x6⟩
      replace S6 := Lib.hid S6
      go_wp2_with (fail)
      refine (fromR_any wr.heap.size A6 c6 W _ S6.out (by omega)).mono ?_
      rintro e w7 ⟨A7, c7, rfl, ⟨us, o7, r7⟩, x7⟩
      have R7 : RdR w7 95 A7 W := ⟨us, o7.read, r7⟩
      replace R7 := Lib.hid R7
      clear o7 r7
      go_wp2_with (fail)
      refine (KSame.out _ A7 c7 R7.out (((x2.tr Y).tr x6).tr x7)).mono ?_
      rintro e w8 ⟨rfl, x8⟩
      go_wp2_with (fail)
      go_ret
      exact ⟨rfl, ((((X1.tr x2).tr Y).tr x6).tr x7).tr x8⟩

set_option maxRecDepth 100000 in
theorem lifted (os : Os) (started : os.Started) (H : Type) (enc : TypeId × Value → H) :
    ReturnsInHanded {} Try.checked os 6 .any (Rows.logAddsSpec.pre6 enc Try.prog Try.f6 Rows.logAddsRow.domain false) (Rows.logAddsSpec.post enc Try.prog Try.f6 false true false false) := by
  refine returnsInHanded_of_change (C := Try.checked) own started (by kernel_rfl) Try.func6
    (ChangeSpec.witness6 (enc := enc) (C := Try.checked) false ⟨#[], #[.slice none 0 0], []⟩ 8 (by kernel_rfl) (by kernel_rfl) (by kernel_rfl) (by kernel_rfl)) ?_
  intro W base args ds gs before hval0 hW _ _
  have hval : ∀ (j : Nat) t v, Try.f6.params[j]? = some t → args[j]? = some v → Value.okWide Try.prog W .any base t v := hval0
  have hW' := hW
  obtain ⟨p, q, hA0, hV, rfl, hfz, hnd⟩ := hW
  have hA : DataW.TrodAll enc Try.prog W 0 (fun _ => true) true Try.f6.params.toList args.toList ds p := hA0
  rw [Try.params6] at hA hval
  obtain ⟨v0, vs0, d0, ds0, p0, q0, hargs, rfl, rfl, h0, r0⟩ := trodAll_cons hA
  obtain ⟨rfl, rfl, rfl⟩ := trodAll_nil r0
  obtain rfl : args = #[v0] := by cases args; simp_all
  obtain ⟨rfl, rfl⟩ := trodVars_none hV
  obtain ⟨A0, x0, c0, rfl, hx0, lx0, lc0⟩ := open_RdRec h0 (hval 0 _ v0 rfl rfl)
  refine (walk A0 c0 x0 W hx0 lx0 lc0).mono fun e W' ⟨he, hg⟩ => ?_
  subst he
  exact ⟨_, rfl, post_law hW' rfl rfl rfl rfl rfl (readable_of (by kernel_rfl)) hg⟩

theorem proved : Rows.LogAddsSaid :=
  OpenClaim.holds_of_wide 6 Try.f6 rfl rfl rfl rfl rfl rfl rfl ⟨rfl, rfl, rfl, rfl, rfl⟩ rfl rfl rfl rfl rfl (by kernel_rfl) Try.func6 (by kernel_rfl)
    (of_decide_eq_true (by kernel_rfl)) (by unfold Func.isWrapper; first | (rw [if_pos (by decide +kernel)]; kernel_rfl) | (rw [if_neg (by decide +kernel)]; exact ⟨rfl, rfl⟩))
    (fun os started H enc _ => lifted os started H enc)
end Go.Proofs.Ythmjeajfchpdoaa.logAdds
