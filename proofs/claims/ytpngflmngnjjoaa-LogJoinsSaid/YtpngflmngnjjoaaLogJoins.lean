/-
  LogJoins: the records of several logs come in the order of their beginnings; of the same beginning those of an earlier log first. No condition.
-/
import Derived.Test.YtpngflmngnjjoaaRecH
import Derived.Test.YtpngflmngnjjoaaRecI
namespace Go.Proofs.Ytpngflmngnjjoaa.logJoins
open Go.RowKit Go.ChangeShapes Go.WideShapes Go.ChangeAt Go.Deep

theorem want_bd {rs : List Rec} {k : Nat} : ∀ r ∈ wantP rs k, r.path.length ≤ 20 := by
  intro r hr
  obtain ⟨q, _, rfl⟩ := List.mem_map.1 hr
  exact List.length_take_le _ _
theorem rep_more {w : World} {base base' g : Nat} {rs : List Rec} (H : LogRep w base g rs) (hb : base' ≤ base) : LogRep w base' g rs := by
  obtain ⟨A, c, vs, h1, h2, h3, h4⟩ := H
  exact ⟨A, c, vs, h1, Nat.le_trans hb h2, h3.more hb, h4.more hb⟩
/-- what a call of fill leaves -/
def Fill (w : World) (e : Ending) (w' : World) : Prop := ∃ g A c X vs, e = .returned (.tuple #[.pointer (some ⟨g, 0, none⟩), .slice A X.length c]) ∧ X.length ≤ 40 ∧ (∀ r ∈ X, r.path.length ≤ 20) ∧ LogRep w' 0 g X ∧ RdV w' 38 A vs ∧ RecsO w' 0 vs X ∧ Ext w w'
theorem fill2_any (A : Option Addr) (c : Nat) (xs : List Rec) (w : World) (hx : RdE 2 RRec w A xs) (lx : xs.length ≤ c) (lc : c ≤ maxLen) : Calls Try.prog 4 #[.slice A xs.length c] w (Fill w) := by
  refine (fill_any A c xs w hx lx lc).mono ?_
  rintro e w1 ⟨g, A1, c1, rfl, L1, ⟨vs, h1, h2⟩, X1⟩
  have hlen := wantP_len (rs := xs) (k := min xs.length 40) (Nat.min_le_left _ _)
  refine ⟨g, A1, c1, wantP xs (min xs.length 40), vs, ?_, ?_, want_bd, rep_more L1 (Nat.zero_le _), h1.read, h2.more (Nat.zero_le _), X1⟩
  · rw [hlen]
  · rw [hlen]; omega
theorem ptr_info : (Try.prog.underlying 40) = some (.slice 23) := by kernel_rfl
set_option maxRecDepth 100000 in
set_option maxHeartbeats 4000000 in
theorem walk (A0 : Option Addr) (c0 : Nat) (x0 : List Rec) (A1 : Option Addr) (c1 : Nat) (x1 : List Rec) (A2 : Option Addr) (c2 : Nat) (x2 : List Rec) (w : World) (hx0 : RdE 2 RRec w A0 x0) (lx0 : x0.length ≤ c0) (lc0 : c0 ≤ maxLen) (hx1 : RdE 2 RRec w A1 x1) (lx1 : x1.length ≤ c1) (lc1 : c1 ≤ maxLen) (hx2 : RdE 2 RRec w A2 x2) (lx2 : x2.length ≤ c2) (lc2 : c2 ≤ maxLen) :
    Calls Try.prog 3 #[.slice A0 x0.length c0, .slice A1 x1.length c1, .slice A2 x2.length c2] w fun e w' => e = .returned (.bool true) ∧ Ext w w' := by
  have F0 := Lib.hid (fun W (h : Ext w W) => fill2_any A0 c0 x0 W (hx0.ext h fun _ _ k => k.ext h) lx0 lc0)
  have F1 := Lib.hid (fun W (h : Ext w W) => fill2_any A1 c1 x1 W (hx1.ext h fun _ _ k => k.ext h) lx1 lc1)
  have F2 := Lib.hid (fun W (h : Ext w W) => fill2_any A2 c2 x2 W (hx2.ext h fun _ _ k => k.ext h) lx2 lc2)
  obtain ⟨i0, hi, hz0, hz1, hz2⟩ := info_parts rrec_info
  replace hi := Lib.hid hi
  replace hz0 := Lib.hid hz0
  replace hz1 := Lib.hid hz1
  replace hz2 := Lib.hid hz2
  clear hx0 hx1 hx2 lx0 lx1 lx2 lc0 lc1 lc2
  go_enter Try.func3, Try.ntmps3
  go_wp2_with (fail)
  refine (F0.out _ (Ext.rf _)).mono ?_
  rintro e w1 ⟨ga, Aa, ca, X, va, rfl, lX, pX, LX, VX, RX, y1⟩
  replace LX := Lib.hid LX
  replace VX := Lib.hid VX
  replace RX := Lib.hid RX
  replace pX := Lib.hid pX
  go_wp2_with (fail)
  refine (F1.out _ y1).mono ?_
  rintro e w2 ⟨gb, Ab, cb, Y, vb, rfl, lY, pY, LY, VY, RY, y2⟩
  replace LX := Lib.hid (LX.out.ext y2)
  replace VX := Lib.hid (VX.out.ext y2)
  replace RX := Lib.hid (RX.out.ext y2)
  replace LY := Lib.hid LY
  replace VY := Lib.hid VY
  replace RY := Lib.hid RY
  replace pY := Lib.hid pY
  replace y2 := y1.tr y2
  clear y1
  go_wp2_with (fail)
  refine (F2.out _ y2).mono ?_
  rintro e w3 ⟨gc, Ac, cc, Z, vc, rfl, lZ, pZ, LZ, VZ, RZ, y3⟩
  replace LX := Lib.hid (LX.out.ext y3)
  replace VX := Lib.hid (VX.out.ext y3)
  replace RX := Lib.hid (RX.out.ext y3)
  replace LY := Lib.hid (LY.out.ext y3)
  replace VY := Lib.hid (VY.out.ext y3)
  replace RY := Lib.hid (RY.out.ext y3)
  replace LZ := Lib.hid LZ
  replace VZ := Lib.hid VZ
  replace RZ := Lib.hid RZ
  replace pZ := Lib.hid pZ
  replace y3 := y2.tr y3
  clear y2 F0 F1 F2
  have oX := Lib.hid RX.out.one
  have oY := Lib.hid RY.out.one
  have oZ := Lib.hid RZ.out.one
  have nX := Lib.hid RX.out.1
  have nY := Lib.hid RY.out.1
  have nZ := Lib.hid RZ.out.1
  go_wp2_with (first
    | (at_builtin; refine wpl_app_v _ (e := 38) Try.underlying22 hi.out hz0.out hz1.out hz2.out (by simp [Value.cells]) (by omega) rfl _ _ rfl w3.heap.size (some ⟨w3.heap.size, 0, none⟩) 0 0 [] Aa X.length ca va rfl rfl ?_ ?_ ?_ ?_ ?_ ?_ ?_ ?_; (exact OwV.full (cs := #[]) (.new (by simp)) (Nat.le_refl _) rfl (by simp [maxLen])); (exact (VX.out.ext (by (repeat (first | assumption | exact Ext.rf _ | apply Ext.drew | apply Ext.drewN | apply Ext.alloc)))).rdC); (exact nX.out); (exact oX.out); (simp only [maxLen]; omega); omega; (first | exact Nat.le_refl _ | omega | (focus (simp; try omega))); rintro A4 c4 w4 o4 g4 _; rw [Nat.zero_add, List.nil_append] at o4; have x4 : Ext w3 w4 := Ext.grow ((Ext.rf w3).alloc _) g4 (by intro k hk; simp [bl] at hk; omega))
    | (at_builtin; refine wpl_app_v _ (e := 38) Try.underlying22 hi.out hz0.out hz1.out hz2.out (by simp [Value.cells]) (by omega) rfl _ _ rfl w3.heap.size A4 X.length c4 va Ab Y.length cb vb rfl rfl ?_ ?_ ?_ ?_ ?_ ?_ ?_ ?_; (exact o4); (exact (VY.out.ext x4).rdC); (exact nY.out); (exact oY.out); (simp only [maxLen]; omega); omega; (exact x4.size); rintro A5 c5 w5 o5 g5 _; have x5 : Ext w3 w5 := x4.grow g5 (fun k hk => (o4.lt k hk).1))
    | (at_builtin; refine wpl_app_v _ (e := 38) Try.underlying22 hi.out hz0.out hz1.out hz2.out (by simp [Value.cells]) (by omega) rfl _ _ rfl w3.heap.size A5 (X.length + Y.length) c5 (va ++ vb) Ac Z.length cc vc rfl rfl ?_ ?_ ?_ ?_ ?_ ?_ ?_ ?_; (exact o5); (exact (VZ.out.ext x5).rdC); (exact nZ.out); (exact oZ.out); (simp only [maxLen]; omega); omega; (exact x5.size); rintro A6 c6 w6 o6 g6 _; have x6 : Ext w3 w6 := x5.grow g6 (fun k hk => (o5.lt k hk).1)))
  obtain ⟨al, hal⟩ : ∃ al : List Rec, al = X ++ Y ++ Z := ⟨_, rfl⟩
  have lal : al.length = X.length + Y.length + Z.length := by rw [hal, List.length_append, List.length_append]
  have pal : ∀ r ∈ al, r.path.length ≤ 20 := by
    intro r hr
    rw [hal] at hr
    rcases List.mem_append.1 hr with hr | hr
    · rcases List.mem_append.1 hr with hr | hr
      · exact pX.out r hr
      · exact pY.out r hr
    · exact pZ.out r hr
  have hfl : al = [X, Y, [], Z].flatten := by rw [hal]; simp
  have RA : RdR w6 38 A6 al := by
    refine ⟨va ++ vb ++ vc, o6.read, ?_⟩
    rw [hal]
    exact ((RX.out.ext x6).app (RY.out.ext x6)).app (RZ.out.ext x6)
  have LA : ∀ W, Ext w6 W → LogsAt W 0 [.pointer (some ⟨ga, 0, none⟩), .pointer (some ⟨gb, 0, none⟩), .pointer none, .pointer (some ⟨gc, 0, none⟩)] [X, Y, [], Z] := by
    intro W h
    refine ⟨rfl, fun i rs hi => ?_⟩
    match i, hi with
    | 0, hi => simp at hi; subst hi; exact .inr ⟨ga, rfl, LX.out.ext (x6.tr h)⟩
    | 1, hi => simp at hi; subst hi; exact .inr ⟨gb, rfl, LY.out.ext (x6.tr h)⟩
    | 2, hi => simp at hi; subst hi; exact .inl ⟨rfl, rfl⟩
    | 3, hi => simp at hi; subst hi; exact .inr ⟨gc, rfl, LZ.out.ext (x6.tr h)⟩
    | i + 4, hi => simp at hi
  obtain ⟨S, hS⟩ : ∃ S, Hid (S = sortedR al) := ⟨_, rfl⟩
  have hSl : Hid (S.length = al.length) := by rw [hS.out]; exact sortedR_len al
  have pS : Hid (∀ r ∈ S, r.path.length ≤ 2 ^ 40) := by
    rw [hS.out]
    exact fun r hr => by have := pal r (sortedR_mem hr); omega
  have lS : S.length ≤ 120 := by rw [hSl.out, lal]; omega
  have JO := Lib.hid (fun W (h : Ext w6 W) (V : RdV W 23 (some ⟨w6.heap.size, 0, none⟩) [.pointer (some ⟨ga, 0, none⟩), .pointer (some ⟨gb, 0, none⟩), .pointer none, .pointer (some ⟨gc, 0, none⟩)]) => join_any 0 (some ⟨w6.heap.size, 0, none⟩) 4 _ [X, Y, [], Z] al hfl W V (LA W h) (by simp) (by omega) (fun r hr => by have := pal r hr; omega))
  have RS : Hid (∀ W, Ext w6 W → Calls Try.prog 9 #[.slice A6 (X.length + Y.length + Z.length) c6] W (SortedPost25 al W)) := fun W h => by
    rw [← lal]
    exact refsorted_any A6 c6 al W (RA.ext h) (by omega) (fun r hr => by have := pal r hr; omega)
  have LE := Lib.hid (fun W (h : Ext w6 W) => loglen_any ga 0 X W (LX.out.ext (x6.tr h)))
  have y6 := y3.tr x6
  clear LA RA lal pal hfl hal pX pY pZ LX LY LZ VX VY VZ RX RY RZ oX oY oZ nX nY nZ o4 o5 o6 g4 g5 g6 x4 x5 x6 y3 hi hz0 hz1 hz2
  refine (JO.out _ (by (repeat (first | assumption | exact Ext.rf _ | apply Ext.drew | apply Ext.drewN | apply Ext.alloc))) (RdV.blk (.new rfl))).mono ?_
  rintro e w7 ⟨A7, c7, he, S7, z7⟩
  have y7 : Ext w6 w7 := Ext.tr (by (repeat (first | assumption | exact Ext.rf _ | apply Ext.drew | apply Ext.drewN | apply Ext.alloc))) z7
  rw [← hSl.out] at he
  subst he
  rw [← hS.out] at S7
  replace S7 := Lib.hid S7
  go_wp2_with (fail)
  refine (logs_any _).mono ?_
  rintro e w8 ⟨rfl, z8⟩
  have y8 := y7.tr z8
  go_wp2_with (fail)
  refine (fromR_any _ A7 c7 S _ (S7.out.ext z8) (by omega)).mono ?_
  rintro e w9 ⟨A9, c9, rfl, ⟨us, o9, r9⟩, z9⟩
  have y9 := y8.tr z9
  have R9 := Lib.hid (show RdR w9 38 A9 S from ⟨us, o9.read, r9⟩)
  clear o9 r9
  go_wp2_with (fail)
  refine (RS.out _ y9).mono ?_
  rintro e wa ⟨Aa', ca', he, Ra, za⟩
  have ya := y9.tr za
  rw [← hSl.out] at he
  subst he
  rw [← hS.out] at Ra
  replace Ra := Lib.hid Ra
  go_wp2_with (fail)
  refine (sameR_any A9 Aa' c9 ca' S _ (R9.out.ext za) Ra.out (by omega) pS.out).mono ?_
  rintro e wb ⟨rfl, zb⟩
  have yb := ya.tr zb
  go_wp2_with (fail)
  refine (LE.out _ yb).mono ?_
  rintro e wc' ⟨rfl, rfl⟩
  go_wp2_with (fail)
  refine (join_any 0 none 0 [] [] [] rfl _ (RdV.nil _ _ _) ⟨rfl, fun i rs hi => by simp at hi⟩ (by simp) (by simp) (by simp)).mono ?_
  rintro e wd ⟨Ad, cd, rfl, -, zd⟩
  go_wp2_with (fail)
  go_ret
  exact ⟨rfl, (y6.tr yb).tr zd⟩

set_option maxRecDepth 100000 in
theorem lifted (os : Os) (started : os.Started) (H : Type) (enc : TypeId × Value → H) :
    ReturnsInHanded {} Try.checked os 3 .any (Rows.logJoinsSpec.pre6 enc Try.prog Try.f3 Rows.logJoinsRow.domain false) (Rows.logJoinsSpec.post enc Try.prog Try.f3 false true false false) := by
  refine returnsInHanded_of_change (C := Try.checked) own started (by kernel_rfl) Try.func3
    (ChangeSpec.witness6 (enc := enc) (C := Try.checked) false ⟨#[], #[.slice none 0 0, .slice none 0 0, .slice none 0 0], []⟩ 8 (by kernel_rfl) (by kernel_rfl) (by kernel_rfl) (by kernel_rfl)) ?_
  intro W base args ds gs before hval0 hW _ _
  have hval : ∀ (j : Nat) t v, Try.f3.params[j]? = some t → args[j]? = some v → Value.okWide Try.prog W .any base t v := hval0
  have hW' := hW
  obtain ⟨p, q, hA0, hV, rfl, hfz, hnd⟩ := hW
  have hA : DataW.TrodAll enc Try.prog W 0 (fun _ => true) true Try.f3.params.toList args.toList ds p := hA0
  rw [Try.params3] at hA hval
  obtain ⟨v0, vs0, d0, ds0, p0, q0, hargs, rfl, rfl, h0, r0⟩ := trodAll_cons hA
  obtain ⟨v1, vs1, d1, ds1, p1, q1, rfl, rfl, rfl, h1, r1⟩ := trodAll_cons r0
  obtain ⟨v2, vs2, d2, ds2, p2, q2, rfl, rfl, rfl, h2, r2⟩ := trodAll_cons r1
  obtain ⟨rfl, rfl, rfl⟩ := trodAll_nil r2
  obtain rfl : args = #[v0, v1, v2] := by cases args; simp_all
  obtain ⟨rfl, rfl⟩ := trodVars_none hV
  obtain ⟨A0, x0, c0, rfl, hx0, lx0, lc0⟩ := open_RdRec h0 (hval 0 _ v0 rfl rfl)
  obtain ⟨A1, x1, c1, rfl, hx1, lx1, lc1⟩ := open_RdRec h1 (hval 1 _ v1 rfl rfl)
  obtain ⟨A2, x2, c2, rfl, hx2, lx2, lc2⟩ := open_RdRec h2 (hval 2 _ v2 rfl rfl)
  refine (walk A0 c0 x0 A1 c1 x1 A2 c2 x2 W hx0 lx0 lc0 hx1 lx1 lc1 hx2 lx2 lc2).mono fun e W' ⟨he, hg⟩ => ?_
  subst he
  exact ⟨_, rfl, post_law hW' rfl rfl rfl rfl rfl (readable_of (by kernel_rfl)) hg⟩

theorem proved : Rows.LogJoinsSaid :=
  OpenClaim.holds_of_wide 3 Try.f3 rfl rfl rfl rfl rfl rfl rfl ⟨rfl, rfl, rfl, rfl, rfl⟩ rfl rfl rfl rfl rfl (by kernel_rfl) Try.func3 (by kernel_rfl)
    (of_decide_eq_true (by kernel_rfl)) (by unfold Func.isWrapper; first | (rw [if_pos (by decide +kernel)]; kernel_rfl) | (rw [if_neg (by decide +kernel)]; exact ⟨rfl, rfl⟩))
    (fun os started H enc _ => lifted os started H enc)
end Go.Proofs.Ytpngflmngnjjoaa.logJoins
