/-
  log: the law package's fill; the document's Same of the same records; records as an argument.
-/
import Derived.Test.YtpngflmngnjjoaaLogC
import Derived.Deep.DeepCutAuto
namespace Go.Proofs.Ytpngflmngnjjoaa
open Go.RowKit Go.ChangeShapes Go.WideShapes Go.ChangeAt Go.Deep

theorem keepML {base : Nat} {ts : List TypeId} {W W' : World} (M : ModT base ts W W') {b o : Nat} {v : Value} (hb : b < base) (hc : W.cell? ⟨b, o, none⟩ = some v) : W'.cell? ⟨b, o, none⟩ = some v := by
  rw [← hc]
  exact World.cell?_of_block (M.block b (World.block_lt_of_cell? W _ hc) fun hs => by have := hs.1; omega)
theorem OwI.modOf {w w' : World} {base c : Nat} {A : Option Addr} {xs : List Int} (h : OwI w base A c xs) (hm : Mod (fun z => bl A = some z) w w') : ModT base [3] w w' := by
  refine Mod.mono hm fun k _ hk => ?_
  rcases h.cases with ⟨rfl, _⟩ | ⟨g, cur, rfl, hb, hh, _⟩
  · simp [bl] at hk
  · simp [bl] at hk
    subst hk
    exact ⟨hb, cur, _, hh, by simp⟩
theorem LogV.modI {w w' : World} {base g base' : Nat} {S : Nat → Prop} {rs : List Rec} {vs : List Value} (H : LogV w base g rs vs) (k : ModT base' [3] w w') (hm : Mod S w w') (hn : VN (fun b => ¬ S b) vs) : LogV w' base g rs vs := by
  obtain ⟨A, c, h1, h2, h3, h4⟩ := H
  exact ⟨A, c, h1.modT k (by decide), h2, h3.modT k (by decide), h4.mod hm hn⟩
def RRec (w : World) (cs : List Value) (r : Rec) : Prop := ∃ A c, cs = [.int .i64 r.kind, .slice A r.path.length c] ∧ RdI w A r.path ∧ Ints r.path ∧ r.path.length ≤ c ∧ c ≤ maxLen
theorem RRec.ext {w w' : World} {cs : List Value} {r : Rec} (h : RRec w cs r) (hb : Ext w w') : RRec w' cs r := by
  obtain ⟨A, c, h1, h2, h3⟩ := h
  exact ⟨A, c, h1, h2.ext hb, h3⟩
section
variable {H : Type} {enc : TypeId × Value → H} {W : World}
theorem cells_rrec : Try.prog.cellsOf 38 = 2 := by kernel_rfl
theorem cells_ints25 : Try.prog.cellsOf 36 = 1 := by kernel_rfl
set_option maxRecDepth 100000 in
theorem opens_rec : OpensAs enc W 38 RRec := fun fuel cs x h => by
  obtain ⟨hlen, _⟩ := field_of Try.underlying38 h
  rw [cells_rrec] at hlen
  match cs, hlen with
  | [c0, c1], _ =>
    obtain ⟨n0, y0, h0⟩ := field_at Try.underlying38 h 0 3 0 1 rfl cells_int
    obtain ⟨n1, y1, h1⟩ := field_at Try.underlying38 h 1 36 1 1 rfl cells_ints25
    obtain ⟨x0, e0, b0⟩ := opens_int _ _ _ h0
    obtain ⟨l, A, c, e1, r1, r2, r3⟩ := opens_ints _ _ _ h1
    injection e0 with e0
    injection e1 with e1
    subst e0 e1
    exact ⟨⟨x0, l⟩, A, c, rfl, r1, r2, r3⟩
set_option maxRecDepth 100000 in
theorem open_RdRec {base : Nat} {v : Value} {d : DataW H} {p : List MemPlace} (hd : DataW.Trod enc Try.prog W 0 (fun _ => true) true 22 v d p) (hv : Value.okWide Try.prog W .any base 22 v) :
    ∃ A xs c, v = .slice A xs.length c ∧ RdE 2 RRec W A xs ∧ xs.length ≤ c ∧ c ≤ maxLen := open_E' Try.underlying22 cells_rrec (by omega) opens_rec hd hv
end

/-- what fill takes of some records -/
def cutR (r : Rec) : Rec := ⟨r.kind, r.path.take 20⟩
def wantP (rs : List Rec) (k : Nat) : List Rec := (rs.take k).map cutR
theorem wantP_len {rs : List Rec} {k : Nat} (hk : k ≤ rs.length) : (wantP rs k).length = k := by simp [wantP]; omega
theorem wantP_succ {rs : List Rec} {k : Nat} {r : Rec} (h : rs[k]? = some r) : wantP rs (k + 1) = wantP rs k ++ [cutR r] := by
  rw [wantP, take_snoc' h, List.map_append]
  rfl
def FillPost (rs : List Rec) (n : Nat) (w : World) (e : Ending) (w' : World) : Prop := ∃ g A c, e = .returned (.tuple #[.pointer (some ⟨g, 0, none⟩), .slice A n c]) ∧ LogRep w' w.heap.size g (wantP rs n) ∧ RecSl w' w.heap.size 38 A c (wantP rs n) ∧ Ext w w'
set_option maxRecDepth 100000 in
set_option maxHeartbeats 2000000 in
theorem fill_any (A : Option Addr) (c : Nat) (rs : List Rec) (w : World) (hx : RdE 2 RRec w A rs) (lx : rs.length ≤ c) (lc : c ≤ maxLen) :
    Calls Try.prog 4 #[.slice A rs.length c] w (FillPost rs (min rs.length 40) w) := by
  unfold maxLen at lc
  obtain ⟨i0, hi, hz0, hz1, hz2⟩ := info_parts rrec_info
  replace hi := Lib.hid hi
  replace hz0 := Lib.hid hz0
  replace hz1 := Lib.hid hz1
  replace hz2 := Lib.hid hz2
  go_enter Try.func4, Try.ntmps4
  go_wp2_with (fail)
  go_loopw [5, 6] (fun v i wr => ∃ (k : Nat) (A' : Option Addr) (c' : Nat) (us vs : List Value), i = .int .i64 k ∧ v = .slice A' k c' ∧ k ≤ rs.length ∧ k ≤ 40 ∧ Hid (OwV wr w.heap.size 38 2 A' k c' us) ∧ Hid (RecsO wr w.heap.size us (wantP rs k)) ∧ Hid (LogV wr w.heap.size w.heap.size (wantP rs k) vs) ∧ Ext w wr) (fun _ i _ => 40 - (intOf i).toNat)
  case atStart =>
    exact ⟨0, none, 0, [], [], rfl, rfl, by omega, by omega, OwV.nil _ _ _ _, RecsO.nil _ _, ⟨none, 0, .new rfl, Nat.le_refl _, OwV.nil _ _ _ _, RecsO.nil _ _⟩, by (repeat (first | assumption | exact Ext.rf _ | apply Ext.drew | apply Ext.drewN | apply Ext.alloc))⟩
  case round =>
    obtain ⟨k, A', c', us, vs, rfl, rfl, hk, hk40, ho, hV, hL, X⟩ := hrel
    by_cases hlt : k < rs.length ∧ k < 40
    · obtain ⟨h1, h2⟩ := hlt
      obtain ⟨b, off, cs, r, rfl, hb, ⟨D, d, rfl, hd, id, ld, ld'⟩, _, hcs, hr⟩ := (hx.ext X (fun cs j h => h.ext X)).at h1
      have a0 := hcs 0 _ rfl
      have a1 := hcs 1 _ rfl
      rw [Nat.add_zero] at a0
      clear hcs
      have hbW : b < w.heap.size := by
        rcases hx with h | ⟨b', off', h, hb', _⟩
        · rw [h] at h1; simp at h1
        · injection h with h; injection h with h; omega
      obtain ⟨ps, hp, ip, lp, lp', kp, ep⟩ := cut_min 20 hd id
      simp only [Int.cast_ofNat_Int] at ep
      have lpd : ps.length ≤ d := by omega
      have hcut : cutR r = ⟨r.kind, ps⟩ := by rw [cutR, kp.out]
      have hsn := wantP_succ hr.out
      rw [hcut] at hsn
      have hvn1 := hV.out.vn
      have hvn2 : VN (fun b => b < wr.heap.size) vs := by obtain ⟨_, _, _, _, _, q⟩ := hL.out; exact q.vn
      have hzr := X.size
      replace hp := Lib.hid hp
      replace hsn := Lib.hid hsn
      replace hvn1 := Lib.hid hvn1
      replace hvn2 := Lib.hid hvn2
      unfold maxLen at ld'
      clear hd id hcut kp lp' ip
      go_upto_region 6 with (fail)
      go_cut [7] (fun pv wx => ∃ A7 c7, pv = .slice A7 ps.length c7 ∧ OwI wx wr.heap.size A7 c7 ps ∧ Ext wr wx)
      case first =>
        go_region_held3 (fun w' => w'.cell? ⟨b, off + k * 2 + 1, none⟩ = some (.slice D r.path.length d)) (go_keep)
          (first | (refine step_copy_i _ (by rfl) _ _ (by rfl) wr.heap.size _ ps D d (by rfl) (by rfl) ?_ ?_ ?_ ?_ ?_; (first | exact .new (by simp) | exact .drew (.new (by simp)) | exact .alloc (.new (by simp)) _ | exact .drew (.alloc (.new (by simp)) _) | exact .alloc (.alloc (.new (by simp)) _) _ | exact .drew (.alloc (.alloc (.new (by simp)) _) _) | (repeat (first | assumption | (refine Blk.new ?_; (focus (simp; done))) | apply Blk.drew | apply Blk.drewN | apply Blk.alloc))); (first | exact Nat.le_refl _ | (simp; done)); (refine hp.out.ext ?_; (repeat (first | assumption | exact Ext.rf _ | apply Ext.drew | apply Ext.drewN | apply Ext.alloc))); omega; rintro A7 c7 w7 o7 x7; have y7 := Ext.tr (a := wr) (by (repeat (first | assumption | exact Ext.rf _ | apply Ext.drew | apply Ext.drewN | apply Ext.alloc))) x7; have s1 := keepEL y7 hb a1))
        all_goals
          go_wp2_with (fail)
          go_meet
          exact ⟨A7, c7, rfl, o7, y7⟩
      case rest =>
        obtain ⟨A7, c7, rfl, o7, y7⟩ := hcut
        obtain ⟨w7, rfl⟩ : ∃ w7 : World, w7 = wc := ⟨_, rfl⟩
        have zw7 := y7.size
        have a0 := keepEL y7 hb a0
        have hb7 : b < w7.heap.size := by omega
        have o7' := Lib.hid o7
        have hO7 := Lib.hid (ho.out.ext y7)
        have hV7 := Lib.hid (hV.out.ext y7)
        have hL7 := Lib.hid (hL.out.ext y7)
        have X7 := X.tr y7
        clear ho hV hL a1 ep hp
        go_upto_region 7 with (fail)
        go_cut [5] (fun v wx => ∃ A2 c2 A8 c8, v = .slice A2 (k + 1) c2 ∧ OwV wx w.heap.size 38 2 A2 (k + 1) c2 (us ++ [.int .i64 r.kind, .slice A8 ps.length c8]) ∧ OwI wx w7.heap.size A8 c8 ps ∧ ModT w.heap.size [38] w7 wx)
        case first =>
          go_region_held3 (fun w' => w'.cell? ⟨b, off + k * 2, none⟩ = some (.int .i64 r.kind)) (go_keep)
            (first
              | (refine step_copy_i _ (by rfl) _ _ (by rfl) w7.heap.size _ ps A7 c7 (by rfl) (by rfl) ?_ ?_ ?_ ?_ ?_; (first | exact .new (by simp) | exact .drew (.new (by simp)) | exact .alloc (.new (by simp)) _ | exact .drew (.alloc (.new (by simp)) _) | exact .alloc (.alloc (.new (by simp)) _) _ | exact .drew (.alloc (.alloc (.new (by simp)) _) _) | (repeat (first | assumption | (refine Blk.new ?_; (focus (simp; done))) | apply Blk.drew | apply Blk.drewN | apply Blk.alloc))); (first | exact Nat.le_refl _ | (simp; done)); (refine o7'.out.read.ext ?_; (repeat (first | assumption | exact Ext.rf _ | apply Ext.drew | apply Ext.drewN | apply Ext.alloc))); omega; rintro A8 c8 w8 o8 x8; have y8 := Ext.tr (a := w7) (by (repeat (first | assumption | exact Ext.rf _ | apply Ext.drew | apply Ext.drewN | apply Ext.alloc))) x8; have s1 := keepEL y8 hb7 a0)
              | (refine step_app_v _ (e := 38) Try.underlying22 hi.out hz0.out hz1.out hz2.out (by simp [Value.cells]) (by omega) (by rfl) _ _ (by rfl) w.heap.size A' k c' us _ 1 1 [.int .i64 r.kind, .slice A8 ps.length c8] (by rfl) (by rfl) ?_ ?_ ?_ ?_ ?_ ?_ ?_ ?_; (refine hO7.out.ext ?_; (repeat (first | assumption | exact Ext.rf _ | apply Ext.drew | apply Ext.drewN | apply Ext.alloc))); (exact (RdV.blk (by (first | exact .new (by simp) | exact .drew (.new (by simp)) | exact .alloc (.new (by simp)) _ | exact .drew (.alloc (.new (by simp)) _) | exact .alloc (.alloc (.new (by simp)) _) _ | exact .drew (.alloc (.alloc (.new (by simp)) _) _) | (repeat (first | assumption | (refine Blk.new ?_; (focus (simp; done))) | apply Blk.drew | apply Blk.drewN | apply Blk.alloc))))).rdC); (simp); (simp [Value.oneCell']); (simp only [maxLen]; omega); omega; (have := y8.size; simp; omega); rintro A9 c9 w9 o9 g9 _; have M9 : ModT w.heap.size [38] w7 w9 := (ModT.of_ext (by (repeat (first | assumption | exact Ext.rf _ | apply Ext.drew | apply Ext.drewN | apply Ext.alloc)))).tr ((hO7.out.ext (by (repeat (first | assumption | exact Ext.rf _ | apply Ext.drew | apply Ext.drewN | apply Ext.alloc)))).grownT g9); have O9 := (OwI.ext o8 (by (repeat (first | assumption | exact Ext.rf _ | apply Ext.drew | apply Ext.drewN | apply Ext.alloc)))).modT ((hO7.out.ext (by (repeat (first | assumption | exact Ext.rf _ | apply Ext.drew | apply Ext.drewN | apply Ext.alloc)))).grownT g9) (by decide); have s1 : w9.cell? ⟨b, off + k * 2, none⟩ = some (.int .i64 r.kind) := keepML M9 hbW (keepEL (Ext.rf _) hb7 a0)))
          all_goals
            go_wp2_with (fail)
            go_meet
            exact ⟨A9, c9, A8, c8, rfl, o9, O9, M9⟩
        case rest =>
          obtain ⟨A2, c2, A8, c8, rfl, o9, O9, M9⟩ := hcut
          obtain ⟨w9, rfl⟩ : ∃ w9 : World, w9 = wc := ⟨_, rfl⟩
          have z9 : w7.heap.size ≤ w9.heap.size := M9.size
          have p9 := o7'.out.modT M9 (by decide)
          have L9 := hL7.out.modT M9 (by decide) (by decide) (by decide)
          have V9 := (hV7.out.modT M9 (by decide)).snoc (r := ⟨r.kind, ps⟩) (O9.more (by omega))
          have a9 := keepML M9 hbW a0
          have X9 := X7.modT M9 (Nat.le_refl _)
          have hwk : (wantP rs k).length = k := wantP_len hk
          have KA := add_any w.heap.size w.heap.size (wantP rs k) ⟨r.kind, ps⟩ vs A7 c7 w9 L9 (by omega) p9.read (by show ps.length ≤ _; omega) (by omega)
          have V7b : ∀ z, bl A7 = some z → wr.heap.size ≤ z ∧ z < w7.heap.size := fun z hz => o7'.out.lt z hz
          have V8b : ∀ z, bl A8 = some z → w7.heap.size ≤ z := fun z hz => (O9.lt z hz).1
          have U1 : VN (fun z => ¬ bl A7 = some z) (us ++ [.int .i64 r.kind, .slice A8 ps.length c8]) := VN.snoc (hvn1.out.mono fun z hz hz2 => by have := V7b z hz2; omega) (fun z hz hz2 => by have := V7b z hz2; have := V8b z hz; omega)
          replace KA := Lib.hid KA
          replace p9 := Lib.hid p9
          replace V9 := Lib.hid V9
          replace o9 := Lib.hid o9
          replace U1 := Lib.hid U1
          replace V7b := Lib.hid V7b
          replace hwk := Lib.hid hwk
          have hb9 : b < w9.heap.size := by omega
          clear M9 L9 O9 V8b hO7 hV7 hL7 o7' a0
          go_wp2_with (fail)
          refine KA.out.mono ?_
          rintro e w10 ⟨A10, c10, rfl, L10, O10, M10⟩
          have p10 := p9.out.modT M10 (by decide)
          have o10 := Lib.hid (o9.out.modT M10 (by decide))
          have V10 := Lib.hid (V9.out.modT M10 (by decide))
          have X10 := X9.modT M10 (Nat.le_refl _)
          have U2 : VN (fun z => ¬ bl A7 = some z) (vs ++ [.int .i64 r.kind, .slice A10 ps.length c10]) := VN.snoc (hvn2.out.mono fun z hz hz2 => by have := V7b.out z hz2; omega) (fun z hz hz2 => by have := V7b.out z hz2; have := (O10.lt z hz).1; omega)
          replace U2 := Lib.hid U2
          replace L10 := Lib.hid L10
          replace p10 := Lib.hid p10
          clear KA p9 o9 V9 M10 O10 X9 a9
          go_wp2_with (fail)
          obtain ⟨wo, rfl⟩ : ∃ wo : World, wo = wr := ⟨_, rfl⟩
          go_loopw [8] (fun i wq => ∃ (j : Nat) (ys : List Int), i = .int .i64 j ∧ j ≤ ps.length ∧ Hid (ys.length = ps.length) ∧ Hid (OwI wq wo.heap.size A7 c7 ys) ∧ Hid (Mod (fun z => bl A7 = some z) w10 wq)) (fun i _ => ps.length - (intOf i).toNat)
          case atStart => exact ⟨0, ps, rfl, by omega, rfl, p10.out, Mod.rf _⟩
          case round =>
            obtain ⟨j, ys, rfl, hj, hys, oy, my⟩ := hrel
            by_cases hj2 : j < ps.length
            · obtain ⟨z, y, rfl, hz1, hz2, hcy, hfy, _, hsy⟩ := oy.out.at (k := j) (by have := hys.out; omega)
              go_wp2_with (fail)
              go_roundw
              case rel => exact ⟨j + 1, _, by go_num, by omega, Lib.hid (by rw [List.length_set]; exact hys.out), Lib.hid (hsy.out _), Lib.hid (my.out.set (p := ⟨z, j, none⟩) (.inl rfl) _)⟩
              case measure => simp [intOf]; omega
            · have MT := p10.out.modOf my.out
              have X11 := X10.modT MT hzr
              have o11 := Lib.hid (o10.out.modT MT (by decide))
              have V11 := Lib.hid (V10.out.mod my.out U1.out)
              have L11 := Lib.hid (L10.out.modI MT my.out U2.out)
              clear MT my oy
              go_wp2_with (fail)
              go_roundw
              case rel => exact ⟨k + 1, A2, c2, _, _, by go_num, rfl, by omega, by omega, o11, Lib.hid (by rw [hsn.out]; exact V11.out), Lib.hid (by rw [hsn.out]; exact L11.out), X11⟩
              case measure => simp [intOf]; omega
    · have hmin : min rs.length 40 = k := by omega
      have FL : FillPost rs k w (.returned (.tuple #[.pointer (some ⟨w.heap.size, 0, none⟩), .slice A' k c'])) wr := ⟨w.heap.size, A', c', rfl, hL.out.rep, ⟨us, by rw [wantP_len hk]; exact ho.out, hV.out⟩, X⟩
      replace FL := Lib.hid FL
      replace hmin := Lib.hid hmin
      by_cases h1 : k < rs.length
      · have h2 : ¬ k < 40 := by omega
        go_wp2_with (fail)
        go_ret2
        rw [hmin.out]
        exact FL.out
      · go_wp2_with (fail)
        go_ret2
        rw [hmin.out]
        exact FL.out

/-- both slices read as these records -/
def RdR (w : World) (E : TypeId) (A : Option Addr) (rs : List Rec) : Prop := ∃ vs, RdV w E A vs ∧ RecsO w 0 vs rs
theorem RdR.ext {w w' : World} {E : TypeId} {A : Option Addr} {rs : List Rec} (h : RdR w E A rs) (hx : Ext w w') : RdR w' E A rs := by
  obtain ⟨vs, h1, h2⟩ := h
  exact ⟨vs, h1.ext hx, h2.ext hx⟩
theorem ahd_self : ∀ (xs : List Int), ahd xs xs = false
  | [] => rfl
  | x :: xs => by simp [ahd, ahd_self xs]
set_option maxRecDepth 100000 in
set_option maxHeartbeats 1000000 in
theorem sameR_any (A B : Option Addr) (c d : Nat) (rs : List Rec) (w : World) (hx : RdR w 38 A rs) (hy : RdR w 38 B rs) (lx : rs.length ≤ 2 ^ 40) (hll : ∀ r ∈ rs, r.path.length ≤ 2 ^ 40) :
    Calls Try.prog 7 #[.slice A rs.length c, .slice B rs.length d] w fun e w' => e = .returned (.bool true) ∧ Ext w w' := by
  go_enter Try.func7, Try.ntmps7
  go_wp2_with fail
  go_loopw [5] (fun i wr => ∃ k : Nat, k ≤ rs.length ∧ i = .int .i64 k ∧ Ext w wr) (fun i _ => rs.length - (intOf i).toNat)
  case atStart => exact ⟨0, by omega, rfl, Ext.rf _⟩
  case round =>
    obtain ⟨k, hk1, rfl, X⟩ := hrel
    by_cases h1 : k < rs.length
    · obtain ⟨us, u1, u2⟩ := hx.ext X
      obtain ⟨vs, v1, v2⟩ := hy.ext X
      obtain ⟨b, off, r, A1, c1, rfl, hb, a0, a1, o1, hr⟩ := u2.at u1 h1
      obtain ⟨b', off', r', B1, d1, rfl, hb', b0, b1, o2, hr'⟩ := v2.at v1 h1
      have hrr := hr'.out
      rw [hr.out] at hrr
      injection hrr with hrr
      subst hrr
      have hl := hll r (List.mem_of_getElem? hr.out)
      have r1 := Lib.hid o1.read
      have r2 := Lib.hid o2.read
      have hself := Lib.hid (ahd_self r.path)
      have hmx : r.path.length ≤ maxLen := by simp only [maxLen]; omega
      clear u1 u2 v1 v2 o1 o2 hr hr'
      go_wp2_with fail
      go_region_held3 (fun w' => w'.cell? ⟨b, off + k * 2, none⟩ = some (.int .i64 r.kind) ∧ w'.cell? ⟨b, off + k * 2 + 1, none⟩ = some (.slice A1 r.path.length c1) ∧ w'.cell? ⟨b', off' + k * 2, none⟩ = some (.int .i64 r.kind) ∧ w'.cell? ⟨b', off' + k * 2 + 1, none⟩ = some (.slice B1 r.path.length d1)) (go_keep)
        (first | (go_at_call 17; refine (refAhead _ _ _ _ r.path r.path _ (by first | exact r1.out.ext (by (repeat (first | assumption | exact Ext.rf _ | apply Ext.drew | apply Ext.drewN | apply Ext.alloc))) | exact r2.out.ext (by (repeat (first | assumption | exact Ext.rf _ | apply Ext.drew | apply Ext.drewN | apply Ext.alloc)))) (by first | exact r1.out.ext (by (repeat (first | assumption | exact Ext.rf _ | apply Ext.drew | apply Ext.drewN | apply Ext.alloc))) | exact r2.out.ext (by (repeat (first | assumption | exact Ext.rf _ | apply Ext.drew | apply Ext.drewN | apply Ext.alloc)))) hmx hmx).mono ?_; rw [hself.out]; rintro e w2 ⟨rfl, x2⟩; have y2 := Ext.tr (a := wr) (by (repeat (first | assumption | exact Ext.rf _ | apply Ext.drew | apply Ext.drewN | apply Ext.alloc))) x2; have s1 := keepEL y2 hb a0; have s2 := keepEL y2 hb a1; have s3 := keepEL y2 hb' b0; have s4 := keepEL y2 hb' b1))
      all_goals
        go_wp2_with (fail)
        go_roundw
        case rel => exact ⟨k + 1, by omega, by go_num, X.tr (by assumption)⟩
        case measure => simp [intOf]; omega
    · go_wp2
      go_ret
      exact ⟨rfl, X⟩
end Go.Proofs.Ytpngflmngnjjoaa
