/-
  mound: Insert: what it answers and how the mound turns.
-/
import Derived.Test.YthmjeajfchpdoaaMoundE
import Derived.Test.YthmjeajfchpdoaaStep
import Derived.Deep.RegionHeld3
import Derived.Deep.DeepCutAuto
namespace Go.Proofs.Ythmjeajfchpdoaa
open Go.RowKit Go.ChangeShapes Go.WideShapes Go.ChangeAt

theorem upsP_mem : ∀ (f i j : Nat), j ∈ upsP f i → 1 ≤ j ∧ j ≤ i
  | 0, _, _, h => by simp [upsP] at h
  | f + 1, i, j, h => by
    by_cases hi : i = 0
    · simp [upsP, hi] at h
    · rw [upsP, if_neg hi] at h
      rcases List.mem_cons.1 h with rfl | h
      · omega
      · have := upsP_mem f (i / 2) j h
        omega
theorem wayP_mem {leaf j : Nat} (h : j ∈ wayP leaf) : 1 ≤ j ∧ j ≤ leaf := upsP_mem (leaf + 1) leaf j (by simpa [wayP] using h)
theorem wayP_pos {leaf : Nat} (h : 1 ≤ leaf) : 0 < (wayP leaf).length := by
  rw [wayP, List.length_reverse, upsP_succ _ _ h]
  simp
theorem wayP_le (leaf : Nat) : (wayP leaf).length ≤ leaf := by rw [wayP, List.length_reverse]; exact upsP_len _ _
theorem halfP_bd (ls : Ls) (key : Int) (path : List Nat) : ∀ (f lo hi : Nat), halfP ls key path f lo hi ≤ hi
  | 0, _, _ => Nat.le_refl _
  | f + 1, lo, hi => by
    rw [halfP]
    split
    · split
      · have := halfP_bd ls key path f lo ((lo + hi) / 2); omega
      · exact halfP_bd ls key path f _ hi
    · exact Nat.le_refl _
theorem placeP_bd (ls : Ls) (key : Int) {leaf : Nat} (h : 1 ≤ leaf) : 1 ≤ placeP ls key leaf ∧ placeP ls key leaf ≤ leaf := by
  have hp := wayP_pos h
  have hb := halfP_bd ls key (wayP leaf) (wayP leaf).length 0 ((wayP leaf).length - 1)
  have hm : (wayP leaf).getD (halfP ls key (wayP leaf) (wayP leaf).length 0 ((wayP leaf).length - 1)) 0 ∈ wayP leaf := by
    rw [List.getD, List.getElem?_eq_getElem (by omega), Option.getD_some]
    exact List.getElem_mem _
  exact wayP_mem hm
theorem scanP_bd (ls : Ls) (key : Int) : ∀ (f i : Nat), scanP ls key f i < i + f ∨ scanP ls key f i = 0
  | 0, _ => .inr rfl
  | f + 1, i => by
    rw [scanP]
    split
    · left; omega
    · rcases scanP_bd ls key f (i + 1) with h | h
      · left; omega
      · right; exact h
theorem drawP_bd (ls : Ls) (key : Int) (n : Nat) (hn : 1 ≤ n) : ∀ (ds : List Int) (i : Nat), drawP ls key n ds = some i → i < 2 * n
  | [], _, h => by simp [drawP] at h
  | d :: ds, i, h => by
    rw [drawP] at h
    split at h
    · have := modu_bd (x := d) (n := (n : Int)) (by omega)
      injection h with h
      omega
    · exact drawP_bd ls key n hn ds i h
theorem leafP_bd (ls : Ls) (key : Int) (ds : List Int) {n : Nat} (hn : ls.length = 2 * n) (h1 : 1 ≤ n) : leafP ls key ds < 2 * n := by
  have h2 : ls.length / 2 = n := by omega
  rw [leafP, h2]
  cases hd : drawP ls key n (ds.take 4) with
  | some i => exact drawP_bd ls key n h1 _ i hd
  | none =>
    rw [Option.getD_none]
    rcases scanP_bd ls key n n with h | h <;> omega
theorem ints_get {l : List Nat} {k : Nat} (hk : k < l.length) : (ints l)[k]? = some ((l.getD k 0 : Nat) : Int) := by
  simp [ints, List.getD, hk]

theorem insert_none (x : It) (D : Option Addr) (n d : Nat) (w : World) : Calls Try.prog 40 #[.pointer none, .agg #[.int .i64 x.1, .int .i64 x.2], .slice D n d] w fun e w' => e = .returned (.bool false) ∧ Ext w w' := by
  go_enter Try.func40, Try.ntmps40
  go_wp2
  go_ret
  exact ⟨rfl, by (repeat (first | assumption | exact Ext.rf _ | apply Ext.drew | apply Ext.drewN | apply Ext.alloc))⟩

set_option maxRecDepth 100000 in
set_option maxHeartbeats 1000000 in
theorem insert_no (g base : Nat) (ls : Ls) (sz : Int) (x : It) (D : Option Addr) (d : Nat) (ds : List Int) (n : Nat) (w : World) (H : MoundRep w base g ls sz) (hn : ls.length = 2 * n) (h1 : 1 ≤ n) (h32 : n ≤ 32)
    (hd : RdI w D ds) (id : Ints ds) (ld : ds.length ≤ d) (ld' : d ≤ maxLen) (hz : leafP ls x.1 ds = 0) :
    Calls Try.prog 40 #[.pointer (some ⟨g, 0, none⟩), .agg #[.int .i64 x.1, .int .i64 x.2], .slice D ds.length d] w fun e w' => e = .returned (.bool false) ∧ Ext w w' := by
  have K := fun W (h : Ext w W) => leaf_any g base ls sz x.1 D d ds n W (H.ext h) hn h1 h32 (hd.ext h) id ld ld'
  rw [hz] at K
  replace K := Lib.hid K
  clear hz hn
  go_enter Try.func40, Try.ntmps40
  go_wp2_with (go_at_call 60; refine (K.out _ ((Ext.rf _).alloc _)).mono ?_; rintro e w' ⟨rfl, rfl⟩)
  go_ret
  exact ⟨rfl, by (repeat (first | assumption | exact Ext.rf _ | apply Ext.drew | apply Ext.drewN | apply Ext.alloc))⟩

theorem item_info : (Try.prog.info? 61).map (fun i => (i.zero, i.size, i.bytes)) = some (some (.agg #[.int .i64 0, .int .i64 0]), 2, 16) := by kernel_rfl
theorem step_items {w : World} {ops : Array Oper} {o : Oper} {a : Act} {K : Act → World → Prop} {Q : Exit → Act → World → Prop} {E : Prop} (hgd : o.guard = none) (s x : Operand)
    (ho : o.op = .call { callee := .builtin .append, args := #[s, x], argTypes := #[82, 82] })
    (g : Nat) (p : It) (B : Option Addr) (l : List It) (c : Nat) (hs : a.eval s = .slice (some ⟨g, 0, none⟩) 1 1) (hx : a.eval x = .slice B l.length c) (hg : Blk w g 61 #[.int .i64 p.1, .int .i64 p.2]) (hr : RdV w 61 B (flat l)) (hl : l.length ≤ 2 ^ 40)
    (h : ∀ A' c' w', RdV w' 61 A' (flat (p :: l)) → (p :: l).length ≤ c' → Ext w w' → K (a.put o.dst (.slice A' (p :: l).length c')) w') : if Region.wanted o (yielded ops a.tmps) = true then Oper.wp Try.prog o a w K Q else E := by
  obtain ⟨i0, hi, hz0, hz1, hz2⟩ := info_parts item_info
  refine step_fresh_v w (e := 61) Try.underlying82 hi hz0 hz1 hz2 (by simp [Value.cells]) (by omega) hgd s x ho 0 g 1 _ B l.length c (flat l) hs hx hg (by omega) (by simp) hr.rdC (flat_len l) (flat_one l) (by simp only [maxLen]; omega) (by omega) ?_
  intro A' c' w' h1 h2
  have e : (1 + l.length) = (p :: l).length := by simp; omega
  rw [e] at h1 ⊢
  exact h A' c' w' (by simpa [flat_cons] using h1.read) h1.le.1 h2

theorem halfP_step (ls : Ls) (key : Int) (path : List Nat) (f lo hi : Nat) (h : lo < hi) : halfP ls key path (f + 1) lo hi = if fitsP ls (path.getD ((lo + hi) / 2) 0) key then halfP ls key path f lo ((lo + hi) / 2) else halfP ls key path f ((lo + hi) / 2 + 1) hi := by
  rw [halfP, if_pos h]
theorem halfP_done (ls : Ls) (key : Int) (path : List Nat) (f lo hi : Nat) (h : ¬ lo < hi) : halfP ls key path f lo hi = hi := by
  cases f with
  | zero => rfl
  | succ f => rw [halfP, if_neg h]

set_option maxRecDepth 100000 in
set_option maxHeartbeats 1000000 in
theorem insert_yes (g base : Nat) (ls : Ls) (sz : Int) (x : It) (D : Option Addr) (d : Nat) (ds : List Int) (n : Nat) (w : World) (H : MoundRep w base g ls sz) (hn : ls.length = 2 * n) (h1 : 1 ≤ n) (h32 : n ≤ 32)
    (hd : RdI w D ds) (id : Ints ds) (ld : ds.length ≤ d) (ld' : d ≤ maxLen) (hz : leafP ls x.1 ds ≠ 0) (hsz : 0 ≤ sz ∧ sz ≤ 2 ^ 60) (hll : ∀ l ∈ ls, l.length ≤ 2 ^ 40) :
    Calls Try.prog 40 #[.pointer (some ⟨g, 0, none⟩), .agg #[.int .i64 x.1, .int .i64 x.2], .slice D ds.length d] w fun e w' => e = .returned (.bool true) ∧
      MoundRep w' base g (ls.set (placeP ls x.1 (leafP ls x.1 ds)) (x :: ls.getD (placeP ls x.1 (leafP ls x.1 ds)) [])) (sz + 1) ∧ ModT base [101, 82] w w' := by
  have hlb := leafP_bd ls x.1 ds hn h1
  have K := fun W (h : Ext w W) => leaf_any g base ls sz x.1 D d ds n W (H.ext h) hn h1 h32 (hd.ext h) id ld ld'
  generalize hL : leafP ls x.1 ds = L at *
  have hL1 : 1 ≤ L := by omega
  have hpb := placeP_bd ls x.1 hL1
  have hplace : placeP ls x.1 L = (wayP L).getD (halfP ls x.1 (wayP L) (wayP L).length 0 ((wayP L).length - 1)) 0 := rfl
  have hwl := wayP_le L
  have hwp := wayP_pos hL1
  have hL64 : L ≤ 64 := by omega
  have hne : ((L : Int) == 0) = false := by simp; omega
  have K61 := fun W => way_any L W hL64
  have hmem : ∀ k, k < (wayP L).length → (wayP L).getD k 0 < 2 * n := by
    intro k hk
    have : (wayP L).getD k 0 ∈ wayP L := by
      rw [List.getD, List.getElem?_eq_getElem hk, Option.getD_some]
      exact List.getElem_mem _
    have := wayP_mem this
    omega
  generalize hP : wayP L = path at *
  generalize hp : placeP ls x.1 L = place at *
  have K62 := fun W (h : Ext w W) i (hi : i < 2 * n) => fits_any g base ls sz i x.1 W (H.ext h) (by omega) (by omega)
  replace K := Lib.hid K
  replace K61 := Lib.hid K61
  replace K62 := Lib.hid K62
  replace hplace := Lib.hid hplace
  replace hmem := Lib.hid hmem
  have hgl : g < w.heap.size := by obtain ⟨h, hb, _⟩ := H; exact hb.lt
  clear hL hP hp hz hd id ld ld'
  replace hn := Lib.hid hn
  go_enter Try.func40, Try.ntmps40
  go_wp2_with (go_at_call 60; refine (K.out _ ((Ext.rf _).alloc _)).mono ?_; rintro e w' ⟨rfl, rfl⟩)
  refine (K61.out _).mono ?_
  rintro e w2 ⟨A1, c1, rfl, o1, x1⟩
  rw [ints_len]
  have X2 : Ext w w2 := ((Ext.rf _).alloc _).tr x1
  have b0 : Blk w2 w.heap.size 61 #[.int .i64 x.1, .int .i64 x.2] := Blk.ext (.new rfl) x1
  clear K K61 x1
  have r1 := o1.read
  replace b0 := Lib.hid b0
  clear o1
  go_wp2_with fail
  go_loopw [9, 10] (fun lo hi wr => ∃ l h f : Nat, lo = .int .i64 l ∧ hi = .int .i64 h ∧ l ≤ h ∧ h < path.length ∧ h - l ≤ f ∧ Hid (halfP ls x.1 path path.length 0 (path.length - 1) = halfP ls x.1 path f l h) ∧ Ext w2 wr) (fun lo hi _ => (intOf hi).toNat - (intOf lo).toNat)
  case atStart => exact ⟨0, path.length - 1, path.length, rfl, by congr 1; omega, by omega, by omega, by omega, by exact rfl, Ext.rf _⟩
  case round =>
    obtain ⟨l, h, f, rfl, rfl, hlh, hhp, hf, hH, xr⟩ := hrel
    by_cases hlt : l < h
    · obtain ⟨f', rfl⟩ : ∃ f', f = f' + 1 := ⟨f - 1, by omega⟩
      have hst := halfP_step ls x.1 path f' l h hlt
      rw [← hH.out] at hst
      have hmid : (l + h) / 2 < path.length := by omega
      have hm := hmem.out _ hmid
      have Kf : ∀ m, Calls Try.prog 62 #[.pointer (some ⟨g, 0, none⟩), .int .i64 ((path.getD ((l + h) / 2) 0 : Nat) : Int), .int .i64 x.1] (wr.drewN m) fun e w' => e = .returned (.bool (fitsP ls (path.getD ((l + h) / 2) 0) x.1)) ∧ w' = wr.drewN m :=
        fun m => (K62.out _ ((X2.tr xr).drewN m) _ hm).mono fun e w' q => ⟨q.1, q.2.symm⟩
      obtain ⟨b, off, y, hA, hbl, hcell, hy, hdr⟩ := (r1.ext xr).at (k := (l + h) / 2) (by rw [ints_len]; exact hmid)
      clear hdr
      have hy := hy.out
      rw [ints_get hmid] at hy
      injection hy with hy
      subst hA
      obtain ⟨k0, k1⟩ : wr.cell? ⟨w.heap.size, 0, none⟩ = some (.int .i64 x.1) ∧ wr.cell? ⟨w.heap.size, 1, none⟩ = some (.int .i64 x.2) := by
        have hb := b0.out.ext xr
        have h0 := hb.cell 0
        have h1 := hb.cell 1
        simp at h0 h1
        exact ⟨h0, h1⟩
      have hq : ((l : Int) + (h : Int)) / 2 = (((l + h) / 2 : Nat) : Int) := by omega
      have hmp : (l + h) / 2 < path.length := hmid
      have hh44 : h ≤ 2 ^ 44 := by omega
      have hlt' : (l : Int) < (h : Int) := by omega
      generalize hM : (l + h) / 2 = M at *
      replace hM := Lib.hid hM
      rw [hy] at Kf
      replace Kf := Lib.hid Kf
      replace hst := Lib.hid hst
      replace hy := Lib.hid hy
      clear hm
      cases hf : fitsP ls (path.getD M 0) x.1 with
      | true =>
        rw [hf] at Kf hst
        go_wp2_with (go_quiet (first | (go_at_call 62; refine Calls.quiet_of_same (Kf.out _))))
        go_roundw
        case rel => exact ⟨l, M, f', rfl, by go_num, by have := hM.out; omega, by omega, by have := hM.out; omega, Lib.hid (hst.out.trans (if_pos (by simp))), xr.drewN _⟩
        case measure => simp [intOf]; have := hM.out; omega
      | false =>
        rw [hf] at Kf hst
        go_wp2_with (go_quiet (first | (go_at_call 62; refine Calls.quiet_of_same (Kf.out _))))
        go_roundw
        case rel => exact ⟨M + 1, h, f', by go_num, rfl, by have := hM.out; omega, hhp, by have := hM.out; omega, Lib.hid (hst.out.trans (if_neg (by simp))), xr.drewN _⟩
        case measure => simp [intOf]; have := hM.out; omega
    · obtain rfl : l = h := by omega
      have hpl := hplace.out
      rw [hH.out, halfP_done _ _ _ _ _ _ (by omega)] at hpl
      obtain ⟨b, off, y, hA, hbl, hcell, hy, hdr⟩ := (r1.ext xr).at (k := l) (by rw [ints_len]; exact hhp)
      have hy := hy.out
      rw [ints_get hhp, ← hpl] at hy
      injection hy with hy
      subst hA
      subst hy
      have hpn : place < ls.length := by have := hn.out; omega
      obtain ⟨l', hl'⟩ : ∃ l', ls[place]? = some l' := ⟨_, List.getElem?_eq_getElem hpn⟩
      have hd := getD_nil hl'
      replace hd := Lib.hid hd
      have hlm : l'.length ≤ 2 ^ 40 := hll l' (List.mem_of_getElem? hl')
      obtain ⟨hh, hb, hbg, hbh, hH'⟩ := H.ext (X2.tr xr)
      obtain ⟨A2, c2, hc2, hf2, hr2, hlc⟩ := hH'.at hl'
      have c0 := hb.cell 0
      simp at c0
      obtain ⟨k0, k1⟩ : wr.cell? ⟨w.heap.size, 0, none⟩ = some (.int .i64 x.1) ∧ wr.cell? ⟨w.heap.size, 1, none⟩ = some (.int .i64 x.2) := by
        have hb := b0.out.ext xr
        have h0 := hb.cell 0
        have h1 := hb.cell 1
        simp at h0 h1
        exact ⟨h0, h1⟩
      have XR := X2.tr xr
      have hgh : g ≠ hh := by obtain ⟨cs, hb2, _⟩ := hH'; exact Blk.ne hb hb2 (by decide)
      have zg := hb.lt
      have zh := hH'.lt
      have zb := (b0.out.ext xr).lt
      have f1 := hb.free 1
      have q1 := hb.cell 1
      simp at q1
      clear K62 hH hmem hplace r1 hpl hdr b0 hl'
      replace hb := Lib.hid hb
      replace hH' := Lib.hid hH'
      replace hr2 := Lib.hid hr2
      go_upto_region 14 with (fail)
      go_cut [63] (fun _ wx => ∃ A3 c3 w3, RdV w3 61 A3 (flat (x :: l')) ∧ l'.length + 1 ≤ c3 ∧ Ext wr w3 ∧ wx = w3.setCell ⟨hh, place, none⟩ (.slice A3 (l'.length + 1) c3))
      case first =>
        have hbs : ∀ u : World, (Instr.buildSlice 82 1 #[(0, .agg #[.int .i64 x.1, .int .i64 x.2])]).run Try.prog u = .ok (.slice (some ⟨u.heap.size, 0, none⟩) 1 1) (u.alloc (.cells #[.int .i64 x.1, .int .i64 x.2] 61)) := fun u => by go_simp
        refine wp_region_any (by kernel_rfl) ?_
        change wpAny _ _ _ _ _ _ _ (World.drew _)
        refine wpAny_take (i := 0) (v := ?_) rfl (by kernel_rfl) (by kernel_rfl) (by kernel_rfl) (fun _ _ _ h => h) (Or.inl ⟨by rfl, ?_⟩) ?_
        case refine_2 => (intro _; go_simp; try with_reducible rfl)
        refine wpAny_take (i := 1) (v := ?_) rfl (by kernel_rfl) (by kernel_rfl) (by kernel_rfl) (fun _ _ _ h => h) (Or.inl ⟨by rfl, ?_⟩) ?_
        case refine_2 => (intro _; go_simp; try with_reducible rfl)
        refine wpAny_take (i := 2) (v := ?_) rfl (by kernel_rfl) (by kernel_rfl) (by kernel_rfl) (fun _ _ _ h => h) (Or.inl ⟨by rfl, ?_⟩) ?_
        case refine_2 => (intro _; go_simp; try with_reducible rfl)
        refine wpAny_take (i := 4) (v := ?_) rfl (by kernel_rfl) (by kernel_rfl) (by kernel_rfl) (fun _ _ _ h => h) (Or.inl ⟨by rfl, ?_⟩) ?_
        case refine_2 => (intro _; go_simp; try with_reducible rfl)
        refine wpAny_take (i := 7) (v := ?_) rfl (by kernel_rfl) (by kernel_rfl) (by kernel_rfl) (fun _ _ _ h => h) (Or.inl ⟨by rfl, ?_⟩) ?_
        case refine_2 => (intro _; go_simp; try with_reducible rfl)
        refine wpAny_take (i := 8) (v := ?_) rfl (by kernel_rfl) (by kernel_rfl) (by kernel_rfl) (fun _ _ _ h => h) (Or.inl ⟨by rfl, ?_⟩) ?_
        case refine_2 => (intro _; go_simp; try with_reducible rfl)
        refine wpAny_take (i := 9) (v := ?_) rfl (by kernel_rfl) (by kernel_rfl) (by kernel_rfl) (fun _ _ _ h => h) (Or.inl ⟨by rfl, ?_⟩) ?_
        case refine_2 => (intro _; go_simp; try with_reducible rfl)
        refine wpAny_take (i := 11) (v := ?_) rfl (by kernel_rfl) (by kernel_rfl) (by kernel_rfl) (fun _ _ _ h => h) (Or.inl ⟨by rfl, ?_⟩) ?_
        case refine_2 => (intro _; go_simp; try with_reducible rfl)
        refine wpAny_core (n := 2) [(3, some 52), (5, some 54), (6, some 55), (10, some 59), (12, some 61), (13, some 62), (14, some 63)] (Ext wr)
          (VF (fun | 3 => some (.slice (some ⟨hh, 0, none⟩) ls.length ls.length) | 5 => some (.agg #[.int .i64 x.1, .int .i64 x.2]) | 10 => some (.slice (some ⟨hh, 0, none⟩) ls.length ls.length) | 12 => some (.pointer (some ⟨hh, place, none⟩)) | 13 => some (.slice A2 l'.length c2) | _ => none)
            (fun i v W => (i = 6 → ∃ q, v = .slice (some ⟨q, 0, none⟩) 1 1 ∧ Blk W q 61 #[.int .i64 x.1, .int .i64 x.2]) ∧ (i = 14 → ∃ A3 c3, v = .slice A3 (x :: l').length c3 ∧ RdV W 61 A3 (flat (x :: l')) ∧ (x :: l').length ≤ c3)))
          Ext (Array.replicate 15 true ++ #[false, false]) (by kernel_rfl) (VF.stab ?_) ?_ ?_ ((Ext.rf _).drew)
        · intro j v W W' _ ⟨g6, g14⟩ hx
          refine ⟨fun h => ?_, fun h => ?_⟩
          · obtain ⟨q, q1, q2⟩ := g6 h
            exact ⟨q, q1, q2.ext hx⟩
          · obtain ⟨A3, c3, q1, q2, q3⟩ := g14 h
            exact ⟨A3, c3, q1, q2.ext hx, q3⟩
        · intro p hpm u w2 hR hD K hK
          have r0 := (hR.cells.1 _ 0 zg).trans c0
          have r2 := (hR.cells.1 _ place zh).trans hc2
          have b0 := (hR.cells.1 _ 0 zb).trans k0
          have b1 := (hR.cells.1 _ 1 zb).trans k1
          simp only [List.mem_cons, List.not_mem_nil, or_false] at hpm
          rcases hpm with rfl | rfl | rfl | rfl | rfl | rfl | rfl
          · exact op_ld (T := 69) rfl (.pointer (some ⟨g, 0, none⟩)) (by kernel_rfl) (.slice (some ⟨hh, 0, none⟩) ls.length ls.length) (by go_simp) (hK _ _ (VF.mk rfl) hR (Ext.rf _))
          · exact op_ld (T := 61) rfl (.pointer (some ⟨w.heap.size, 0, none⟩)) (by kernel_rfl) (.agg #[.int .i64 x.1, .int .i64 x.2]) (by go_simp) (hK _ _ (VF.mk rfl) hR (Ext.rf _))
          · have h5 := (hD 5 (depIn (by kernel_rfl))).k rfl
            exact op_bs1 rfl _ (Eq.trans (b := u 5) (by kernel_rfl) h5) _ (hbs _) (hK _ _ (VF.mg rfl ⟨fun _ => ⟨_, rfl, .new rfl⟩, fun h => by cases h⟩) (hR.alloc _) ((Ext.rf _).alloc _))
          · exact op_ld (T := 69) rfl (.pointer (some ⟨g, 0, none⟩)) (by kernel_rfl) (.slice (some ⟨hh, 0, none⟩) ls.length ls.length) (by go_simp) (hK _ _ (VF.mk rfl) hR (Ext.rf _))
          · have h10 := (hD 10 (depIn (by kernel_rfl))).k rfl
            exact op_ix (T := 69) rfl _ (.int .i64 (place : Int)) (Eq.trans (b := u 10) (by kernel_rfl) h10) (by kernel_rfl) (.pointer (some ⟨hh, place, none⟩)) (by go_simp) (hK _ _ (VF.mk rfl) hR (Ext.rf _))
          · have h12 := (hD 12 (depIn (by kernel_rfl))).k rfl
            exact op_ld (T := 82) rfl _ (Eq.trans (b := u 12) (by kernel_rfl) h12) (.slice A2 l'.length c2) (by go_simp) (hK _ _ (VF.mk rfl) hR (Ext.rf _))
          · have h13 := (hD 13 (depIn (by kernel_rfl))).k rfl
            obtain ⟨q, h6, hq⟩ := ((hD 6 (depIn (by kernel_rfl))).g rfl).1 rfl
            obtain ⟨i0, hi, hz0, hz1, hz2⟩ := info_parts item_info
            obtain ⟨A3, c3, w3, hrun, h3, x3⟩ := run_fresh_v w2 (e := 61) Try.underlying82 hi hz0 hz1 hz2 (by simp [Value.cells]) (by omega) 0 82 q 1 #[.int .i64 x.1, .int .i64 x.2] A2 l'.length c2 (flat l') hq (by omega) (by simp) (hr2.out.ext hR).rdC (flat_len l') (flat_one l') (by simp only [maxLen]; omega) (by omega)
            have e : (1 + l'.length) = (x :: l').length := by simp; omega
            rw [e] at hrun h3
            exact op_app rfl _ _ (Eq.trans (b := u 6) (by kernel_rfl) h6) (Eq.trans (b := u 13) (by kernel_rfl) h13) _ hrun (hK _ _ (VF.mg rfl ⟨(fun h => by cases h), fun _ => ⟨_, _, rfl, by simpa [flat_cons] using h3.read, h3.le.1⟩⟩) (hR.tr x3) x3)
        · intro u w3 hR hV
          have h3 := (hV (3, some 52) (by simp)).k rfl
          have h5 := (hV (5, some 54) (by simp)).k rfl
          have h10 := (hV (10, some 59) (by simp)).k rfl
          have h12 := (hV (12, some 61) (by simp)).k rfl
          have h13 := (hV (13, some 62) (by simp)).k rfl
          obtain ⟨q, h6, hq⟩ := ((hV (6, some 55) (by simp)).g rfl).1 rfl
          obtain ⟨A3, c3, h14, q1, q2⟩ := ((hV (14, some 63) (by simp)).g rfl).2 rfl
          simp only [putAll, h3, h5, h6, h10, h12, h13, h14]
          clear h3 h5 h6 h10 h12 h13 h14 hV hq
          have m3 := (hR.cells.1 _ place zh).trans hc2
          have f3 := (hR.cells.2 _ place zh).trans hf2
          refine wpAny_take (i := 15) (v := ?_) rfl (by kernel_rfl) (by kernel_rfl) (by kernel_rfl) (fun _ _ _ h => h) (Or.inl ⟨by rfl, ?_⟩) ?_
          case refine_2 => (intro _; go_simp; try with_reducible rfl)
          refine wpAny_one 16 (by kernel_rfl) (by kernel_rfl) ?_
          refine op_st rfl (.pointer (some ⟨hh, place, none⟩)) (.slice A3 (x :: l').length c3) (by kernel_rfl) (by kernel_rfl) (by go_simp; rfl) ?_
          go_simp
          go_wp2_with fail
          go_meet
          exact ⟨_, _, _, q1, q2, hR, rfl⟩
      case rest =>
        obtain ⟨A3, c3, w3, h3, l3, y3, rfl⟩ := hcut
        have f4 := (y3.cells.2 _ _ zg).trans f1
        have m0 := (y3.cells.1 _ _ zg).trans c0
        have m4 := (y3.cells.1 _ _ zg).trans q1
        replace h3 := Lib.hid h3
        have hgh' : hh ≠ g := fun h => hgh h.symm
        replace y3 := Lib.hid y3
        go_wp2_with (fail)
        go_ret
        have R := put_rep (place := place) (l := x :: l') (sz := sz + 1) (A := A3) (c := c3) (hb.out.ext y3.out) rfl hbg hbh (hH'.out.ext y3.out) h3.out (by simpa using l3)
        have M := put_mod place (hb.out.ext y3.out) hbg hbh (hH'.out.ext y3.out) (XR.tr y3.out) (.slice A3 (l'.length + 1) c3) (.int .i64 (sz + 1))
        rw [← hd.out] at R
        simp only [List.length_cons, hd.out] at R
        rw [hd.out]
        exact ⟨rfl, R, M⟩
end Go.Proofs.Ythmjeajfchpdoaa
