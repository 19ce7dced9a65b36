/-
  TapeMakes: Round, Favor and Mixed make what the chapter says. No condition.
-/
import Derived.Test.YthmjeajfchpdoaaTapeB
import Derived.Test.YthmjeajfchpdoaaRegion
import Derived.Deep.DeepCutAuto
namespace Go.Proofs.Ythmjeajfchpdoaa.tapeMakes
open Go.RowKit Go.ChangeShapes Go.WideShapes Go.ChangeAt

/-- a table of which k places are filled -/
def tab (f : Nat → Int) (k : Nat) : List Int := (List.range k).map f
def tabUp (f : Nat → Int) (count k : Nat) : List Int := tab f k ++ List.replicate (count - k) 0
theorem tab_len (f : Nat → Int) (k : Nat) : (tab f k).length = k := by simp [tab]
theorem tab_snoc (f : Nat → Int) (k : Nat) : tab f (k + 1) = tab f k ++ [f k] := by simp [tab, List.range_succ]
theorem tabUp_len {f : Nat → Int} {count k : Nat} (hk : k ≤ count) : (tabUp f count k).length = count := by simp [tabUp, tab_len]; omega
theorem tabUp_set (f : Nat → Int) {count k : Nat} (hk : k < count) : (tabUp f count k).set k (f k) = tabUp f count (k + 1) := by
  have e : count - k = (count - (k + 1)) + 1 := by omega
  rw [tabUp, tabUp, tab_snoc, e, List.replicate_succ, List.set_append_right _ _ (by simp [tab_len])]
  simp [tab_len]
theorem tabUp_full (f : Nat → Int) (count : Nat) : tabUp f count count = tab f count := by simp [tabUp]

def nextS (s : Int) : Int := IntKind.u64.wrap (IntKind.u64.wrap (s * 6364136223846793005) + 1442695040888963407)
def drawV (m s : Int) : Int := (wrap64 (nextS s / 8589934592)).tmod (m + 1)
def seedAt (s : Int) : Nat → Int
  | 0 => s
  | k + 1 => nextS (seedAt s k)
def mixL (m s : Int) (k : Nat) : List Int := tab (fun i => drawV m (seedAt s i)) k
theorem u64_lt (x : Int) : IntKind.u64.wrap x ≤ 18446744073709551615 := by
  simp only [IntKind.wrap, IntKind.signed, IntKind.bits, Bool.false_and]
  have := Int.emod_lt_of_pos x (show (0 : Int) < 2 ^ 64 by decide)
  simp only [Bool.false_eq_true, if_false]
  omega
theorem u64_id' {x : Int} (h0 : 0 ≤ x) (h1 : x ≤ 18446744073709551615) : IntKind.u64.wrap x = x := by
  simp only [IntKind.wrap, IntKind.signed, IntKind.bits, Bool.false_and]
  exact Int.emod_eq_of_lt h0 (by omega)
theorem half (s : Int) : IntKind.u64.wrap ((nextS s).tdiv 8589934592) = nextS s / 8589934592 := by
  have h0 : 0 ≤ nextS s := u64_nonneg _
  have h1 : nextS s ≤ 18446744073709551615 := u64_lt _
  rw [Int.tdiv_eq_ediv_of_nonneg h0]
  exact u64_id' (Int.ediv_nonneg h0 (by decide)) (by omega)
theorem fine2_any (n c : Int) (w : World)  :
    Calls Try.prog 57 #[.int .i64 n, .int .i64 c] w fun e w' => e = .returned (.bool (fineB n c)) ∧ w = w' := by
  go_enter Try.func57, Try.ntmps57
  go_wp2
  all_goals
    go_ret
    refine ⟨ret_b ?_, rfl⟩
    unfold fineB
    simp [*]
    try omega
theorem ret_iu {a b c d : Int} (h : a = b) (h' : c = d) : Ending.returned (.tuple #[.int .i64 a, .int .u64 c]) = .returned (.tuple #[.int .i64 b, .int .u64 d]) := by rw [h, h']
theorem draw_yes (s m : Int) (w : World) (hm : 0 ≤ m ∧ m ≤ 2147483647) :
    Calls Try.prog 58 #[.int .u64 s, .int .i64 m] w fun e w' => e = .returned (.tuple #[.int .i64 (drawV m s), .int .u64 (nextS s)]) ∧ w = w' := by
  go_enter Try.func58, Try.ntmps58
  go_wp2
  go_ret2
  exact ⟨ret_iu rfl rfl, rfl⟩
theorem rdraw_yes (s m : Int) (w : World) (hm : 0 ≤ m ∧ m ≤ 2147483647) :
    Calls Try.prog 74 #[.int .u64 s, .int .i64 m] w fun e w' => e = .returned (.tuple #[.int .i64 (drawV m s), .int .u64 (nextS s)]) ∧ w = w' := by
  have hh := half s
  unfold nextS at hh
  replace hh := Lib.hid hh
  go_enter Try.func74, Try.ntmps74
  go_wp2
  go_ret2
  exact ⟨ret_iu (by unfold drawV nextS; rw [← hh.out]) rfl, rfl⟩

set_option maxRecDepth 100000 in
theorem mixed_any (n c s : Int) (w : World) :
    Calls Try.prog 35 #[.int .i64 n, .int .i64 c, .int .u64 s] w fun e w' => ∃ A' c', e = .returned (.slice A' (if fineB n c then mixL (n - 1) s c.toNat else []).length c') ∧ OwI w' w.heap.size A' c' (if fineB n c then mixL (n - 1) s c.toNat else []) ∧ Ext w w' := by
  cases hf : fineB n c with
  | false =>
    replace hf := Lib.hid hf
    go_enter Try.func35, Try.ntmps35
    go_wp2_with fail
    refine (fine_any _ _ _).mono ?_
    rw [hf.out]
    rintro e w' ⟨rfl, rfl⟩
    go_wp2
    go_ret
    exact ⟨none, 0, rfl, OwI.nil _ _, Ext.rf _⟩
  | true =>
    obtain ⟨n1, n2, c1, c2⟩ := fineB_iff.1 hf
    obtain ⟨m, rfl⟩ := Int.eq_ofNat_of_zero_le c1
    replace hf := Lib.hid hf
    simp only [Int.toNat_natCast, if_true]
    have hlen : (mixL (n - 1) s m).length = m := tab_len _ _
    rw [hlen]
    clear hlen
    go_enter Try.func35, Try.ntmps35
    go_wp2_with fail
    refine (fine_any _ _ _).mono ?_
    rw [hf.out]
    rintro e w' ⟨rfl, rfl⟩
    go_wp2_with (at_make; refine wpl_make_i _ rfl _ _ rfl w.heap.size _ _ m rfl rfl rfl rfl (by omega) (Nat.le_refl _) ?_; rintro w1 hown hg)
    have he1 : Ext w w1 := (Ext.rf w).grownNone hg
    clear hg
    go_loopw [2, 17] (fun t i wr => ∃ k : Nat, k ≤ m ∧ i = .int .i64 k ∧ t = .int .u64 (seedAt s k) ∧ OwI wr w.heap.size (some ⟨w.heap.size, 0, none⟩) m (tabUp (fun i => drawV (n - 1) (seedAt s i)) m k) ∧ Ext w wr) (fun _ i _ => m - (intOf i).toNat)
    case atStart => exact ⟨0, by omega, rfl, rfl, by simpa [tabUp, tab] using hown, he1⟩
    case round =>
      obtain ⟨k, hk, rfl, rfl, ho, hx⟩ := hrel
      replace ho := Lib.hid ho
      by_cases hlt : k < m
      · have hl : (tabUp (fun i => drawV (n - 1) (seedAt s i)) m k).length = m := tabUp_len hk
        obtain ⟨x, hc, hfz, hb, hx', hs⟩ := ho.out.cell (k := k) (by omega)
        clear hl
        have hset := Lib.hid (tabUp_set (fun i => drawV (n - 1) (seedAt s i)) hlt)
        go_wp2_with fail
        refine (draw_yes _ _ _ (by omega)).mono ?_
        rintro e w' ⟨rfl, rfl⟩
        go_wp2
        go_roundw
        case rel => exact ⟨k + 1, by omega, by go_num, rfl, by rw [← hset.out]; exact hs.out _, hx.setNew hb _⟩
        case measure => simp [intOf]; omega
      · obtain rfl : k = m := by omega
        go_wp2
        go_ret
        exact ⟨_, _, rfl, by have := ho.out; rwa [tabUp_full] at this, hx⟩

set_option maxRecDepth 100000 in
theorem numbers_any (m : Nat) (n s : Int) (w : World) (hn : 1 ≤ n ∧ n ≤ 16) (hm : m ≤ 1000000) :
    Calls Try.prog 59 #[.int .i64 m, .int .i64 (n - 1), .int .u64 s] w fun e w' => ∃ A' c' t, e = .returned (.tuple #[.slice A' (mixL (n - 1) s m).length c', .int .u64 t]) ∧ OwI w' w.heap.size A' c' (mixL (n - 1) s m) ∧ Ext w w' := by
  go_enter Try.func59, Try.ntmps59
  go_wp2_with fail
  go_loopw [2, 8, 9] (fun t o i wr => ∃ (k : Nat) (A : Option Addr) (c : Nat), k ≤ m ∧ i = .int .i64 k ∧ t = .int .u64 (seedAt s k) ∧ o = .slice A (mixL (n - 1) s k).length c ∧ OwI wr w.heap.size A c (mixL (n - 1) s k) ∧ Ext w wr) (fun _ _ i _ => m - (intOf i).toNat)
  case atStart => exact ⟨0, none, 0, by omega, rfl, rfl, rfl, OwI.nil _ _, Ext.rf _⟩
  case round =>
    obtain ⟨k, A, c, hk, rfl, rfl, rfl, ho, hx⟩ := hrel
    by_cases hlt : k < m
    · have hl : (mixL (n - 1) s k).length = k := tab_len _ _
      have hll : (mixL (n - 1) s k).length ≤ 1000000 := by omega
      clear hl
      have hsn : mixL (n - 1) s (k + 1) = mixL (n - 1) s k ++ [drawV (n - 1) (seedAt s k)] := tab_snoc _ _
      replace hsn := Lib.hid hsn
      have hsz := hx.size
      generalize mixL (n - 1) s k = xs at *
      go_wp2_with (first
        | (go_at_call 74; refine (rdraw_yes _ _ _ (by omega)).mono ?_; rintro e w' ⟨rfl, rfl⟩)
        | (at_builtin; refine wpl_app_i _ rfl _ _ rfl w.heap.size A xs.length c xs [drawV (n - 1) (seedAt s k)] (some ⟨wr.heap.size, 0, none⟩) 1 rfl rfl rfl ?_ ?_ ?_ ?_ ?_; (exact ho.ext ((Ext.rf _).alloc _)); (exact .blk (.new (by simp)) rfl); (simp; omega); (first | exact Nat.le_refl _ | omega | (focus (simp; try omega))); rintro A1 c1 w1 h1 g1 _))
      go_roundw
      case rel => exact ⟨k + 1, A1, c1, by omega, by go_num, rfl, by rw [hsn.out]; simp, by rw [hsn.out]; exact h1, (hx.alloc _).grow g1 (fun j hj => (ho.lt j hj).1)⟩
      case measure => simp [intOf]; omega
    · obtain rfl : k = m := by omega
      go_wp2
      go_ret2
      exact ⟨A, c, _, rfl, ho, hx⟩

set_option maxRecDepth 100000 in
theorem rmixed_any (n c s : Int) (w : World) :
    Calls Try.prog 36 #[.int .i64 n, .int .i64 c, .int .u64 s] w fun e w' => ∃ A' c', e = .returned (.slice A' (if fineB n c then mixL (n - 1) s c.toNat else []).length c') ∧ OwI w' w.heap.size A' c' (if fineB n c then mixL (n - 1) s c.toNat else []) ∧ Ext w w' := by
  cases hf : fineB n c with
  | false =>
    replace hf := Lib.hid hf
    go_enter Try.func36, Try.ntmps36
    go_wp2_with fail
    refine (fine2_any _ _ _).mono ?_
    rw [hf.out]
    rintro e w' ⟨rfl, rfl⟩
    go_wp2
    go_ret
    exact ⟨none, 0, rfl, OwI.nil _ _, Ext.rf _⟩
  | true =>
    obtain ⟨n1, n2, c1, c2⟩ := fineB_iff.1 hf
    obtain ⟨m, rfl⟩ := Int.eq_ofNat_of_zero_le c1
    replace hf := Lib.hid hf
    simp only [Int.toNat_natCast, if_true]
    go_enter Try.func36, Try.ntmps36
    go_wp2_with fail
    refine (fine2_any _ _ _).mono ?_
    rw [hf.out]
    rintro e w' ⟨rfl, rfl⟩
    go_wp2_with fail
    refine (numbers_any m n s _ ⟨n1, n2⟩ (by omega)).mono ?_
    rintro e w1 ⟨A, c, t, rfl, h1, x1⟩
    go_wp2
    go_ret
    exact ⟨A, c, rfl, h1, x1⟩

theorem rfavor_no (n who every c : Int) (w : World) (h : favOk n who every c = false) :
    Calls Try.prog 33 #[.int .i64 n, .int .i64 who, .int .i64 every, .int .i64 c] w fun e w' => e = .returned (.slice (some ⟨w.heap.size, 0, none⟩) 0 0) ∧ w' = w.alloc (.cells #[] 3) := by
  cases hf : fineB n c with
  | false =>
    go_enter Try.func33, Try.ntmps33
    go_wp2_with (go_at_call 57; refine (fine2_any _ _ _).mono ?_; rintro e w' ⟨rfl, rfl⟩)
    go_ret
    exact ⟨rfl, rfl⟩
  | true =>
    have hh : who < 0 ∨ n ≤ who ∨ every < 1 := by
      by_cases h1 : who < 0
      · exact .inl h1
      · by_cases h2 : n ≤ who
        · exact .inr (.inl h2)
        · refine .inr (.inr ?_)
          simp only [favOk, hf, Bool.true_and, Bool.and_eq_false_iff, decide_eq_false_iff_not] at h
          omega
    clear h
    by_cases h1 : who < 0
    · go_enter Try.func33, Try.ntmps33
      go_wp2_with (go_at_call 57; refine (fine2_any _ _ _).mono ?_; rintro e w' ⟨rfl, rfl⟩)
      go_ret
      exact ⟨rfl, rfl⟩
    · by_cases h2 : n ≤ who
      · go_enter Try.func33, Try.ntmps33
        go_wp2_with (go_at_call 57; refine (fine2_any _ _ _).mono ?_; rintro e w' ⟨rfl, rfl⟩)
        go_ret
        exact ⟨rfl, rfl⟩
      · have h3 : every < 1 := by omega
        go_enter Try.func33, Try.ntmps33
        go_wp2_with (go_at_call 57; refine (fine2_any _ _ _).mono ?_; rintro e w' ⟨rfl, rfl⟩)
        go_ret
        exact ⟨rfl, rfl⟩

theorem every_iff {k : Nat} {e : Int} (he : 1 ≤ e) : (k : Int) % e = e - 1 ↔ ((k : Int) + 1) % e = 0 := by
  have h1 := Int.emod_add_mul_ediv (k : Int) e
  have a1 := Int.emod_nonneg (k : Int) (show e ≠ 0 by omega)
  have b1 := Int.emod_lt_of_pos (k : Int) (show 0 < e by omega)
  constructor
  · intro h
    have : (k : Int) + 1 = e * ((k : Int) / e + 1) := by rw [Int.mul_add]; omega
    rw [this, Int.mul_emod_right]
  · intro h
    rcases Int.lt_or_le ((k : Int) % e) (e - 1) with hl | hl
    · exfalso
      have : ((k : Int) + 1) % e = (k : Int) % e + 1 := by
        have e2 : (k : Int) + 1 = ((k : Int) % e + 1) + e * ((k : Int) / e) := by omega
        rw [e2, Int.add_mul_emod_self_left, Int.emod_eq_of_lt (by omega) (by omega)]
      omega
    · omega

set_option maxRecDepth 100000 in
theorem rfavor_yes (n who every c : Int) (w : World) (h : favOk n who every c = true) (he : every ≤ 9223372036854775807) :
    Calls Try.prog 33 #[.int .i64 n, .int .i64 who, .int .i64 every, .int .i64 c] w fun e w' => ∃ A' c', e = .returned (.slice A' (favL n who every c.toNat).length c') ∧ OwI w' w.heap.size A' c' (favL n who every c.toNat) ∧ Ext w w' := by
  have hf : fineB n c = true := by simp only [favOk, Bool.and_eq_true] at h; exact h.1
  obtain ⟨⟨n1, n2, c1, c2⟩, w1, w2, e1⟩ := favOk_iff.1 h
  obtain ⟨m, rfl⟩ := Int.eq_ofNat_of_zero_le c1
  rw [Int.toNat_natCast]
  clear h
  go_enter Try.func33, Try.ntmps33
  go_wp2_with (go_at_call 57; refine (fine2_any _ _ _).mono ?_; rintro e w' ⟨rfl, rfl⟩)
  go_loopw [9, 10, 11] (fun o t i wr => ∃ (k : Nat) (A : Option Addr) (c : Nat), k ≤ m ∧ i = .int .i64 k ∧ t = .int .i64 ((k : Int) / every) ∧ o = .slice A (favL n who every k).length c ∧ OwI wr w.heap.size A c (favL n who every k) ∧ Ext w wr) (fun _ _ i _ => m - (intOf i).toNat)
  case atStart => exact ⟨0, _, 0, by omega, rfl, by simp, rfl, .empty (.new (by simp)) (Nat.le_refl _), (Ext.rf _).alloc _⟩
  case round =>
    obtain ⟨k, A, c, hk, rfl, rfl, rfl, ho, hx⟩ := hrel
    by_cases hlt : k < m
    · have hl : (favL n who every k).length = k := favL_len _ _ _ _
      have hll : (favL n who every k).length ≤ 1000000 := by omega
      clear hl
      have hsn := Lib.hid (favL_snoc n who every k)
      have hsz := hx.size
      have hq : 0 ≤ (k : Int) / every := Int.ediv_nonneg (by omega) (by omega)
      have hq2 : (k : Int) / every ≤ k := Int.ediv_le_self _ (by omega)
      have hd := Lib.hid (div_step (k := (k : Int)) (e := every) (by omega) (by omega))
      generalize favL n who every k = xs at *
      cases hm : ((k : Int) % every == every - 1) with
      | true =>
        have hm2 : ((k : Int) + 1) % every = 0 := (every_iff e1).1 (by simpa using hm)
        have hv := Lib.hid (favAt_yes (n := n) (who := who) hm2)
        replace hm2 := Lib.hid hm2
        go_wp2_with (at_builtin; refine wpl_app_i _ rfl _ _ rfl w.heap.size A xs.length c xs [((k : Int) / every) % n] (some ⟨wr.heap.size, 0, none⟩) 1 rfl rfl rfl ?_ ?_ ?_ ?_ ?_; (exact ho.ext ((Ext.rf _).alloc _)); (exact .blk (.new (by simp)) rfl); (simp; omega); (first | exact Nat.le_refl _ | omega | (focus (simp; try omega))); rintro A1 c1 w1 h1 g1 _)
        go_roundw
        case rel => exact ⟨k + 1, A1, c1, by omega, by go_num, by rw [Int.natCast_add, Int.natCast_one, hd.out, if_pos hm2.out], by rw [hsn.out]; simp, by rw [hsn.out, hv.out]; exact h1, (hx.alloc _).grow g1 (fun j hj => (ho.lt j hj).1)⟩
        case measure => simp [intOf]; omega
      | false =>
        have hm2 : ¬ ((k : Int) + 1) % every = 0 := fun h => by have := (every_iff e1).2 h; simp [this] at hm
        have hv := Lib.hid (favAt_no (n := n) (who := who) hm2)
        replace hm2 := Lib.hid hm2
        go_wp2_with (at_builtin; refine wpl_app_i _ rfl _ _ rfl w.heap.size A xs.length c xs [who] (some ⟨wr.heap.size, 0, none⟩) 1 rfl rfl rfl ?_ ?_ ?_ ?_ ?_; (exact ho.ext ((Ext.rf _).alloc _)); (exact .blk (.new (by simp)) rfl); (simp; omega); (first | exact Nat.le_refl _ | omega | (focus (simp; try omega))); rintro A1 c1 w1 h1 g1 _)
        go_roundw
        case rel => exact ⟨k + 1, A1, c1, by omega, by go_num, by rw [Int.natCast_add, Int.natCast_one, hd.out, if_neg hm2.out], by rw [hsn.out]; simp, by rw [hsn.out, hv.out]; exact h1, (hx.alloc _).grow g1 (fun j hj => (ho.lt j hj).1)⟩
        case measure => simp [intOf]; omega
    · obtain rfl : k = m := by omega
      go_wp2
      go_ret
      exact ⟨A, c, rfl, ho, hx⟩

theorem rfavor_any (n who every c : Int) (w : World) (he : every ≤ 9223372036854775807) :
    Calls Try.prog 33 #[.int .i64 n, .int .i64 who, .int .i64 every, .int .i64 c] w fun e w' => ∃ A' c', e = .returned (.slice A' (if favOk n who every c then favL n who every c.toNat else []).length c') ∧ OwI w' w.heap.size A' c' (if favOk n who every c then favL n who every c.toNat else []) ∧ Ext w w' := by
  cases h : favOk n who every c with
  | true => exact rfavor_yes n who every c w h he
  | false =>
    refine (rfavor_no n who every c w h).mono ?_
    rintro e w1 ⟨rfl, rfl⟩
    exact ⟨_, _, rfl, .empty (.new (by simp)) (Nat.le_refl _), (Ext.rf _).alloc _⟩
theorem fav_small (n who every c : Int) : (if favOk n who every c then favL n who every c.toNat else []).length ≤ 1000000 := by
  split
  · rename_i h
    rw [favL_len]
    have := favOk_iff.1 h
    omega
  · simp
theorem mix_small (n c s : Int) : (if fineB n c then mixL (n - 1) s c.toNat else []).length ≤ 1000000 := by
  split
  · rename_i h
    rw [mixL, tab_len]
    have := fineB_iff.1 h
    omega
  · simp

theorem cells_two : Try.prog.cellsOf 53 = 2 := by kernel_rfl
set_option maxRecDepth 100000 in
theorem open_two {H : Type} {enc : TypeId × Value → H} {W : World} {base : Nat} {v : Value} {d : DataW H} {p : List MemPlace} (hd : DataW.Trod enc Try.prog W 0 (fun _ => true) true 53 v d p) (hv : Value.okWide Try.prog W .any base 53 v) :
    ∃ x y, v = .agg #[.int .i64 x, .int .i64 y] ∧ (-9223372036854775808 ≤ x ∧ x ≤ 9223372036854775807) ∧ (-9223372036854775808 ≤ y ∧ y ≤ 9223372036854775807) := by
  have hcs : ∃ cs, v = .agg cs ∧ cs.size = 2 := by
    rw [← cells_two]
    unfold Value.okWide at hv
    rw [Try.underlying53] at hv
    obtain ⟨cs, h1, h2, _⟩ := hv
    exact ⟨cs, h1, h2⟩
  obtain ⟨cs, rfl, hsz⟩ := hcs
  obtain ⟨c0, c1, rfl⟩ := Go.Joins.array2 hsz
  obtain ⟨fuel, hf⟩ := hd
  obtain ⟨xs, m, _, _, _, hl, he⟩ := DataW.trod_array Try.underlying53 hf
  rw [cells_int] at he
  have h0 := he 0 (by omega)
  have h1 := he 1 (by omega)
  simp [Value.cells] at h0 h1
  rw [List.getElem?_eq_getElem (by omega)] at h0 h1
  obtain ⟨x, hx, _, wx⟩ := DataW.trod_int Try.underlying3 h0
  obtain ⟨y, hy, _, wy⟩ := DataW.trod_int Try.underlying3 h1
  simp at hx hy
  subst hx hy
  exact ⟨x, y, rfl, int_bd wx, int_bd wy⟩

set_option maxRecDepth 100000 in
set_option maxHeartbeats 2000000 in
theorem walk (n a b c : Int) (w : World) (_hn : -9223372036854775808 ≤ n ∧ n ≤ 9223372036854775807) (_ha : -9223372036854775808 ≤ a ∧ a ≤ 9223372036854775807) (hb : -9223372036854775808 ≤ b ∧ b ≤ 9223372036854775807) (_hc : -9223372036854775808 ≤ c ∧ c ≤ 9223372036854775807) :
    Calls Try.prog 7 #[.int .i64 n, .agg #[.int .i64 a, .int .i64 b], .int .i64 c] w fun e w' => e = .returned (.bool true) ∧ Ext w w' := by
  clear _hn _ha _hc
  go_enter Try.func7, Try.ntmps7
  go_upto_region 1 with (fail)
  go_cut [14] (fun t w' => ∃ B : Bool, t = .bool B ∧ w' = w.alloc (.cells #[.int .i64 a, .int .i64 b] 53))
  case first =>
    go_wp2_with fail
    all_goals
      go_meet
      exact ⟨_, rfl, rfl⟩
  obtain ⟨B, rfl, rfl⟩ := hcut
  go_upto_if 14 with (fail)
  go_cut [2] (fun c' w' => ∃ C : Int, c' = .int .i64 C ∧ w' = w.alloc (.cells #[.int .i64 a, .int .i64 b] 53))
  case first =>
    go_wp2_with fail
    all_goals
      go_meet
      exact ⟨_, rfl, rfl⟩
  case rest =>
    obtain ⟨C, rfl, rfl⟩ := hcut
    go_wp2_with fail
    refine (rfavor_any n 0 1 C _ (by decide)).mono ?_
    rintro e w1 ⟨A, d, rfl, h1, x1⟩
    have l1 := fav_small n 0 1 C
    generalize hR : (if favOk n 0 1 C then favL n 0 1 C.toNat else []) = R at *
    replace hR := Lib.hid hR
    go_wp2_with fail
    have c0 : w1.cell? ⟨w.heap.size, 0, none⟩ = some (.int .i64 a) := by rw [x1.cells.1 _ _ (by simp)]; simp
    have c1 : w1.cell? ⟨w.heap.size, 1, none⟩ = some (.int .i64 b) := by rw [x1.cells.1 _ _ (by simp)]; simp
    have z1 : w.heap.size < w1.heap.size := by have := x1.size; simp at this; omega
    have E1 := ((Ext.rf w).alloc _).tr x1
    clear x1
    have lF := fav_small n a b C
    generalize hF : (if favOk n a b C then favL n a b C.toNat else []) = F at *
    replace hF := Lib.hid hF
    have lM := mix_small n C (IntKind.u64.wrap b)
    generalize hM : (if fineB n C then mixL (n - 1) (IntKind.u64.wrap b) C.toNat else []) = M at *
    replace hM := Lib.hid hM
    have K16 := round_any n C
    rw [hR.out] at K16
    have K17 := fun W => favor_any n a b C W hb.2
    rw [hF.out] at K17
    have K33 := fun W => rfavor_any n a b C W hb.2
    rw [hF.out] at K33
    have K35 := fun W => mixed_any n C (IntKind.u64.wrap b) W
    rw [hM.out] at K35
    have K36 := fun W => rmixed_any n C (IntKind.u64.wrap b) W
    rw [hM.out] at K36
    replace K16 := Lib.hid K16
    replace K17 := Lib.hid K17
    replace K33 := Lib.hid K33
    replace K35 := Lib.hid K35
    replace K36 := Lib.hid K36
    go_region_held3 (fun w' => w'.cell? ⟨w.heap.size, 0, none⟩ = some (.int .i64 a) ∧ w'.cell? ⟨w.heap.size, 1, none⟩ = some (.int .i64 b)) (go_keep)
      (first
        | (go_at_call 18; refine (tapes_any _).mono ?_; rintro e w2 ⟨rfl, x2⟩; have y2 := Ext.tr (a := w1) (by (repeat (first | assumption | exact Ext.rf _ | apply Ext.drew | apply Ext.drewN | apply Ext.alloc))) x2; have k2 := y2.cells.1; have z2 := y2.size)
        | (go_at_call 16; refine (K16.out _).mono ?_; rintro e w3 ⟨A3, d3, rfl, h3, x3⟩; have y3 := y2.tr x3; have k3 := y3.cells.1; have z3 := y3.size)
        | (go_at_call_of 34 (Value.slice A R.length d); refine (same_any A3 A d3 d R R _ (by exact h3.read) (by exact (h1.ext y3).read) (by simp only [maxLen]; omega) (by simp only [maxLen]; omega)).mono ?_; rintro e w4 ⟨rfl, x4⟩; have y4 := y3.tr x4; have k4 := y4.cells.1; have z4 := y4.size)
        | (go_at_call 17; refine (K17.out _).mono ?_; rintro e w5 ⟨A5, d5, rfl, h5, x5⟩; have y5 := y4.tr x5; have k5 := y5.cells.1; have z5 := y5.size)
        | (go_at_call 33; refine (K33.out _).mono ?_; rintro e w6 ⟨A6, d6, rfl, h6, x6⟩; have y6 := y5.tr x6; have k6 := y6.cells.1; have z6 := y6.size)
        | (go_at_call_of 34 (Value.slice A6 F.length d6); refine (same_any A5 A6 d5 d6 F F _ (by exact (h5.ext x6).read) (by exact h6.read) (by simp only [maxLen]; omega) (by simp only [maxLen]; omega)).mono ?_; rintro e w7 ⟨rfl, x7⟩; have y7 := y6.tr x7; have k7 := y7.cells.1; have z7 := y7.size)
        | (go_at_call 35; refine (K35.out _).mono ?_; rintro e w8 ⟨A8, d8, rfl, h8, x8⟩; have y8 := y7.tr x8; have k8 := y8.cells.1; have z8 := y8.size)
        | (go_at_call 36; refine (K36.out _).mono ?_; rintro e w9 ⟨A9, d9, rfl, h9, x9⟩; have y9 := y8.tr x9; have k9 := y9.cells.1; have z9 := y9.size)
        | (go_at_call_of 34 (Value.slice A9 M.length d9); refine (same_any A8 A9 d8 d9 M M _ (by exact (h8.ext x9).read) (by exact h9.read) (by simp only [maxLen]; omega) (by simp only [maxLen]; omega)).mono ?_; rintro e w10 ⟨rfl, x10⟩; have y10 := y9.tr x10; have k10 := y10.cells.1))
    all_goals
      go_wp2_with fail
      go_ret
      exact ⟨rfl, E1.tr y10⟩

set_option maxRecDepth 100000 in
theorem lifted (os : Os) (started : os.Started) (H : Type) (enc : TypeId × Value → H) :
    ReturnsInHanded {} Try.checked os 7 .any (Rows.tapeMakesSpec.pre6 enc Try.prog Try.f7 Rows.tapeMakesRow.domain false) (Rows.tapeMakesSpec.post enc Try.prog Try.f7 false true false false) := by
  refine returnsInHanded_of_change (C := Try.checked) own started (by kernel_rfl) Try.func7
    (ChangeSpec.witness6 (enc := enc) (C := Try.checked) false ⟨#[], #[.int .i64 0, .agg #[.int .i64 0, .int .i64 0], .int .i64 0], []⟩ 8 (by kernel_rfl) (by kernel_rfl) (by kernel_rfl) (by kernel_rfl)) ?_
  intro W base args ds gs before hval0 hW _ _
  have hval : ∀ (j : Nat) t v, Try.f7.params[j]? = some t → args[j]? = some v → Value.okWide Try.prog W .any base t v := hval0
  have hW' := hW
  obtain ⟨p, q, hA0, hV, rfl, hfz, hnd⟩ := hW
  have hA : DataW.TrodAll enc Try.prog W 0 (fun _ => true) true Try.f7.params.toList args.toList ds p := hA0
  rw [Try.params7] at hA hval
  obtain ⟨v0, vs0, d0, ds0, p0, q0, hargs, rfl, rfl, h0, r0⟩ := trodAll_cons hA
  obtain ⟨v1, vs1, d1, ds1, p1, q1, rfl, rfl, rfl, h1, r1⟩ := trodAll_cons r0
  obtain ⟨v2, vs2, d2, ds2, p2, q2, rfl, rfl, rfl, h2, r2⟩ := trodAll_cons r1
  obtain ⟨rfl, rfl, rfl⟩ := trodAll_nil r2
  obtain rfl : args = #[v0, v1, v2] := by cases args; simp_all
  obtain ⟨rfl, rfl⟩ := trodVars_none hV
  obtain ⟨x0, rfl, rfl, rfl, w0⟩ := open_int Try.underlying3 (hval 0 _ v0 rfl rfl) h0
  obtain ⟨x1, y1, rfl, w1, z1⟩ := open_two h1 (hval 1 _ v1 rfl rfl)
  obtain ⟨x2, rfl, rfl, rfl, w2⟩ := open_int Try.underlying3 (hval 2 _ v2 rfl rfl) h2
  refine (walk x0 x1 y1 x2 W (int_bd w0) w1 z1 (int_bd w2)).mono fun e W' ⟨he, hg⟩ => ?_
  subst he
  exact ⟨_, rfl, post_law hW' rfl rfl rfl rfl rfl (readable_of (by kernel_rfl)) hg⟩

theorem proved : Rows.TapeMakesSaid :=
  OpenClaim.holds_of_wide 7 Try.f7 rfl rfl rfl rfl rfl rfl rfl ⟨rfl, rfl, rfl, rfl, rfl⟩ rfl rfl rfl rfl rfl (by kernel_rfl) Try.func7 (by kernel_rfl)
    (of_decide_eq_true (by kernel_rfl)) (by unfold Func.isWrapper; first | (rw [if_pos (by decide +kernel)]; kernel_rfl) | (rw [if_neg (by decide +kernel)]; exact ⟨rfl, rfl⟩))
    (fun os started H enc _ => lifted os started H enc)
end Go.Proofs.Ythmjeajfchpdoaa.tapeMakes
