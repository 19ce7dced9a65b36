/-
  mound: leaf and way: what they answer.
-/
import Derived.Test.YthmjeajfchpdoaaMoundA
import Derived.Test.YthmjeajfchpdoaaReverse
namespace Go.Proofs.Ythmjeajfchpdoaa
open Go.RowKit Go.ChangeShapes Go.WideShapes Go.ChangeAt

theorem drawP_cons (ls : Ls) (key : Int) (n : Nat) (d : Int) (ds : List Int) : drawP ls key n (d :: ds) = if fitsP ls (n + (modu d n).toNat) key then some (n + (modu d n).toNat) else drawP ls key n ds := rfl
theorem scanP_succ (ls : Ls) (key : Int) (f i : Nat) : scanP ls key (f + 1) i = if fitsP ls i key then i else scanP ls key f (i + 1) := rfl

set_option maxRecDepth 100000 in
set_option maxHeartbeats 1000000 in
theorem leaf_any (g base : Nat) (ls : Ls) (sz : Int) (key : Int) (D : Option Addr) (d : Nat) (ds : List Int) (n : Nat) (w : World) (H : MoundRep w base g ls sz) (hn : ls.length = 2 * n) (h1 : 1 ≤ n) (h32 : n ≤ 32)
    (hd : RdI w D ds) (id : Ints ds) (ld : ds.length ≤ d) (ld' : d ≤ maxLen) :
    Calls Try.prog 60 #[.pointer (some ⟨g, 0, none⟩), .int .i64 key, .slice D ds.length d] w fun e w' => e = .returned (.int .i64 (leafP ls key ds : Nat)) ∧ w = w' := by
  have hl64 : ls.length ≤ 64 := by omega
  have hn2 : ls.length / 2 = n := by omega
  have K75 := leaves_any g base ls sz w H hl64
  rw [hn2] at K75
  replace K75 := Lib.hid K75
  have K62 := fun i (hi : i < 2 * n) => fits_any g base ls sz i key w H hl64 (by omega)
  replace K62 := Lib.hid K62
  have hleaf : leafP ls key ds = (drawP ls key n (ds.take 4)).getD (scanP ls key n n) := by rw [leafP, hn2]
  replace hleaf := Lib.hid hleaf
  replace H := Lib.hid H
  replace hn := Lib.hid hn
  clear hn2 hl64
  obtain ⟨ps, hp, ip, lp, lp', kp, ep⟩ := cut_min 4 hd id
  simp only [Int.cast_ofNat_Int] at ep
  rw [← kp.out] at hleaf
  clear hd id kp
  unfold maxLen at ld'
  go_enter Try.func60, Try.ntmps60
  go_wp2_with fail
  refine K75.out.mono ?_
  rintro e w' ⟨rfl, rfl⟩
  go_wp2_with fail
  clear ep K75
  go_loop [20] (fun i => ∃ k : Nat, k ≤ ps.length ∧ i = .int .i64 k ∧ Hid (drawP ls key n ps = drawP ls key n (ps.drop k))) (fun i => ps.length - (intOf i).toNat)
  case atStart => exact ⟨0, by omega, rfl, by exact rfl⟩
  case round =>
    obtain ⟨k, hk, rfl, hD⟩ := hrel
    by_cases hlt : k < ps.length
    · obtain ⟨b, off, x, rfl, _, hc, _, hdr⟩ := hp.at hlt
      have hm := modu_bd (x := x) (n := (n : Int)) (by omega)
      have hcons := drawP_cons ls key n x (ps.drop (k + 1))
      rw [← hdr.out, ← hD.out] at hcons
      replace hcons := Lib.hid hcons
      have K := K62.out (n + (modu x n).toNat) (by omega)
      have hi : ((n + (modu x n).toNat : Nat) : Int) = (n : Int) + modu x n := by omega
      rw [hi] at K
      replace hi := Lib.hid hi
      replace K := Lib.hid K
      cases hf : fitsP ls (n + (modu x n).toNat) key with
      | true =>
        replace hf := Lib.hid hf
        rw [hf.out] at K
        have hend : ((leafP ls key ds : Nat) : Int) = (n : Int) + modu x n := by
          rw [hleaf.out, hcons.out, hf.out, if_pos rfl, Option.getD_some]
          exact hi.out
        replace hend := Lib.hid hend
        unfold modu at hm K hend
        clear hi hcons hdr hD
        go_wp2_with (go_at_call 62; refine K.out.mono ?_; rintro e w' ⟨rfl, rfl⟩)
        go_ret
        exact ⟨ret_i hend.out.symm, rfl⟩
      | false =>
        replace hf := Lib.hid hf
        rw [hf.out] at K
        have hnext : drawP ls key n ps = drawP ls key n (ps.drop (k + 1)) := by rw [hcons.out, hf.out]; simp
        replace hnext := Lib.hid hnext
        unfold modu at hm K
        clear hi hcons hdr hD hf
        go_wp2_with (go_at_call 62; refine K.out.mono ?_; rintro e w' ⟨rfl, rfl⟩)
        go_round
        case rel => exact ⟨k + 1, by omega, by go_num, hnext.out⟩
        case measure => simp [intOf]; omega
    · have hnone : drawP ls key n ps = none := by rw [hD.out, List.drop_of_length_le (by omega)]; rfl
      have hleaf2 : leafP ls key ds = scanP ls key n n := by rw [hleaf.out, hnone, Option.getD_none]
      replace hleaf2 := Lib.hid hleaf2
      clear hleaf hD hnone
      go_wp2_with fail
      go_loop [11] (fun i => ∃ k : Nat, n ≤ k ∧ k ≤ 2 * n ∧ i = .int .i64 k ∧ Hid (scanP ls key n n = scanP ls key (2 * n - k) k)) (fun i => 2 * n - (intOf i).toNat)
      case atStart => exact ⟨n, by omega, by omega, rfl, by rw [show 2 * n - n = n by omega]; exact rfl⟩
      case round =>
        obtain ⟨j, hj1, hj2, rfl, hS⟩ := hrel
        by_cases hlt2 : j < 2 * n
        · have K := K62.out j hlt2
          have hstep : scanP ls key n n = if fitsP ls j key then j else scanP ls key (2 * n - (j + 1)) (j + 1) := by
            rw [hS.out, show 2 * n - j = (2 * n - (j + 1)) + 1 by omega, scanP_succ]
          replace hstep := Lib.hid hstep
          replace K := Lib.hid K
          have hlt3 : (j : Int) < 2 * (n : Int) := by omega
          cases hf : fitsP ls j key with
          | true =>
            replace hf := Lib.hid hf
            rw [hf.out] at K
            have hend : leafP ls key ds = j := by rw [hleaf2.out, hstep.out, hf.out, if_pos rfl]
            replace hend := Lib.hid hend
            go_wp2_with (go_at_call 62; refine K.out.mono ?_; rintro e w' ⟨rfl, rfl⟩)
            go_ret
            exact ⟨ret_i (by rw [hend.out]), rfl⟩
          | false =>
            replace hf := Lib.hid hf
            rw [hf.out] at K
            have hnext : scanP ls key n n = scanP ls key (2 * n - (j + 1)) (j + 1) := by rw [hstep.out, hf.out]; simp
            replace hnext := Lib.hid hnext
            go_wp2_with (go_at_call 62; refine K.out.mono ?_; rintro e w' ⟨rfl, rfl⟩)
            go_round
            case rel => exact ⟨j + 1, by omega, by omega, by go_num, hnext.out⟩
            case measure => simp [intOf]; omega
        · have hend : leafP ls key ds = 0 := by rw [hleaf2.out, hS.out, show 2 * n - j = 0 by omega]; rfl
          replace hend := Lib.hid hend
          have hlt3 : ¬ (j : Int) < 2 * (n : Int) := by omega
          go_wp2
          go_ret
          exact ⟨ret_i (by rw [hend.out]; rfl), rfl⟩

/-- the numbers of a way -/
def ints (l : List Nat) : List Int := l.map (fun (i : Nat) => (i : Int))
theorem ints_len (l : List Nat) : (ints l).length = l.length := by simp [ints]
theorem upsP_succ (f i : Nat) (hi : 0 < i) : upsP (f + 1) i = i :: upsP f (i / 2) := by rw [upsP, if_neg (by omega)]
theorem upsP_zero (f : Nat) : upsP f 0 = [] := by cases f <;> simp [upsP]
theorem upsP_len : ∀ (f i : Nat), (upsP f i).length ≤ i
  | 0, _ => by simp [upsP]
  | f + 1, i => by
    by_cases hi : i = 0
    · simp [upsP, hi]
    · rw [upsP, if_neg hi, List.length_cons]
      have := upsP_len f (i / 2)
      omega

set_option maxRecDepth 100000 in
theorem way_any (leaf : Nat) (w : World) (hl : leaf ≤ 64) :
    Calls Try.prog 61 #[.int .i64 (leaf : Int)] w fun e w' => ∃ A' c', e = .returned (.slice A' (ints (wayP leaf)).length c') ∧ OwI w' w.heap.size A' c' (ints (wayP leaf)) ∧ Ext w w' := by
  go_enter Try.func61, Try.ntmps61
  go_wp2_with fail
  go_loopw [3, 4] (fun o i wr => ∃ (k f : Nat) (acc : List Nat) (A : Option Addr) (c : Nat), i = .int .i64 k ∧ k < f ∧ k ≤ leaf ∧ Hid (upsP (leaf + 1) leaf = acc ++ upsP f k) ∧ o = .slice A (ints acc).length c ∧ OwI wr w.heap.size A c (ints acc) ∧ Ext w wr) (fun _ i _ => (intOf i).toNat)
  case atStart => exact ⟨leaf, leaf + 1, [], none, 0, rfl, by omega, by omega, by exact rfl, rfl, OwI.nil _ _, Ext.rf _⟩
  case round =>
    obtain ⟨k, f, acc, A, c, rfl, hkf, hkl, hH, rfl, ho, hx⟩ := hrel
    have hal : acc.length ≤ 64 := by
      have h1 := congrArg List.length hH.out
      have h2 := upsP_len (leaf + 1) leaf
      rw [List.length_append] at h1
      omega
    by_cases hk : 0 < k
    · obtain ⟨f', rfl⟩ : ∃ f', f = f' + 1 := ⟨f - 1, by omega⟩
      have hstep : upsP (leaf + 1) leaf = (acc ++ [k]) ++ upsP f' (k / 2) := by rw [hH.out, upsP_succ f' k hk]; simp
      have hia : ints (acc ++ [k]) = ints acc ++ [(k : Int)] := by simp [ints]
      have hil : (ints acc).length ≤ 64 := by rw [ints_len]; exact hal
      replace hstep := Lib.hid hstep
      replace hia := Lib.hid hia
      have hsz := hx.size
      clear hH hal
      generalize ints acc = xs at *
      go_wp2_with (at_builtin; refine wpl_app_i _ rfl _ _ rfl w.heap.size A xs.length c xs [(k : Int)] (some ⟨wr.heap.size, 0, none⟩) 1 rfl rfl rfl ?_ ?_ ?_ ?_ ?_; (exact ho.ext ((Ext.rf _).alloc _)); (exact .blk (.new (by simp)) rfl); (simp; omega); (first | exact Nat.le_refl _ | omega | (focus (simp; try omega))); rintro A1 c1 w1 h1 g1 _)
      go_roundw
      case rel => exact ⟨k / 2, f', acc ++ [k], A1, c1, by go_num, by omega, by omega, hstep.out, by rw [hia.out]; simp, by rw [hia.out]; exact h1, (hx.alloc _).grow g1 (fun j hj => (ho.lt j hj).1)⟩
      case measure => simp [intOf]; omega
    · obtain rfl : k = 0 := by omega
      have hacc : wayP leaf = acc.reverse := by
        have h := hH.out
        rw [upsP_zero, List.append_nil] at h
        rw [wayP, h]
      have hir : (ints acc).reverse = ints (wayP leaf) := by rw [hacc]; simp [ints]
      have hil : (ints acc).length ≤ 2 ^ 44 := by rw [ints_len]; omega
      have hll : (ints acc).length = (ints (wayP leaf)).length := by rw [← hir]; simp
      replace hir := Lib.hid hir
      replace hll := Lib.hid hll
      clear hH hacc hal
      go_wp2_with fail
      refine (reverse_any A c w.heap.size (ints acc) _ ho hil).mono ?_
      rw [hir.out]
      rintro e w1 ⟨rfl, h1, m1⟩
      go_wp2
      go_ret
      exact ⟨A, c, by rw [← hll.out]; rfl, h1, hx.mod m1 (fun j hj hs => by have := (ho.lt j hs).1; omega)⟩
end Go.Proofs.Ythmjeajfchpdoaa
