/-
  The document's mound (kurganref19): New, below, less, leaf, Size: what they answer.
-/
import Derived.Test.YthmjeajfchpdoaaMoundO
import Derived.Test.YthmjeajfchpdoaaRefPlain
import Derived.Test.YthmjeajfchpdoaaStep
namespace Go.Proofs.Ythmjeajfchpdoaa
open Go.RowKit Go.ChangeShapes Go.WideShapes Go.ChangeAt

/-- block g is the document's mound of the lists ls -/
def RefRep (w : World) (base g : Nat) (ls : Ls) (lv : Int) : Prop :=
  ∃ h, Blk w g 108 #[.int .i64 lv, .slice (some ⟨h, 0, none⟩) ls.length ls.length] ∧ base ≤ g ∧ base ≤ h ∧ HeadsAt w 73 109 h ls
theorem RefRep.ext {w w' : World} {base g : Nat} {ls : Ls} {lv : Int} (H : RefRep w base g ls lv) (hx : Ext w w') : RefRep w' base g ls lv := by
  obtain ⟨h, h1, h2, h3, h4⟩ := H
  exact ⟨h, h1.ext hx, h2, h3, h4.ext hx⟩
theorem RefRep.modT {w w' : World} {base base' g : Nat} {ts : List TypeId} {ls : Ls} {lv : Int} (H : RefRep w base g ls lv) (k : ModT base' ts w w') (h1 : 73 ∉ ts) (h2 : 109 ∉ ts) (h3 : 108 ∉ ts) : RefRep w' base g ls lv := by
  obtain ⟨h, hb, q1, q2, q3⟩ := H
  exact ⟨h, hb.modT k h3, q1, q2, q3.modT k h1 h2⟩
abbrev TSR : List TypeId := [109]

theorem rheads_info : (Try.prog.info? 109).map (fun i => (i.zero, i.size, i.bytes)) = some (some (.slice none 0 0), 1, 24) := by kernel_rfl
theorem mk_rheads (n : Nat) (hn : n ≤ 64) (u : World) : (Instr.makeSlice 106 (.int .i64 (n : Int)) (.int .i64 (n : Int))).run Try.prog u = .ok (.slice (some ⟨u.heap.size, 0, none⟩) n n) (u.alloc (.cells (blank n) 109)) := by
  obtain ⟨i0, hi, hz0, hz1, hz2⟩ := info_parts rheads_info
  have h := run_make (P := Try.prog) u 106 109 i0 _ Try.underlying106 hi hz0 .i64 .i64 (n : Int) (n : Int) (by omega) (Int.le_refl _) (by rw [hz2]; omega) (by omega)
  rw [blank, ← made_heads]
  simpa [hz1, Value.cells] using h
theorem rnew_any (lv : Nat) (w : World) (h6 : lv ≤ 6) : Calls Try.prog 45 #[.int .i64 (lv : Int)] w fun e w' => ∃ g, e = .returned (.pointer (some ⟨g, 0, none⟩)) ∧ RefRep w' w.heap.size g (List.replicate (2 ^ lv) []) lv ∧ Ext w w' := by
  have hpow : ∀ k, k ≤ lv → 2 ^ k ≤ 64 := fun k hk => by
    have : 2 ^ k ≤ 2 ^ 6 := Nat.pow_le_pow_right (by omega) (by omega)
    omega
  go_enter Try.func45, Try.ntmps45
  go_wp2_with (fail)
  go_loop [3, 4] (fun n i => ∃ k N : Nat, i = .int .i64 k ∧ n = .int .i64 N ∧ k ≤ lv ∧ Hid (N = 2 ^ k)) (fun _ i => lv - (intOf i).toNat)
  case atStart => exact ⟨0, 1, rfl, rfl, by omega, rfl⟩
  case round =>
    obtain ⟨k, N, rfl, rfl, hk, hN⟩ := hrel
    have hN64 : N ≤ 64 := by rw [hN.out]; exact hpow k hk
    by_cases hlt : k < lv
    · go_wp2
      go_round
      case rel => exact ⟨k + 1, N * 2, by go_num, by go_num, by omega, Lib.hid (by rw [hN.out, Nat.pow_succ])⟩
      case measure => simp [intOf]; omega
    · obtain rfl : k = lv := by omega
      have hm := mk_rheads N hN64
      go_wp2
      go_ret
      refine ⟨_, rfl, ⟨w.heap.size, ?_, by omega, Nat.le_refl _, ?_⟩, by (repeat (first | assumption | exact Ext.rf _ | apply Ext.drew | apply Ext.drewN | apply Ext.alloc))⟩
      · rw [List.length_replicate, ← hN.out]
        exact .new (by simp)
      · rw [← hN.out]
        exact HeadsAt.ext (HeadsAt.new (.new rfl)) ((Ext.rf _).alloc _)

theorem rbelow_any (g base : Nat) (ls : Ls) (lv : Int) (i : Nat) (key : Int) (w : World) (H : RefRep w base g ls lv) (hl : ls.length ≤ 64) (hi : i < ls.length) :
    Calls Try.prog 66 #[.pointer (some ⟨g, 0, none⟩), .int .i64 (i : Int), .int .i64 key] w fun e w' => e = .returned (.bool (!fitsP ls i key)) ∧ w = w' := by
  obtain ⟨h, hb, _, _, hH⟩ := H
  have c0 := hb.cell 1
  simp at c0
  clear hb
  rcases hH.look hi with ⟨hn, A, c, hc⟩ | ⟨p, l, b, off, c, hn, hc, k0, k1, hlc⟩
  · go_enter Try.func66, Try.ntmps66
    go_wp2
    go_ret
    exact ⟨ret_b (by rw [fitsP, hn.out]; rfl), rfl⟩
  · have hne : decide ((0 : Int) < (l.length : Int) + 1) = true := by simp <;> omega
    have hne' : (0 : Int) < (l.length : Int) + 1 := by omega
    go_enter Try.func66, Try.ntmps66
    go_wp2
    go_ret
    exact ⟨ret_b (by rw [fitsP, hn.out]; by_cases hk : key ≤ p.1 <;> simp [hk] <;> omega), rfl⟩

set_option maxRecDepth 100000 in
theorem rless_any (g base : Nat) (ls : Ls) (lv : Int) (i k : Nat) (w : World) (H : RefRep w base g ls lv) (hl : ls.length ≤ 64) (hi : i < ls.length) (hk : k < ls.length) :
    Calls Try.prog 67 #[.pointer (some ⟨g, 0, none⟩), .int .i64 (i : Int), .int .i64 (k : Int)] w fun e w' => e = .returned (.bool (lessP ls i k)) ∧ Ext w w' := by
  obtain ⟨h, hb, _, _, hH⟩ := H
  have c0 := hb.cell 1
  simp at c0
  clear hb
  rcases hH.look hi with ⟨hn, A, c, hc⟩ | ⟨p, l, b, off, c, hn, hc, k0, k1, hlc⟩
  · go_enter Try.func67, Try.ntmps67
    go_wp2_with (go_quiet (fail))
    go_ret
    exact ⟨ret_b (by rw [lessP, hn.out]), by (repeat (first | assumption | exact Ext.rf _ | apply Ext.drew | apply Ext.drewN | apply Ext.alloc))⟩
  · have hne : (0 : Int) < (l.length : Int) + 1 := by omega
    rcases hH.look hk with ⟨hn', A', c', hc'⟩ | ⟨p', l', b', off', c', hn', hc', k0', k1', hlc'⟩
    · go_enter Try.func67, Try.ntmps67
      go_wp2_with (go_quiet (fail))
      go_ret
      exact ⟨ret_b (by rw [lessP, hn.out, hn'.out]), by (repeat (first | assumption | exact Ext.rf _ | apply Ext.drew | apply Ext.drewN | apply Ext.alloc))⟩
    · have hne' : (((l'.length : Int) + 1) == 0) = false := by simp; omega
      go_enter Try.func67, Try.ntmps67
      go_wp2_with (go_quiet (fail))
      go_ret
      exact ⟨ret_b (by rw [lessP, hn.out, hn'.out]), by (repeat (first | assumption | exact Ext.rf _ | apply Ext.drew | apply Ext.drewN | apply Ext.alloc))⟩

def lensP (ls : Ls) (k : Nat) : Nat := ((ls.take k).map List.length).sum
theorem lensP_succ {ls : Ls} {k : Nat} {l : List It} (h : ls[k]? = some l) : lensP ls (k + 1) = lensP ls k + l.length := by
  obtain ⟨h1, h2⟩ := List.getElem?_eq_some_iff.1 h
  rw [lensP, List.take_succ_eq_append_getElem h1, h2]
  simp [lensP]
/-- how many there are, kept from the walk -/
def sizeP (ls : Ls) : Nat := (allP ls).length
theorem lensP_all (ls : Ls) : lensP ls ls.length = sizeP ls := by rw [sizeP, lensP, List.take_length, allP, List.length_flatten]
theorem lensP_le (ls : Ls) (k : Nat) (h : ∀ l ∈ ls, l.length ≤ 2 ^ 40) (h64 : ls.length ≤ 64) (hk : k ≤ ls.length) : lensP ls k ≤ 64 * 2 ^ 40 := by
  have : ∀ m, m ≤ ls.length → lensP ls m ≤ m * 2 ^ 40 := by
    intro m
    induction m with
    | zero => intro _; simp [lensP]
    | succ m ih =>
      intro hm
      have hl : ls[m]? = some ls[m] := List.getElem?_eq_getElem (by omega)
      rw [lensP_succ hl]
      rw [Nat.succ_mul]
      exact Nat.add_le_add (ih (by omega)) (h ls[m] (List.getElem_mem _))
  exact Nat.le_trans (this k hk) (Nat.mul_le_mul_right _ (by omega))
set_option maxRecDepth 100000 in
theorem rsize_any (g base : Nat) (ls : Ls) (lv : Int) (w : World) (H : RefRep w base g ls lv) (h64 : ls.length ≤ 64) (hll : ∀ l ∈ ls, l.length ≤ 2 ^ 40) :
    Calls Try.prog 68 #[.pointer (some ⟨g, 0, none⟩)] w fun e w' => e = .returned (.int .i64 (sizeP ls)) ∧ w = w' := by
  obtain ⟨h, hb, _, _, hH⟩ := H
  have c0 := hb.cell 1
  simp at c0
  clear hb
  have hall := Lib.hid (lensP_all ls)
  go_enter Try.func68, Try.ntmps68
  go_wp2_with (fail)
  go_loop [3, 4] (fun n i => ∃ k N : Nat, i = .int .i64 k ∧ n = .int .i64 N ∧ k ≤ ls.length ∧ Hid (N = lensP ls k)) (fun _ i => ls.length - (intOf i).toNat)
  case atStart => exact ⟨0, 0, rfl, rfl, by omega, Lib.hid (by simp [lensP])⟩
  case round =>
    obtain ⟨k, N, rfl, rfl, hk, hN⟩ := hrel
    have hNb : N ≤ 64 * 2 ^ 40 := by rw [hN.out]; exact lensP_le ls k hll h64 hk
    by_cases hlt : k < ls.length
    · obtain ⟨l, hl⟩ : ∃ l, ls[k]? = some l := ⟨_, List.getElem?_eq_getElem hlt⟩
      obtain ⟨A, c, hc, _, _, _⟩ := hH.at hl
      have hlm := hll l (List.mem_of_getElem? hl)
      have hs := lensP_succ hl
      rw [← hN.out] at hs
      replace hs := Lib.hid hs
      replace hl := Lib.hid hl
      go_wp2
      go_round
      case rel => exact ⟨k + 1, N + l.length, by go_num, by go_num, by omega, Lib.hid hs.out.symm⟩
      case measure => simp [intOf]; omega
    · obtain rfl : k = ls.length := by omega
      go_wp2
      go_ret
      exact ⟨ret_i (by rw [hN.out, hall.out]), rfl⟩
end Go.Proofs.Ythmjeajfchpdoaa
