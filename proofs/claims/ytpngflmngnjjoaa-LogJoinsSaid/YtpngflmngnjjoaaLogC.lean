/-
  log: All; the law package's from; the document's Same of equal records.
-/
import Derived.Test.YtpngflmngnjjoaaLogB
namespace Go.Proofs.Ytpngflmngnjjoaa
open Go.RowKit Go.ChangeShapes Go.WideShapes Go.ChangeAt

/-- a slice of records of the call's own: its cells, and what they lead to -/
def RecSl (w : World) (base : Nat) (E : TypeId) (A : Option Addr) (c : Nat) (rs : List Rec) : Prop := ∃ vs, OwV w base E 2 A rs.length c vs ∧ RecsO w base vs rs
theorem RecSl.ext {w w' : World} {base c : Nat} {E : TypeId} {A : Option Addr} {rs : List Rec} (h : RecSl w base E A c rs) (hx : Ext w w') : RecSl w' base E A c rs := by
  obtain ⟨vs, h1, h2⟩ := h
  exact ⟨vs, h1.ext hx, h2.ext hx⟩
theorem RecSl.modT {w w' : World} {base base' c : Nat} {E : TypeId} {ts : List TypeId} {A : Option Addr} {rs : List Rec} (h : RecSl w base E A c rs) (k : ModT base' ts w w') (hE : E ∉ ts) (hi : 3 ∉ ts) : RecSl w' base E A c rs := by
  obtain ⟨vs, h1, h2⟩ := h
  exact ⟨vs, h1.modT k hE, h2.modT k hi⟩
def AllPost (rs : List Rec) (w : World) (e : Ending) (w' : World) : Prop := ∃ A c, e = .returned (.slice A rs.length c) ∧ RecSl w' w.heap.size 43 A c rs ∧ Ext w w'
theorem take_snoc' {α : Type} {l : List α} {k : Nat} {x : α} (h : l[k]? = some x) : l.take (k + 1) = l.take k ++ [x] := by
  obtain ⟨h1, h2⟩ := List.getElem?_eq_some_iff.1 h
  rw [List.take_succ_eq_append_getElem h1, h2]
set_option maxRecDepth 100000 in
set_option maxHeartbeats 1000000 in
theorem all_any (g base : Nat) (rs : List Rec) (w : World) (H : LogRep w base g rs) (hrs : rs.length ≤ 2 ^ 40) (hll : ∀ r ∈ rs, r.path.length ≤ 2 ^ 40) :
    Calls Try.prog 12 #[.pointer (some ⟨g, 0, none⟩)] w (AllPost rs w) := by
  obtain ⟨L, cL, vs, hb, hbg, ho, hR⟩ := H
  have c0 : w.cell? ⟨g, 0, none⟩ = some (.slice L rs.length cL) := hb.cell 0
  have hrd := ho.read
  obtain ⟨i0, hi, hz0, hz1, hz2⟩ := info_parts rec_info
  replace hi := Lib.hid hi
  replace hz0 := Lib.hid hz0
  replace hz1 := Lib.hid hz1
  replace hz2 := Lib.hid hz2
  clear hb ho
  go_enter Try.func12, Try.ntmps12
  go_wp2_with (fail)
  clear c0
  go_loopw [3, 13] (fun v i wr => ∃ (k : Nat) (A' : Option Addr) (c' : Nat) (us : List Value), i = .int .i64 k ∧ v = .slice A' k c' ∧ k ≤ rs.length ∧ Hid (OwV wr w.heap.size 43 2 A' k c' us) ∧ Hid (RecsO wr w.heap.size us (rs.take k)) ∧ Ext w wr) (fun _ i _ => rs.length - (intOf i).toNat)
  case atStart => exact ⟨0, none, 0, [], rfl, rfl, by omega, OwV.nil _ _ _ _, Lib.hid (by simpa using RecsO.nil w w.heap.size), Ext.rf _⟩
  case round =>
    obtain ⟨k, A', c', us, rfl, rfl, hk, ho, hV, X⟩ := hrel
    by_cases hlt : k < rs.length
    · obtain ⟨b, off, r, A2, c2, rfl, hb, a0, a1, o2, hr⟩ := (hR.ext X).at (hrd.ext X) hlt
      have hlm := hll r (List.mem_of_getElem? hr.out)
      have hsn := Lib.hid (take_snoc' hr.out)
      have r2 := Lib.hid o2.read
      have zb := hb
      clear o2
      go_wp2_with (fail)
      refine (copied_any r A2 c2 _ (r2.out.ext (by (repeat (first | assumption | exact Ext.rf _ | apply Ext.drew | apply Ext.drewN | apply Ext.alloc)))) (by omega)).mono ?_
      rintro e w2 ⟨A3, c3, rfl, o3, x3⟩
      have y3 := Ext.tr (a := wr) (by (repeat (first | assumption | exact Ext.rf _ | apply Ext.drew | apply Ext.drewN | apply Ext.alloc))) x3
      have o4 := ho.out.ext y3
      have V4 := Lib.hid (hV.out.ext y3)
      have X4 := X.tr y3
      have hzw := X4.size
      have hzr := X.size
      have o3' := Lib.hid (OwI.more (base' := w.heap.size) o3 (by simp; omega))
      clear ho hV r2 a0 a1 X o3 x3
      go_wp2_with (at_builtin; refine wpl_app_v _ (e := 43) Try.underlying26 hi.out hz0.out hz1.out hz2.out (by simp [Value.cells]) (by omega) rfl _ _ rfl w.heap.size A' k c' us (some ⟨w2.heap.size, 0, none⟩) 1 1 [.int .i64 r.kind, .slice A3 r.path.length c3] rfl rfl ?_ ?_ ?_ ?_ ?_ ?_ ?_ ?_; (exact o4.ext ((Ext.rf _).alloc _)); (exact (RdV.blk (.new (by simp))).rdC); (simp); (simp [Value.oneCell']); (simp only [maxLen]; omega); omega; (first | exact Nat.le_refl _ | omega | (focus (simp; try omega))); rintro A5 c5 w5 o5 g5 _)
      have M5 : ModT w.heap.size [43] w2 w5 := (ModT.of_ext ((Ext.rf _).alloc _)).tr ((o4.ext ((Ext.rf _).alloc _)).grownT g5)
      go_roundw
      case rel => exact ⟨k + 1, A5, c5, _, by go_num, rfl, by omega, o5, Lib.hid (by rw [hsn.out]; exact (V4.out.modT M5 (by decide)).snoc (o3'.out.modT M5 (by decide))), X4.modT M5 (Nat.le_refl _)⟩
      case measure => simp [intOf]; omega
    · obtain rfl : k = rs.length := by omega
      go_wp2_with (fail)
      go_ret
      exact ⟨A', c', rfl, ⟨us, ho.out, by have := hV.out; rwa [List.take_length] at this⟩, X⟩

def FromRPost (rs : List Rec) (w : World) (e : Ending) (w' : World) : Prop := ∃ A c, e = .returned (.slice A rs.length c) ∧ (∃ vs, OwV w' w.heap.size 38 2 A rs.length c vs ∧ RecsO w' 0 vs rs) ∧ Ext w w'
theorem rrec_info : (Try.prog.info? 38).map (fun i => (i.zero, i.size, i.bytes)) = some (some (.agg #[.int .i64 0, .slice none 0 0]), 2, 32) := by kernel_rfl
set_option maxRecDepth 100000 in
set_option maxHeartbeats 1000000 in
theorem fromR_any (base : Nat) (A : Option Addr) (c : Nat) (rs : List Rec) (w : World) (H : RecSl w base 43 A c rs) (hrs : rs.length ≤ 2 ^ 40) :
    Calls Try.prog 8 #[.slice A rs.length c] w (FromRPost rs w) := by
  obtain ⟨vs, ho0, hR⟩ := H
  have hrd := ho0.read
  obtain ⟨i0, hi, hz0, hz1, hz2⟩ := info_parts rrec_info
  replace hi := Lib.hid hi
  replace hz0 := Lib.hid hz0
  replace hz1 := Lib.hid hz1
  replace hz2 := Lib.hid hz2
  clear ho0
  go_enter Try.func8, Try.ntmps8
  go_wp2_with (fail)
  go_loopw [3, 4] (fun v i wr => ∃ (k : Nat) (A' : Option Addr) (c' : Nat) (us : List Value), i = .int .i64 k ∧ v = .slice A' k c' ∧ k ≤ rs.length ∧ Hid (OwV wr w.heap.size 38 2 A' k c' us) ∧ Hid (RecsO wr 0 us (rs.take k)) ∧ Ext w wr) (fun _ i _ => rs.length - (intOf i).toNat)
  case atStart => exact ⟨0, none, 0, [], rfl, rfl, by omega, OwV.nil _ _ _ _, Lib.hid (by simpa using RecsO.nil w 0), Ext.rf _⟩
  case round =>
    obtain ⟨k, A', c', us, rfl, rfl, hk, ho, hV, X⟩ := hrel
    by_cases hlt : k < rs.length
    · obtain ⟨b, off, r, A2, c2, rfl, hb, a0, a1, o2, hr⟩ := (hR.ext X).at (hrd.ext X) hlt
      have hsn := Lib.hid (take_snoc' hr.out)
      have o2 := Lib.hid (o2.more (Nat.zero_le _))
      have hzr := X.size
      have hbs : ∀ (u : World), (Instr.buildSlice 22 1 #[(0, .agg #[.int .i64 r.kind, .slice A2 r.path.length c2])]).run Try.prog u = .ok (.slice (some ⟨u.heap.size, 0, none⟩) 1 1) (u.alloc (.cells #[.int .i64 r.kind, .slice A2 r.path.length c2] 38)) := fun u => by go_simp
      replace hbs := Lib.hid hbs
      go_wp2_with (fail)
      refine wp_region_any (by kernel_rfl) ?_
      change wpAny _ _ _ _ _ _ _ (World.drew _)
      refine wpAny_T (i := 0) (op := Op.move (Operand.tmp 3)) (t := 22) (d := some 11) (v := ?_) rfl (by decide +kernel) (by decide +kernel) (by decide +kernel) (fun _ _ _ h => h) ?_ ?_
      case refine_2 => (intro _; unfold exec2; go_simp; try with_reducible rfl)
      try simp only [Act.put, List.setIfInBounds_toArray, List.set_cons_zero, List.set_cons_succ]
      refine wpAny_T (i := 1) (op := Op.move (Operand.tmp 0)) (t := 26) (d := some 12) (v := ?_) rfl (by decide +kernel) (by decide +kernel) (by decide +kernel) (fun _ _ _ h => h) ?_ ?_
      case refine_2 => (intro _; unfold exec2; go_simp; try with_reducible rfl)
      try simp only [Act.put, List.setIfInBounds_toArray, List.set_cons_zero, List.set_cons_succ]
      refine wpAny_T (i := 2) (op := Op.move (Operand.tmp 4)) (t := 3) (d := some 13) (v := ?_) rfl (by decide +kernel) (by decide +kernel) (by decide +kernel) (fun _ _ _ h => h) ?_ ?_
      case refine_2 => (intro _; unfold exec2; go_simp; try with_reducible rfl)
      try simp only [Act.put, List.setIfInBounds_toArray, List.set_cons_zero, List.set_cons_succ]
      refine wpAny_T (i := 3) (op := Op.indexAddr 26 (Operand.tmp 12) (Operand.tmp 13)) (t := 0) (d := some 14) (v := ?_) rfl (by decide +kernel) (by decide +kernel) (by decide +kernel) (fun _ _ _ h => h) ?_ ?_
      case refine_2 => (intro _; unfold exec2; go_simp; try with_reducible rfl)
      try simp only [Act.put, List.setIfInBounds_toArray, List.set_cons_zero, List.set_cons_succ]
      refine wpAny_T (i := 4) (op := Op.fieldAddr 43 (Operand.tmp 14) 0) (t := 0) (d := some 15) (v := ?_) rfl (by decide +kernel) (by decide +kernel) (by decide +kernel) (fun _ _ _ h => h) ?_ ?_
      case refine_2 => (intro _; unfold exec2; go_simp; try with_reducible rfl)
      try simp only [Act.put, List.setIfInBounds_toArray, List.set_cons_zero, List.set_cons_succ]
      refine wpAny_T (i := 6) (op := Op.move (Operand.tmp 0)) (t := 26) (d := some 17) (v := ?_) rfl (by decide +kernel) (by decide +kernel) (by decide +kernel) (fun _ _ _ h => h) ?_ ?_
      case refine_2 => (intro _; unfold exec2; go_simp; try with_reducible rfl)
      try simp only [Act.put, List.setIfInBounds_toArray, List.set_cons_zero, List.set_cons_succ]
      refine wpAny_T (i := 7) (op := Op.move (Operand.tmp 4)) (t := 3) (d := some 18) (v := ?_) rfl (by decide +kernel) (by decide +kernel) (by decide +kernel) (fun _ _ _ h => h) ?_ ?_
      case refine_2 => (intro _; unfold exec2; go_simp; try with_reducible rfl)
      try simp only [Act.put, List.setIfInBounds_toArray, List.set_cons_zero, List.set_cons_succ]
      refine wpAny_T (i := 8) (op := Op.indexAddr 26 (Operand.tmp 17) (Operand.tmp 18)) (t := 0) (d := some 19) (v := ?_) rfl (by decide +kernel) (by decide +kernel) (by decide +kernel) (fun _ _ _ h => h) ?_ ?_
      case refine_2 => (intro _; unfold exec2; go_simp; try with_reducible rfl)
      try simp only [Act.put, List.setIfInBounds_toArray, List.set_cons_zero, List.set_cons_succ]
      refine wpAny_T (i := 9) (op := Op.fieldAddr 43 (Operand.tmp 19) 1) (t := 0) (d := some 20) (v := ?_) rfl (by decide +kernel) (by decide +kernel) (by decide +kernel) (fun _ _ _ h => h) ?_ ?_
      case refine_2 => (intro _; unfold exec2; go_simp; try with_reducible rfl)
      try simp only [Act.put, List.setIfInBounds_toArray, List.set_cons_zero, List.set_cons_succ]
      refine wpAny_reads (n := 4) [(5, some 16), (10, some 21)] (fun | 5 => .int .i64 r.kind | 10 => .slice A2 r.path.length c2 | _ => undef) #[true, true, true, true, true, true, true, true, true, true, true, false, false, false, false] (by decide +kernel) ?_ ?_
      · intro pS hpm uS hD K hK
        simp only [List.mem_cons, List.not_mem_nil, or_false] at hpm
        rcases hpm with rfl | rfl
        · exact op_ld (T := 3) (x := Operand.tmp 15) (t := 3) (d := some 16) rfl (.pointer (some ⟨b, off + k * 2, none⟩)) (by kernel_rfl) (.int .i64 r.kind) (by go_simp) hK
        · exact op_ld (T := 36) (x := Operand.tmp 20) (t := 36) (d := some 21) rfl (.pointer (some ⟨b, off + k * 2 + 1, none⟩)) (by kernel_rfl) (.slice A2 r.path.length c2) (by go_simp) hK
      simp only [putAll, Act.put, List.setIfInBounds_toArray, List.set_cons_zero, List.set_cons_succ]
      refine wpAny_T (i := 11) (op := Op.build 38 #[(0, Operand.tmp 16), (1, Operand.tmp 21)]) (t := 38) (d := some 22) (v := ?_) rfl (by decide +kernel) (by decide +kernel) (by decide +kernel) (fun _ _ _ h => h) ?_ ?_
      case refine_2 => (intro _; unfold exec2; go_simp; try with_reducible rfl)
      try simp only [Act.put, List.setIfInBounds_toArray, List.set_cons_zero, List.set_cons_succ]
      refine wpAny_next 12 (by decide +kernel) (op_bs1 rfl (.agg #[.int .i64 r.kind, .slice A2 r.path.length c2]) (by kernel_rfl) _ (hbs.out _) ?_)
      try simp only [Act.put, List.setIfInBounds_toArray, List.set_cons_zero, List.set_cons_succ]
      obtain ⟨A1, c1, w1, hrun, h2, h3, _⟩ := run_app_v ((World.drew wr).alloc (.cells #[.int .i64 r.kind, .slice A2 r.path.length c2] 38)) (e := 38) Try.underlying22 hi.out hz0.out hz1.out hz2.out (by simp [Value.cells]) (by omega) w.heap.size 22 A' k c' us (some ⟨(World.drew wr).heap.size, 0, none⟩) 1 1 [.int .i64 r.kind, .slice A2 r.path.length c2] (ho.out.ext (((Ext.rf _).drew).alloc _)) ((RdV.blk (.new rfl)).rdC) (by simp) (by simp [Value.oneCell']) (by simp only [maxLen]; omega) (by omega) (by simp; omega)
      have M1 : ModT w.heap.size [38] wr w1 := (ModT.of_ext (((Ext.rf _).drew).alloc _)).tr ((ho.out.ext (((Ext.rf _).drew).alloc _)).grownT h3)
      refine wpAny_next 13 (by decide +kernel) (op_app rfl (.slice A' k c') (.slice (some ⟨(World.drew wr).heap.size, 0, none⟩) 1 1) (by kernel_rfl) (by kernel_rfl) _ hrun ?_)
      try simp only [Act.put, List.setIfInBounds_toArray, List.set_cons_zero, List.set_cons_succ]
      refine wpAny_T (i := 14) (op := Op.assign (Operand.tmp 24)) (t := 22) (d := some 3) (v := ?_) rfl (by decide +kernel) (by decide +kernel) (by decide +kernel) (fun _ _ _ h => h) ?_ ?_
      case refine_2 => (intro _; unfold exec2; go_simp; try with_reducible rfl)
      try simp only [Act.put, List.setIfInBounds_toArray, List.set_cons_zero, List.set_cons_succ]
      refine wpAny_done (by kernel_rfl) ?_ _
      have X1 := X.modT M1 (Nat.le_refl _)
      have V1 := Lib.hid ((hV.out.modT M1 (by decide)).snoc (o2.out.modT M1 (by decide)))
      rw [← hsn.out] at V1
      replace h2 := Lib.hid h2
      clear hrun h3 M1
      go_simp
      go_wp2_with fail
      go_roundw
      case rel => exact ⟨k + 1, A1, c1, _, by go_num, rfl, by omega, h2, V1, X1⟩
      case measure => simp [intOf]; omega
    · obtain rfl : k = rs.length := by omega
      go_wp2
      go_ret
      exact ⟨A', c', rfl, ⟨us, ho.out, by have := hV.out; rwa [List.take_length] at this⟩, X⟩
end Go.Proofs.Ytpngflmngnjjoaa
