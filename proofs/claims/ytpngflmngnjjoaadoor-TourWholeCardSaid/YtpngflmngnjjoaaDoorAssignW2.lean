/-
  An assignment's kernel: no kernel.
  An assignment's kernel: the answer of a whole list.
-/
import Derived.Test.YtpngflmngnjjoaaDoorAssignW1
import Derived.Test.YtpngflmngnjjoaaDoorOwn
namespace Go.Proofs.YtpngflmngnjjoaaDoor
open Go.RowKit Go.ChangeShapes Go.WideShapes Go.ChangeAt Go.Deep

set_option maxRecDepth 100000 in
theorem free_nil (P : Value) (w : World) : Calls Tryd.prog 49 #[.pointer none, P] w fun e w' => e = .returned (.tuple #[.agg #[.int .u64 0, .int .u64 0], .bool false]) ∧ Ext w w' := by
  have B1 : Hid (Blk (w.alloc (.cells #[.int .u64 0, .int .u64 0] 55)) w.heap.size 55 #[.int .u64 0, .int .u64 0]) := .new rfl
  go_enter Tryd.func49, Tryd.ntmps49
  go_wp2_with (fail)
  refine (deptha_nil _).mono ?_
  rintro e w1 ⟨rfl, x1⟩
  have X1 := Lib.hid (Ext.tr (a := w) (by (repeat (first | assumption | exact Ext.rf _ | apply Ext.drew | apply Ext.drewN | apply Ext.alloc))) x1)
  have b1 := B1.out.ext x1
  have c0 : w1.cell? ⟨w.heap.size, 0, none⟩ = some (.int .u64 0) := b1.cell 0
  have c1 : w1.cell? ⟨w.heap.size, 1, none⟩ = some (.int .u64 0) := b1.cell 1
  have f0 := b1.free 0
  have f1 := b1.free 1
  clear x1 b1
  go_wp2_with (fail)
  refine bodyPost_ret (v := .tuple #[.agg #[.int .u64 0, .int .u64 0], .bool false]) (by simp [results, Tryd.results49, go_sem, *]) rfl ⟨rfl, ?_⟩
  exact (X1.out.setNew (p := ⟨w.heap.size, 0, none⟩) (Nat.le_refl _) _).setNew (p := ⟨w.heap.size, 1, none⟩) (Nat.le_refl _) _
theorem kidsa_nil (P : Value) (w : World) : Calls Tryd.prog 20 #[.pointer none, P] w fun e w' => e = .returned (.tuple #[.slice none 0 0, .int .i64 1]) ∧ Ext w w' := by
  go_enter Tryd.func20, Tryd.ntmps20
  go_wp2_with (fail)
  refine (free_nil P _).mono ?_
  rintro e w1 ⟨rfl, x1⟩
  go_wp2
  go_ret2
  exact ⟨rfl, by (repeat (first | assumption | exact Ext.rf _ | apply Ext.drew | apply Ext.drewN | apply Ext.alloc))⟩
theorem bounda_nil (P : Value) (w : World) : Calls Tryd.prog 17 #[.pointer none, P] w fun e w' => e = .returned (.tuple #[.int .i64 0, .int .i64 1]) ∧ Ext w w' := by
  go_enter Tryd.func17, Tryd.ntmps17
  go_wp2_with (fail)
  refine (free_nil P _).mono ?_
  rintro e w1 ⟨rfl, x1⟩
  go_wp2
  go_ret2
  exact ⟨rfl, by (repeat (first | assumption | exact Ext.rf _ | apply Ext.drew | apply Ext.drewN | apply Ext.alloc))⟩
theorem answera_nil (P : Value) (w : World) : Calls Tryd.prog 21 #[.pointer none, P] w fun e w' => e = .returned (.tuple #[.slice none 0 0, .int .i64 1]) ∧ Ext w w' := by
  go_enter Tryd.func21, Tryd.ntmps21
  go_wp2_with (fail)
  refine (free_nil P _).mono ?_
  rintro e w1 ⟨rfl, x1⟩
  go_wp2
  go_ret2
  exact ⟨rfl, by (repeat (first | assumption | exact Ext.rf _ | apply Ext.drew | apply Ext.drewN | apply Ext.alloc))⟩
theorem nonea_any (w : World) : Calls Tryd.prog 19 #[] w fun e w' => e = .returned (.pointer none) ∧ Ext w w' := by
  go_enter Tryd.func19, Tryd.ntmps19
  go_wp2
  go_ret
  exact ⟨rfl, Ext.rf _⟩
end Go.Proofs.YtpngflmngnjjoaaDoor
namespace Go.Proofs.YtpngflmngnjjoaaDoor
open Go.RowKit Go.ChangeShapes Go.WideShapes Go.ChangeAt Go.Deep

def answerA (n : Nat) (p : List Int) : List Int × Int :=
  match freeP n p with
  | none => ([], 1)
  | some _ => if p.length = n then (p, 0) else ([], 1)
/-- a list of its own, and a word -/
def OwnPost (ks : List Int) (err : Int) (w : World) (e : Ending) (w' : World) : Prop := ∃ A c, e = .returned (.tuple #[.slice A ks.length c, .int .i64 err]) ∧ OwI w' w.heap.size A c ks ∧ Ext w w'
set_option maxRecDepth 100000 in
set_option maxHeartbeats 2000000 in
theorem answera_any {base g : Nat} {rows : List (List Int)} (P : Option Addr) (pc : Nat) (p : List Int) (w : World) (H : KernA w base g rows) (h1 : 1 ≤ rows.length) (h24 : rows.length ≤ 24) (hP : RdI w P p) (lp : p.length ≤ 1000000000) :
    Calls Tryd.prog 21 #[.pointer (some ⟨g, 0, none⟩), .slice P p.length pc] w (OwnPost (answerA rows.length p).1 (answerA rows.length p).2 w) := by
  have FR := free_any P pc p w H h1 h24 hP lp
  have DE := Lib.hid (fun (W : World) (x : Ext w W) => deptha_any W (H.ext x))
  clear H
  generalize rows.length = n at *
  obtain ⟨r, hr⟩ : ∃ r, Hid (freeP n p = r) := ⟨_, rfl⟩
  rw [hr.out] at FR
  replace hP := Lib.hid hP
  cases r with
  | none =>
    have e : answerA n p = ([], 1) := by unfold answerA; rw [hr.out]
    rw [e]
    unfold freeV setV at FR
    replace FR := Lib.hid FR
    go_enter Tryd.func21, Tryd.ntmps21
    go_wp2_with (fail)
    refine FR.out.mono ?_
    rintro e w1 ⟨rfl, x1⟩
    have X := Lib.hid (x1.alloc (.cells #[.int .u64 0, .int .u64 0] 55))
    go_wp2_with (fail)
    go_ret2
    exact ⟨none, 0, rfl, OwI.nil _ _, by have := X.out; first | exact x1 | exact this⟩
  | some m =>
    by_cases hl : p.length = n
    · have e : answerA n p = (p, 0) := by
        unfold answerA
        rw [hr.out]
        simp only [hl, if_true]
      rw [e]
      clear e
      unfold freeV setV at FR
      replace FR := Lib.hid FR
      have hne : ((p.length : Int) != (n : Int)) = false := by rw [hl]; simp
      replace hl := Lib.hid hl
      go_enter Tryd.func21, Tryd.ntmps21
      go_wp2_with (fail)
      refine FR.out.mono ?_
      rintro e w1 ⟨rfl, x1⟩
      go_wp2_with (fail)
      refine (DE.out _ (by first | exact x1 | (repeat (first | assumption | exact Ext.rf _ | apply Ext.drew | apply Ext.drewN | apply Ext.alloc)))).mono ?_
      rintro e w2 ⟨rfl, x2⟩
      have X2 := Lib.hid (Ext.tr (a := w) (by first | exact x1 | (repeat (first | assumption | exact Ext.rf _ | apply Ext.drew | apply Ext.drewN | apply Ext.alloc))) x2)
      clear x1 x2
      go_wp2_with (fail)
      refine (clone_any P pc p _ (hP.out.ext X2.out) (by omega)).mono ?_
      rintro e w3 ⟨A', c', rfl, o3, x3⟩
      go_wp2_with (fail)
      go_ret2
      exact ⟨A', c', rfl, OwV.more (n := p.length) o3 X2.out.size, X2.out.tr x3⟩
    · have e : answerA n p = ([], 1) := by
        unfold answerA
        rw [hr.out]
        simp only [hl, if_false]
      rw [e]
      clear e
      unfold freeV setV at FR
      replace FR := Lib.hid FR
      have hne : ((p.length : Int) != (n : Int)) = true := by simp; omega
      replace hl := Lib.hid hl
      go_enter Tryd.func21, Tryd.ntmps21
      go_wp2_with (fail)
      refine FR.out.mono ?_
      rintro e w1 ⟨rfl, x1⟩
      go_wp2_with (fail)
      refine (DE.out _ (by first | exact x1 | (repeat (first | assumption | exact Ext.rf _ | apply Ext.drew | apply Ext.drewN | apply Ext.alloc)))).mono ?_
      rintro e w2 ⟨rfl, x2⟩
      have X2 := Lib.hid (Ext.tr (a := w) (by first | exact x1 | (repeat (first | assumption | exact Ext.rf _ | apply Ext.drew | apply Ext.drewN | apply Ext.alloc))) x2)
      clear x1 x2
      go_wp2_with (fail)
      go_ret2
      exact ⟨none, 0, rfl, OwI.nil _ _, X2.out⟩
end Go.Proofs.YtpngflmngnjjoaaDoor
