/-
  the law's mounds: does the least item come first? It does.
-/
import Derived.Test.YthmjeajfchpdoaaMoundD
import Derived.Test.YthmjeajfchpdoaaMoundH
namespace Go.Proofs.Ythmjeajfchpdoaa
open Go.RowKit Go.ChangeShapes Go.WideShapes Go.ChangeAt

abbrev TS : List TypeId := [101, 82]
theorem ins5 (g base : Nat) (W : World) (H : MoundRep W base g [[], []] 0) : Calls Try.prog 40 #[.pointer (some ⟨g, 0, none⟩), .agg #[.int .i64 5, .int .i64 0], .slice none 0 0] W fun e w' => e = .returned (.bool true) ∧ MoundRep w' base g [[], [(5, 0)]] 1 ∧ ModT base TS W w' := by
  have h := insert_yes g base [[], []] 0 (5, 0) none 0 [] 1 W H rfl (by decide) (by decide) (.inl rfl) (by intro x hx; simp at hx) (Nat.le_refl _) (by decide) (by decide) (by decide) (by decide)
  rw [show placeP [[], []] 5 (leafP [[], []] 5 []) = 1 from by decide] at h
  exact h
theorem ins3 (g base : Nat) (W : World) (H : MoundRep W base g [[], [(5, 0)]] 1) : Calls Try.prog 40 #[.pointer (some ⟨g, 0, none⟩), .agg #[.int .i64 3, .int .i64 0], .slice none 0 0] W fun e w' => e = .returned (.bool true) ∧ MoundRep w' base g [[], [(3, 0), (5, 0)]] 2 ∧ ModT base TS W w' := by
  have h := insert_yes g base [[], [(5, 0)]] 1 (3, 0) none 0 [] 1 W H rfl (by decide) (by decide) (.inl rfl) (by intro x hx; simp at hx) (Nat.le_refl _) (by decide) (by decide) (by decide) (by decide)
  rw [show placeP [[], [(5, 0)]] 3 (leafP [[], [(5, 0)]] 3 []) = 1 from by decide] at h
  exact h
theorem ins4 (g base : Nat) (W : World) (H : MoundRep W base g [[], [(3, 0), (5, 0)]] 2) : Calls Try.prog 40 #[.pointer (some ⟨g, 0, none⟩), .agg #[.int .i64 4, .int .i64 0], .slice none 0 0] W fun e w' => e = .returned (.bool false) ∧ Ext W w' :=
  insert_no g base [[], [(3, 0), (5, 0)]] 2 (4, 0) none 0 [] 1 W H rfl (by decide) (by decide) (.inl rfl) (by intro x hx; simp at hx) (Nat.le_refl _) (by decide) (by decide)
theorem pop3 (g base : Nat) (W : World) (H : MoundRep W base g [[], [(3, 0), (5, 0)]] 2) : Calls Try.prog 42 #[.pointer (some ⟨g, 0, none⟩)] W fun e w' => e = .returned (.tuple #[.agg #[.int .i64 3, .int .i64 0], .bool true]) ∧ MoundRep w' base g [[], [(5, 0)]] 1 ∧ ModT base TS W w' := by
  have h := pop_any g base 1 [[], [(3, 0), (5, 0)]] 2 (3, 0) [(5, 0)] W H rfl (by decide) (by decide) rfl (by decide)
  exact h
theorem pop5 (g base : Nat) (W : World) (H : MoundRep W base g [[], [(5, 0)]] 1) : Calls Try.prog 42 #[.pointer (some ⟨g, 0, none⟩)] W fun e w' => e = .returned (.tuple #[.agg #[.int .i64 5, .int .i64 0], .bool true]) ∧ MoundRep w' base g [[], []] 0 ∧ ModT base TS W w' := by
  have h := pop_any g base 1 [[], [(5, 0)]] 1 (5, 0) [] W H rfl (by decide) (by decide) rfl (by decide)
  exact h

set_option maxRecDepth 100000 in
theorem mounds_any (w : World) : Calls Try.prog 38 #[] w fun e w' => e = .returned (.bool true) ∧ Ext w w' := by
  go_enter Try.func38, Try.ntmps38
  go_wp2_with (fail)
  refine (new1 _).mono ?_
  rintro e w1 ⟨g, rfl, R1, x1⟩
  go_wp2_with (fail)
  refine (ins5 g w.heap.size _ R1).mono ?_
  rintro e w2 ⟨rfl, R2, M2⟩
  replace x2 := x1.modT M2 (Nat.le_refl _)
  go_wp2_with (fail)
  refine (ins3 g w.heap.size _ R2).mono ?_
  rintro e w3 ⟨rfl, R3, M3⟩
  replace x3 := x2.modT M3 (Nat.le_refl _)
  go_wp2_with (fail)
  refine (ins4 g w.heap.size _ R3).mono ?_
  rintro e w4 ⟨rfl, x4⟩
  have R4 := R3.ext x4
  have X4 := x3.tr x4
  clear R1 R2 M2 R3 M3 x1 x2 x3 x4
  go_wp2_with (fail)
  refine (pop3 g w.heap.size _ R4).mono ?_
  rintro e w5 ⟨rfl, R5, M5⟩
  have X5 := X4.modT M5 (Nat.le_refl _)
  clear R4 M5 X4
  go_wp2_with (fail)
  refine (pop5 g w.heap.size _ (R5.ext ((Ext.rf _).alloc _))).mono ?_
  rintro e w6 ⟨rfl, R6, M6⟩
  have X6 := (X5.alloc _).modT M6 (Nat.le_refl _)
  have b3 : Blk w6 w5.heap.size 61 #[.int .i64 3, .int .i64 0] := Blk.modT (.new rfl) M6 (by decide)
  clear R5 M6 X5
  go_wp2_with (fail)
  refine (pop_empty g w.heap.size _ _ _ (R6.ext ((Ext.rf _).alloc _)) (by decide) (by decide) rfl).mono ?_
  rintro e w7 ⟨rfl, x7⟩
  have X7 := (X6.alloc _).tr x7
  have c3 := ((b3.alloc _).ext x7).cell 0
  have c5 := (Blk.ext (.new (t := 61) (cs := #[.int .i64 5, .int .i64 0]) rfl) x7).cell 0
  simp at c3 c5
  have z7 : w6.heap.size < w7.heap.size := by have := x7.size; simp at this; omega
  have z5 : w5.heap.size < w7.heap.size := by have := b3.lt; omega
  clear R6 b3 X6 x7
  go_wp2_with (fail)
  go_ret
  exact ⟨rfl, by (repeat (first | assumption | exact Ext.rf _ | apply Ext.drew | apply Ext.drewN | apply Ext.alloc))⟩
end Go.Proofs.Ythmjeajfchpdoaa
