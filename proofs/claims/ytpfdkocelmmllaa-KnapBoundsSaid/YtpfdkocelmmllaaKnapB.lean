/-
  A knapsack's kernel as New makes it: its first half, the memory of it.
-/
import Derived.Test.YtpfdkocelmmllaaKnapA
namespace Go.Proofs.Ytpfdkocelmmllaa
open Go.RowKit Go.ChangeShapes Go.WideShapes Go.ChangeAt Go.Deep

section
variable {ops : Array Oper} {i : Nat} {t : TypeId} {d : Option Tmp} {a : Act} {w : World} {K : Act → World → Prop} {Q : Exit → Act → World → Prop}
/-- make([]int, n), as a step -/
theorem op_make_i {x y : Operand} (hi : opAt ops i = some (none, .makeSlice 22 x y, t, d)) (base n : Nat) (L : Int) (hx : a.eval x = .int .i64 L) (hy : a.eval y = .int .i64 L) (hL : L = (n : Int)) (hn : n ≤ 2 ^ 44) (hb : base ≤ w.heap.size)
    (hK : ∀ w', OwI w' base (some ⟨w.heap.size, 0, none⟩) n (List.replicate n 0) → w.grownBy w' none → K (a.put d (.slice (some ⟨w.heap.size, 0, none⟩) n n)) w') : wpOp Try.prog ops Q i K a w := by
  obtain ⟨i0, hi0, hz0, hz1, hz2⟩ := info_parts int_info
  subst hL
  obtain ⟨w', hrun, h2, h3⟩ := run_make_full (P := Try.prog) w base 22 3 i0 _ 1 Try.underlying22 hi0 hz0 hz1 .i64 .i64 n (by rw [hz2]; omega) (by simp only [maxLen]; omega) hb
  refine op_run hi _ (by simp [exec2, execOp, hx, hy, hrun]) (hK w' ?_ h3)
  have e : (madeCells (Value.int .i64 0).cells (n * 1)).toList = (List.replicate n (0 : Int)).map (Value.int .i64) := by
    simp [madeCells, Value.cells, List.map_const', Nat.mod_one]
  rw [e] at h2
  simpa [OwI] using h2
end
/-- a kernel: block g, and what its slices read as; all of it from base on -/
def KernB (w : World) (base g : Nat) (cap : Int) (l : List Nat) (ws vs bs : List Int) : Prop :=
  ∃ (PA : Option Addr) (pc : Nat) (WA : Option Addr) (wc : Nat) (VA : Option Addr) (vc : Nat) (HA : Option Addr) (hc : Nat),
    Blk w g 91 #[.int .i64 cap, .slice PA l.length pc, .slice WA ws.length wc, .slice VA vs.length vc, .slice HA bs.length hc] ∧ base ≤ g ∧
    (RdI w PA (nl l) ∧ ∀ k, bl PA = some k → base ≤ k) ∧ (RdI w WA ws ∧ ∀ k, bl WA = some k → base ≤ k) ∧ (RdI w VA vs ∧ ∀ k, bl VA = some k → base ≤ k) ∧ (RdI w HA bs ∧ ∀ k, bl HA = some k → base ≤ k)
theorem KernB.ext {w w' : World} {base g : Nat} {cap : Int} {l : List Nat} {ws vs bs : List Int} (h : KernB w base g cap l ws vs bs) (x : Ext w w') : KernB w' base g cap l ws vs bs := by
  obtain ⟨PA, pc, WA, wc, VA, vc, HA, hc, h1, h2, h3, h4, h5, h6⟩ := h
  exact ⟨PA, pc, WA, wc, VA, vc, HA, hc, h1.ext x, h2, ⟨h3.1.ext x, h3.2⟩, ⟨h4.1.ext x, h4.2⟩, ⟨h5.1.ext x, h5.2⟩, ⟨h6.1.ext x, h6.2⟩⟩
theorem RdI.mod {S : Nat → Prop} {w w' : World} {A : Option Addr} {xs : List Int} (h : RdI w A xs) (k : Mod S w w') (hb : ∀ b, bl A = some b → ¬ S b) : RdI w' A xs := by
  rcases h with rfl | ⟨b, off, rfl, hlt, hc⟩
  · exact .inl rfl
  · refine .inr ⟨b, off, rfl, Nat.lt_of_lt_of_le hlt k.size, fun j x hj => ?_⟩
    rw [← hc j x hj]
    exact World.cell?_of_block (k.block b hlt (hb b rfl))
theorem KernB.mod {S : Nat → Prop} {w w' : World} {base g : Nat} {cap : Int} {l : List Nat} {ws vs bs : List Int} (h : KernB w base g cap l ws vs bs) (x : Mod S w w') (hS : ∀ k, base ≤ k → ¬ S k) : KernB w' base g cap l ws vs bs := by
  obtain ⟨PA, pc, WA, wc, VA, vc, HA, hc, h1, h2, h3, h4, h5, h6⟩ := h
  exact ⟨PA, pc, WA, wc, VA, vc, HA, hc, h1.mod x (hS _ h2), h2, ⟨h3.1.mod x fun b hb => hS _ (h3.2 b hb), h3.2⟩, ⟨h4.1.mod x fun b hb => hS _ (h4.2 b hb), h4.2⟩, ⟨h5.1.mod x fun b hb => hS _ (h5.2 b hb), h5.2⟩, ⟨h6.1.mod x fun b hb => hS _ (h6.2 b hb), h6.2⟩⟩
/-- two slices of their own in blocks that are not the same -/
def Dis (A B : Option Addr) : Prop := ∀ k, bl A = some k → bl B ≠ some k
theorem Dis.symm {A B : Option Addr} (h : Dis A B) : Dis B A := fun k hk hA => h k hA hk
theorem Dis.none (B : Option Addr) : Dis none B := fun k hk => by simp [bl] at hk
/-- New's memory as it is being filled -/
def Fill (w : World) (base g : Nat) (cap : Int) (PA : Option Addr) (pn pc : Nat) (ws vs bs : List Int) : Prop :=
  ∃ (WA : Option Addr) (wc : Nat) (VA : Option Addr) (vc : Nat) (HA : Option Addr) (hc : Nat),
    Blk w g 91 #[.int .i64 cap, .slice PA pn pc, .slice WA ws.length wc, .slice VA vs.length vc, .slice HA bs.length hc] ∧ base ≤ g ∧
    OwI w base WA wc ws ∧ OwI w base VA vc vs ∧ OwI w base HA hc bs ∧ Dis WA VA ∧ Dis WA HA ∧ Dis VA HA
/-- behind an append to the one, with its new head stored -/
theorem append_mod {w w' : World} {base : Nat} {A : Option Addr} {c : Nat} {xs : List Int} (h : OwI w base A c xs) (hg : w.grownBy w' (bl A)) : Mod (fun k => bl A = some k) w w' := Mod.grown hg fun g hA => hA
theorem Dis.after {w : World} {base : Nat} {A A' B : Option Addr} {c : Nat} {ys : List Int} (h : Dis A B) (hB : OwI w base B c ys) (hA : bl A' = bl A ∨ ∃ g, bl A' = some g ∧ w.heap.size ≤ g) : Dis A' B := by
  intro k hk hb
  rcases hA with hA | ⟨g, hg, hlt⟩
  · exact h k (hA ▸ hk) hb
  · rw [hk] at hg
    obtain rfl := Option.some.inj hg
    have := (hB.lt k hb).2
    omega
theorem Fill.ext {w w' : World} {base g : Nat} {cap : Int} {PA : Option Addr} {pn pc : Nat} {ws vs bs : List Int} (h : Fill w base g cap PA pn pc ws vs bs) (x : Ext w w') : Fill w' base g cap PA pn pc ws vs bs := by
  obtain ⟨WA, wc, VA, vc, HA, hc, h1, h2, h3, h4, h5, h6⟩ := h
  exact ⟨WA, wc, VA, vc, HA, hc, h1.ext x, h2, h3.ext x, h4.ext x, h5.ext x, h6⟩
end Go.Proofs.Ytpfdkocelmmllaa
