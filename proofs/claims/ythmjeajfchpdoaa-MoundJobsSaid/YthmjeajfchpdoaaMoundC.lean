/-
  mound: Min, Size, New, Insert: what they answer and how the mound turns.
-/
import Derived.Test.YthmjeajfchpdoaaMoundB
namespace Go.Proofs.Ythmjeajfchpdoaa
open Go.RowKit Go.ChangeShapes Go.WideShapes Go.ChangeAt

def itV (p : It) : Value := .agg #[.int .i64 p.1, .int .i64 p.2]
/-- the least item, if there is one -/
def minP (ls : Ls) : It × Bool := match ls.getD 1 [] with
  | [] => ((0, 0), false)
  | p :: _ => (p, true)

theorem min_none (w : World) : Calls Try.prog 39 #[.pointer none] w fun e w' => e = .returned (.tuple #[.agg #[.int .i64 0, .int .i64 0], .bool false]) ∧ Ext w w' := by
  go_enter Try.func39, Try.ntmps39
  go_wp2
  exact bodyPost_ret (v := .tuple #[.agg #[.int .i64 0, .int .i64 0], .bool false]) (by simp [results, Try.results39, go_sem]) rfl ⟨rfl, by repeat (first | exact Ext.rf _ | apply Ext.alloc | (refine Ext.setNew ?_ (by simp) _))⟩

theorem min_any (g base : Nat) (ls : Ls) (sz : Int) (w : World) (H : MoundRep w base g ls sz) (hl : 2 ≤ ls.length) (hl64 : ls.length ≤ 64) :
    Calls Try.prog 39 #[.pointer (some ⟨g, 0, none⟩)] w fun e w' => e = .returned (.tuple #[itV (minP ls).1, .bool (minP ls).2]) ∧ Ext w w' := by
  obtain ⟨h, hb, _, _, hH⟩ := H
  have hg := hb.lt
  have hhl := hH.lt
  have c0 := hb.cell 0
  simp at c0
  clear hb
  rcases hH.look (i := 1) (by omega) with ⟨hn, A, c, hc⟩ | ⟨p, l, b, off, c, hn, hc, k0, k1, hlc⟩
  · have hm : minP ls = ((0, 0), false) := by rw [minP, hn.out]
    rw [hm]
    clear hm
    go_enter Try.func39, Try.ntmps39
    go_wp2
    exact bodyPost_ret (v := .tuple #[.agg #[.int .i64 0, .int .i64 0], .bool false]) (by simp [results, Try.results39, go_sem]) rfl ⟨rfl, by repeat (first | exact Ext.rf _ | apply Ext.alloc | (refine Ext.setNew ?_ (by simp) _))⟩
  · have hm : minP ls = (p, true) := by rw [minP, hn.out]
    rw [hm]
    clear hm
    have hbl := World.block_lt_of_cell? w _ k0
    have hne : (((l.length : Int) + 1) == 0) = false := by simp; omega
    go_enter Try.func39, Try.ntmps39
    go_wp2
    exact bodyPost_ret (v := .tuple #[.agg #[.int .i64 p.1, .int .i64 p.2], .bool true]) (by simp [results, Try.results39, go_sem]) rfl ⟨rfl, by repeat (first | exact Ext.rf _ | apply Ext.alloc | (refine Ext.setNew ?_ (by simp) _))⟩

theorem size_none (w : World) : Calls Try.prog 41 #[.pointer none] w fun e w' => e = .returned (.int .i64 0) ∧ w = w' := by
  go_enter Try.func41, Try.ntmps41
  go_wp2
  go_ret
  exact ⟨rfl, rfl⟩
theorem size_any (g base : Nat) (ls : Ls) (sz : Int) (w : World) (H : MoundRep w base g ls sz) : Calls Try.prog 41 #[.pointer (some ⟨g, 0, none⟩)] w fun e w' => e = .returned (.int .i64 sz) ∧ w = w' := by
  obtain ⟨h, hb, _, _, hH⟩ := H
  have c1 := hb.cell 1
  simp at c1
  clear hb
  go_enter Try.func41, Try.ntmps41
  go_wp2
  go_ret
  exact ⟨rfl, rfl⟩

theorem new_no (lv : Int) (w : World) (h : lv < 1 ∨ 6 < lv) : Calls Try.prog 37 #[.int .i64 lv] w fun e w' => e = .returned (.tuple #[.pointer none, .int .i64 1]) ∧ w = w' := by
  rcases h with h | h
  · go_enter Try.func37, Try.ntmps37
    go_wp2
    go_ret2
    exact ⟨rfl, rfl⟩
  · have h' : ¬ lv < 1 := by omega
    go_enter Try.func37, Try.ntmps37
    go_wp2
    go_ret2
    exact ⟨rfl, rfl⟩
theorem heads_info : (Try.prog.info? 82).map (fun i => (i.zero, i.size, i.bytes)) = some (some (.slice none 0 0), 1, 24) := by kernel_rfl
theorem made_heads (n : Nat) : madeCells #[Value.slice none 0 0] (n * 1) = Array.replicate n (Value.slice none 0 0) := by
  apply Array.ext
  · simp [madeCells]
  · intro i h1 h2
    simp [madeCells, Nat.mod_one]
theorem mk_heads (n : Nat) (hn : n ≤ 64) (u : World) : (Instr.makeSlice 69 (.int .i64 (n : Int)) (.int .i64 (n : Int))).run Try.prog u = .ok (.slice (some ⟨u.heap.size, 0, none⟩) n n) (u.alloc (.cells (Array.replicate n (Value.slice none 0 0)) 82)) := by
  obtain ⟨i0, hi, hz0, hz1, hz2⟩ := info_parts heads_info
  have h := run_make (P := Try.prog) u 69 82 i0 _ Try.underlying69 hi hz0 .i64 .i64 (n : Int) (n : Int) (by omega) (Int.le_refl _) (by rw [hz2]; omega) (by omega)
  rw [← made_heads]
  simpa [hz1, Value.cells] using h
theorem mound_new_rep (n : Nat) (w : World) : MoundRep ((w.alloc (.cells (Array.replicate n (Value.slice none 0 0)) 82)).alloc (.cells #[.slice (some ⟨w.heap.size, 0, none⟩) n n, .int .i64 0] 101)) w.heap.size (w.heap.size + 1) (List.replicate n []) 0 := by
  refine ⟨w.heap.size, ?_, by omega, Nat.le_refl _, HeadsAt.ext (HeadsAt.new (.new rfl)) ((Ext.rf _).alloc _)⟩
  simp only [List.length_replicate]
  exact .new (by simp)
/-- n noughts, kept from the walk -/
def blank (n : Nat) : Array Value := Array.replicate n (Value.slice none 0 0)
theorem new1 (w : World) : Calls Try.prog 37 #[.int .i64 1] w fun e w' => ∃ g, e = .returned (.tuple #[.pointer (some ⟨g, 0, none⟩), .int .i64 0]) ∧ MoundRep w' w.heap.size g (List.replicate 2 []) 0 ∧ Ext w w' := by
  have hm : ∀ u : World, (Instr.makeSlice 69 (.int .i64 2) (.int .i64 2)).run Try.prog u = .ok (.slice (some ⟨u.heap.size, 0, none⟩) 2 2) (u.alloc (.cells (blank 2) 82)) := fun u => mk_heads 2 (by omega) u
  go_enter Try.func37, Try.ntmps37
  go_wp2
  go_ret2
  exact ⟨_, rfl, mound_new_rep 2 w, by repeat (first | exact Ext.rf _ | apply Ext.alloc)⟩
theorem new2 (w : World) : Calls Try.prog 37 #[.int .i64 2] w fun e w' => ∃ g, e = .returned (.tuple #[.pointer (some ⟨g, 0, none⟩), .int .i64 0]) ∧ MoundRep w' w.heap.size g (List.replicate 4 []) 0 ∧ Ext w w' := by
  have hm : ∀ u : World, (Instr.makeSlice 69 (.int .i64 4) (.int .i64 4)).run Try.prog u = .ok (.slice (some ⟨u.heap.size, 0, none⟩) 4 4) (u.alloc (.cells (blank 4) 82)) := fun u => mk_heads 4 (by omega) u
  go_enter Try.func37, Try.ntmps37
  go_wp2
  go_ret2
  exact ⟨_, rfl, mound_new_rep 4 w, by repeat (first | exact Ext.rf _ | apply Ext.alloc)⟩
theorem new3 (w : World) : Calls Try.prog 37 #[.int .i64 3] w fun e w' => ∃ g, e = .returned (.tuple #[.pointer (some ⟨g, 0, none⟩), .int .i64 0]) ∧ MoundRep w' w.heap.size g (List.replicate 8 []) 0 ∧ Ext w w' := by
  have hm : ∀ u : World, (Instr.makeSlice 69 (.int .i64 8) (.int .i64 8)).run Try.prog u = .ok (.slice (some ⟨u.heap.size, 0, none⟩) 8 8) (u.alloc (.cells (blank 8) 82)) := fun u => mk_heads 8 (by omega) u
  go_enter Try.func37, Try.ntmps37
  go_wp2
  go_ret2
  exact ⟨_, rfl, mound_new_rep 8 w, by repeat (first | exact Ext.rf _ | apply Ext.alloc)⟩
theorem new4 (w : World) : Calls Try.prog 37 #[.int .i64 4] w fun e w' => ∃ g, e = .returned (.tuple #[.pointer (some ⟨g, 0, none⟩), .int .i64 0]) ∧ MoundRep w' w.heap.size g (List.replicate 16 []) 0 ∧ Ext w w' := by
  have hm : ∀ u : World, (Instr.makeSlice 69 (.int .i64 16) (.int .i64 16)).run Try.prog u = .ok (.slice (some ⟨u.heap.size, 0, none⟩) 16 16) (u.alloc (.cells (blank 16) 82)) := fun u => mk_heads 16 (by omega) u
  go_enter Try.func37, Try.ntmps37
  go_wp2
  go_ret2
  exact ⟨_, rfl, mound_new_rep 16 w, by repeat (first | exact Ext.rf _ | apply Ext.alloc)⟩
theorem new5 (w : World) : Calls Try.prog 37 #[.int .i64 5] w fun e w' => ∃ g, e = .returned (.tuple #[.pointer (some ⟨g, 0, none⟩), .int .i64 0]) ∧ MoundRep w' w.heap.size g (List.replicate 32 []) 0 ∧ Ext w w' := by
  have hm : ∀ u : World, (Instr.makeSlice 69 (.int .i64 32) (.int .i64 32)).run Try.prog u = .ok (.slice (some ⟨u.heap.size, 0, none⟩) 32 32) (u.alloc (.cells (blank 32) 82)) := fun u => mk_heads 32 (by omega) u
  go_enter Try.func37, Try.ntmps37
  go_wp2
  go_ret2
  exact ⟨_, rfl, mound_new_rep 32 w, by repeat (first | exact Ext.rf _ | apply Ext.alloc)⟩
theorem new6 (w : World) : Calls Try.prog 37 #[.int .i64 6] w fun e w' => ∃ g, e = .returned (.tuple #[.pointer (some ⟨g, 0, none⟩), .int .i64 0]) ∧ MoundRep w' w.heap.size g (List.replicate 64 []) 0 ∧ Ext w w' := by
  have hm : ∀ u : World, (Instr.makeSlice 69 (.int .i64 64) (.int .i64 64)).run Try.prog u = .ok (.slice (some ⟨u.heap.size, 0, none⟩) 64 64) (u.alloc (.cells (blank 64) 82)) := fun u => mk_heads 64 (by omega) u
  go_enter Try.func37, Try.ntmps37
  go_wp2
  go_ret2
  exact ⟨_, rfl, mound_new_rep 64 w, by repeat (first | exact Ext.rf _ | apply Ext.alloc)⟩
theorem new_yes (lv : Nat) (w : World) (h1 : 1 ≤ lv) (h6 : lv ≤ 6) : Calls Try.prog 37 #[.int .i64 (lv : Int)] w fun e w' => ∃ g, e = .returned (.tuple #[.pointer (some ⟨g, 0, none⟩), .int .i64 0]) ∧ MoundRep w' w.heap.size g (List.replicate (2 ^ lv) []) 0 ∧ Ext w w' := by
  have h : lv = 1 ∨ lv = 2 ∨ lv = 3 ∨ lv = 4 ∨ lv = 5 ∨ lv = 6 := by omega
  rcases h with rfl | rfl | rfl | rfl | rfl | rfl
  · exact new1 w
  · exact new2 w
  · exact new3 w
  · exact new4 w
  · exact new5 w
  · exact new6 w
end Go.Proofs.Ythmjeajfchpdoaa
