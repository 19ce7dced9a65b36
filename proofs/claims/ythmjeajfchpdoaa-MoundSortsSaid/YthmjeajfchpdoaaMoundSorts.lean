/-
  MoundSorts: all that was put in comes out again, each once, the least Key first. No condition.
-/
import Derived.Test.YthmjeajfchpdoaaMoundLaw
import Derived.Test.YthmjeajfchpdoaaMoundI
namespace Go.Proofs.Ythmjeajfchpdoaa.moundSorts
open Go.RowKit Go.ChangeShapes Go.WideShapes Go.ChangeAt

/-- what a mound holds when the keys below k have been asked to go in, and those of js went -/
structure Filled (xs : List Int) (k : Nat) (ls : Ls) (js : List Int) : Prop where
  len : ls.length = 64
  ord : Ordered ls
  all : (allP ls).Perm (js.map fun j => (xs.getD j.toNat 0, j))
  nd : js.Nodup
  bd : ∀ j ∈ js, 0 ≤ j ∧ j < k
  cnt : js.length ≤ k
theorem Filled.start (xs : List Int) : Filled xs 0 (List.replicate 64 []) [] :=
  ⟨by simp, ordered_new 64, by rw [all_new]; exact List.Perm.refl _, List.nodup_nil, fun j hj => (by cases hj), Nat.le_refl _⟩
theorem Filled.skip {xs : List Int} {k : Nat} {ls : Ls} {js : List Int} (h : Filled xs k ls js) : Filled xs (k + 1) ls js :=
  ⟨h.len, h.ord, h.all, h.nd, fun j hj => by have := h.bd j hj; omega, by have := h.cnt; omega⟩
theorem Filled.put {xs : List Int} {k : Nat} {ls : Ls} {js ds : List Int} {x : Int} (h : Filled xs k ls js) (hx : xs[k]? = some x) (hz : leafP ls x ds ≠ 0) :
    Filled xs (k + 1) (ls.set (placeP ls x (leafP ls x ds)) ((x, (k : Int)) :: ls.getD (placeP ls x (leafP ls x ds)) [])) (js ++ [(k : Int)]) := by
  have hn : ls.length = 2 * 32 := h.len
  have ho := Ordered.insert (x := (x, (k : Int))) h.ord hn (by omega) hz
  have hb := leafP_bd ls x ds hn (by omega)
  have hp := placeP_bd ls x (leaf := leafP ls x ds) (by omega)
  refine ⟨by rw [List.length_set]; exact h.len, ho, (all_insert (by omega)).trans ?_, ?_, fun j hj => ?_, by rw [List.length_append]; have := h.cnt; simp; omega⟩
  · have e : (js ++ [(k : Int)]).map (fun j => (xs.getD j.toNat 0, j)) = js.map (fun j => (xs.getD j.toNat 0, j)) ++ [(x, (k : Int))] := by
      simp [List.getD, hx]
    rw [e]
    exact ((h.all.cons _).trans (List.perm_append_comm (l₁ := [(x, (k : Int))])))
  · refine List.nodup_append.2 ⟨h.nd, List.nodup_cons.2 ⟨List.not_mem_nil, List.nodup_nil⟩, fun a ha b hb => ?_⟩
    have := h.bd a ha
    simp at hb
    omega
  · rcases List.mem_append.1 hj with hj | hj
    · have := h.bd j hj; omega
    · simp at hj; omega
theorem Filled.lens {xs : List Int} {k : Nat} {ls : Ls} {js : List Int} (h : Filled xs k ls js) : ∀ l ∈ ls, l.length ≤ k := by
  intro l hl
  have h1 := h.all.length_eq
  have h2 : l.length ≤ (allP ls).length := by
    rw [List.length_flatten]
    obtain ⟨i, hi, rfl⟩ := List.mem_iff_getElem.1 hl
    have : ∀ (ls : Ls) (i : Nat) (hi : i < ls.length), ls[i].length ≤ (ls.map List.length).sum := by
      intro ls
      induction ls with
      | nil => intro i hi; simp at hi
      | cons m ls ih =>
        intro i hi
        cases i with
        | zero => simp
        | succ i => have := ih i (by simpa using hi); simp; omega
    exact this ls i hi
  have := h.cnt
  rw [List.length_map] at h1
  omega

/-- what is left in it when t of them came out -/
structure Left (xs js : List Int) (la : Int) (ls : Ls) (s : List Bool) (t : Nat) : Prop where
  len : ls.length = 64
  ord : Ordered ls
  sl : s.length = 60
  cnt : (allP ls).length + t = js.length
  all : ∀ p ∈ allP ls, 0 ≤ p.2 ∧ p.2 < 60 ∧ s.getD p.2.toNat true = false ∧ xs[p.2.toNat]? = some p.1 ∧ la ≤ p.1
  nd : ((allP ls).map (·.2)).Nodup
  out : ∀ j ∈ js, s.getD j.toNat false = true ∨ ∃ p ∈ allP ls, p.2 = j
theorem Left.start {xs js : List Int} {ls : Ls} {k : Nat} (h : Filled xs k ls js) (hk : k ≤ xs.length) (h60 : k ≤ 60) (ix : Ints xs) : Left xs js (-9223372036854775808) ls (List.replicate 60 false) 0 := by
  have hmem : ∀ p, p ∈ allP ls ↔ ∃ j ∈ js, (xs.getD j.toNat 0, j) = p := fun p => by rw [h.all.mem_iff, List.mem_map]
  refine ⟨h.len, h.ord, by simp, by rw [h.all.length_eq]; simp, fun p hp => ?_, ?_, fun j hj => .inr ⟨(xs.getD j.toNat 0, j), (hmem _).2 ⟨j, hj, rfl⟩, rfl⟩⟩
  · obtain ⟨j, hj, rfl⟩ := (hmem p).1 hp
    have hb := h.bd j hj
    have hlt : j.toNat < xs.length := by omega
    have e : xs[j.toNat]? = some xs[j.toNat] := List.getElem?_eq_getElem hlt
    have hj60 : j.toNat < 60 := by omega
    refine ⟨hb.1, by show j < 60; omega, by rw [List.getD_eq_getElem?_getD, List.getElem?_replicate, if_pos hj60]; rfl, by simp [List.getD, e], ?_⟩
    have := ix.get e
    simp [List.getD, e]
    omega
  · have := h.all.map (·.2)
    rw [this.nodup_iff]
    simpa [List.map_map, Function.comp_def] using h.nd
theorem Left.pop {xs js : List Int} {la : Int} {ls : Ls} {s : List Bool} {t : Nat} (h : Left xs js la ls s t) (ht : t < js.length) :
    ∃ (y : Int) (q : Nat) (l : List It), ls.getD 1 [] = (y, (q : Int)) :: l ∧ q < 60 ∧ s[q]? = some false ∧ xs[q]? = some y ∧ la ≤ y ∧ Left xs js y (sinkP (2 * 32) (ls.set 1 l) 1) (s.set q true) (t + 1) := by
  have hc := h.cnt
  obtain ⟨a, r, ha⟩ : ∃ a r, allP ls = a :: r := by
    cases hA : allP ls with
    | nil => rw [hA] at hc; simp at hc; omega
    | cons a r => exact ⟨a, r, rfl⟩
  obtain ⟨p, l, hp, _⟩ := h.ord.least (q := a) (by rw [ha]; exact List.mem_cons_self)
  have hn : ls.length = 2 * 32 := h.len
  have hpm : p ∈ allP ls := by
    refine List.mem_flatten.2 ⟨p :: l, ?_, List.mem_cons_self⟩
    have h1 : 1 < ls.length := by omega
    rw [List.getD_eq_getElem?_getD, List.getElem?_eq_getElem h1] at hp
    rw [← show ls[1] = p :: l from hp]
    exact List.getElem_mem _
  have hperm := all_pop hn (by omega) hp
  obtain ⟨h0, h60, hs, hx, hla⟩ := h.all p hpm
  obtain ⟨y, z⟩ := p
  obtain ⟨q, rfl⟩ := Int.eq_ofNat_of_zero_le h0
  simp only [Int.toNat_natCast] at *
  have hq : q < s.length := by rw [h.sl]; have : (q : Int) < 60 := h60; omega
  refine ⟨y, q, l, hp, by have : (q : Int) < 60 := h60; omega, ?_, hx, hla, ?_⟩
  · simp only [List.getD_eq_getElem?_getD, List.getElem?_eq_getElem hq, Option.getD_some] at hs
    rw [List.getElem?_eq_getElem hq, hs]
  · have hnd : (((y, (q : Int)) :: allP (sinkP (2 * 32) (ls.set 1 l) 1)).map (·.2)).Nodup := by
      rw [← (hperm.map (·.2)).nodup_iff]
      exact h.nd
    rw [List.map_cons] at hnd
    have hnq := (List.nodup_cons.1 hnd).1
    have hne : ∀ r ∈ allP (sinkP (2 * 32) (ls.set 1 l) 1), r.2 ≠ (q : Int) := fun r hr e => hnq (List.mem_map.2 ⟨r, hr, e⟩)
    refine ⟨by rw [sinkP_length, List.length_set]; exact h.len, h.ord.pop hn (by omega) hp, by rw [List.length_set]; exact h.sl, ?_, fun r hr => ?_, (List.nodup_cons.1 hnd).2, fun j hj => ?_⟩
    · have := hperm.length_eq
      rw [List.length_cons] at this
      omega
    · have hr' := hperm.mem_iff.2 (List.mem_cons_of_mem _ hr)
      obtain ⟨k1, k2, k3, k4, _⟩ := h.all r hr'
      obtain ⟨p', l', hp', hle⟩ := h.ord.least hr'
      rw [hp] at hp'
      injection hp' with hp' _
      subst hp'
      refine ⟨k1, k2, ?_, k4, hle⟩
      have hrq := hne r hr
      rw [List.getD_eq_getElem?_getD, List.getElem?_set_ne (by omega), ← List.getD_eq_getElem?_getD]
      exact k3
    · by_cases hjq : j = (q : Int)
      · left
        subst hjq
        simp [List.getD, List.getElem?_set_self hq]
      · rcases h.out j hj with ho | ⟨r, hr, hrj⟩
        · left
          by_cases hj2 : q = j.toNat
          · rw [← hj2]
            simp [List.getD, List.getElem?_set_self hq]
          · rw [List.getD_eq_getElem?_getD, List.getElem?_set_ne hj2, ← List.getD_eq_getElem?_getD]
            exact ho
        · right
          refine ⟨r, ?_, hrj⟩
          rcases List.mem_cons.1 (hperm.mem_iff.1 hr) with rfl | hr
          · exact absurd hrj.symm hjq
          · exact hr
theorem Left.done {xs js : List Int} {la : Int} {ls : Ls} {s : List Bool} {t : Nat} (h : Left xs js la ls s t) (ht : js.length ≤ t) : ls.getD 1 [] = [] ∧ ∀ j ∈ js, s.getD j.toNat false = true := by
  have hc := h.cnt
  have hA : allP ls = [] := List.eq_nil_of_length_eq_zero (by omega)
  refine ⟨?_, fun j hj => ?_⟩
  · cases h1 : ls.getD 1 [] with
    | nil => rfl
    | cons p l =>
      exfalso
      have hlt : 1 < ls.length := by have := h.len; omega
      have : p ∈ allP ls := by
        refine List.mem_flatten.2 ⟨p :: l, ?_, List.mem_cons_self⟩
        rw [List.getD_eq_getElem?_getD, List.getElem?_eq_getElem hlt] at h1
        rw [← show ls[1] = p :: l from h1]
        exact List.getElem_mem _
      rw [hA] at this
      cases this
  · rcases h.out j hj with ho | ⟨p, hp, _⟩
    · exact ho
    · rw [hA] at hp
      cases hp

/-- the table of what was seen -/
def tab (s : List Bool) : Array Value := (s.map Value.bool).toArray
def none60 : List Bool := List.replicate 60 false
theorem tab_get {s : List Bool} {q : Nat} {b : Bool} (h : s[q]? = some b) : (tab s)[q]? = some (.bool b) := by simp [tab, h]
theorem tab_set (s : List Bool) (q : Nat) (b : Bool) : (tab s).setIfInBounds q (.bool b) = tab (s.set q b) := by simp [tab, List.map_set]
set_option maxRecDepth 100000 in
set_option maxHeartbeats 2000000 in
theorem walk (A : Option Addr) (c : Nat) (xs : List Int) (B : Option Addr) (d : Nat) (ys : List Int) (w : World) (hx : RdI w A xs) (ix : Ints xs) (lx : xs.length ≤ c) (lc : c ≤ maxLen) (hy : RdI w B ys) (iy : Ints ys) (ly : ys.length ≤ d) (ld : d ≤ maxLen) :
    Calls Try.prog 9 #[.slice A xs.length c, .slice B ys.length d] w fun e w' => e = .returned (.bool true) ∧ Ext w w' := by
  have ld' := ld
  unfold maxLen at lc ld'
  go_enter Try.func9, Try.ntmps9
  go_wp2_with (fail)
  refine (new6 _).mono ?_
  rintro e w1 ⟨g, rfl, R1, x1⟩
  go_wp2_with (fail)
  refine (mounds_any _).mono ?_
  rintro e w2 ⟨rfl, x2⟩
  have R2 := R1.ext x2
  have X2 := x1.tr x2
  clear R1 x1 x2
  go_wp2_with (fail)
  go_loopw [7, 8] (fun v i wr => ∃ (k : Nat) (ls : Ls) (js : List Int) (A' : Option Addr) (c' : Nat), i = .int .i64 k ∧ v = .slice A' js.length c' ∧ k ≤ xs.length ∧ k ≤ 60 ∧ Hid (OwI wr w.heap.size A' c' js) ∧ Hid (Filled xs k ls js) ∧ Hid (MoundRep wr w.heap.size g ls js.length) ∧ Ext w wr) (fun _ i _ => 60 - (intOf i).toNat)
  case atStart => exact ⟨0, List.replicate 64 [], [], none, 0, rfl, rfl, by omega, by omega, OwI.nil _ _, Filled.start xs, R2, X2⟩
  case round =>
    clear R2 X2
    obtain ⟨k, ls, js, A', c', rfl, rfl, hk, hk60, ho, hF, R, X⟩ := hrel
    have hjk : js.length ≤ 60 := Nat.le_trans hF.out.cnt hk60
    by_cases hlt : k < xs.length ∧ k < 60
    · obtain ⟨h1, h2⟩ := hlt
      obtain ⟨b, off, x, rfl, hb, hcell, hx', hdr⟩ := hx.at h1
      have hbr : b < wr.heap.size := by have := X.size; omega
      have hcr := (X.cells.1 _ (off + k) hb).trans hcell
      clear hdr
      have h64 : ls.length = 2 * 32 := hF.out.len
      have hll : ∀ l ∈ ls, l.length ≤ 2 ^ 40 := fun l hl => Nat.le_trans (hF.out.lens l hl) (by omega)
      have hyd := (hy.ext X).drop (c := d) (lo := min k ys.length) (by omega) ly
      have hlen : (ys.drop (min k ys.length)).length = ys.length - min k ys.length := List.length_drop
      obtain ⟨i0, hi, hz0, hz1, hz2⟩ := info_parts int_info
      have hmin : (if ys.length < k then (ys.length : Int) else (k : Int)) = ((min k ys.length : Nat) : Int) := by
        split <;> omega
      have hsl := run_from Try.underlying22 hi hz1 B ys.length d (min k ys.length) _ hmin (by omega) ly
      have hid := iy.drop (min k ys.length)
      have hcap : (ys.drop (min k ys.length)).length ≤ d - min k ys.length := by omega
      have hcap2 : d - min k ys.length ≤ maxLen := by omega
      rw [← hlen] at hsl
      generalize (if d = min k ys.length then B else B.map (·.add (min k ys.length * 1))) = B' at *
      generalize d - min k ys.length = d' at *
      generalize ys.drop (min k ys.length) = ds at *
      clear hlen hmin hi hz0 hz1 hz2
      have KN : ∀ W, Ext wr W → leafP ls x ds = 0 → _ := fun W hW hz => insert_no g w.heap.size ls js.length (x, (k : Int)) B' d' ds 32 W (R.out.ext hW) h64 (by omega) (by omega) (hyd.ext hW) hid hcap hcap2 hz
      have KY : ∀ W, Ext wr W → leafP ls x ds ≠ 0 → _ := fun W hW hz => insert_yes g w.heap.size ls js.length (x, (k : Int)) B' d' ds 32 W (R.out.ext hW) h64 (by omega) (by omega) (hyd.ext hW) hid hcap hcap2 hz (by omega) hll
      replace KN := Lib.hid KN
      replace KY := Lib.hid KY
      replace hyd := Lib.hid hyd
      replace hll := Lib.hid hll
      replace h64 := Lib.hid h64
      replace hsl := Lib.hid hsl
      replace hx' := Lib.hid hx'
      go_wp2_with (fail)
      refine wp_region_any (by kernel_rfl) ?_
      change wpAny _ _ _ _ _ _ _ (World.drew _)
      refine wpAny_T (i := 0) (op := Op.move (Operand.tmp 5)) (t := 56) (d := some 36) (v := ?_) rfl (by decide +kernel) (by decide +kernel) (by decide +kernel) (fun _ _ _ h => h) ?_ ?_
      case refine_2 => (intro _; unfold exec2; go_simp; try with_reducible rfl)
      try simp only [Act.put, List.setIfInBounds_toArray, List.set_cons_zero, List.set_cons_succ]
      refine wpAny_T (i := 1) (op := Op.move (Operand.tmp 0)) (t := 22) (d := some 37) (v := ?_) rfl (by decide +kernel) (by decide +kernel) (by decide +kernel) (fun _ _ _ h => h) ?_ ?_
      case refine_2 => (intro _; unfold exec2; go_simp; try with_reducible rfl)
      try simp only [Act.put, List.setIfInBounds_toArray, List.set_cons_zero, List.set_cons_succ]
      refine wpAny_T (i := 2) (op := Op.move (Operand.tmp 8)) (t := 3) (d := some 38) (v := ?_) rfl (by decide +kernel) (by decide +kernel) (by decide +kernel) (fun _ _ _ h => h) ?_ ?_
      case refine_2 => (intro _; unfold exec2; go_simp; try with_reducible rfl)
      try simp only [Act.put, List.setIfInBounds_toArray, List.set_cons_zero, List.set_cons_succ]
      refine wpAny_T (i := 3) (op := Op.indexAddr 22 (Operand.tmp 37) (Operand.tmp 38)) (t := 0) (d := some 39) (v := ?_) rfl (by decide +kernel) (by decide +kernel) (by decide +kernel) (fun _ _ _ h => h) ?_ ?_
      case refine_2 => (intro _; unfold exec2; go_simp; try with_reducible rfl)
      try simp only [Act.put, List.setIfInBounds_toArray, List.set_cons_zero, List.set_cons_succ]
      refine wpAny_T (i := 5) (op := Op.move (Operand.tmp 8)) (t := 3) (d := some 41) (v := ?_) rfl (by decide +kernel) (by decide +kernel) (by decide +kernel) (fun _ _ _ h => h) ?_ ?_
      case refine_2 => (intro _; unfold exec2; go_simp; try with_reducible rfl)
      try simp only [Act.put, List.setIfInBounds_toArray, List.set_cons_zero, List.set_cons_succ]
      refine wpAny_T (i := 7) (op := Op.move (Operand.tmp 1)) (t := 22) (d := some 43) (v := ?_) rfl (by decide +kernel) (by decide +kernel) (by decide +kernel) (fun _ _ _ h => h) ?_ ?_
      case refine_2 => (intro _; unfold exec2; go_simp; try with_reducible rfl)
      try simp only [Act.put, List.setIfInBounds_toArray, List.set_cons_zero, List.set_cons_succ]
      refine wpAny_T (i := 8) (op := Op.move (Operand.tmp 8)) (t := 3) (d := some 44) (v := ?_) rfl (by decide +kernel) (by decide +kernel) (by decide +kernel) (fun _ _ _ h => h) ?_ ?_
      case refine_2 => (intro _; unfold exec2; go_simp; try with_reducible rfl)
      try simp only [Act.put, List.setIfInBounds_toArray, List.set_cons_zero, List.set_cons_succ]
      refine wpAny_T (i := 9) (op := Op.move (Operand.tmp 1)) (t := 22) (d := some 45) (v := ?_) rfl (by decide +kernel) (by decide +kernel) (by decide +kernel) (fun _ _ _ h => h) ?_ ?_
      case refine_2 => (intro _; unfold exec2; go_simp; try with_reducible rfl)
      try simp only [Act.put, List.setIfInBounds_toArray, List.set_cons_zero, List.set_cons_succ]
      refine wpAny_T (i := 10) (op := Op.call { callee := Callee.builtin Builtin.len, args := #[Operand.tmp 45], argTypes := #[22] }) (t := 3) (d := some 46) (v := ?_) rfl (by decide +kernel) (by decide +kernel) (by decide +kernel) (fun _ _ _ h => h) ?_ ?_
      case refine_2 => (intro _; unfold exec2; go_simp; try with_reducible rfl)
      try simp only [Act.put, List.setIfInBounds_toArray, List.set_cons_zero, List.set_cons_succ]
      refine wpAny_T (i := 11) (op := Op.call { callee := Callee.builtin Builtin.min, args := #[Operand.tmp 44, Operand.tmp 46], argTypes := #[3, 3] }) (t := 3) (d := some 47) (v := ?_) rfl (by decide +kernel) (by decide +kernel) (by decide +kernel) (fun _ _ _ h => h) ?_ ?_
      case refine_2 => (intro _; unfold exec2; go_simp; try with_reducible rfl)
      try simp only [Act.put, List.setIfInBounds_toArray, List.set_cons_zero, List.set_cons_succ]
      refine wpAny_T (i := 12) (op := Op.slice 22 (Operand.tmp 43) (some (Operand.tmp 47)) none none) (t := 22) (d := some 48) (v := .slice B' ds.length d') rfl (by decide +kernel) (by decide +kernel) (by decide +kernel) (fun _ _ _ h => h) (yield_from (by kernel_rfl) (by kernel_rfl) (hsl.out)) ?_
      try simp only [Act.put, List.setIfInBounds_toArray, List.set_cons_zero, List.set_cons_succ]
      refine wpAny_next 4 (by decide +kernel) (op_ld (T := 3) (x := Operand.tmp 39) (t := 3) (d := some 40) rfl (.pointer (some ⟨b, off + k, none⟩)) (by kernel_rfl) (.int .i64 x) (by go_simp) ?_)
      try simp only [Act.put, List.setIfInBounds_toArray, List.set_cons_zero, List.set_cons_succ]
      refine wpAny_T (i := 6) (op := Op.build 61 #[(0, Operand.tmp 40), (1, Operand.tmp 41)]) (t := 61) (d := some 42) (v := ?_) rfl (by decide +kernel) (by decide +kernel) (by decide +kernel) (fun _ _ _ h => h) ?_ ?_
      case refine_2 => (intro _; unfold exec2; go_simp; try with_reducible rfl)
      try simp only [Act.put, List.setIfInBounds_toArray, List.set_cons_zero, List.set_cons_succ]
      by_cases hz : leafP ls x ds = 0
      ·
        refine wpAny_next 13 (by decide +kernel) (op_call (f := 40) (xs := #[Operand.tmp 36, Operand.tmp 42, Operand.tmp 48]) (ts := #[56, 61, 22]) (t := 4) (d := some 49) rfl #[.pointer (some ⟨g, 0, none⟩), .agg #[.int .i64 x, .int .i64 k], .slice B' ds.length d'] (by go_simp) (by kernel_rfl) _ (KN.out _ (Ext.rf _).drew hz) ?_)
        rintro e w5 ⟨rfl, x5⟩
        refine ⟨_, rfl, ?_⟩
        try simp only [Act.put, List.setIfInBounds_toArray, List.set_cons_zero, List.set_cons_succ]
        refine wpAny_done (by kernel_rfl) ?_ _
        have y5 := Ext.tr (a := wr) (by (repeat (first | assumption | exact Ext.rf _ | apply Ext.drew | apply Ext.drewN | apply Ext.alloc))) x5
        clear x5
        go_simp
        go_wp2_with fail
        go_roundw
        case rel => exact ⟨k + 1, ls, js, A', c', by go_num, rfl, by omega, by omega, ho.out.ext y5, hF.out.skip, R.out.ext y5, X.tr y5⟩
        case measure => simp [intOf]; omega
      ·
        refine wpAny_next 13 (by decide +kernel) (op_call (f := 40) (xs := #[Operand.tmp 36, Operand.tmp 42, Operand.tmp 48]) (ts := #[56, 61, 22]) (t := 4) (d := some 49) rfl #[.pointer (some ⟨g, 0, none⟩), .agg #[.int .i64 x, .int .i64 k], .slice B' ds.length d'] (by go_simp) (by kernel_rfl) _ (KY.out _ (Ext.rf _).drew hz) ?_)
        rintro e w5 ⟨rfl, R5, M5⟩
        refine ⟨_, rfl, ?_⟩
        try simp only [Act.put, List.setIfInBounds_toArray, List.set_cons_zero, List.set_cons_succ]
        refine wpAny_done (by kernel_rfl) ?_ _
        have M6 : ModT w.heap.size TS wr w5 := (ModT.of_ext (Ext.rf _).drew).tr M5
        have F5 := Lib.hid (hF.out.put hx'.out hz)
        have o5 := ho.out.modT M6 (by decide)
        have X5 := X.modT M6 (Nat.le_refl _)
        have z5 := X5.size
        replace R5 := Lib.hid R5
        clear M5 M6 KN KY hz
        go_simp
        go_wp2_with (at_builtin; refine wpl_app_i _ rfl _ _ rfl w.heap.size A' js.length c' js [(k : Int)] (some ⟨w5.heap.size, 0, none⟩) 1 rfl rfl rfl ?_ ?_ ?_ ?_ ?_; (exact o5.ext ((Ext.rf _).alloc _)); (exact .blk (.new (by simp)) rfl); (simp; omega); (first | exact Nat.le_refl _ | omega | (focus (simp; try omega))); rintro A1 c1 w6 h6 g6 _)
        go_roundw
        case rel => exact ⟨k + 1, _, js ++ [(k : Int)], A1, c1, by go_num, by simp, by omega, by omega, h6, F5.out, (by
          have y6 : ModT w.heap.size [3] w5 w6 := (ModT.of_ext ((Ext.rf w5).alloc _)).tr ((o5.ext ((Ext.rf _).alloc _)).grownT g6)
          have := R5.out.modT y6 (by decide) (by decide) (by decide)
          rw [List.length_append, List.length_singleton, Int.natCast_add, Int.natCast_one]
          exact this), X5.modT ((ModT.of_ext ((Ext.rf w5).alloc _)).tr ((o5.ext ((Ext.rf _).alloc _)).grownT g6)) (Nat.le_refl _)⟩
        case measure => simp [intOf]; omega
    · have hL := Left.start hF.out hk hk60 ix
      replace hL := Lib.hid hL
      have hbd : ∀ j ∈ js, 0 ≤ j ∧ j < 60 := fun j hj => by have := hF.out.bd j hj; omega
      replace hbd := Lib.hid hbd
      have hgb : w.heap.size ≤ wr.heap.size := X.size
      by_cases h1 : k < xs.length
      case' pos => have h2 : ¬ k < 60 := by omega
      all_goals
        go_wp2_with (fail)
        refine (size_any g w.heap.size ls js.length _ R.out).mono ?_
        rintro e w3 ⟨rfl, rfl⟩
        obtain ⟨wo, rfl⟩ : ∃ wo : World, wo = wr := ⟨_, rfl⟩
        go_wp2_with (fail)
        go_loopw [10, 61] (fun la i wq => ∃ (t : Nat) (l : Int) (ls' : Ls) (s : List Bool), la = .int .i64 l ∧ i = .int .i64 t ∧ t ≤ js.length ∧ Hid (Left xs js l ls' s t) ∧ Hid (Blk wq wo.heap.size 66 (tab s)) ∧ Hid (MoundRep wq w.heap.size g ls' ((js.length : Int) - t)) ∧ Hid (OwI wq w.heap.size A' c' js) ∧ Ext w wq) (fun _ i _ => js.length - (intOf i).toNat)
        case atStart => exact ⟨0, _, ls, none60, rfl, rfl, by omega, hL.out, .new rfl, by rw [show ((js.length : Int) - ((0 : Nat) : Int)) = js.length from by omega]; exact R.out.ext ((Ext.rf _).alloc _), ho.out.ext ((Ext.rf _).alloc _), X.alloc _⟩
        case round =>
          clear hL R ho X
          obtain ⟨t, la, ls', s, rfl, rfl, ht, hL, hS, R, ho, X⟩ := hrel
          by_cases hlt2 : t < js.length
          · obtain ⟨y, q, l', hp, hq, hsq, hxq, hla, hL'⟩ := hL.out.pop hlt2
            have h64 : ls'.length = 2 * 32 := hL.out.len
            have P := pop_any g w.heap.size 32 ls' ((js.length : Int) - t) (y, (q : Int)) l' _ R.out h64 (by omega) (by omega) hp (by omega)
            have hql : q < xs.length := (List.getElem?_eq_some_iff.1 hxq).1
            simp only at P
            replace P := Lib.hid P
            replace hL' := Lib.hid hL'
            replace h64 := Lib.hid h64
            replace hp := Lib.hid hp
            replace hsq := Lib.hid hsq
            go_wp2_with (fail)
            refine P.out.mono ?_
            rintro e w4 ⟨rfl, R4, M4⟩
            have S4 := hS.out.modT M4 (by decide)
            have o4 := ho.out.modT M4 (by decide)
            have X4 := X.modT M4 (Nat.le_refl _)
            obtain ⟨b, off, y', rfl, hb, hcell, hy', hdr⟩ := hx.at hql
            have hbr : b < w4.heap.size := by have := X4.size; omega
            have hcr := (X4.cells.1 _ (off + q) hb).trans hcell
            have hyy := hy'.out
            rw [hxq] at hyy
            injection hyy with hyy
            subst hyy
            have sc : w4.cell? ⟨wo.heap.size, q, none⟩ = some (.bool false) := (S4.cell q).trans (tab_get hsq.out)
            have sf := S4.free q
            have sl := S4.lt
            replace S4 := Lib.hid S4
            replace o4 := Lib.hid o4
            replace R4 := Lib.hid R4
            replace hxq := Lib.hid hxq
            replace hy' := Lib.hid hy'
            clear M4 hdr hcell P
            have d1 : decide (y < la) = false := by simpa using hla
            have d2 : decide ((q : Int) < 0) = false := by simp
            have d3 : decide ((60 : Int) ≤ (q : Int)) = false := by simp; omega
            have KB : ∀ (o : Obj) (m : Nat), Blk (((w4.alloc o).drewN m).setCell ⟨wo.heap.size, q, none⟩ (.bool true)) wo.heap.size 66 (tab (s.set q true)) := fun o m => by
              rw [← tab_set]
              exact ((S4.out.alloc o).drewN m).set q (.bool true)
            have KM : ∀ (o : Obj) (m : Nat), ModT w.heap.size [66] w4 (((w4.alloc o).drewN m).setCell ⟨wo.heap.size, q, none⟩ (.bool true)) := fun o m =>
              (ModT.of_ext (((Ext.rf w4).alloc o).drewN m)).tr (ModT.set _ ((S4.out.alloc o).drewN m) (by simp) hgb q (.bool true))
            replace KB := Lib.hid KB
            replace KM := Lib.hid KM
            go_wp2_with (go_quiet (fail))
            go_roundw
            case rel => exact ⟨t + 1, y, _, s.set q true, rfl, by go_num, by omega, hL', KB.out _ _, (by
              rw [show (js.length : Int) - ((t + 1 : Nat) : Int) = (js.length : Int) - t - 1 from by omega]
              exact R4.out.modT (KM.out _ _) (by decide) (by decide) (by decide)), o4.out.modT (KM.out _ _) (by decide), X4.modT (KM.out _ _) (Nat.le_refl _)⟩
            case measure => simp [intOf]; omega
          · obtain rfl : t = js.length := by omega
            obtain ⟨hroot, hseen⟩ := hL.out.done (Nat.le_refl _)
            have h64 : ls'.length = 64 := hL.out.len
            have r1 := ho.out.read
            replace hseen := Lib.hid hseen
            replace hroot := Lib.hid hroot
            replace h64 := Lib.hid h64
            go_wp2_with (fail)
            go_loop [13] (fun i => ∃ k : Nat, i = .int .i64 k ∧ k ≤ js.length) (fun i => js.length - (intOf i).toNat)
            case atStart => exact ⟨0, rfl, by omega⟩
            case round =>
              obtain ⟨n, rfl, hn⟩ := hrel
              by_cases hn2 : n < js.length
              · obtain ⟨b, off, j, rfl, hb, hcell, hj, hdr⟩ := r1.at hn2
                have hjm := List.mem_of_getElem? hj.out
                obtain ⟨j0, j6⟩ := hbd.out j hjm
                have hsj := hseen.out j hjm
                obtain ⟨q, rfl⟩ := Int.eq_ofNat_of_zero_le j0
                have hsq : s[q]? = some true := by
                  rw [Int.toNat_natCast, List.getD_eq_getElem?_getD] at hsj
                  cases h : s[q]? with
                  | none => rw [h] at hsj; cases hsj
                  | some b => rw [h] at hsj; exact congrArg some hsj
                have sc : wr.cell? ⟨wo.heap.size, q, none⟩ = some (.bool true) := (hS.out.cell q).trans (tab_get hsq)
                replace hsq := Lib.hid hsq
                replace hsj := Lib.hid hsj
                clear hdr hj
                go_wp2_with (fail)
                go_round
                case rel => exact ⟨n + 1, by go_num, by omega⟩
                case measure => simp [intOf]; omega
              · go_wp2_with (fail)
                refine (pop_empty g w.heap.size ls' _ _ R.out (by have := h64.out; omega) (by have := h64.out; omega) hroot.out).mono ?_
                rintro e w5 ⟨rfl, x5⟩
                go_wp2_with (fail)
                go_ret
                exact ⟨rfl, (X.tr x5).alloc _⟩

set_option maxRecDepth 100000 in
theorem lifted (os : Os) (started : os.Started) (H : Type) (enc : TypeId × Value → H) :
    ReturnsInHanded {} Try.checked os 9 .any (Rows.moundSortsSpec.pre6 enc Try.prog Try.f9 Rows.moundSortsRow.domain false) (Rows.moundSortsSpec.post enc Try.prog Try.f9 false true false false) := by
  refine returnsInHanded_of_change (C := Try.checked) own started (by kernel_rfl) Try.func9
    (ChangeSpec.witness6 (enc := enc) (C := Try.checked) false ⟨#[], #[.slice none 0 0, .slice none 0 0], []⟩ 8 (by kernel_rfl) (by kernel_rfl) (by kernel_rfl) (by kernel_rfl)) ?_
  intro W base args ds gs before hval0 hW _ _
  have hval : ∀ (j : Nat) t v, Try.f9.params[j]? = some t → args[j]? = some v → Value.okWide Try.prog W .any base t v := hval0
  have hW' := hW
  obtain ⟨p, q, hA0, hV, rfl, hfz, hnd⟩ := hW
  have hA : DataW.TrodAll enc Try.prog W 0 (fun _ => true) true Try.f9.params.toList args.toList ds p := hA0
  rw [Try.params9] at hA hval
  obtain ⟨v0, vs0, d0, ds0, p0, q0, hargs, rfl, rfl, h0, r0⟩ := trodAll_cons hA
  obtain ⟨v1, vs1, d1, ds1, p1, q1, rfl, rfl, rfl, h1, r1⟩ := trodAll_cons r0
  obtain ⟨rfl, rfl, rfl⟩ := trodAll_nil r1
  obtain rfl : args = #[v0, v1] := by cases args; simp_all
  obtain ⟨rfl, rfl⟩ := trodVars_none hV
  obtain ⟨A0, x0, c0, rfl, hx0, ix0, lx0, lc0⟩ := open_RdI h0 (hval 0 _ v0 rfl rfl)
  obtain ⟨A1, x1, c1, rfl, hx1, ix1, lx1, lc1⟩ := open_RdI h1 (hval 1 _ v1 rfl rfl)
  refine (walk A0 c0 x0 A1 c1 x1 W hx0 ix0 lx0 lc0 hx1 ix1 lx1 lc1).mono fun e W' ⟨he, hg⟩ => ?_
  subst he
  exact ⟨_, rfl, post_law hW' rfl rfl rfl rfl rfl (readable_of (by kernel_rfl)) hg⟩

theorem proved : Rows.MoundSortsSaid :=
  OpenClaim.holds_of_wide 9 Try.f9 rfl rfl rfl rfl rfl rfl rfl ⟨rfl, rfl, rfl, rfl, rfl⟩ rfl rfl rfl rfl rfl (by kernel_rfl) Try.func9 (by kernel_rfl)
    (of_decide_eq_true (by kernel_rfl)) (by unfold Func.isWrapper; first | (rw [if_pos (by decide +kernel)]; kernel_rfl) | (rw [if_neg (by decide +kernel)]; exact ⟨rfl, rfl⟩))
    (fun os started H enc _ => lifted os started H enc)
end Go.Proofs.Ythmjeajfchpdoaa.moundSorts
