/-
  The sort by merging, with whatever order.
-/
import Derived.Test.YtleckhbmciiooaaOrder1
namespace Go.Proofs.Ytleckhbmciiooaa
open Go.RowKit Go.ChangeShapes Go.WideShapes Go.ChangeAt Go.Deep

section
variable (w : World)
/-- make([]int, 0, n) -/
theorem wpl_make0_i {ops : Array Oper} {rest : List Oper} {o : Oper} {a : Act} {Q : Exit → Act → World → Prop} (hgd : o.guard = none) (l c : Operand) (hop : o.op = Op.makeSlice 22 l c)
    (base : Nat) (C : Int) (n : Nat) (hl : a.eval l = .int .i64 0) (hc : a.eval c = .int .i64 C) (hC : C = (n : Int)) (hn : n ≤ 2 ^ 44) (hbase : base ≤ w.heap.size)
    (hK : ∀ w', OwI w' base (some ⟨w.heap.size, 0, none⟩) n [] → w.grownBy w' none → wpList Try.prog ops Q rest (a.put o.dst (.slice (some ⟨w.heap.size, 0, none⟩) 0 n)) w') :
    wpList Try.prog ops Q (o :: rest) a w := by
  obtain ⟨i0, hi, hz0, hz1, hz2⟩ := info_parts int_info
  refine wpList_make_own w hgd l c _ hop base 3 i0 _ 1 Try.underlying22 hi hz0 hz1 .i64 .i64 C n hl hc hC (by rw [hz2]; omega) (by simp only [maxLen]; omega) hbase (fun w' h2 h3 => hK w' ?_ h3)
  exact h2
end
theorem RdI.dropA {w : World} {A : Option Addr} {xs : List Int} (h : RdI w A xs) (k : Nat) : RdI w (A.map (·.add k)) (xs.drop k) := by
  rcases h with rfl | ⟨b, off, rfl, hb, hc⟩
  · exact .inl (by simp)
  · refine .inr ⟨b, off + k, by simp [add_plain], hb, fun j v hj => ?_⟩
    rw [List.getElem?_drop] at hj
    rw [Nat.add_assoc]
    exact hc _ v hj
/-- what stands ahead, as a function value -/
def AheadOf (g : Nat) (lb : Array Value) (lt : Nat → Nat → Bool) (n : Nat) (w : World) : Prop :=
  ∀ (W : World) (a b : Nat), a < n → b < n → Ext w W → Calls Try.prog g (#[.int .i64 a, .int .i64 b] ++ lb) W fun e w' => e = .returned (.bool (lt a b)) ∧ Ext W w'
theorem AheadOf.ext {g : Nat} {lb : Array Value} {lt : Nat → Nat → Bool} {n : Nat} {w w' : World} (h : AheadOf g lb lt n w) (x : Ext w w') : AheadOf g lb lt n w' := fun W a b ha hb y => h W a b ha hb (x.tr y)
def MergePost (A0 : Option Addr) (l : List Nat) (w : World) (e : Ending) (w' : World) : Prop := ∃ A c, e = .returned (.slice A l.length c) ∧ RdI w' A (nl l) ∧ l.length ≤ c ∧ c ≤ 9223372036854775807 ∧ Ext w w' ∧ ∀ k, bl A = some k → bl A0 = some k ∨ w.heap.size ≤ k
set_option maxRecDepth 100000 in
set_option maxHeartbeats 4000000 in
theorem merge_any (g : Nat) (lb : Array Value) (lt : Nat → Nat → Bool) (n : Nat) (eg : ∀ args w, (callFunc g args).run Try.prog w = .ok (.enter g args) w) :
    ∀ (f : Nat) (p : List Nat) (m : Nat) (A : Option Addr) (c : Nat) (w : World), m = p.length → p.length ≤ f + 1 → (∀ x ∈ p, x < n) → RdI w A (nl p) → p.length ≤ c → c ≤ 9223372036854775807 → p.length ≤ 1000000 → AheadOf g lb lt n w →
    Calls Try.prog 105 #[.slice A m c, .func (.func g) #[] lb] w (MergePost A (msortP lt f p) w) := by
  intro f
  induction f with
  | zero =>
    intro p m A c w hm hf hp hA lc mc ls hlt
    subst hm
    have h2 : p.length < 2 := by omega
    clear hf hlt
    go_enter Try.func105, Try.ntmps105
    go_wp2
    go_ret
    exact ⟨A, c, rfl, hA, lc, mc, Ext.rf _, fun _ hk => .inl hk⟩
  | succ f ih =>
    intro p m A c w hm hf hp hA lc mc ls hlt
    by_cases h2 : p.length < 2
    · subst hm
      have HM : Hid (msortP lt (f + 1) p = p) := by
        have h : msortP lt (f + 1) p = p := by unfold msortP; rw [if_pos h2]
        exact h
      clear hf hlt ih
      go_enter Try.func105, Try.ntmps105
      go_wp2
      go_ret
      exact ⟨A, c, by rw [HM.out]; rfl, by rw [HM.out]; exact hA, by rw [HM.out]; exact lc, mc, Ext.rf _, fun _ hk => .inl hk⟩
    · have HM : Hid (msortP lt (f + 1) p = List.merge (msortP lt f (p.take (p.length / 2))) (msortP lt f (p.drop (p.length / 2))) (fun x y => !lt y x)) := by
        have h : msortP lt (f + 1) p = List.merge (msortP lt f (p.take (p.length / 2))) (msortP lt f (p.drop (p.length / 2))) (fun x y => !lt y x) := by
          conv => lhs; unfold msortP
          rw [if_neg h2]
        exact h
      obtain ⟨hv, hh⟩ : ∃ hv, hv = p.length / 2 := ⟨_, rfl⟩
      rw [← hh] at HM
      have eh : (p.length : Int) / 2 = (hv : Int) := by omega
      have h1 : 1 ≤ hv := by omega
      have h3 : hv < p.length := by omega
      have hc : hv < c := by omega
      have lp := msortP_len lt f (p.take hv)
      have lq := msortP_len lt f (p.drop hv)
      have pp := msortP_perm lt f (p.take hv)
      have pq := msortP_perm lt f (p.drop hv)
      have i1 := fun (w' : World) (x : Ext w w') => ih (p.take hv) hv A c w' (by simp; omega) (by simp; omega) (fun x hx => hp x (List.mem_of_mem_take hx)) (by have := (hA.ext x).take hv; simpa [nl, List.map_take] using this) (by simp; omega) mc (by simp; omega) (hlt.ext x)
      obtain ⟨b, off, x0, rfl, _, _, _, _⟩ := hA.at (k := 0) (by rw [nl_len]; omega)
      have i2 := fun (w' : World) (x : Ext w w') => ih (p.drop hv) (p.length - hv) (some ⟨b, off + hv, none⟩) (c - hv) w' (by simp) (by simp; omega) (fun x hx => hp x (List.mem_of_mem_drop hx)) (by have := (hA.ext x).dropA hv; simpa [nl, List.map_drop, add_plain] using this) (by simp; omega) (by omega) (by simp; omega) (hlt.ext x)
      subst hm
      replace i1 := Lib.hid i1
      replace i2 := Lib.hid i2
      replace hA := Lib.hid hA
      replace hlt := Lib.hid hlt
      replace lp := Lib.hid lp
      replace lq := Lib.hid lq
      replace pp := Lib.hid pp
      replace pq := Lib.hid pq
      replace hp := Lib.hid hp
      replace hh := Lib.hid hh
      clear ih hf
      go_enter Try.func105, Try.ntmps105
      go_wp2_with (fail)
      have b1 : (0 : Int) ≤ (hv : Int) := by omega
      have b2 : (hv : Int) ≤ (c : Int) := by omega
      have b3 : (hv : Int) ≤ (p.length : Int) := by omega
      go_region_held3 (fun _ => True) (trivial)
        (first
          | (go_at_call_of 105 (Value.slice (some ⟨b, off, none⟩) hv c); refine (i1.out _ (by (repeat (first | assumption | exact Ext.rf _ | apply Ext.drew | apply Ext.drewN | apply Ext.alloc)))).mono ?_; rintro e w1 ⟨A1, c1, rfl, r1, l1, m1, x1, _⟩; have y1 := Ext.tr (a := w) (by (repeat (first | assumption | exact Ext.rf _ | apply Ext.drew | apply Ext.drewN | apply Ext.alloc))) x1)
          | (go_at_call_of 105 (Value.slice (some ⟨b, off + hv, none⟩) (p.length - hv) (c - hv)); refine (i2.out _ (by (repeat (first | assumption | exact Ext.rf _ | apply Ext.drew | apply Ext.drewN | apply Ext.alloc)))).mono ?_; rintro e w2 ⟨A2, c2, rfl, r2, l2, m2, x2, _⟩; have y2 := Ext.tr (a := w) y1 x2))
      have LL := lp.out
      have LR := lq.out
      have ML : ∀ x ∈ msortP lt f (p.take hv), x < n := fun x hx => hp.out x (List.mem_of_mem_take (pp.out.mem_iff.1 hx))
      have MR : ∀ x ∈ msortP lt f (p.drop hv), x < n := fun x hx => hp.out x (List.mem_of_mem_drop (pq.out.mem_iff.1 hx))
      rw [List.length_take] at LL
      rw [List.length_drop] at LR
      clear lp lq pp pq i1 i2 eh
      generalize msortP lt f (p.take hv) = L0 at *
      generalize msortP lt f (p.drop hv) = R0 at *
      have lsum : L0.length + R0.length ≤ 1000000 := by omega
      have lsum2 : Hid (L0.length + R0.length = p.length) := by
        have h9 : L0.length + R0.length = p.length := by omega
        exact h9
      clear LL LR
      have r1' := Lib.hid (r1.ext x2)
      replace r2 := Lib.hid r2
      replace ML := Lib.hid ML
      replace MR := Lib.hid MR
      clear r1 x1 x2 y1
      go_wp2_with (at_make; refine wpl_make0_i _ rfl _ _ rfl w2.heap.size _ p.length rfl rfl rfl (by omega) (Nat.le_refl _) ?_; rintro w3 o3 g3)
      have X3 := (Ext.rf w2).grownNone g3
      have O3 := Lib.hid o3
      clear o3 g3 hA b1 b2 b3
      obtain ⟨M, hM⟩ : ∃ M, Hid (M = List.merge L0 R0 (fun x y => !lt y x)) := ⟨_, rfl⟩
      go_loopw [6, 7, 8] (fun l r o wr => ∃ (B1 B2 B3 : Option Addr) (d1 d2 d3 : Nat) (L R O : List Nat), l = .slice B1 L.length d1 ∧ r = .slice B2 R.length d2 ∧ o = .slice B3 O.length d3 ∧
          Hid (RdI w2 B1 (nl L) ∧ RdI w2 B2 (nl R) ∧ OwI wr w2.heap.size B3 d3 (nl O) ∧ O ++ List.merge L R (fun x y => !lt y x) = M ∧ (∀ x ∈ L, x < n) ∧ (∀ x ∈ R, x < n)) ∧ L.length ≤ d1 ∧ d1 ≤ 9223372036854775807 ∧ R.length ≤ d2 ∧ d2 ≤ 9223372036854775807 ∧ O.length + L.length + R.length ≤ 1000000 ∧ Ext w2 wr)
        (fun l r _ _ => match l, r with | .slice _ n _, .slice _ m _ => n + m | _, _ => 0)
      case atStart => exact ⟨A1, A2, _, c1, c2, p.length, L0, R0, [], rfl, rfl, rfl, ⟨r1'.out, r2.out, O3.out, by rw [hM.out]; rfl, ML.out, MR.out⟩, l1, m1, l2, m2, by simp; omega, X3⟩
      case round =>
        obtain ⟨wo, rfl⟩ : ∃ wo : World, wo = wr := ⟨_, rfl⟩
        obtain ⟨B1, B2, B3, d1, d2, d3, L, R, O, rfl, rfl, rfl, HH, e1, e2, e3, e4, e5, Y⟩ := hrel
        obtain ⟨r1w, r2w, ho, hsum, mL, mR⟩ := HH.out
        have r1x := r1w.ext Y
        have r2x := r2w.ext Y
        by_cases hL : L = []
        · subst hL
          have HE : Hid (O ++ [] ++ R = M) := by
            have h9 : O ++ [] ++ R = M := by rw [← hsum, List.nil_merge, List.append_nil]
            exact h9
          clear hsum
          simp only [List.length_nil] at *
          have tok1 : True := trivial
          go_wp2_with (first
            | (at_builtin; have _t := tok1; refine wpl_app_i _ rfl _ _ rfl w2.heap.size B3 O.length d3 (nl O) (nl []) B1 d1 rfl rfl (by simp [nl_len]) ?_ ?_ ?_ ?_ ?_; (exact ho); (exact r1x); (simp [nl_len]; omega); (exact Y.size); rintro A5 c5 w5 o5 g5 _; have X5 := Y.grow g5 (fun k hk => (ho.lt k hk).1); clear tok1)
            | (at_builtin; refine wpl_app_i _ rfl _ _ rfl w2.heap.size A5 _ c5 (nl O ++ nl []) (nl R) B2 d2 rfl (by rw [nl_len R]; rfl) (by simp [nl_len]) ?_ ?_ ?_ ?_ ?_; (exact o5); (exact r2w.ext X5); (simp [nl_len]; omega); (exact X5.size); rintro A6 c6 w6 o6 g6 _; have X6 := X5.grow g6 (fun k hk => (o5.lt k hk).1)))
          have le6 := o6.le
          have eL : (nl O ++ nl [] ++ nl R) = nl (msortP lt (f + 1) p) := by rw [HM.out, ← hM.out, ← HE.out, nl_app, nl_app]
          rw [eL] at o6 le6
          refine bodyPost_ret (v := .slice A6 (msortP lt (f + 1) p).length c6) ?_ rfl ⟨A6, c6, rfl, o6.read, by rw [nl_len] at le6; exact le6.1, le6.2, Ext.tr y2 X6, fun kk hkk => .inr (Nat.le_trans y2.size (o6.lt kk hkk).1)⟩
          have eN : (msortP lt (f + 1) p).length = (nl O ++ nl [] ++ nl R).length := by rw [eL, nl_len]
          rw [eN]
          simp [results, Try.results105, go_sem]
        · have hL' : 0 < L.length := List.length_pos_iff.2 hL
          by_cases hR : R = []
          · subst hR
            have HE : Hid (O ++ L ++ [] = M) := by
              have h9 : O ++ L ++ [] = M := by rw [← hsum, List.merge_right, List.append_nil]
              exact h9
            clear hsum hL
            simp only [List.length_nil] at *
            have tok1 : True := trivial
            go_wp2_with (first
              | (at_builtin; have _t := tok1; refine wpl_app_i _ rfl _ _ rfl w2.heap.size B3 O.length d3 (nl O) (nl L) B1 d1 rfl (by rw [nl_len L]; rfl) (by simp [nl_len]) ?_ ?_ ?_ ?_ ?_; (exact ho); (exact r1x); (simp [nl_len]; omega); (exact Y.size); rintro A5 c5 w5 o5 g5 _; have X5 := Y.grow g5 (fun k hk => (ho.lt k hk).1); clear tok1)
              | (at_builtin; refine wpl_app_i _ rfl _ _ rfl w2.heap.size A5 _ c5 (nl O ++ nl L) (nl []) B2 d2 rfl rfl (by simp [nl_len]) ?_ ?_ ?_ ?_ ?_; (exact o5); (exact r2w.ext X5); (simp [nl_len]; omega); (exact X5.size); rintro A6 c6 w6 o6 g6 _; have X6 := X5.grow g6 (fun k hk => (o5.lt k hk).1)))
            have le6 := o6.le
            have eL : (nl O ++ nl L ++ nl []) = nl (msortP lt (f + 1) p) := by rw [HM.out, ← hM.out, ← HE.out, nl_app, nl_app]
            rw [eL] at o6 le6
            refine bodyPost_ret (v := .slice A6 (msortP lt (f + 1) p).length c6) ?_ rfl ⟨A6, c6, rfl, o6.read, by rw [nl_len] at le6; exact le6.1, le6.2, Ext.tr y2 X6, fun kk hkk => .inr (Nat.le_trans y2.size (o6.lt kk hkk).1)⟩
            have eN : (msortP lt (f + 1) p).length = (nl O ++ nl L ++ nl []).length := by rw [eL, nl_len]
            rw [eN]
            simp [results, Try.results105, go_sem]
          · obtain ⟨a, L, rfl⟩ := List.exists_cons_of_ne_nil hL
            obtain ⟨d, R, rfl⟩ := List.exists_cons_of_ne_nil hR
            have hL9 : 0 < (a :: L).length := by simp
            have hR9 : 0 < (d :: R).length := by simp
            obtain ⟨bb1, oo1, x1, rfl, zb1, ka, ea, _⟩ := r1w.at (k := 0) (by simp [nl])
            obtain ⟨bb2, oo2, x2', rfl, zb2, kd, ed, _⟩ := r2w.at (k := 0) (by simp [nl])
            obtain rfl : x1 = (a : Int) := by have h9 := ea.out; simp [nl] at h9; exact h9.symm
            obtain rfl : x2' = (d : Int) := by have h9 := ed.out; simp [nl] at h9; exact h9.symm
            rw [Nat.add_zero] at ka kd
            have ka' := keepEL Y zb1 ka
            have kd' := keepEL Y zb2 kd
            have hcall := fun (W : World) (x : Ext wo W) => hlt.out W d a (mR d (by simp)) (mL a (by simp)) ((y2.tr Y).tr x)
            clear ea ed hL hR r1x r2x hL'
            cases hq : lt d a with
            | true =>
              simp only [hq] at hcall
              have hsum2 : Hid (O ++ (d :: List.merge (a :: L) R (fun x y => !lt y x)) = M) := by
                have h9 : O ++ (d :: List.merge (a :: L) R (fun x y => !lt y x)) = M := by
                  rw [← hsum, List.cons_merge_cons, if_neg (by simp [hq])]
                exact h9
              clear hq hsum
              replace hcall := Lib.hid hcall
              replace ho := Lib.hid ho
              replace r1w := Lib.hid r1w
              replace r2w := Lib.hid r2w
              go_wp2_with (fail)
              go_region_held3 (fun w' => w'.cell? ⟨bb1, oo1, none⟩ = some (.int .i64 (a : Nat)) ∧ w'.cell? ⟨bb2, oo2, none⟩ = some (.int .i64 (d : Nat))) (go_keep)
                (first | (go_at_fn g; refine (hcall.out _ (by (repeat (first | assumption | exact Ext.rf _ | apply Ext.drew | apply Ext.drewN | apply Ext.alloc)))).mono ?_; rintro e w4 ⟨rfl, x4⟩; have Y4 := Ext.tr (a := w2) (by (repeat (first | assumption | exact Ext.rf _ | apply Ext.drew | apply Ext.drewN | apply Ext.alloc))) x4; have s1 := keepEL Y4 zb1 ka; have s2 := keepEL Y4 zb2 kd; have ho4 := Lib.hid (ho.out.ext (Ext.tr (a := wo) (by (repeat (first | assumption | exact Ext.rf _ | apply Ext.drew | apply Ext.drewN | apply Ext.alloc))) x4))))
              by_cases hcap : d2 = 1
              · subst hcap
                have t0 : R.length = 0 := by simp only [List.length_cons] at *; omega
                obtain rfl : R = [] := List.eq_nil_of_length_eq_zero t0
                clear t0
                go_wp2_with (fail)
                go_region_held3 (fun w' => w'.cell? ⟨bb2, oo2, none⟩ = some (.int .i64 (d : Nat))) (go_keep)
                  (first | (refine step_app_i _ (by rfl) _ _ (by rfl) w2.heap.size B3 O.length d3 (nl O) [((d : Nat) : Int)] (some ⟨w4.heap.size, 0, none⟩) 1 (by rfl) (by rfl) (by rw [nl_len O]) ?_ ?_ ?_ ?_ ?_; (refine OwI.ext ho4.out ?_; (repeat (first | assumption | exact Ext.rf _ | apply Ext.drew | apply Ext.drewN | apply Ext.alloc))); (exact .blk (by (first | exact .new (by simp) | exact .drew (.new (by simp)) | exact .alloc (.new (by simp)) _ | exact .drew (.alloc (.new (by simp)) _) | exact .alloc (.alloc (.new (by simp)) _) _ | exact .drew (.alloc (.alloc (.new (by simp)) _) _) | (repeat (first | assumption | (refine Blk.new ?_; (focus (simp; done))) | apply Blk.drew | apply Blk.drewN | apply Blk.alloc)))) rfl); (rw [nl_len O]; simp; omega); (have := Y4.size; simp; omega); rintro A7 c7 w7 o7 g7 _; have Y7 : Ext w2 w7 := Ext.grow (a := w2) (by (repeat (first | assumption | exact Ext.rf _ | apply Ext.drew | apply Ext.drewN | apply Ext.alloc))) g7 (fun kk hkk => (ho.out.lt kk hkk).1); have s1 := keepEL Y7 zb2 kd))
                go_wp2
                have O7 : Hid (OwI w7 w2.heap.size A7 c7 (nl (O ++ [d]))) := by
                  have h9 := o7
                  rw [show nl O ++ [((d : Nat) : Int)] = nl (O ++ [d]) from by simp [nl]] at h9
                  exact h9
                have eO : (nl O).length + 1 = (O ++ [d]).length := by simp [nl]
                clear o7 g7
                go_roundw
                case rel => exact ⟨some ⟨bb1, oo1, none⟩, some ⟨bb2, oo2, none⟩, A7, d1, 0, c7, a :: L, [], O ++ [d], by first | rfl | (simp; done) | (simp [nl]; done) | (rw [if_neg (by omega)]; done) | (rw [← eO]; done), by first | rfl | (simp; done) | (simp [nl]; done) | (rw [if_neg (by omega)]; done) | (rw [← eO]; done), by first | rfl | (simp; done) | (simp [nl]; done) | (rw [if_neg (by omega)]; done) | (rw [← eO]; done), ⟨r1w.out, .inl rfl, O7.out, by rw [← hsum2.out, List.append_assoc]; rfl, mL, fun x hx => mR x (by simp [hx])⟩, by simp only [List.length_cons] at *; omega, by omega, by simp only [List.length_cons, List.length_nil] at *; omega, by omega, by simp only [List.length_append, List.length_cons, List.length_nil] at *; omega, Y7⟩
                case measure => simp
              · have hcap2 : 1 < d2 := by simp only [List.length_cons] at *; omega
                have q1 : (1 : Int) ≤ (d2 : Int) := by omega
                have q2 : (1 : Int) ≤ (R.length : Int) + 1 := by omega
                clear hcap
                go_wp2_with (fail)
                go_region_held3 (fun w' => w'.cell? ⟨bb2, oo2, none⟩ = some (.int .i64 (d : Nat))) (go_keep)
                  (first | (refine step_app_i _ (by rfl) _ _ (by rfl) w2.heap.size B3 O.length d3 (nl O) [((d : Nat) : Int)] (some ⟨w4.heap.size, 0, none⟩) 1 (by rfl) (by rfl) (by rw [nl_len O]) ?_ ?_ ?_ ?_ ?_; (refine OwI.ext ho4.out ?_; (repeat (first | assumption | exact Ext.rf _ | apply Ext.drew | apply Ext.drewN | apply Ext.alloc))); (exact .blk (by (first | exact .new (by simp) | exact .drew (.new (by simp)) | exact .alloc (.new (by simp)) _ | exact .drew (.alloc (.new (by simp)) _) | exact .alloc (.alloc (.new (by simp)) _) _ | exact .drew (.alloc (.alloc (.new (by simp)) _) _) | (repeat (first | assumption | (refine Blk.new ?_; (focus (simp; done))) | apply Blk.drew | apply Blk.drewN | apply Blk.alloc)))) rfl); (rw [nl_len O]; simp; omega); (have := Y4.size; simp; omega); rintro A7 c7 w7 o7 g7 _; have Y7 : Ext w2 w7 := Ext.grow (a := w2) (by (repeat (first | assumption | exact Ext.rf _ | apply Ext.drew | apply Ext.drewN | apply Ext.alloc))) g7 (fun kk hkk => (ho.out.lt kk hkk).1); have s1 := keepEL Y7 zb2 kd))
                go_wp2
                have O7 : Hid (OwI w7 w2.heap.size A7 c7 (nl (O ++ [d]))) := by
                  have h9 := o7
                  rw [show nl O ++ [((d : Nat) : Int)] = nl (O ++ [d]) from by simp [nl]] at h9
                  exact h9
                have eO : (nl O).length + 1 = (O ++ [d]).length := by simp [nl]
                clear o7 g7
                go_roundw
                case rel => exact ⟨some ⟨bb1, oo1, none⟩, some ⟨bb2, oo2 + 1, none⟩, A7, d1, d2 - 1, c7, a :: L, R, O ++ [d], by first | rfl | (simp; done) | (simp [nl]; done) | (rw [if_neg (by omega)]; done) | (rw [← eO]; done), by first | rfl | (simp; done) | (simp [nl]; done) | (rw [if_neg (by omega)]; done) | (rw [← eO]; done), by first | rfl | (simp; done) | (simp [nl]; done) | (rw [if_neg (by omega)]; done) | (rw [← eO]; done), ⟨r1w.out, by have h9 := r2w.out.dropA 1; simpa [nl, add_plain] using h9, O7.out, by rw [← hsum2.out, List.append_assoc]; rfl, mL, fun x hx => mR x (by simp [hx])⟩, by simp only [List.length_cons] at *; omega, by omega, by simp only [List.length_cons, List.length_nil] at *; omega, by omega, by simp only [List.length_append, List.length_cons, List.length_nil] at *; omega, Y7⟩
                case measure => simp
            | false =>
              simp only [hq] at hcall
              have hsum2 : Hid (O ++ (a :: List.merge L (d :: R) (fun x y => !lt y x)) = M) := by
                have h9 : O ++ (a :: List.merge L (d :: R) (fun x y => !lt y x)) = M := by
                  rw [← hsum, List.cons_merge_cons, if_pos (by simp [hq])]
                exact h9
              clear hq hsum
              replace hcall := Lib.hid hcall
              replace ho := Lib.hid ho
              replace r1w := Lib.hid r1w
              replace r2w := Lib.hid r2w
              go_wp2_with (fail)
              go_region_held3 (fun w' => w'.cell? ⟨bb1, oo1, none⟩ = some (.int .i64 (a : Nat)) ∧ w'.cell? ⟨bb2, oo2, none⟩ = some (.int .i64 (d : Nat))) (go_keep)
                (first | (go_at_fn g; refine (hcall.out _ (by (repeat (first | assumption | exact Ext.rf _ | apply Ext.drew | apply Ext.drewN | apply Ext.alloc)))).mono ?_; rintro e w4 ⟨rfl, x4⟩; have Y4 := Ext.tr (a := w2) (by (repeat (first | assumption | exact Ext.rf _ | apply Ext.drew | apply Ext.drewN | apply Ext.alloc))) x4; have s1 := keepEL Y4 zb1 ka; have s2 := keepEL Y4 zb2 kd; have ho4 := Lib.hid (ho.out.ext (Ext.tr (a := wo) (by (repeat (first | assumption | exact Ext.rf _ | apply Ext.drew | apply Ext.drewN | apply Ext.alloc))) x4))))
              by_cases hcap : d1 = 1
              · subst hcap
                have t0 : L.length = 0 := by simp only [List.length_cons] at *; omega
                obtain rfl : L = [] := List.eq_nil_of_length_eq_zero t0
                clear t0
                go_wp2_with (fail)
                go_region_held3 (fun w' => w'.cell? ⟨bb1, oo1, none⟩ = some (.int .i64 (a : Nat))) (go_keep)
                  (first | (refine step_app_i _ (by rfl) _ _ (by rfl) w2.heap.size B3 O.length d3 (nl O) [((a : Nat) : Int)] (some ⟨w4.heap.size, 0, none⟩) 1 (by rfl) (by rfl) (by rw [nl_len O]) ?_ ?_ ?_ ?_ ?_; (refine OwI.ext ho4.out ?_; (repeat (first | assumption | exact Ext.rf _ | apply Ext.drew | apply Ext.drewN | apply Ext.alloc))); (exact .blk (by (first | exact .new (by simp) | exact .drew (.new (by simp)) | exact .alloc (.new (by simp)) _ | exact .drew (.alloc (.new (by simp)) _) | exact .alloc (.alloc (.new (by simp)) _) _ | exact .drew (.alloc (.alloc (.new (by simp)) _) _) | (repeat (first | assumption | (refine Blk.new ?_; (focus (simp; done))) | apply Blk.drew | apply Blk.drewN | apply Blk.alloc)))) rfl); (rw [nl_len O]; simp; omega); (have := Y4.size; simp; omega); rintro A7 c7 w7 o7 g7 _; have Y7 : Ext w2 w7 := Ext.grow (a := w2) (by (repeat (first | assumption | exact Ext.rf _ | apply Ext.drew | apply Ext.drewN | apply Ext.alloc))) g7 (fun kk hkk => (ho.out.lt kk hkk).1); have s1 := keepEL Y7 zb1 ka))
                go_wp2
                have O7 : Hid (OwI w7 w2.heap.size A7 c7 (nl (O ++ [a]))) := by
                  have h9 := o7
                  rw [show nl O ++ [((a : Nat) : Int)] = nl (O ++ [a]) from by simp [nl]] at h9
                  exact h9
                have eO : (nl O).length + 1 = (O ++ [a]).length := by simp [nl]
                clear o7 g7
                go_roundw
                case rel => exact ⟨some ⟨bb1, oo1, none⟩, some ⟨bb2, oo2, none⟩, A7, 0, d2, c7, [], d :: R, O ++ [a], by first | rfl | (simp; done) | (simp [nl]; done) | (rw [if_neg (by omega)]; done) | (rw [← eO]; done), by first | rfl | (simp; done) | (simp [nl]; done) | (rw [if_neg (by omega)]; done) | (rw [← eO]; done), by first | rfl | (simp; done) | (simp [nl]; done) | (rw [if_neg (by omega)]; done) | (rw [← eO]; done), ⟨.inl rfl, r2w.out, O7.out, by rw [← hsum2.out, List.append_assoc]; rfl, fun x hx => mL x (by simp [hx]), mR⟩, by simp only [List.length_cons, List.length_nil] at *; omega, by omega, by simp only [List.length_cons] at *; omega, by omega, by simp only [List.length_append, List.length_cons, List.length_nil] at *; omega, Y7⟩
                case measure => simp
              · have hcap2 : 1 < d1 := by simp only [List.length_cons] at *; omega
                have q1 : (1 : Int) ≤ (d1 : Int) := by omega
                have q2 : (1 : Int) ≤ (L.length : Int) + 1 := by omega
                clear hcap
                go_wp2_with (fail)
                go_region_held3 (fun w' => w'.cell? ⟨bb1, oo1, none⟩ = some (.int .i64 (a : Nat))) (go_keep)
                  (first | (refine step_app_i _ (by rfl) _ _ (by rfl) w2.heap.size B3 O.length d3 (nl O) [((a : Nat) : Int)] (some ⟨w4.heap.size, 0, none⟩) 1 (by rfl) (by rfl) (by rw [nl_len O]) ?_ ?_ ?_ ?_ ?_; (refine OwI.ext ho4.out ?_; (repeat (first | assumption | exact Ext.rf _ | apply Ext.drew | apply Ext.drewN | apply Ext.alloc))); (exact .blk (by (first | exact .new (by simp) | exact .drew (.new (by simp)) | exact .alloc (.new (by simp)) _ | exact .drew (.alloc (.new (by simp)) _) | exact .alloc (.alloc (.new (by simp)) _) _ | exact .drew (.alloc (.alloc (.new (by simp)) _) _) | (repeat (first | assumption | (refine Blk.new ?_; (focus (simp; done))) | apply Blk.drew | apply Blk.drewN | apply Blk.alloc)))) rfl); (rw [nl_len O]; simp; omega); (have := Y4.size; simp; omega); rintro A7 c7 w7 o7 g7 _; have Y7 : Ext w2 w7 := Ext.grow (a := w2) (by (repeat (first | assumption | exact Ext.rf _ | apply Ext.drew | apply Ext.drewN | apply Ext.alloc))) g7 (fun kk hkk => (ho.out.lt kk hkk).1); have s1 := keepEL Y7 zb1 ka))
                go_wp2
                have O7 : Hid (OwI w7 w2.heap.size A7 c7 (nl (O ++ [a]))) := by
                  have h9 := o7
                  rw [show nl O ++ [((a : Nat) : Int)] = nl (O ++ [a]) from by simp [nl]] at h9
                  exact h9
                have eO : (nl O).length + 1 = (O ++ [a]).length := by simp [nl]
                clear o7 g7
                go_roundw
                case rel => exact ⟨some ⟨bb1, oo1 + 1, none⟩, some ⟨bb2, oo2, none⟩, A7, d1 - 1, d2, c7, L, d :: R, O ++ [a], by first | rfl | (simp; done) | (simp [nl]; done) | (rw [if_neg (by omega)]; done) | (rw [← eO]; done), by first | rfl | (simp; done) | (simp [nl]; done) | (rw [if_neg (by omega)]; done) | (rw [← eO]; done), by first | rfl | (simp; done) | (simp [nl]; done) | (rw [if_neg (by omega)]; done) | (rw [← eO]; done), ⟨by have h9 := r1w.out.dropA 1; simpa [nl, add_plain] using h9, r2w.out, O7.out, by rw [← hsum2.out, List.append_assoc]; rfl, fun x hx => mL x (by simp [hx]), mR⟩, by simp only [List.length_cons, List.length_nil] at *; omega, by omega, by simp only [List.length_cons] at *; omega, by omega, by simp only [List.length_append, List.length_cons, List.length_nil] at *; omega, Y7⟩
                case measure => simp
end Go.Proofs.Ytleckhbmciiooaa
