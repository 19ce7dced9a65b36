/-
  TraceCounts: how many steps of each kind there are, and which cell has the most, is told.
-/
import Derived.Test.YtcpadkaljnnieaaDoorTraceCountsP2
import Derived.Test.YtcpadkaljnnieaaDoorRows
import Derived.Test.YtcpadkaljnnieaaDoorChecked
import Derived.Test.YtcpadkaljnnieaaDoorCards
import Derived.Test.YtcpadkaljnnieaaDoorTie
namespace Go.Proofs.YtcpadkaljnnieaaDoor.traceCounts
open Go.RowKit Go.ChangeShapes Go.WideShapes Go.ChangeAt Go.Deep

theorem rent_info : (Tryd.prog.info? 39).map (fun i => (i.zero, i.size, i.bytes)) = some (some (.agg #[.int .i64 0, .int .i64 0, .int .i64 0, .int .i64 0, .int .i64 0, .bool false]), 6, 48) := by kernel_rfl
/-- the five numbers of the law -/
def numsE (l : List Ent) : Array Value := #[.int .i64 0, .int .i64 (cntE (ofKind 1) l), .int .i64 (cntE (ofKind 2) l), .int .i64 (cntE (ofKind 3) l), .int .i64 (cntE (ofKind 4) l)]
theorem numsE_quiet (l : List Ent) (e : Ent) (h : e.quiet = true) : numsE (l ++ [e]) = numsE l := by
  unfold numsE
  simp only [cntE_snoc, ofKind, h]
  simp [b2i]
theorem numsE_step (l : List Ent) (e : Ent) (h : e.quiet = false) : numsE (l ++ [e]) = #[.int .i64 0, .int .i64 (cntE (ofKind 1) l + b2i (e.kind == 1)), .int .i64 (cntE (ofKind 2) l + b2i (e.kind == 2)), .int .i64 (cntE (ofKind 3) l + b2i (e.kind == 3)), .int .i64 (cntE (ofKind 4) l + b2i (e.kind == 4))] := by
  unfold numsE
  simp only [cntE_snoc, ofKind, h]
  simp [b2i]
theorem fail_snoc (l : List Ent) (e : Ent) : cntE ofFail (l ++ [e]) = cntE ofFail l + b2i (!e.quiet && (e.kind == 3 && !e.done)) := cntE_snoc _ _ _
/-- of how many of the first j the cell is so -/
def manyE (l : List Ent) (c : Int) (j : Nat) : Nat := (cellsE (l.take j)).count c
theorem manyE_zero (l : List Ent) (c : Int) : manyE l c 0 = 0 := by unfold manyE; rw [List.take_zero]; rfl
theorem manyE_succ {l : List Ent} {j : Nat} {e : Ent} (h : l[j]? = some e) (c : Int) : manyE l c (j + 1) = manyE l c j + (if (e.cell == c && !e.quiet) = true then 1 else 0) := by
  unfold manyE
  rw [List.take_add_one, h]
  show (cellsE (l.take j ++ [e])).count c = _
  cases hq : e.quiet with
  | true => rw [cellsE_quiet _ hq]; simp
  | false =>
    rw [cellsE_step _ hq, List.count_append]
    by_cases hc : e.cell = c
    · simp [hc]
    · simp [hc]
theorem manyE_le (l : List Ent) (c : Int) (j : Nat) : manyE l c j ≤ l.length := by
  unfold manyE
  have h1 := List.count_le_length (a := c) (l := cellsE (l.take j))
  have h2 := cellsE_len (l.take j)
  rw [List.length_take] at h2
  omega
/-- what stays: the entries, and the five numbers of the first k -/
structure StK (w : World) (A : Option Addr) (ps : List Ent) (ga : Nat) (l : List Ent) (wr : World) : Prop where
  x : Ext w wr
  r : RdV wr 39 A (entsL ps)
  n : Blk wr ga 37 (numsE l)
theorem StK.ext {w : World} {A : Option Addr} {ps : List Ent} {ga : Nat} {l : List Ent} {wr wr' : World} (h : StK w A ps ga l wr) (x : Ext wr wr') : StK w A ps ga l wr' := ⟨h.x.tr x, h.r.ext x, h.n.ext x⟩
theorem rdv_far {w : World} {e t : TypeId} {A : Option Addr} {vs : List Value} {g : Nat} {cs : Array Value} (h : RdV w e A vs) (hb : Blk w g t cs) (ht : t ≠ e) (i : Nat) (v : Value) : RdV (w.setCell ⟨g, i, none⟩ v) e A vs :=
  h.mod (S := fun z => z = g) ((Mod.rf (S := fun z => z = g) w).set (p := ⟨g, i, none⟩) (.inl rfl) v) fun k cur hk hS => by
    subst hS
    unfold Blk at hb
    rw [hk] at hb
    injection hb with hb
    injection hb with _ hb
    exact ht hb.symm
/-- one of the numbers is put -/
theorem StK.put {w : World} {A : Option Addr} {ps : List Ent} {ga : Nat} {l l' : List Ent} {wr : World} (h : StK w A ps ga l wr) (hg : w.heap.size ≤ ga) (i : Nat) (v : Value) (hl : numsE l' = (numsE l).setIfInBounds i v) : StK w A ps ga l' (wr.setCell ⟨ga, i, none⟩ v) :=
  ⟨h.x.setNew (p := ⟨ga, i, none⟩) hg v, rdv_far h.r h.n (by decide) i v, by rw [hl]; exact h.n.set i v⟩
set_option maxRecDepth 100000 in
set_option maxHeartbeats 8000000 in
theorem walk_all (A : Option Addr) (c : Nat) (xs : List Ent) (w : World) (hT : Ten w) (hx : RdE 6 REnt w A xs) (lx : xs.length ≤ c) (lc : c ≤ maxLen) :
    Calls Tryd.prog 4 #[.slice A xs.length c] w fun e w' => e = .returned (.bool true) ∧ Ext w w' := by
  obtain ⟨ps, hps⟩ : ∃ ps, ps = xs.take 100 := ⟨_, rfl⟩
  have lp : ps.length ≤ 100 := by rw [hps, List.length_take]; omega
  have ep : (if (100 : Int) < (xs.length : Int) then (100 : Int) else (xs.length : Int)) = (ps.length : Int) := by
    rw [hps, List.length_take]
    split <;> omega
  have ep2 : min (xs.length : Int) 100 = (ps.length : Int) := by rw [hps, List.length_take]; omega
  have lpx : ps.length ≤ xs.length := by rw [hps, List.length_take]; omega
  have RD := Lib.hid (show RdC w A (entsL ps) by rw [hps]; exact hx.ents 100)
  have IN : Hid (∀ e ∈ ps, e.In) := Lib.hid (fun e he => hx.entsIn e (by rw [hps] at he; exact List.mem_of_mem_take he))
  have TR := Lib.hid (fun (W : World) (x : Ext w W) => traces_any W (hT.ext x))
  have TO := Lib.hid (fun (B : Option Addr) (d : Nat) (W : World) (h : RdV W 39 B (entsL ps)) => to_any B d ps W h (by omega))
  have CO := Lib.hid (fun (B : Option Addr) (d : Nat) (W : World) (h : RdV W 50 B (entsL ps)) => count_any B d ps W h (by omega))
  obtain ⟨i0, hi, hz0, hz1, hz2⟩ := info_parts rent_info
  replace hi := Lib.hid hi
  replace hz0 := Lib.hid hz0
  replace hz1 := Lib.hid hz1
  replace hz2 := Lib.hid hz2
  unfold maxLen at lc
  clear hx hT hps
  go_enter Tryd.func4, Tryd.ntmps4
  go_upto_region 2 with (at_builtin; refine wpl_fresh_v _ (e := 39) Tryd.underlying22 hi.out hz0.out hz1.out hz2.out (by simp [Value.cells]) (by omega) rfl _ _ rfl w.heap.size w.heap.size 0 #[] A ps.length c (entsL ps) rfl rfl (by (first | exact .new (by simp) | exact .drew (.new (by simp)) | exact .alloc (.new (by simp)) _ | exact .drew (.alloc (.new (by simp)) _) | exact .alloc (.alloc (.new (by simp)) _) _ | exact .drew (.alloc (.alloc (.new (by simp)) _) _) | (repeat (first | assumption | (refine Blk.new ?_; (focus (simp; done))) | apply Blk.drew | apply Blk.drewN | apply Blk.alloc)))) (Nat.le_refl _) rfl (RD.out.ext (by (repeat (first | assumption | exact Ext.rf _ | apply Ext.drew | apply Ext.drewN | apply Ext.alloc)))) (entsL_len ps) (entsL_cell1 ps) (by simp only [maxLen]; omega) (by omega) ?_; rintro A7 c7 w7 o7 x7)
  have X7 := Lib.hid (Ext.tr (a := w) (by (repeat (first | assumption | exact Ext.rf _ | apply Ext.drew | apply Ext.drewN | apply Ext.alloc))) x7)
  have R7 := Lib.hid o7.read
  have z7 := X7.out.size
  clear o7 x7 RD hi hz0 hz1 hz2
  obtain ⟨ga, hga⟩ : ∃ ga, ga = w7.heap.size := ⟨_, rfl⟩
  have S0 : Hid (StK w A7 ps ga [] (w7.alloc (.cells #[.int .i64 0, .int .i64 0, .int .i64 0, .int .i64 0, .int .i64 0] 37))) := Lib.hid ⟨X7.out.alloc _, R7.out.ext ((Ext.rf _).alloc _), .new hga⟩
  have zg : w.heap.size ≤ ga := by omega
  clear R7 X7 z7
  go_upto_region 4 with (fail)
  rw [← hga]
  clear hga
  generalize w7.alloc (.cells #[.int .i64 0, .int .i64 0, .int .i64 0, .int .i64 0, .int .i64 0] 37) = wb at *
  go_wp2_with (fail)
  go_loopw [4, 5, 6, 7, 8] (fun fv qv bv tv kv wr => ∃ (k top : Nat) (best : Int), fv = .int .i64 (cntE ofFail (ps.take k)) ∧ qv = .int .i64 (cntE Ent.quiet (ps.take k)) ∧ bv = .int .i64 best ∧ tv = .int .i64 top ∧ kv = .int .i64 k ∧ k ≤ ps.length ∧ Hid (BestIn (cellsE ps) (cellsE (ps.take k)) best top) ∧ Hid (StK w A7 ps ga (ps.take k) wr)) (fun _ _ _ _ kv _ => ps.length - (intOf kv).toNat)
  case atStart => exact ⟨0, 0, -1, rfl, rfl, rfl, rfl, rfl, by omega, Lib.hid (by rw [List.take_zero]; exact BestIn.start _), by rw [List.take_zero]; exact S0⟩
  case round =>
    clear S0
    obtain ⟨k, top, best, rfl, rfl, rfl, rfl, rfl, hk, HB, S⟩ := hrel
    by_cases hlt : k < ps.length
    · obtain ⟨b, off, e, rfl, hb, he, c0, c1, c2, c3, c4, c5⟩ := S.out.r.ent hlt
      have hTK : Hid (ps.take (k + 1) = ps.take k ++ [e]) := Lib.hid (by rw [List.take_add_one, he.out]; rfl)
      have hem := Lib.hid (List.mem_of_getElem? he.out)
      have EIN := Lib.hid (IN.out e hem.out)
      have tb : top ≤ 1000 := by
        rcases HB.out with ⟨_, _, e⟩ | ⟨_, e, _⟩
        · omega
        · have h1 := List.count_le_length (a := best) (l := cellsE ps); have h2 := cellsE_len ps; omega
      obtain ⟨qb1, qb2⟩ := cntE_bd Ent.quiet (ps.take k)
      obtain ⟨fb1, fb2⟩ := cntE_bd ofFail (ps.take k)
      have nb1 := cntE_bd (ofKind 1) (ps.take k)
      have nb2 := cntE_bd (ofKind 2) (ps.take k)
      have nb3 := cntE_bd (ofKind 3) (ps.take k)
      have nb4 := cntE_bd (ofKind 4) (ps.take k)
      have ltk : (ps.take k).length ≤ 100 := by rw [List.length_take]; omega
      have qb3 : cntE Ent.quiet (ps.take k) ≤ 100 := by omega
      have fb3 : cntE ofFail (ps.take k) ≤ 100 := by omega
      have NB1 := Lib.hid (show 0 ≤ cntE (ofKind 1) (ps.take k) ∧ cntE (ofKind 1) (ps.take k) ≤ 100 by omega)
      have NB2 := Lib.hid (show 0 ≤ cntE (ofKind 2) (ps.take k) ∧ cntE (ofKind 2) (ps.take k) ≤ 100 by omega)
      have NB3 := Lib.hid (show 0 ≤ cntE (ofKind 3) (ps.take k) ∧ cntE (ofKind 3) (ps.take k) ≤ 100 by omega)
      have NB4 := Lib.hid (show 0 ≤ cntE (ofKind 4) (ps.take k) ∧ cntE (ofKind 4) (ps.take k) ≤ 100 by omega)
      clear nb1 nb2 nb3 nb4 ltk qb2 fb2
      obtain ⟨wk, kd, cl, od, nw, dn⟩ := e
      simp only at c0 c1 c2 c3 c4 c5
      go_upto_region 8 with (fail)
      have B8 : Hid (Blk (wr.alloc (.cells #[.int .i64 wk, .int .i64 kd, .int .i64 cl, .int .i64 od, .int .i64 nw, .bool dn] 39)) wr.heap.size 39 #[.int .i64 wk, .int .i64 kd, .int .i64 cl, .int .i64 od, .int .i64 nw, .bool dn]) := Lib.hid (.new rfl)
      have S8 := Lib.hid (S.out.ext ((Ext.rf wr).alloc (.cells #[.int .i64 wk, .int .i64 kd, .int .i64 cl, .int .i64 od, .int .i64 nw, .bool dn] 39)))
      have zge : ga < wr.heap.size := S.out.n.lt
      clear S c0 c1 c2 c3 c4 c5 hb
      obtain ⟨ge, hge⟩ : ∃ ge, ge = wr.heap.size := ⟨_, rfl⟩
      rw [← hge] at B8 zge ⊢
      generalize wr.alloc (.cells #[.int .i64 wk, .int .i64 kd, .int .i64 cl, .int .i64 od, .int .i64 nw, .bool dn] 39) = wa at *
      clear hge
      have C0 : wa.cell? ⟨ge, 0, none⟩ = some (.int .i64 wk) := B8.out.cell 0
      have C1 : wa.cell? ⟨ge, 1, none⟩ = some (.int .i64 kd) := B8.out.cell 1
      have C2 : wa.cell? ⟨ge, 2, none⟩ = some (.int .i64 cl) := B8.out.cell 2
      have C3 : wa.cell? ⟨ge, 3, none⟩ = some (.int .i64 od) := B8.out.cell 3
      have C4 : wa.cell? ⟨ge, 4, none⟩ = some (.int .i64 nw) := B8.out.cell 4
      have C5 : wa.cell? ⟨ge, 5, none⟩ = some (.bool dn) := B8.out.cell 5
      obtain ⟨q, hq⟩ : ∃ q, Hid (Ent.quiet ⟨wk, kd, cl, od, nw, dn⟩ = q) := ⟨_, rfl⟩
      go_cut [34] (fun v wx => v = .bool q ∧ wx = wa)
      case first =>
        by_cases z0 : kd = 0
        case neg =>
          have y_z0 : (kd == 0) = false := beq_eq_false_iff_ne.2 z0
          have hqo := hq.out
          unfold Ent.quiet at hqo
          simp [y_z0] at hqo
          subst hqo
          clear hq
          go_wp2_with (fail)
          go_meet
          exact ⟨rfl, rfl⟩
        subst z0
        by_cases z1 : cl = 0
        case neg =>
          have y_z1 : (cl == 0) = false := beq_eq_false_iff_ne.2 z1
          have hqo := hq.out
          unfold Ent.quiet at hqo
          simp [y_z1] at hqo
          subst hqo
          clear hq
          go_wp2_with (fail)
          go_meet
          exact ⟨rfl, rfl⟩
        subst z1
        by_cases z2 : od = 0
        case neg =>
          have y_z2 : (od == 0) = false := beq_eq_false_iff_ne.2 z2
          have hqo := hq.out
          unfold Ent.quiet at hqo
          simp [y_z2] at hqo
          subst hqo
          clear hq
          go_wp2_with (fail)
          go_meet
          exact ⟨rfl, rfl⟩
        subst z2
        by_cases z3 : nw = 0
        case neg =>
          have y_z3 : (nw == 0) = false := beq_eq_false_iff_ne.2 z3
          have hqo := hq.out
          unfold Ent.quiet at hqo
          simp [y_z3] at hqo
          subst hqo
          clear hq
          go_wp2_with (fail)
          go_meet
          exact ⟨rfl, rfl⟩
        subst z3
        cases dn
        case true =>
          have hqo := hq.out
          unfold Ent.quiet at hqo
          simp at hqo
          subst hqo
          clear hq
          go_wp2_with (fail)
          go_meet
          exact ⟨rfl, rfl⟩
        have hqo := hq.out
        unfold Ent.quiet at hqo
        simp at hqo
        subst hqo
        clear hq
        go_wp2_with (fail)
        go_meet
        exact ⟨rfl, rfl⟩
      case rest =>
        obtain ⟨rfl, rfl⟩ := hcut
        cases q with
        | true =>
          have QN : Hid (numsE (ps.take (k + 1)) = numsE (ps.take k)) := Lib.hid (by rw [hTK.out]; exact numsE_quiet _ _ hq.out)
          have QC : Hid (cellsE (ps.take (k + 1)) = cellsE (ps.take k)) := Lib.hid (by rw [hTK.out]; exact cellsE_quiet _ hq.out)
          have QF : Hid (cntE ofFail (ps.take (k + 1)) = cntE ofFail (ps.take k)) := Lib.hid (by rw [hTK.out, fail_snoc, hq.out]; simp [b2i])
          have QQ : Hid (cntE Ent.quiet (ps.take (k + 1)) = cntE Ent.quiet (ps.take k) + 1) := Lib.hid (by rw [hTK.out, cntE_snoc, hq.out]; simp [b2i])
          have S9 : Hid (StK w (some ⟨b, off, none⟩) ps ga (ps.take (k + 1)) wc) := Lib.hid ⟨S8.out.x, S8.out.r, by rw [QN.out]; exact S8.out.n⟩
          clear S8 B8 hq C0 C1 C2 C3 C4 C5 he hem EIN
          generalize cntE ofFail (ps.take k) = nf at *
          generalize cntE Ent.quiet (ps.take k) = nq at *
          go_wp2_with (fail)
          go_roundw
          case rel => exact ⟨k + 1, top, best, by rw [QF.out], by rw [QQ.out], rfl, rfl, by go_num, by omega, by rw [QC.out]; exact HB, S9⟩
          case measure => simp [intOf]; omega
        | false =>
          have QN := Lib.hid (show numsE (ps.take (k + 1)) = #[.int .i64 0, .int .i64 (cntE (ofKind 1) (ps.take k) + b2i (kd == 1)), .int .i64 (cntE (ofKind 2) (ps.take k) + b2i (kd == 2)), .int .i64 (cntE (ofKind 3) (ps.take k) + b2i (kd == 3)), .int .i64 (cntE (ofKind 4) (ps.take k) + b2i (kd == 4))] by rw [hTK.out]; exact numsE_step _ _ hq.out)
          have QC : Hid (cellsE (ps.take (k + 1)) = cellsE (ps.take k) ++ [cl]) := Lib.hid (by rw [hTK.out]; exact cellsE_step _ hq.out)
          have QF : Hid (cntE ofFail (ps.take (k + 1)) = cntE ofFail (ps.take k) + b2i (kd == 3 && !dn)) := Lib.hid (by rw [hTK.out, fail_snoc, hq.out]; simp)
          have QQ : Hid (cntE Ent.quiet (ps.take (k + 1)) = cntE Ent.quiet (ps.take k)) := Lib.hid (by rw [hTK.out, cntE_snoc, hq.out]; simp [b2i])
          have CM : Hid (cl ∈ cellsE ps) := Lib.hid (by
            unfold cellsE
            refine List.mem_map.2 ⟨_, List.mem_filter.2 ⟨hem.out, ?_⟩, rfl⟩
            rw [hq.out]
            rfl)
          clear hq he hem EIN
          obtain ⟨r, hr⟩ : ∃ r, Hid (decide (1 ≤ kd ∧ kd ≤ 4) = r) := ⟨_, rfl⟩
          obtain ⟨wa, rfl⟩ : ∃ wa : World, wa = wc := ⟨_, rfl⟩
          go_upto_region 10 with (fail)
          go_cut [44] (fun v wx => v = .bool r ∧ wx = wa)
          case first =>
            by_cases k1 : 1 ≤ kd
            · by_cases k4 : kd ≤ 4
              · have h := hr.out
                rw [decide_eq_true ⟨k1, k4⟩] at h
                subst h
                clear hr
                go_wp2_with (fail)
                go_meet
                exact ⟨rfl, rfl⟩
              · have h := hr.out
                rw [decide_eq_false (fun h => k4 h.2)] at h
                subst h
                clear hr
                go_wp2_with (fail)
                go_meet
                exact ⟨rfl, rfl⟩
            · have h := hr.out
              rw [decide_eq_false (fun h => k1 h.1)] at h
              subst h
              clear hr
              go_wp2_with (fail)
              go_meet
              exact ⟨rfl, rfl⟩
          case rest =>
            obtain ⟨rfl, rfl⟩ := hcut
            go_upto_if 44 with (fail)
            go_cut [] (fun wx => Blk wx ge 39 #[.int .i64 wk, .int .i64 kd, .int .i64 cl, .int .i64 od, .int .i64 nw, .bool dn] ∧ StK w (some ⟨b, off, none⟩) ps ga (ps.take (k + 1)) wx)
            case first =>
              cases r with
              | false =>
                have h4 : ¬ (1 ≤ kd ∧ kd ≤ 4) := of_decide_eq_false hr.out
                have e : numsE (ps.take (k + 1)) = numsE (ps.take k) := by
                  rw [QN.out, beq_eq_false_iff_ne.2 (show kd ≠ 1 by omega), beq_eq_false_iff_ne.2 (show kd ≠ 2 by omega), beq_eq_false_iff_ne.2 (show kd ≠ 3 by omega), beq_eq_false_iff_ne.2 (show kd ≠ 4 by omega)]
                  simp [numsE, b2i]
                have S9 : Hid (StK w (some ⟨b, off, none⟩) ps ga (ps.take (k + 1)) wc) := Lib.hid ⟨S8.out.x, S8.out.r, by rw [e]; exact S8.out.n⟩
                clear e h4 hr
                go_wp2_with (fail)
                go_meet
                exact ⟨B8.out, S9.out⟩
              | true =>
                obtain ⟨k1, k4⟩ : 1 ≤ kd ∧ kd ≤ 4 := of_decide_eq_true hr.out
                have m1 : wc.cell? ⟨ga, 1, none⟩ = some (.int .i64 (cntE (ofKind 1) (ps.take k))) := S8.out.n.cell 1
                have m2 : wc.cell? ⟨ga, 2, none⟩ = some (.int .i64 (cntE (ofKind 2) (ps.take k))) := S8.out.n.cell 2
                have m3 : wc.cell? ⟨ga, 3, none⟩ = some (.int .i64 (cntE (ofKind 3) (ps.take k))) := S8.out.n.cell 3
                have m4 : wc.cell? ⟨ga, 4, none⟩ = some (.int .i64 (cntE (ofKind 4) (ps.take k))) := S8.out.n.cell 4
                have f1 := S8.out.n.free 1
                have f2 := S8.out.n.free 2
                have f3 := S8.out.n.free 3
                have f4 := S8.out.n.free 4
                obtain ⟨u1, v1⟩ := NB1.out
                obtain ⟨u2, v2⟩ := NB2.out
                obtain ⟨u3, v3⟩ := NB3.out
                obtain ⟨u4, v4⟩ := NB4.out
                have hcase : kd = 1 ∨ kd = 2 ∨ kd = 3 ∨ kd = 4 := by omega
                clear hr k1 k4
                rcases hcase with rfl | rfl | rfl | rfl
                · have e : numsE (ps.take (k + 1)) = (numsE (ps.take k)).setIfInBounds 1 (.int .i64 (cntE (ofKind 1) (ps.take k) + 1)) := by rw [QN.out]; simp [numsE, b2i]
                  have S9 := Lib.hid (S8.out.put zg 1 (.int .i64 (cntE (ofKind 1) (ps.take k) + 1)) e)
                  have B9 := Lib.hid (B8.out.far (p := ⟨ga, 1, none⟩) (show ge ≠ ga by omega) (.int .i64 (cntE (ofKind 1) (ps.take k) + 1)))
                  clear e QN QF
                  generalize cntE (ofKind 1) (ps.take k) = nx at *
                  go_wp2_with (fail)
                  go_meet
                  exact ⟨B9.out, S9.out⟩
                · have e : numsE (ps.take (k + 1)) = (numsE (ps.take k)).setIfInBounds 2 (.int .i64 (cntE (ofKind 2) (ps.take k) + 1)) := by rw [QN.out]; simp [numsE, b2i]
                  have S9 := Lib.hid (S8.out.put zg 2 (.int .i64 (cntE (ofKind 2) (ps.take k) + 1)) e)
                  have B9 := Lib.hid (B8.out.far (p := ⟨ga, 2, none⟩) (show ge ≠ ga by omega) (.int .i64 (cntE (ofKind 2) (ps.take k) + 1)))
                  clear e QN QF
                  generalize cntE (ofKind 2) (ps.take k) = nx at *
                  go_wp2_with (fail)
                  go_meet
                  exact ⟨B9.out, S9.out⟩
                · have e : numsE (ps.take (k + 1)) = (numsE (ps.take k)).setIfInBounds 3 (.int .i64 (cntE (ofKind 3) (ps.take k) + 1)) := by rw [QN.out]; simp [numsE, b2i]
                  have S9 := Lib.hid (S8.out.put zg 3 (.int .i64 (cntE (ofKind 3) (ps.take k) + 1)) e)
                  have B9 := Lib.hid (B8.out.far (p := ⟨ga, 3, none⟩) (show ge ≠ ga by omega) (.int .i64 (cntE (ofKind 3) (ps.take k) + 1)))
                  clear e QN QF
                  generalize cntE (ofKind 3) (ps.take k) = nx at *
                  go_wp2_with (fail)
                  go_meet
                  exact ⟨B9.out, S9.out⟩
                · have e : numsE (ps.take (k + 1)) = (numsE (ps.take k)).setIfInBounds 4 (.int .i64 (cntE (ofKind 4) (ps.take k) + 1)) := by rw [QN.out]; simp [numsE, b2i]
                  have S9 := Lib.hid (S8.out.put zg 4 (.int .i64 (cntE (ofKind 4) (ps.take k) + 1)) e)
                  have B9 := Lib.hid (B8.out.far (p := ⟨ga, 4, none⟩) (show ge ≠ ga by omega) (.int .i64 (cntE (ofKind 4) (ps.take k) + 1)))
                  clear e QN QF
                  generalize cntE (ofKind 4) (ps.take k) = nx at *
                  go_wp2_with (fail)
                  go_meet
                  exact ⟨B9.out, S9.out⟩
            case rest =>
              obtain ⟨B9, S9⟩ := hcut
              replace B9 := Lib.hid B9
              replace S9 := Lib.hid S9
              clear S8 B8 C0 C1 C2 C3 C4 C5 hr QN NB1 NB2 NB3 NB4
              have C0 : wc.cell? ⟨ge, 0, none⟩ = some (.int .i64 wk) := B9.out.cell 0
              have C1 : wc.cell? ⟨ge, 1, none⟩ = some (.int .i64 kd) := B9.out.cell 1
              have C2 : wc.cell? ⟨ge, 2, none⟩ = some (.int .i64 cl) := B9.out.cell 2
              have C5 : wc.cell? ⟨ge, 5, none⟩ = some (.bool dn) := B9.out.cell 5
              obtain ⟨g, hg⟩ : ∃ g, Hid ((kd == 3 && !dn) = g) := ⟨_, rfl⟩
              rw [hg.out] at QF
              obtain ⟨wa, rfl⟩ : ∃ wa : World, wa = wc := ⟨_, rfl⟩
              go_upto_region 12 with (fail)
              go_cut [58] (fun v wx => v = .bool g ∧ wx = wa)
              case first =>
                by_cases k3 : kd = 3
                · subst k3
                  cases dn with
                  | true =>
                    have h := hg.out
                    simp at h
                    subst h
                    clear hg
                    go_wp2_with (fail)
                    go_meet
                    exact ⟨rfl, rfl⟩
                  | false =>
                    have h := hg.out
                    simp at h
                    subst h
                    clear hg
                    go_wp2_with (fail)
                    go_meet
                    exact ⟨rfl, rfl⟩
                · have y3 : (kd == 3) = false := beq_eq_false_iff_ne.2 k3
                  have h := hg.out
                  rw [y3] at h
                  simp at h
                  subst h
                  clear hg k3
                  go_wp2_with (fail)
                  go_meet
                  exact ⟨rfl, rfl⟩
              case rest =>
                obtain ⟨rfl, rfl⟩ := hcut
                go_upto_if 58 with (fail)
                obtain ⟨wa, rfl⟩ : ∃ wa : World, wa = wc := ⟨_, rfl⟩
                go_cut [4] (fun v wx => v = .int .i64 (cntE ofFail (ps.take (k + 1))) ∧ wx = wa)
                case first =>
                  cases g with
                  | true =>
                    have QF2 : Hid (cntE ofFail (ps.take (k + 1)) = cntE ofFail (ps.take k) + 1) := Lib.hid (by rw [QF.out]; rfl)
                    clear QF
                    generalize cntE ofFail (ps.take (k + 1)) = nf2 at *
                    generalize cntE ofFail (ps.take k) = nf at *
                    go_wp2_with (fail)
                    go_meet
                    exact ⟨by rw [QF2.out], rfl⟩
                  | false =>
                    have QF2 : Hid (cntE ofFail (ps.take (k + 1)) = cntE ofFail (ps.take k)) := Lib.hid (by rw [QF.out]; simp [b2i])
                    clear QF
                    go_wp2_with (fail)
                    go_meet
                    exact ⟨by rw [QF2.out], rfl⟩
                case rest =>
                  obtain ⟨rfl, rfl⟩ := hcut
                  obtain ⟨wo, rfl⟩ : ∃ wo : World, wo = wc := ⟨_, rfl⟩
                  clear QF hg C0 C1 C2 C5
                  have C2 : wo.cell? ⟨ge, 2, none⟩ = some (.int .i64 cl) := B9.out.cell 2
                  go_wp2_with (fail)
                  go_loopw [10, 11] (fun mv jv wr => ∃ j : Nat, mv = .int .i64 (manyE ps cl j) ∧ jv = .int .i64 j ∧ j ≤ ps.length ∧ Hid (Ext wo wr)) (fun _ jv _ => ps.length - (intOf jv).toNat)
                  case atStart => exact ⟨0, by rw [manyE_zero]; rfl, rfl, by omega, Lib.hid (by (repeat (first | assumption | exact Ext.rf _ | apply Ext.drew | apply Ext.drewN | apply Ext.alloc)))⟩
                  case round =>
                    obtain ⟨j, rfl, rfl, hj, YJ⟩ := hrel
                    have zgw := B9.out.lt
                    have mle := manyE_le ps cl j
                    by_cases hjl : j < ps.length
                    · obtain ⟨b2, off2, e2, hA2, hb2, he2, d0, d1, d2, d3, d4, d5⟩ := (S9.out.r.ext YJ.out).ent hjl
                      injection hA2 with hA2
                      injection hA2 with h1 h2
                      subst h1
                      subst h2
                      have MS0 := manyE_succ he2.out cl
                      obtain ⟨wk2, kd2, cl2, od2, nw2, dn2⟩ := e2
                      simp only at d0 d1 d2 d3 d4 d5 MS0
                      obtain ⟨p, hp⟩ : ∃ p, Hid ((cl2 == cl && !Ent.quiet ⟨wk2, kd2, cl2, od2, nw2, dn2⟩) = p) := ⟨_, rfl⟩
                      rw [hp.out] at MS0
                      have MS := Lib.hid MS0
                      clear MS0 he2
                      go_upto_region 19 with (fail)
                      have BJ : Hid (Blk (wr.alloc (.cells #[.int .i64 wk2, .int .i64 kd2, .int .i64 cl2, .int .i64 od2, .int .i64 nw2, .bool dn2] 39)) wr.heap.size 39 #[.int .i64 wk2, .int .i64 kd2, .int .i64 cl2, .int .i64 od2, .int .i64 nw2, .bool dn2]) := Lib.hid (.new rfl)
                      have YA := Lib.hid (YJ.out.alloc (.cells #[.int .i64 wk2, .int .i64 kd2, .int .i64 cl2, .int .i64 od2, .int .i64 nw2, .bool dn2] 39))
                      clear YJ d0 d1 d2 d3 d4 d5 hb2
                      obtain ⟨gj, hgj⟩ : ∃ gj, gj = wr.heap.size := ⟨_, rfl⟩
                      rw [← hgj] at BJ ⊢
                      generalize wr.alloc (.cells #[.int .i64 wk2, .int .i64 kd2, .int .i64 cl2, .int .i64 od2, .int .i64 nw2, .bool dn2] 39) = wb2 at *
                      clear hgj
                      have G2 := keepEL YA.out zgw C2
                      have E0 : wb2.cell? ⟨gj, 0, none⟩ = some (.int .i64 wk2) := BJ.out.cell 0
                      have E1 : wb2.cell? ⟨gj, 1, none⟩ = some (.int .i64 kd2) := BJ.out.cell 1
                      have E2 : wb2.cell? ⟨gj, 2, none⟩ = some (.int .i64 cl2) := BJ.out.cell 2
                      have E3 : wb2.cell? ⟨gj, 3, none⟩ = some (.int .i64 od2) := BJ.out.cell 3
                      have E4 : wb2.cell? ⟨gj, 4, none⟩ = some (.int .i64 nw2) := BJ.out.cell 4
                      have E5 : wb2.cell? ⟨gj, 5, none⟩ = some (.bool dn2) := BJ.out.cell 5
                      go_cut [82] (fun v wx => v = .bool p ∧ wx = wb2)
                      case first =>
                        by_cases hc : cl2 = cl
                        case neg =>
                          have yc : (cl2 == cl) = false := beq_eq_false_iff_ne.2 hc
                          have hpo := hp.out
                          rw [yc] at hpo
                          simp at hpo
                          subst hpo
                          clear hp hc MS
                          go_wp2_with (fail)
                          go_meet
                          exact ⟨rfl, rfl⟩
                        have yc : (cl2 == cl) = true := beq_iff_eq.2 hc
                        clear hc MS
                        by_cases z0 : kd2 = 0
                        case neg =>
                          have y_z0 : (kd2 == 0) = false := beq_eq_false_iff_ne.2 z0
                          have hqo := hp.out
                          unfold Ent.quiet at hqo
                          simp [yc, y_z0] at hqo
                          subst hqo
                          clear hp
                          go_wp2_with (fail)
                          go_meet
                          exact ⟨rfl, rfl⟩
                        subst z0
                        by_cases z1 : cl2 = 0
                        case neg =>
                          have y_z1 : (cl2 == 0) = false := beq_eq_false_iff_ne.2 z1
                          have hqo := hp.out
                          unfold Ent.quiet at hqo
                          simp [yc, y_z1] at hqo
                          subst hqo
                          clear hp
                          go_wp2_with (fail)
                          go_meet
                          exact ⟨rfl, rfl⟩
                        subst z1
                        by_cases z2 : od2 = 0
                        case neg =>
                          have y_z2 : (od2 == 0) = false := beq_eq_false_iff_ne.2 z2
                          have hqo := hp.out
                          unfold Ent.quiet at hqo
                          simp [yc, y_z2] at hqo
                          subst hqo
                          clear hp
                          go_wp2_with (fail)
                          go_meet
                          exact ⟨rfl, rfl⟩
                        subst z2
                        by_cases z3 : nw2 = 0
                        case neg =>
                          have y_z3 : (nw2 == 0) = false := beq_eq_false_iff_ne.2 z3
                          have hqo := hp.out
                          unfold Ent.quiet at hqo
                          simp [yc, y_z3] at hqo
                          subst hqo
                          clear hp
                          go_wp2_with (fail)
                          go_meet
                          exact ⟨rfl, rfl⟩
                        subst z3
                        cases dn2
                        case true =>
                          have hqo := hp.out
                          unfold Ent.quiet at hqo
                          simp [yc] at hqo
                          subst hqo
                          clear hp
                          go_wp2_with (fail)
                          go_meet
                          exact ⟨rfl, rfl⟩
                        have hqo := hp.out
                        unfold Ent.quiet at hqo
                        simp [yc] at hqo
                        subst hqo
                        clear hp
                        go_wp2_with (fail)
                        go_meet
                        exact ⟨rfl, rfl⟩
                      case rest =>
                        obtain ⟨rfl, rfl⟩ := hcut
                        clear G2 E0 E1 E2 E3 E4 E5 hp BJ
                        cases p with
                        | true =>
                          have MS2 : Hid (manyE ps cl (j + 1) = manyE ps cl j + 1) := Lib.hid (by rw [MS.out]; rfl)
                          clear MS
                          generalize manyE ps cl j = m at *
                          go_wp2_with (fail)
                          go_roundw
                          case rel => exact ⟨j + 1, by rw [MS2.out]; go_num, by go_num, by omega, YA⟩
                          case measure => simp [intOf]; omega
                        | false =>
                          have MS2 : Hid (manyE ps cl (j + 1) = manyE ps cl j) := Lib.hid (by rw [MS.out]; rfl)
                          clear MS
                          go_wp2_with (fail)
                          go_roundw
                          case rel => exact ⟨j + 1, by rw [MS2.out], by go_num, by omega, YA⟩
                          case measure => simp [intOf]; omega
                    · obtain rfl : j = ps.length := by omega
                      have MC : Hid (manyE ps cl ps.length = (cellsE ps).count cl) := Lib.hid (by unfold manyE; rw [List.take_length])
                      have SN := Lib.hid (HB.out.snoc CM.out)
                      have G2 := keepEL YJ.out zgw C2
                      have SJ := Lib.hid (S9.out.ext YJ.out)
                      rw [← MC.out] at SN
                      clear MC HB CM C2 S9 B9 YJ hjl
                      generalize manyE ps cl ps.length = m at *
                      have SN2 := SN.out
                      by_cases h1 : top < m
                      · rw [if_pos (.inl h1), if_pos (.inl h1)] at SN2
                        have SN3 := Lib.hid SN2
                        clear SN SN2
                        go_wp2_with (fail)
                        go_roundw
                        case rel => exact ⟨k + 1, m, cl, rfl, by rw [QQ.out], rfl, rfl, by go_num, by omega, by rw [QC.out]; exact SN3, SJ⟩
                        case measure => simp [intOf]; omega
                      · by_cases h2 : m = top
                        · subst h2
                          by_cases h3 : cl < best
                          · rw [if_pos (.inr ⟨rfl, h3⟩), if_pos (.inr ⟨rfl, h3⟩)] at SN2
                            have SN3 := Lib.hid SN2
                            clear SN SN2
                            go_wp2_with (fail)
                            go_roundw
                            case rel => exact ⟨k + 1, m, cl, rfl, by rw [QQ.out], rfl, rfl, by go_num, by omega, by rw [QC.out]; exact SN3, SJ⟩
                            case measure => simp [intOf]; omega
                          · rw [if_neg (fun h => h.elim h1 (fun h => h3 h.2)), if_neg (fun h => h.elim h1 (fun h => h3 h.2))] at SN2
                            have SN3 := Lib.hid SN2
                            clear SN SN2
                            go_wp2_with (fail)
                            go_roundw
                            case rel => exact ⟨k + 1, m, best, rfl, by rw [QQ.out], rfl, rfl, by go_num, by omega, by rw [QC.out]; exact SN3, SJ⟩
                            case measure => simp [intOf]; omega
                        · rw [if_neg (fun h => h.elim h1 (fun h => h2 h.1)), if_neg (fun h => h.elim h1 (fun h => h2 h.1))] at SN2
                          have SN3 := Lib.hid SN2
                          have h2b : (m == top) = false := beq_eq_false_iff_ne.2 h2
                          clear SN SN2
                          go_wp2_with (fail)
                          go_roundw
                          case rel => exact ⟨k + 1, top, best, rfl, by rw [QQ.out], rfl, rfl, by go_num, by omega, by rw [QC.out]; exact SN3, SJ⟩
                          case measure => simp [intOf]; omega
    · obtain rfl : k = ps.length := by omega
      rw [List.take_length] at HB S ⊢
      have zga := S.out.n.lt
      have s1 : wr.cell? ⟨ga, 1, none⟩ = some (.int .i64 (cntE (ofKind 1) ps)) := S.out.n.cell 1
      have s2 : wr.cell? ⟨ga, 2, none⟩ = some (.int .i64 (cntE (ofKind 2) ps)) := S.out.n.cell 2
      have s3 : wr.cell? ⟨ga, 3, none⟩ = some (.int .i64 (cntE (ofKind 3) ps)) := S.out.n.cell 3
      have s4 : wr.cell? ⟨ga, 4, none⟩ = some (.int .i64 (cntE (ofKind 4) ps)) := S.out.n.cell 4
      unfold CountPost sumsE sumC at CO
      generalize cntE (ofKind 1) ps = n1 at *
      generalize cntE (ofKind 2) ps = n2 at *
      generalize cntE (ofKind 3) ps = n3 at *
      generalize cntE (ofKind 4) ps = n4 at *
      generalize cntE ofFail ps = n5 at *
      generalize cntE Ent.quiet ps = n6 at *
      clear hlt
      go_wp2_with (fail)
      go_region_held3 (fun W' => W'.cell? ⟨ga, 1, none⟩ = some (.int .i64 n1) ∧ W'.cell? ⟨ga, 2, none⟩ = some (.int .i64 n2) ∧ W'.cell? ⟨ga, 3, none⟩ = some (.int .i64 n3) ∧ W'.cell? ⟨ga, 4, none⟩ = some (.int .i64 n4)) (go_keep)
        (first
        | (go_at_call 8; refine (TR.out _ (S.out.x.tr (by (repeat (first | assumption | exact Ext.rf _ | apply Ext.drew | apply Ext.drewN | apply Ext.alloc))))).mono ?_; rintro r w8 ⟨rfl, x8⟩; have y8 := Ext.tr (a := wr) (by (repeat (first | assumption | exact Ext.rf _ | apply Ext.drew | apply Ext.drewN | apply Ext.alloc))) x8; have k1 := keepEL y8 zga s1; have k2 := keepEL y8 zga s2; have k3 := keepEL y8 zga s3; have k4 := keepEL y8 zga s4)
        | (go_at_call 6; refine (TO.out _ _ _ (S.out.r.ext (by (repeat (first | assumption | exact Ext.rf _ | apply Ext.drew | apply Ext.drewN | apply Ext.alloc))))).mono ?_; rintro r w9 ⟨B, d, rfl, o9, x9⟩; have y9 := Ext.tr (a := wr) (by (repeat (first | assumption | exact Ext.rf _ | apply Ext.drew | apply Ext.drewN | apply Ext.alloc))) x9; have k1 := keepEL y9 zga s1; have k2 := keepEL y9 zga s2; have k3 := keepEL y9 zga s3; have k4 := keepEL y9 zga s4)
        | (go_at_call 13; refine (CO.out _ _ _ (o9.read.ext (by (repeat (first | assumption | exact Ext.rf _ | apply Ext.drew | apply Ext.drewN | apply Ext.alloc))))).mono ?_; rintro r w10 ⟨b10, t10, rfl, hb10, x10⟩; obtain ⟨e10, _⟩ := hb10.uniq (List.Perm.refl _) HB.out; subst e10; have y10 := Ext.tr (a := wr) (by (repeat (first | assumption | exact Ext.rf _ | apply Ext.drew | apply Ext.drewN | apply Ext.alloc))) x10; have k1 := keepEL y10 zga s1; have k2 := keepEL y10 zga s2; have k3 := keepEL y10 zga s3; have k4 := keepEL y10 zga s4))
      have YF := Lib.hid (S.out.x.tr y10)
      clear k1 k2 k3 k4 s1 s2 s3 s4
      go_wp2_with (fail)
      go_ret
      exact ⟨rfl, YF.out⟩
theorem walk (A : Option Addr) (c : Nat) (xs : List Ent) (w : World) (hT : Ten w) (hx : RdE 6 REnt w A xs) (lx : xs.length ≤ c) (lc : c ≤ maxLen) :
    Calls Tryd.prog 4 #[.slice A xs.length c] w fun e w' => e = .returned (.bool true) ∧ Ext w w' := walk_all A c xs w hT hx lx lc
set_option maxRecDepth 100000 in
theorem lifted (os : Os) (started : os.Started) (H : Type) (enc : TypeId × Value → H) :
    ReturnsInHanded {} Tryd.checked os 4 .any (fun w args => (Rows.traceCountsSpec.pre enc Tryd.prog Tryd.f4 Rows.traceCountsRow.domain false w args ∧ laidMetH Tryd.prog tabN w) ∧ sizedMet enc Tryd.prog Tryd.f4 (OpenSpec.ofChange Rows.traceCountsSpec) false w args) (Rows.traceCountsSpec.post enc Tryd.prog Tryd.f4 false true false false) := by
  refine returnsInHanded_of_change_and (C := Tryd.checked) (X := fun w _ => laidMetH Tryd.prog tabN w) (fun _ _ _ hh h => h.of_heap hh) own started (by kernel_rfl) Tryd.func4
    (ChangeSpec.witness_shaped (enc := enc) (C := Tryd.checked) (os := os) (X := fun w _ => laidMetH Tryd.prog tabN w) false (World.laidAll Tryd.prog os tabN) #[.slice none 0 0] 8 (World.laidAll_os _ _ _)
      (World.shaped_of_ZipB (by kernel_rfl) (by kernel_rfl)) (by kernel_rfl) (by kernel_rfl) (by kernel_rfl)
      (by rw [MakeChecks.laidMetH_plain _ _ _ (by kernel_rfl)]; exact laidMet_laidAll _ (by kernel_rfl) (by kernel_rfl))) ?_
  intro W base args ds gs before hval0 hW _ _ hL _
  have hval : ∀ (j : Nat) t v, Tryd.f4.params[j]? = some t → args[j]? = some v → Value.okWide Tryd.prog W .any base t v := hval0
  have hW' := hW
  obtain ⟨p, q, hA0, hV, rfl, hfz, hnd⟩ := hW
  have hA : DataW.TrodAll enc Tryd.prog W 0 (fun _ => true) true Tryd.f4.params.toList args.toList ds p := hA0
  rw [Tryd.params4] at hA hval
  obtain ⟨v0, vs0, d0, ds0, p0, q0, hargs, rfl, rfl, h0, r0⟩ := trodAll_cons hA
  obtain ⟨rfl, rfl, rfl⟩ := trodAll_nil r0
  obtain rfl : args = #[v0] := by cases args; simp_all
  obtain ⟨rfl, rfl⟩ := trodVars_none hV
  obtain ⟨A0, x0, c0, rfl, hx0, lx0, lc0⟩ := open_RdEnt h0 (hval 0 _ v0 rfl rfl)
  refine (walk A0 c0 x0 W (ten_of_laid hL) hx0 lx0 lc0).mono fun e W' ⟨he, hg⟩ => ?_
  subst he
  exact ⟨_, rfl, post_law hW' rfl rfl rfl rfl rfl (readable_of (by kernel_rfl)) hg⟩
theorem row : Rows.TraceCountsSaid :=
  OpenClaim.holds_of_wide 4 Tryd.f4 rfl rfl rfl rfl rfl rfl rfl ⟨rfl, rfl, rfl, rfl, rfl⟩ rfl rfl rfl rfl rfl (by kernel_rfl) Tryd.func4 (by kernel_rfl)
    (of_decide_eq_true (by kernel_rfl)) (by unfold Func.isWrapper; first | (rw [if_pos (by decide +kernel)]; kernel_rfl) | (rw [if_neg (by decide +kernel)]; exact ⟨rfl, rfl⟩))
    (fun os started H enc _ => lifted os started H enc)
theorem proved : Rows.TraceCountsCardSaid :=
  Claim7.holds_tied_plain_at .later [] [.data, .data, .data, .data, .pinned] true Rows.traceCountsCard.stood.harness false row (fun _ h => by cases h) (by kernel_rfl) (fun _ h => by cases h) traceCounts_row_tie rfl ⟨rfl, rfl⟩ (by kernel_rfl) rfl
    (fun f fn hf hfn => by
      obtain rfl : f = 4 := Option.some.inj ((show Tryd.prog.funcNamed "kurgan/kurganlaw33.TraceCounts" = some 4 by kernel_rfl).symm.trans hf) |>.symm
      obtain rfl : fn = Tryd.f4 := (Option.some.inj (Tryd.func4.symm.trans hfn)).symm
      exact ⟨by kernel_rfl, fun j t ht => by
        rw [Tryd.params4] at ht
        have hm : t ∈ [22] := by simpa using Array.mem_of_getElem? ht
        have hall : ([22].all fun u => !Tryd.prog.wantsStandIn u) = true := by kernel_rfl
        exact (show Tryd.prog.wantsStandIn t = false by simpa using List.all_eq_true.1 hall t hm)⟩)
    (by kernel_rfl)
end Go.Proofs.YtcpadkaljnnieaaDoor.traceCounts
