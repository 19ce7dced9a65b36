/-
  The document's tour: what no answer that begins so is below.
-/
import Derived.Test.YtpngflmngnjjoaaDoorTourK
namespace Go.Proofs.YtpngflmngnjjoaaDoor
open Go.RowKit Go.ChangeShapes Go.WideShapes Go.ChangeAt Go.Deep

theorem ent_row {rows : List (List Int)} {l : List Nat} {last s src : Nat} (hn : (last :: l).Nodup) (h0 : 0 ∉ l) (hs : (last :: l)[s]? = some src) {b v : Nat} (hb : l[b]? = some v) : entT rows l last src v = if b + 1 = s then -1 else costAt rows src v := by
  have hv : v ∈ l := List.mem_of_getElem? hb
  have hb' : (last :: l)[b + 1]? = some v := by simpa using hb
  have key : v = src ↔ b + 1 = s := by
    obtain ⟨h1, h2⟩ := List.getElem?_eq_some_iff.1 hs
    obtain ⟨h3, h4⟩ := List.getElem?_eq_some_iff.1 hb'
    constructor
    · intro e
      refine (List.getElem_inj (h₀ := h3) (h₁ := h1) hn).1 ?_
      rw [h2, h4, e]
    · intro e
      subst e
      rw [← h4, ← h2]
  unfold entT
  by_cases e : b + 1 = s
  · rw [if_pos e, if_neg]
    have hvs := key.2 e
    unfold colsT
    split
    · rename_i h
      rw [hvs, h] at hv
      exact absurd hv (List.nodup_cons.1 hn).1
    · intro hm
      rcases List.mem_cons.1 hm with h | h
      · rw [h] at hv; exact h0 hv
      · have := (List.mem_filter.1 h).2
        simp at this
        exact this hvs.symm
  · rw [if_neg e, if_pos]
    have hvs : ¬ v = src := fun h => e (key.1 h)
    unfold colsT
    split
    · exact hv
    · exact List.mem_cons_of_mem _ (List.mem_filter.2 ⟨hv, by simpa using fun h => hvs h.symm⟩)
theorem ent_home {rows : List (List Int)} {l : List Nat} {last s src : Nat} (hn : (last :: l).Nodup) (h0 : 0 ∉ l) (hs : (last :: l)[s]? = some src) : entT rows l last src 0 = if s = 0 then -1 else costAt rows src 0 := by
  have key : src = last ↔ s = 0 := by
    obtain ⟨h1, h2⟩ := List.getElem?_eq_some_iff.1 hs
    constructor
    · intro e
      have h3 : (last :: l)[0]'(by simp) = last := rfl
      refine (List.getElem_inj (h₀ := h1) (h₁ := by simp) hn).1 ?_
      rw [h2, e, h3]
    · intro e
      subst e
      simpa using h2.symm
  unfold entT colsT
  by_cases e : s = 0
  · rw [if_pos e, if_pos (key.2 e), if_neg h0]
  · rw [if_neg e, if_neg (fun h => e (key.1 h)), if_pos (by simp)]
set_option maxRecDepth 100000 in
theorem bs1_g (u : World) (x : Value) (hx : x.oneCell' = true) : True := trivial
theorem bsrow_run (u : World) (A : Option Addr) (n c : Nat) : (Instr.buildSlice 23 1 #[(0, .slice A n c)]).run Tryd.prog u = .ok (.slice (some ⟨u.heap.size, 0, none⟩) 1 1) (u.alloc (.cells #[.slice A n c] 22)) := by go_simp
set_option maxRecDepth 100000 in
set_option maxHeartbeats 4000000 in
theorem rbound13_any (i : InstP) (us : List Value) (P : Option Addr) (pc : Nat) (p : List Int) (w : World) (H : RInst w us i) (ok : SquareOk i) (hP : RdI w P p) (lp : p.length ≤ 1000000000) :
    Calls Tryd.prog 36 #[.agg (List.toArray us), .slice P p.length pc] w fun e w' => e = .returned (.tuple #[.int .i64 (boundT i.cost (mirP i.cost) p).1, .int .i64 (boundT i.cost (mirP i.cost) p).2]) ∧ Ext w w' := by
  have rok := rows_ok ok
  have l1 := rok.n1
  have l2 := rok.n2
  have hnn : i.n = (i.cost.length : Int) := ok.len.symm
  have FR := fun (W : World) (x : Ext w W) => rrest_any i us P pc p W (H.ext x) i.cost.length hnn rfl rok l1 l2 (hP.ext x) lp
  have MI := fun (W : World) (x : Ext w W) => rmirror_any i us W (H.ext x) ok
  have EN := fun (W : World) (x : Ext w W) (A : Option Addr) (c : Nat) (l : List Nat) (last : Nat) (h : RdI W A (intsN l)) (h1 : ∀ x ∈ l, x < i.cost.length) (h2 : l.Nodup) (h3 : l.length ≤ 24) (h4 : last < i.cost.length) => rends13_any i us A c l last W (H.ext x) rok h h1 h2 h3 h4
  clear ok hP
  obtain ⟨kind, nn, cap, xw, xv, co⟩ := i
  obtain ⟨A, a, B, b, D, d, rfl, -, -, ⟨hC, -, -⟩⟩ := H
  simp only at *
  subst hnn
  obtain ⟨cb, cof, _, _, _, rfl, _, _⟩ := cost_at rok hC (r := 0) (c := 0) (by omega) (by omega)
  have num := ends_num rok
  have CA := Lib.hid (fun (W : World) (x : Ext w W) (r c : Nat) (hr : r < co.length) (hc : c < co.length) => cost_in rok (hC.ext x fun _ _ h => h.ext x) hr hc)
  obtain ⟨r, hr⟩ : ∃ r, Hid (walkP co p = r) := ⟨_, rfl⟩
  rw [hr.out] at FR
  have B1 : Hid (Blk (w.alloc (.cells #[.int .i64 kind, .int .i64 co.length, .int .i64 cap, .slice A xw.length a, .slice B xv.length b, .slice (some ⟨cb, cof, none⟩) co.length d] 25)) w.heap.size 25 #[.int .i64 kind, .int .i64 co.length, .int .i64 cap, .slice A xw.length a, .slice B xv.length b, .slice (some ⟨cb, cof, none⟩) co.length d]) := .new rfl
  replace hC := Lib.hid hC
  cases r with
  | none =>
    have e : boundT co (mirP co) p = (0, 1) := by unfold boundT; rw [hr.out]
    rw [e]
    unfold RRest at FR
    replace FR := Lib.hid FR
    clear MI EN
    go_enter Tryd.func36, Tryd.ntmps36
    go_wp2_with (fail)
    refine (FR.out _ (by (repeat (first | assumption | exact Ext.rf _ | apply Ext.drew | apply Ext.drewN | apply Ext.alloc)))).mono ?_
    rintro e w1 ⟨rfl, x1⟩
    have X1 := Lib.hid (Ext.tr (a := w) (by (repeat (first | assumption | exact Ext.rf _ | apply Ext.drew | apply Ext.drewN | apply Ext.alloc))) x1)
    clear x1
    go_wp2_with (fail)
    go_ret2
    exact ⟨rfl, X1.out⟩
  | some s =>
    obtain ⟨m, last, cost⟩ := s
    obtain ⟨pl, WO⟩ := walk_ok l1 l2 hr.out
    have hS := WO.sub
    have hla := walk_last l1 WO
    have h0m : 0 ∉ memsM m := fun h => ((WO.rest 0).1 h).1.2 rfl
    have hlen : (memsM m).length ≤ 23 := by have := WO.len; omega
    have hnl : last ∉ memsM m := fun h => by
      have h1 := (WO.rest last).1 h
      rw [WO.last] at h1
      rcases lastT_mem pl 0 with e | e
      · rw [e] at h1; exact h1.1.2 rfl
      · exact h1.2 e
    have hnod : (last :: memsM m).Nodup := List.nodup_cons.2 ⟨hnl, (memsM_sorted m).imp fun h => by omega⟩
    have bcost : 0 ≤ cost ∧ cost ≤ 2147483647 * 24 := by
      have h1 := wayC_bd num pl 0 (by omega) fun x hx => (WO.inn x hx).1
      have h2 := WO.len
      rw [WO.cost]
      omega
    replace FR := fun (W : World) (x : Ext w W) => (show Calls _ _ _ W (RestSome m last cost W) from FR W x)
    unfold RestSome at FR
    have e : boundT co (mirP co) p = (cost + (if memsM m = [] then costAt co last 0 else if mirP co = true then max (reduceT co (memsM m) last) ((endsT co (memsM m) last + 1) / 2) else reduceT co (memsM m) last), 0) := by unfold boundT; rw [hr.out]
    obtain ⟨tot, ht⟩ : ∃ tot, Hid (tot = cost + (if memsM m = [] then costAt co last 0 else if mirP co = true then max (reduceT co (memsM m) last) ((endsT co (memsM m) last + 1) / 2) else reduceT co (memsM m) last)) := ⟨_, rfl⟩
    rw [e, ← ht.out]
    clear e
    have hin : Hid (∀ x ∈ memsM m, x < co.length) := hS.2
    obtain ⟨l, hll⟩ : ∃ l, Hid (memsM m = l) := ⟨_, rfl⟩
    rw [hll.out] at FR ht hin h0m hlen hnl hnod
    replace FR := Lib.hid FR
    replace MI := Lib.hid MI
    replace EN := Lib.hid EN
    replace num := Lib.hid num
    replace h0m := Lib.hid h0m
    replace hnod := Lib.hid hnod
    replace hnl := Lib.hid hnl
    clear hr WO hS
    go_enter Tryd.func36, Tryd.ntmps36
    go_wp2_with (fail)
    refine (FR.out _ (by (repeat (first | assumption | exact Ext.rf _ | apply Ext.drew | apply Ext.drewN | apply Ext.alloc)))).mono ?_
    rintro e w1 ⟨LA, lc, rfl, oL, x1⟩
    have X1 := Lib.hid (Ext.tr (a := w) (by (repeat (first | assumption | exact Ext.rf _ | apply Ext.drew | apply Ext.drewN | apply Ext.alloc))) x1)
    have b1 := Lib.hid (B1.out.ext x1)
    have oL1 : Hid (OwI w1 w.heap.size LA lc (intsN l)) := OwI.more oL (by simp)
    clear x1 oL
    by_cases hne : l.length = 0
    · have hl0 : l = [] := List.eq_nil_of_length_eq_zero hne
      have ht2 : Hid (tot = cost + costAt co last 0) := by
        have h := ht.out
        rw [if_pos hl0] at h
        exact h
      have n2 := num.out last 0 hla (by omega)
      obtain ⟨rb1, ro1, d1, c11, c12⟩ := CA.out _ X1.out last 0 hla (by omega)
      generalize costAt co last 0 = y at *
      replace c12 : w1.cell? ⟨rb1, ro1, none⟩ = some (.int .i64 y) := c12
      have d5 : w1.cell? ⟨w.heap.size, 5, none⟩ = some (.slice (some ⟨cb, cof, none⟩) co.length d) := b1.out.cell 5
      have hw : IntKind.i64.wrap (cost + y) = cost + y := IntWalk.i64_in _ (by omega)
      have q1 : (last : Int) < (co.length : Int) := by omega
      have q2 : (0 : Int) < (co.length : Int) := by omega
      have elen : ((l.length : Int) == 0) = true := by rw [hne]; rfl
      clear hl0 ht
      replace hne := Lib.hid hne
      go_wp2_with (fail)
      go_ret2
      rw [ht2.out]
      exact ⟨rfl, X1.out⟩
    · have elen : ((l.length : Int) == 0) = false := by rw [beq_eq_false_iff_ne]; omega
      have hlnil : l ≠ [] := fun h => hne (by rw [h]; rfl)
      have ht2 : Hid (tot = cost + (if mirP co = true then max (reduceT co l last) ((endsT co l last + 1) / 2) else reduceT co l last)) := by
        have h := ht.out
        rw [if_neg hlnil] at h
        exact h
      have bred := Lib.hid (reduceT_bd num.out (by omega) hla hin.out (by omega : l.length ≤ 24))
      have bend := Lib.hid (endsT_bd num.out (by omega) hla hin.out (by omega : l.length ≤ 24) hlnil)
      obtain ⟨i0, hi, hz0, hz1, hz2⟩ := info_parts row_info
      replace hi := Lib.hid hi
      replace hz0 := Lib.hid hz0
      replace hz1 := Lib.hid hz1
      replace hz2 := Lib.hid hz2
      replace hlnil := Lib.hid hlnil
      have lml : Hid ((matT co l last).length = l.length + 1) := mat_len
      obtain ⟨ms, hms⟩ : ∃ ms, Hid (matT co l last = ms) := ⟨_, rfl⟩
      rw [hms.out] at lml
      have START : Hid (OwV w1 w.heap.size 22 1 none 0 0 [] ∧ RowsO w1 w.heap.size [] (ms.take 0) ∧ Ext w w1 ∧ Blk w1 w.heap.size 25 #[.int .i64 kind, .int .i64 co.length, .int .i64 cap, .slice A xw.length a, .slice B xv.length b, .slice (some ⟨cb, cof, none⟩) co.length d] ∧ OwI w1 w.heap.size LA lc (intsN l)) := ⟨OwV.nil _ _ _ _, by simpa using RowsO.nil w1 w.heap.size, X1.out, b1.out, oL1.out⟩
      clear ht
      go_wp2_with (fail)
      go_loopw [10, 11] (fun v10 v11 wr => ∃ (s : Nat) (aa : Int) (MA : Option Addr) (mc : Nat) (mus : List Value), v11 = .int .i64 aa ∧ Hid (aa = (s : Int) - 1) ∧ v10 = .slice MA s mc ∧ s ≤ l.length + 1 ∧ Hid (OwV wr w.heap.size 22 1 MA s mc mus ∧ RowsO wr w.heap.size mus (ms.take s) ∧ Ext w wr ∧ Blk wr w.heap.size 25 #[.int .i64 kind, .int .i64 co.length, .int .i64 cap, .slice A xw.length a, .slice B xv.length b, .slice (some ⟨cb, cof, none⟩) co.length d] ∧ OwI wr w.heap.size LA lc (intsN l))) (fun _ v11 _ => (l.length - intOf v11).toNat)
      case atStart => exact ⟨0, -1, none, 0, [], rfl, by exact (show (-1 : Int) = ((0 : Nat) : Int) - 1 from by omega), rfl, by omega, START⟩
      case round =>
        obtain ⟨wo, rfl⟩ : ∃ wo : World, wo = wr := ⟨_, rfl⟩
        clear START
        obtain ⟨s, aa, MA, mc, mus, rfl, haa, rfl, hk, HH⟩ := hrel
        obtain ⟨oV, oR, Y, bI, oL⟩ := HH.out
        by_cases hlt : s < l.length + 1
        · have hsl : s < (last :: l).length := by simpa using hlt
          obtain ⟨src, hsrc⟩ : ∃ src, Hid ((last :: l)[s]? = some src) := ⟨_, List.getElem?_eq_getElem hsl⟩
          have hsm : src = last ∨ src ∈ l := by
            have := List.mem_of_getElem? hsrc.out
            simpa using this
          have hsn : src < co.length := by
            rcases hsm with rfl | h
            · exact hla
            · exact hin.out _ h
          obtain ⟨row, hrow⟩ : ∃ row : List Int, Hid (List.map (fun dst : Nat => entT co l last src dst) (l ++ [0] : List Nat) = row) := ⟨List.map (fun dst : Nat => entT co l last src dst) (l ++ [0] : List Nat), rfl⟩
          have etk : Hid (ms.take (s + 1) = ms.take s ++ [row]) := by
            have h : ms.take (s + 1) = ms.take s ++ [row] := by
              have e1 : ms[s]? = some row := by
                rw [← hms.out, ← hrow.out]
                unfold matT
                rw [List.getElem?_map, hsrc.out]
                rfl
              rw [List.take_add_one, e1]
              rfl
            exact h
          have lrow : row.length = l.length + 1 := by rw [← hrow.out]; simp
          have erow : Hid (∀ b v, l[b]? = some v → row[b]? = some (if b + 1 = s then -1 else costAt co src v)) := fun b v hb => by
            have hbl : b < l.length := (List.getElem?_eq_some_iff.1 hb).1
            rw [← hrow.out, List.getElem?_map, List.getElem?_append_left hbl, hb, ← ent_row hnod.out h0m.out hsrc.out hb]
            rfl
          have ehome : Hid (row[l.length]? = some (if s = 0 then -1 else costAt co src 0)) := by
            have h : row[l.length]? = some (if s = 0 then -1 else costAt co src 0) := by
              rw [← hrow.out, List.getElem?_map, List.getElem?_append_right (Nat.le_refl _), ← ent_home hnod.out h0m.out hsrc.out]
              simp
            exact h
          obtain ⟨lb, lo, rfl⟩ : ∃ lb lo, LA = some ⟨lb, lo, none⟩ := by
            obtain ⟨b', o', x', h1, _⟩ := oL.read.at (k := 0) (by rw [intsN_len]; omega)
            exact ⟨b', o', h1⟩
          have OM := oV.lt
          replace oV := Lib.hid oV
          replace oR := Lib.hid oR
          replace Y := Lib.hid Y
          replace bI := Lib.hid bI
          replace oL := Lib.hid oL
          have zwo : w.heap.size ≤ wo.heap.size := Y.out.size
          clear HH hsm hsl
          cases s with
          | zero =>
            obtain rfl : aa = -1 := by have := haa.out; omega
            obtain rfl : src = last := by have h := hsrc.out; simp at h; exact h.symm
            clear haa
            have q1 : (-1 : Int) < (l.length : Int) := by omega
            have START2 : Hid (OwI wo wo.heap.size none 0 (row.take 0) ∧ Ext wo wo) := ⟨OwI.nil _ _, Ext.rf _⟩
            have hrg : Hid (OwI (wo.alloc (.cells #[] 3)) wo.heap.size (some ⟨wo.heap.size, 0, none⟩) 0 (row.take 0) ∧ Ext wo (wo.alloc (.cells #[] 3))) := ⟨OwI.empty (.new rfl) (Nat.le_refl _), (Ext.rf _).alloc _⟩
            go_wp2_with (fail)
            go_loopw [13, 14] (fun v13 v14 wr => ∃ (b : Nat) (RA : Option Addr) (rc : Nat), v14 = .int .i64 b ∧ v13 = .slice RA b rc ∧ b ≤ l.length ∧ Hid (OwI wr wo.heap.size RA rc (row.take b) ∧ Ext wo wr)) (fun _ v14 _ => l.length - (intOf v14).toNat)
            case atStart => exact ⟨0, some ⟨wo.heap.size, 0, none⟩, 0, rfl, rfl, by omega, hrg⟩
            case round =>
              obtain ⟨wi, rfl⟩ : ∃ wi : World, wi = wr := ⟨_, rfl⟩
              clear START2 hrg
              obtain ⟨b', RA, rc, rfl, rfl, hb, HR⟩ := hrel
              obtain ⟨oN, Z⟩ := HR.out
              replace oN := Lib.hid oN
              replace Z := Lib.hid Z
              have zwi := Z.out.size
              have d5 : wi.cell? ⟨w.heap.size, 5, none⟩ = some (.slice (some ⟨cb, cof, none⟩) co.length d) := (bI.out.ext Z.out).cell 5
              have ltk : (row.take b').length = b' := by rw [List.length_take, lrow]; omega
              clear HR
              by_cases hlb : b' < l.length
              · have eb : l[b']? = some l[b'] := List.getElem?_eq_getElem hlb
                have hvn := hin.out _ (List.getElem_mem hlb)
                have er := erow.out b' _ eb
                obtain ⟨lb2, lo2, xv2, hq2, zl2, cl2, el2, _⟩ := (oL.out.ext Z.out).read.at (k := b') (by rw [intsN_len]; exact hlb)
                obtain ⟨rfl, rfl⟩ : lb = lb2 ∧ lo = lo2 := by simpa using hq2
                have exv : xv2 = ((l[b'] : Nat) : Int) := by
                  have h := el2.out
                  rw [intsN_get eb] at h
                  exact (Option.some.inj h).symm
                subst exv
                generalize l[b'] = v at *
                have etb : Hid (row.take (b' + 1) = row.take b' ++ [if b' + 1 = 0 then -1 else costAt co src v]) := by
                  have h : row.take (b' + 1) = row.take b' ++ [if b' + 1 = 0 then -1 else costAt co src v] := by rw [List.take_add_one, er]; rfl
                  exact h
                have q2 : (b' : Int) < (l.length : Int) := by omega
                clear er eb el2 hq2
                have hif : (if b' + 1 = 0 then (-1 : Int) else costAt co src v) = costAt co src v := if_neg (by omega)
                rw [hif] at etb
                have te : ((b' : Int) == -1) = false := by rw [beq_eq_false_iff_ne]; omega
                obtain ⟨rb5, ro5, d5', c51, c52⟩ := CA.out _ (Y.out.tr Z.out) src v hsn hvn
                obtain ⟨cv, hcv⟩ : ∃ cv, Hid (costAt co src v = cv) := ⟨_, rfl⟩
                rw [hcv.out] at c52 etb
                have q3 : (src : Int) < (co.length : Int) := by omega
                have q4 : (v : Int) < (co.length : Int) := by omega
                go_upto_region 19 with (fail)
                refine wp_region_any (by kernel_rfl) ?_
                change wpAny _ _ _ _ _ _ _ (World.drew _)
                refine wpAny_T (i := 0) (op := Op.move (Operand.tmp 13)) (t := 22) (d := some 65) (v := ?_) rfl (by decide +kernel) (by decide +kernel) (by decide +kernel) (fun _ _ _ h => h) ?_ ?_
                case refine_2 => (intro _; unfold exec2; go_simp; try with_reducible rfl)
                try simp only [Act.put, List.setIfInBounds_toArray, List.set_cons_zero, List.set_cons_succ]
                refine wpAny_T (i := 1) (op := Op.fieldAddr 25 (Operand.tmp 2) 5) (t := 0) (d := some 66) (v := ?_) rfl (by decide +kernel) (by decide +kernel) (by decide +kernel) (fun _ _ _ h => h) ?_ ?_
                case refine_2 => (intro _; unfold exec2; go_simp; try with_reducible rfl)
                try simp only [Act.put, List.setIfInBounds_toArray, List.set_cons_zero, List.set_cons_succ]
                refine wpAny_T (i := 3) (op := Op.move (Operand.tmp 12)) (t := 3) (d := some 68) (v := ?_) rfl (by decide +kernel) (by decide +kernel) (by decide +kernel) (fun _ _ _ h => h) ?_ ?_
                case refine_2 => (intro _; unfold exec2; go_simp; try with_reducible rfl)
                try simp only [Act.put, List.setIfInBounds_toArray, List.set_cons_zero, List.set_cons_succ]
                refine wpAny_T (i := 6) (op := Op.move (Operand.tmp 6)) (t := 22) (d := some 71) (v := ?_) rfl (by decide +kernel) (by decide +kernel) (by decide +kernel) (fun _ _ _ h => h) ?_ ?_
                case refine_2 => (intro _; unfold exec2; go_simp; try with_reducible rfl)
                try simp only [Act.put, List.setIfInBounds_toArray, List.set_cons_zero, List.set_cons_succ]
                refine wpAny_T (i := 7) (op := Op.move (Operand.tmp 14)) (t := 3) (d := some 72) (v := ?_) rfl (by decide +kernel) (by decide +kernel) (by decide +kernel) (fun _ _ _ h => h) ?_ ?_
                case refine_2 => (intro _; unfold exec2; go_simp; try with_reducible rfl)
                try simp only [Act.put, List.setIfInBounds_toArray, List.set_cons_zero, List.set_cons_succ]
                refine wpAny_reads2 (n := 3) [(2, some 67), (4, some 69), (5, some 70), (8, some 73), (9, some 74), (10, some 75), (11, some 76)] (fun | 2 => .slice (some ⟨cb, cof, none⟩) co.length d | 4 => .pointer (some ⟨cb, cof + src, none⟩) | 5 => .slice (some ⟨rb5, ro5, none⟩) co.length d5' | 8 => .pointer (some ⟨lb, lo + b', none⟩) | 9 => .int .i64 (v : Int) | 10 => .pointer (some ⟨rb5, ro5 + v, none⟩) | 11 => .int .i64 cv | _ => undef) #[true, true, true, true, true, true, true, true, true, true, true, true, false, false, false] (by decide +kernel) ?_ ?_
                · intro pS hpm uS hD K hK
                  simp only [List.mem_cons, List.not_mem_nil, or_false] at hpm
                  rcases hpm with rfl | rfl | rfl | rfl | rfl | rfl | rfl
                  · exact op_ld (T := 23) (x := Operand.tmp 66) (t := 23) (d := some 67) rfl (.pointer (some ⟨w.heap.size, 5, none⟩)) (by kernel_rfl) (.slice (some ⟨cb, cof, none⟩) co.length d) (by go_simp) hK
                  · exact op_ix (T := 23) (x := Operand.tmp 67) (y := Operand.tmp 68) (t := 0) (d := some 69) rfl (.slice (some ⟨cb, cof, none⟩) co.length d) (.int .i64 (src : Int)) (Eq.trans (b := uS 2) (by kernel_rfl) (hD 2 (depIn (by kernel_rfl)))) (by kernel_rfl) (.pointer (some ⟨cb, cof + src, none⟩)) (by go_simp) hK
                  · exact op_ld (T := 22) (x := Operand.tmp 69) (t := 22) (d := some 70) rfl (.pointer (some ⟨cb, cof + src, none⟩)) (Eq.trans (b := uS 4) (by kernel_rfl) (hD 4 (depIn (by kernel_rfl)))) (.slice (some ⟨rb5, ro5, none⟩) co.length d5') (by go_simp) hK
                  · exact op_ix (T := 22) (x := Operand.tmp 71) (y := Operand.tmp 72) (t := 0) (d := some 73) rfl (.slice (some ⟨lb, lo, none⟩) l.length lc) (.int .i64 (b' : Int)) (by kernel_rfl) (by kernel_rfl) (.pointer (some ⟨lb, lo + b', none⟩)) (by go_simp) hK
                  · exact op_ld (T := 3) (x := Operand.tmp 73) (t := 3) (d := some 74) rfl (.pointer (some ⟨lb, lo + b', none⟩)) (Eq.trans (b := uS 8) (by kernel_rfl) (hD 8 (depIn (by kernel_rfl)))) (.int .i64 (v : Int)) (by go_simp) hK
                  · exact op_ix (T := 22) (x := Operand.tmp 70) (y := Operand.tmp 74) (t := 0) (d := some 75) rfl (.slice (some ⟨rb5, ro5, none⟩) co.length d5') (.int .i64 (v : Int)) (Eq.trans (b := uS 5) (by kernel_rfl) (hD 5 (depIn (by kernel_rfl)))) (Eq.trans (b := uS 9) (by kernel_rfl) (hD 9 (depIn (by kernel_rfl)))) (.pointer (some ⟨rb5, ro5 + v, none⟩)) (by go_simp) hK
                  · exact op_ld (T := 3) (x := Operand.tmp 75) (t := 3) (d := some 76) rfl (.pointer (some ⟨rb5, ro5 + v, none⟩)) (Eq.trans (b := uS 10) (by kernel_rfl) (hD 10 (depIn (by kernel_rfl)))) (.int .i64 cv) (by go_simp) hK
                simp only [putAll, Act.put, List.setIfInBounds_toArray, List.set_cons_zero, List.set_cons_succ]
                refine wpAny_next 12 (by decide +kernel) (op_bs1 rfl (.int .i64 cv) (by kernel_rfl) _ (ibs1g_run _ _) ?_)
                try simp only [Act.put, List.setIfInBounds_toArray, List.set_cons_zero, List.set_cons_succ]
                have oN2 : OwI (wi.drew.alloc (.cells #[.int .i64 cv] 3)) wo.heap.size RA rc (row.take b') := oN.out.ext (((Ext.rf _).drew).alloc _)
                obtain ⟨A5, c5, w5, hrun, o5, g5, -⟩ := run_app_i (wi.drew.alloc (.cells #[.int .i64 cv] 3)) wo.heap.size 22 RA b' rc (row.take b') [cv] (some ⟨wi.drew.heap.size, 0, none⟩) 1 ltk.symm oN2 (.blk (.new rfl) rfl) (by simp; omega) (by simp; omega)
                have X5 := Ext.grow ((Z.out.drew).alloc (.cells #[.int .i64 cv] 3)) g5 (fun k hk => (oN2.lt k hk).1)
                have lapp : (row.take b' ++ [cv]).length = b' + 1 := by rw [List.length_append, ltk]; rfl
                rw [lapp] at hrun
                refine wpAny_next 13 (by decide +kernel) (op_app rfl (.slice RA b' rc) (.slice (some ⟨wi.drew.heap.size, 0, none⟩) 1 1) (by kernel_rfl) (by kernel_rfl) _ hrun ?_)
                try simp only [Act.put, List.setIfInBounds_toArray, List.set_cons_zero, List.set_cons_succ]
                refine wpAny_T (i := 14) (op := Op.assign (Operand.tmp 78)) (t := 22) (d := some 13) (v := ?_) rfl (by decide +kernel) (by decide +kernel) (by decide +kernel) (fun _ _ _ h => h) ?_ ?_
                case refine_2 => (intro _; unfold exec2; go_simp; try with_reducible rfl)
                try simp only [Act.put, List.setIfInBounds_toArray, List.set_cons_zero, List.set_cons_succ]
                refine wpAny_done (by kernel_rfl) ?_ _
                clear hrun lapp
                go_simp
                go_wp2_with (fail)
                go_roundw
                case rel =>
                  refine ⟨b' + 1, A5, c5, by go_num, ?_, by omega, ?_⟩
                  · first | rfl | (rw [List.length_append, ltk]; rfl) | (simp; omega)
                  · exact (show OwI w5 wo.heap.size A5 c5 (row.take (b' + 1)) ∧ Ext wo w5 from ⟨by rw [etb.out]; exact o5, X5⟩)
                case measure => simp [intOf] <;> omega
              · obtain rfl : b' = l.length := by omega
                have q2 : ¬ ((l.length : Int) < (l.length : Int)) := by omega
                have er := ehome.out
                have etb : Hid (row = row.take l.length ++ [-1]) := by
                  have h : row = row.take l.length ++ [-1] := by
                    have h1 : row.take (l.length + 1) = row := List.take_of_length_le (by rw [lrow]; exact Nat.le_refl _)
                    rw [← h1, List.take_add_one, er]
                    simp [lrow]
                  exact h
                clear er
                have oN2 : Hid (OwI (wi.alloc (.cells #[.int .i64 (-1)] 3)) wo.heap.size RA rc (row.take l.length)) := oN.out.ext ((Ext.rf _).alloc _)
                go_wp2_with (first | (at_builtin; go_loud (refine wpl_app_i _ rfl _ _ rfl wo.heap.size RA l.length rc (row.take l.length) [-1] (some ⟨wi.heap.size, 0, none⟩) 1 rfl rfl ltk.symm ?_ ?_ ?_ ?_ ?_; (exact oN2.out); (exact .blk (.new rfl) rfl); (simp; omega); (simp; omega); rintro A5 c5 w5 o5 g5 _; have X5 := Ext.grow (Z.out.alloc _) g5 (fun k hk => (oN2.out.lt k hk).1); rw [← etb.out] at o5 ⊢; rw [lrow])) | (at_builtin; refine wpl_app_v _ (e := 22) Tryd.underlying23 hi.out hz0.out hz1.out hz2.out (by simp [Value.cells]) (by omega) rfl _ _ rfl w.heap.size MA 0 mc mus (some ⟨w5.heap.size, 0, none⟩) 1 1 [.slice A5 (l.length + 1) c5] rfl rfl ((oV.out.ext X5).ext ((Ext.rf _).alloc _)) (RdV.blk (.new (by simp))).rdC (by simp) (by simp [Value.oneCell']) (by simp only [maxLen]; omega) (by omega) (by have := X5.size; simp; omega) ?_; rintro M6' m6 w6 o6 g6 _))
                have oV5 := (oV.out.ext X5).ext ((Ext.rf w5).alloc (.cells #[.slice A5 (l.length + 1) c5] 22))
                have M6 := oV5.grownT g6
                have X6 : Ext wo (w5.alloc (.cells #[.slice A5 (l.length + 1) c5] 22)) := X5.tr ((Ext.rf _).alloc _)
                have NEW : Hid (OwV w6 w.heap.size 22 1 M6' (0 + 1) m6 (mus ++ [.slice A5 (l.length + 1) c5]) ∧ RowsO w6 w.heap.size (mus ++ [.slice A5 (l.length + 1) c5]) (ms.take (0 + 1)) ∧ Ext w w6 ∧ Blk w6 w.heap.size 25 #[.int .i64 kind, .int .i64 co.length, .int .i64 cap, .slice A xw.length a, .slice B xv.length b, .slice (some ⟨cb, cof, none⟩) co.length d] ∧ OwI w6 w.heap.size (some ⟨lb, lo, none⟩) lc (intsN l)) := by
                  refine ⟨o6, ?_, (Y.out.tr X6).modT M6 (Nat.le_refl _), (bI.out.ext X6).modT M6 (by decide), (oL.out.ext X6).modT M6 (by decide)⟩
                  rw [etk.out]
                  have h := ((oR.out.ext X6).modT M6 (by decide)).snoc (((o5.more zwo).ext ((Ext.rf _).alloc _)).modT M6 (by decide))
                  rw [lrow] at h
                  exact h
                go_roundw
                case rel => exact ⟨0 + 1, 0, M6', m6, mus ++ [.slice A5 (l.length + 1) c5], by go_num, by exact (show (0 : Int) = ((0 + 1 : Nat) : Int) - 1 from by omega), rfl, by omega, NEW⟩
                case measure => simp [intOf] <;> omega
          | succ k =>
            obtain rfl : aa = (k : Int) := by have := haa.out; omega
            have hkl : k < l.length := by omega
            have ek : l[k]? = some src := by have h := hsrc.out; simpa using h
            obtain ⟨lb', lo', xs, hq, zs, cs0, es, _⟩ := oL.out.read.at (k := k) (by rw [intsN_len]; exact hkl)
            obtain ⟨rfl, rfl⟩ : lb = lb' ∧ lo = lo' := by simpa using hq
            have exs : xs = (src : Int) := by
              have h := es.out
              rw [intsN_get ek] at h
              exact (Option.some.inj h).symm
            subst exs
            clear haa es hq
            replace ek := Lib.hid ek
            have q1 : (k : Int) < (l.length : Int) := by omega
            have q1' : ¬ ((k : Int) < 0) := by omega
            have START2 : Hid (OwI wo wo.heap.size none 0 (row.take 0) ∧ Ext wo wo) := ⟨OwI.nil _ _, Ext.rf _⟩
            have hrg : Hid (OwI (wo.alloc (.cells #[] 3)) wo.heap.size (some ⟨wo.heap.size, 0, none⟩) 0 (row.take 0) ∧ Ext wo (wo.alloc (.cells #[] 3))) := ⟨OwI.empty (.new rfl) (Nat.le_refl _), (Ext.rf _).alloc _⟩
            go_wp2_with (fail)
            go_loopw [13, 14] (fun v13 v14 wr => ∃ (b : Nat) (RA : Option Addr) (rc : Nat), v14 = .int .i64 b ∧ v13 = .slice RA b rc ∧ b ≤ l.length ∧ Hid (OwI wr wo.heap.size RA rc (row.take b) ∧ Ext wo wr)) (fun _ v14 _ => l.length - (intOf v14).toNat)
            case atStart => exact ⟨0, some ⟨wo.heap.size, 0, none⟩, 0, rfl, rfl, by omega, hrg⟩
            case round =>
              obtain ⟨wi, rfl⟩ : ∃ wi : World, wi = wr := ⟨_, rfl⟩
              clear START2 hrg
              obtain ⟨b', RA, rc, rfl, rfl, hb, HR⟩ := hrel
              obtain ⟨oN, Z⟩ := HR.out
              replace oN := Lib.hid oN
              replace Z := Lib.hid Z
              have zwi := Z.out.size
              have d5 : wi.cell? ⟨w.heap.size, 5, none⟩ = some (.slice (some ⟨cb, cof, none⟩) co.length d) := (bI.out.ext Z.out).cell 5
              have ltk : (row.take b').length = b' := by rw [List.length_take, lrow]; omega
              clear HR
              by_cases hlb : b' < l.length
              · have eb : l[b']? = some l[b'] := List.getElem?_eq_getElem hlb
                have hvn := hin.out _ (List.getElem_mem hlb)
                have er := erow.out b' _ eb
                obtain ⟨lb2, lo2, xv2, hq2, zl2, cl2, el2, _⟩ := (oL.out.ext Z.out).read.at (k := b') (by rw [intsN_len]; exact hlb)
                obtain ⟨rfl, rfl⟩ : lb = lb2 ∧ lo = lo2 := by simpa using hq2
                have exv : xv2 = ((l[b'] : Nat) : Int) := by
                  have h := el2.out
                  rw [intsN_get eb] at h
                  exact (Option.some.inj h).symm
                subst exv
                generalize l[b'] = v at *
                have etb : Hid (row.take (b' + 1) = row.take b' ++ [if b' + 1 = k + 1 then -1 else costAt co src v]) := by
                  have h : row.take (b' + 1) = row.take b' ++ [if b' + 1 = k + 1 then -1 else costAt co src v] := by rw [List.take_add_one, er]; rfl
                  exact h
                have q2 : (b' : Int) < (l.length : Int) := by omega
                clear er eb el2 hq2
                by_cases hbk : b' = k
                · have hif : (if b' + 1 = k + 1 then (-1 : Int) else costAt co src v) = -1 := if_pos (by omega)
                  rw [hif] at etb
                  have te : ((b' : Int) == (k : Int)) = true := by rw [beq_iff_eq]; omega
                  have oN2 : OwI (wi.alloc (.cells #[.int .i64 (-1)] 3)) wo.heap.size RA rc (row.take b') := oN.out.ext ((Ext.rf _).alloc _)
                  go_wp2_with (at_builtin; go_loud (refine wpl_app_i _ rfl _ _ rfl wo.heap.size RA b' rc (row.take b') [-1] (some ⟨wi.heap.size, 0, none⟩) 1 rfl rfl ltk.symm ?_ ?_ ?_ ?_ ?_; (exact oN2); (exact .blk (.new rfl) rfl); (simp; omega); (simp; omega); rintro A5 c5 w5 o5 g5 _; have X5 := Ext.grow (Z.out.alloc _) g5 (fun k hk => (oN2.lt k hk).1)))
                  go_roundw
                  case rel =>
                    refine ⟨b' + 1, A5, c5, by go_num, ?_, by omega, ?_⟩
                    · first | rfl | (rw [List.length_append, ltk]; rfl) | (simp; omega)
                    · exact (show OwI w5 wo.heap.size A5 c5 (row.take (b' + 1)) ∧ Ext wo w5 from ⟨by rw [etb.out]; exact o5, X5⟩)
                  case measure => simp [intOf] <;> omega
                · have hif : (if b' + 1 = k + 1 then (-1 : Int) else costAt co src v) = costAt co src v := if_neg (by omega)
                  rw [hif] at etb
                  have te : ((b' : Int) == (k : Int)) = false := by rw [beq_eq_false_iff_ne]; omega
                  obtain ⟨rb5, ro5, d5', c51, c52⟩ := CA.out _ (Y.out.tr Z.out) src v hsn hvn
                  obtain ⟨cv, hcv⟩ : ∃ cv, Hid (costAt co src v = cv) := ⟨_, rfl⟩
                  rw [hcv.out] at c52 etb
                  have q3 : (src : Int) < (co.length : Int) := by omega
                  have q4 : (v : Int) < (co.length : Int) := by omega
                  go_upto_region 19 with (fail)
                  refine wp_region_any (by kernel_rfl) ?_
                  change wpAny _ _ _ _ _ _ _ (World.drew _)
                  refine wpAny_T (i := 0) (op := Op.move (Operand.tmp 13)) (t := 22) (d := some 65) (v := ?_) rfl (by decide +kernel) (by decide +kernel) (by decide +kernel) (fun _ _ _ h => h) ?_ ?_
                  case refine_2 => (intro _; unfold exec2; go_simp; try with_reducible rfl)
                  try simp only [Act.put, List.setIfInBounds_toArray, List.set_cons_zero, List.set_cons_succ]
                  refine wpAny_T (i := 1) (op := Op.fieldAddr 25 (Operand.tmp 2) 5) (t := 0) (d := some 66) (v := ?_) rfl (by decide +kernel) (by decide +kernel) (by decide +kernel) (fun _ _ _ h => h) ?_ ?_
                  case refine_2 => (intro _; unfold exec2; go_simp; try with_reducible rfl)
                  try simp only [Act.put, List.setIfInBounds_toArray, List.set_cons_zero, List.set_cons_succ]
                  refine wpAny_T (i := 3) (op := Op.move (Operand.tmp 12)) (t := 3) (d := some 68) (v := ?_) rfl (by decide +kernel) (by decide +kernel) (by decide +kernel) (fun _ _ _ h => h) ?_ ?_
                  case refine_2 => (intro _; unfold exec2; go_simp; try with_reducible rfl)
                  try simp only [Act.put, List.setIfInBounds_toArray, List.set_cons_zero, List.set_cons_succ]
                  refine wpAny_T (i := 6) (op := Op.move (Operand.tmp 6)) (t := 22) (d := some 71) (v := ?_) rfl (by decide +kernel) (by decide +kernel) (by decide +kernel) (fun _ _ _ h => h) ?_ ?_
                  case refine_2 => (intro _; unfold exec2; go_simp; try with_reducible rfl)
                  try simp only [Act.put, List.setIfInBounds_toArray, List.set_cons_zero, List.set_cons_succ]
                  refine wpAny_T (i := 7) (op := Op.move (Operand.tmp 14)) (t := 3) (d := some 72) (v := ?_) rfl (by decide +kernel) (by decide +kernel) (by decide +kernel) (fun _ _ _ h => h) ?_ ?_
                  case refine_2 => (intro _; unfold exec2; go_simp; try with_reducible rfl)
                  try simp only [Act.put, List.setIfInBounds_toArray, List.set_cons_zero, List.set_cons_succ]
                  refine wpAny_reads2 (n := 3) [(2, some 67), (4, some 69), (5, some 70), (8, some 73), (9, some 74), (10, some 75), (11, some 76)] (fun | 2 => .slice (some ⟨cb, cof, none⟩) co.length d | 4 => .pointer (some ⟨cb, cof + src, none⟩) | 5 => .slice (some ⟨rb5, ro5, none⟩) co.length d5' | 8 => .pointer (some ⟨lb, lo + b', none⟩) | 9 => .int .i64 (v : Int) | 10 => .pointer (some ⟨rb5, ro5 + v, none⟩) | 11 => .int .i64 cv | _ => undef) #[true, true, true, true, true, true, true, true, true, true, true, true, false, false, false] (by decide +kernel) ?_ ?_
                  · intro pS hpm uS hD K hK
                    simp only [List.mem_cons, List.not_mem_nil, or_false] at hpm
                    rcases hpm with rfl | rfl | rfl | rfl | rfl | rfl | rfl
                    · exact op_ld (T := 23) (x := Operand.tmp 66) (t := 23) (d := some 67) rfl (.pointer (some ⟨w.heap.size, 5, none⟩)) (by kernel_rfl) (.slice (some ⟨cb, cof, none⟩) co.length d) (by go_simp) hK
                    · exact op_ix (T := 23) (x := Operand.tmp 67) (y := Operand.tmp 68) (t := 0) (d := some 69) rfl (.slice (some ⟨cb, cof, none⟩) co.length d) (.int .i64 (src : Int)) (Eq.trans (b := uS 2) (by kernel_rfl) (hD 2 (depIn (by kernel_rfl)))) (by kernel_rfl) (.pointer (some ⟨cb, cof + src, none⟩)) (by go_simp) hK
                    · exact op_ld (T := 22) (x := Operand.tmp 69) (t := 22) (d := some 70) rfl (.pointer (some ⟨cb, cof + src, none⟩)) (Eq.trans (b := uS 4) (by kernel_rfl) (hD 4 (depIn (by kernel_rfl)))) (.slice (some ⟨rb5, ro5, none⟩) co.length d5') (by go_simp) hK
                    · exact op_ix (T := 22) (x := Operand.tmp 71) (y := Operand.tmp 72) (t := 0) (d := some 73) rfl (.slice (some ⟨lb, lo, none⟩) l.length lc) (.int .i64 (b' : Int)) (by kernel_rfl) (by kernel_rfl) (.pointer (some ⟨lb, lo + b', none⟩)) (by go_simp) hK
                    · exact op_ld (T := 3) (x := Operand.tmp 73) (t := 3) (d := some 74) rfl (.pointer (some ⟨lb, lo + b', none⟩)) (Eq.trans (b := uS 8) (by kernel_rfl) (hD 8 (depIn (by kernel_rfl)))) (.int .i64 (v : Int)) (by go_simp) hK
                    · exact op_ix (T := 22) (x := Operand.tmp 70) (y := Operand.tmp 74) (t := 0) (d := some 75) rfl (.slice (some ⟨rb5, ro5, none⟩) co.length d5') (.int .i64 (v : Int)) (Eq.trans (b := uS 5) (by kernel_rfl) (hD 5 (depIn (by kernel_rfl)))) (Eq.trans (b := uS 9) (by kernel_rfl) (hD 9 (depIn (by kernel_rfl)))) (.pointer (some ⟨rb5, ro5 + v, none⟩)) (by go_simp) hK
                    · exact op_ld (T := 3) (x := Operand.tmp 75) (t := 3) (d := some 76) rfl (.pointer (some ⟨rb5, ro5 + v, none⟩)) (Eq.trans (b := uS 10) (by kernel_rfl) (hD 10 (depIn (by kernel_rfl)))) (.int .i64 cv) (by go_simp) hK
                  simp only [putAll, Act.put, List.setIfInBounds_toArray, List.set_cons_zero, List.set_cons_succ]
                  refine wpAny_next 12 (by decide +kernel) (op_bs1 rfl (.int .i64 cv) (by kernel_rfl) _ (ibs1g_run _ _) ?_)
                  try simp only [Act.put, List.setIfInBounds_toArray, List.set_cons_zero, List.set_cons_succ]
                  have oN2 : OwI (wi.drew.alloc (.cells #[.int .i64 cv] 3)) wo.heap.size RA rc (row.take b') := oN.out.ext (((Ext.rf _).drew).alloc _)
                  obtain ⟨A5, c5, w5, hrun, o5, g5, -⟩ := run_app_i (wi.drew.alloc (.cells #[.int .i64 cv] 3)) wo.heap.size 22 RA b' rc (row.take b') [cv] (some ⟨wi.drew.heap.size, 0, none⟩) 1 ltk.symm oN2 (.blk (.new rfl) rfl) (by simp; omega) (by simp; omega)
                  have X5 := Ext.grow ((Z.out.drew).alloc (.cells #[.int .i64 cv] 3)) g5 (fun k hk => (oN2.lt k hk).1)
                  have lapp : (row.take b' ++ [cv]).length = b' + 1 := by rw [List.length_append, ltk]; rfl
                  rw [lapp] at hrun
                  refine wpAny_next 13 (by decide +kernel) (op_app rfl (.slice RA b' rc) (.slice (some ⟨wi.drew.heap.size, 0, none⟩) 1 1) (by kernel_rfl) (by kernel_rfl) _ hrun ?_)
                  try simp only [Act.put, List.setIfInBounds_toArray, List.set_cons_zero, List.set_cons_succ]
                  refine wpAny_T (i := 14) (op := Op.assign (Operand.tmp 78)) (t := 22) (d := some 13) (v := ?_) rfl (by decide +kernel) (by decide +kernel) (by decide +kernel) (fun _ _ _ h => h) ?_ ?_
                  case refine_2 => (intro _; unfold exec2; go_simp; try with_reducible rfl)
                  try simp only [Act.put, List.setIfInBounds_toArray, List.set_cons_zero, List.set_cons_succ]
                  refine wpAny_done (by kernel_rfl) ?_ _
                  clear hrun lapp
                  go_simp
                  go_wp2_with (fail)
                  go_roundw
                  case rel =>
                    refine ⟨b' + 1, A5, c5, by go_num, ?_, by omega, ?_⟩
                    · first | rfl | (rw [List.length_append, ltk]; rfl) | (simp; omega)
                    · exact (show OwI w5 wo.heap.size A5 c5 (row.take (b' + 1)) ∧ Ext wo w5 from ⟨by rw [etb.out]; exact o5, X5⟩)
                  case measure => simp [intOf] <;> omega
              · obtain rfl : b' = l.length := by omega
                have q2 : ¬ ((l.length : Int) < (l.length : Int)) := by omega
                have er := ehome.out
                have etb : Hid (row = row.take l.length ++ [costAt co src 0]) := by
                  have h : row = row.take l.length ++ [costAt co src 0] := by
                    have h1 : row.take (l.length + 1) = row := List.take_of_length_le (by rw [lrow]; exact Nat.le_refl _)
                    rw [← h1, List.take_add_one, er]
                    simp [lrow]
                  exact h
                clear er
                obtain ⟨rb6, ro6, d6, c61, c62⟩ := CA.out _ (Y.out.tr Z.out) src 0 hsn (by omega)
                obtain ⟨cv0, hcv0⟩ : ∃ cv0, Hid (costAt co src 0 = cv0) := ⟨_, rfl⟩
                rw [hcv0.out] at c62 etb
                replace c62 : wi.cell? ⟨rb6, ro6, none⟩ = some (.int .i64 cv0) := c62
                have q3 : (src : Int) < (co.length : Int) := by omega
                have q4 : (0 : Int) < (co.length : Int) := by omega
                have oN2 : Hid (OwI (wi.alloc (.cells #[.int .i64 (cv0)] 3)) wo.heap.size RA rc (row.take l.length)) := oN.out.ext ((Ext.rf _).alloc _)
                go_wp2_with (first | (at_builtin; go_loud (refine wpl_app_i _ rfl _ _ rfl wo.heap.size RA l.length rc (row.take l.length) [cv0] (some ⟨wi.heap.size, 0, none⟩) 1 rfl rfl ltk.symm ?_ ?_ ?_ ?_ ?_; (exact oN2.out); (exact .blk (.new rfl) rfl); (simp; omega); (simp; omega); rintro A5 c5 w5 o5 g5 _; have X5 := Ext.grow (Z.out.alloc _) g5 (fun k hk => (oN2.out.lt k hk).1); rw [← etb.out] at o5 ⊢; rw [lrow])) | (at_builtin; refine wpl_app_v _ (e := 22) Tryd.underlying23 hi.out hz0.out hz1.out hz2.out (by simp [Value.cells]) (by omega) rfl _ _ rfl w.heap.size MA (k + 1) mc mus (some ⟨w5.heap.size, 0, none⟩) 1 1 [.slice A5 (l.length + 1) c5] rfl rfl ((oV.out.ext X5).ext ((Ext.rf _).alloc _)) (RdV.blk (.new (by simp))).rdC (by simp) (by simp [Value.oneCell']) (by simp only [maxLen]; omega) (by omega) (by have := X5.size; simp; omega) ?_; rintro M6' m6 w6 o6 g6 _))
                have oV5 := (oV.out.ext X5).ext ((Ext.rf w5).alloc (.cells #[.slice A5 (l.length + 1) c5] 22))
                have M6 := oV5.grownT g6
                have X6 : Ext wo (w5.alloc (.cells #[.slice A5 (l.length + 1) c5] 22)) := X5.tr ((Ext.rf _).alloc _)
                have NEW : Hid (OwV w6 w.heap.size 22 1 M6' ((k + 1) + 1) m6 (mus ++ [.slice A5 (l.length + 1) c5]) ∧ RowsO w6 w.heap.size (mus ++ [.slice A5 (l.length + 1) c5]) (ms.take ((k + 1) + 1)) ∧ Ext w w6 ∧ Blk w6 w.heap.size 25 #[.int .i64 kind, .int .i64 co.length, .int .i64 cap, .slice A xw.length a, .slice B xv.length b, .slice (some ⟨cb, cof, none⟩) co.length d] ∧ OwI w6 w.heap.size (some ⟨lb, lo, none⟩) lc (intsN l)) := by
                  refine ⟨o6, ?_, (Y.out.tr X6).modT M6 (Nat.le_refl _), (bI.out.ext X6).modT M6 (by decide), (oL.out.ext X6).modT M6 (by decide)⟩
                  rw [etk.out]
                  have h := ((oR.out.ext X6).modT M6 (by decide)).snoc (((o5.more zwo).ext ((Ext.rf _).alloc _)).modT M6 (by decide))
                  rw [lrow] at h
                  exact h
                go_roundw
                case rel => exact ⟨k + 1 + 1, ((k : Int) + 1), M6', m6, mus ++ [.slice A5 (l.length + 1) c5], by go_num, by exact (show ((k : Int) + 1) = ((k + 1 + 1 : Nat) : Int) - 1 from by omega), rfl, by omega, NEW⟩
                case measure => simp [intOf] <;> omega
        · obtain rfl : s = l.length + 1 := by omega
          obtain rfl : aa = (l.length : Int) := by have := haa.out; omega
          have q0 : ¬ ((l.length : Int) < (l.length : Int)) := by omega
          have etk : ms.take (l.length + 1) = ms := List.take_of_length_le (by rw [lml.out]; exact Nat.le_refl _)
          rw [etk] at oR
          have numL : ∀ a b, (a = last ∨ a ∈ l) → (b = 0 ∨ b ∈ l) → 0 ≤ costAt co a b ∧ costAt co a b ≤ 2147483647 := fun a b ha hb => num.out a b (by
            rcases ha with rfl | h
            · exact hla
            · exact hin.out _ h) (by
            rcases hb with rfl | h
            · omega
            · exact hin.out _ h)
          have mn := mat_num (rows := co) (us := l) (last := last) (B := 2147483647) (by omega) numL
          have mr := mat_row (rows := co) (us := l) (last := last)
          rw [hms.out] at mn mr
          have RG := rreduceg_any ms (l.length + 1) MA mc wo (rde_of oV oR fun r hr x hx => by have := mn r hr x hx; omega) mr (by omega) (by omega) (by rw [lml.out]; omega) (by rw [lml.out]; omega) fun r hr x hx => (mn r hr x hx).2
          have eg := reduceG_mat (rows := co) (us := l) (last := last) (fun a b ha hb => (numL a b ha hb).1) hnl.out h0m.out
          rw [hms.out] at eg
          rw [eg, lml.out] at RG
          have bI' := Lib.hid bI
          have Y' := Lib.hid Y
          have oL' := Lib.hid oL
          replace RG := Lib.hid RG
          have c0 : ∀ j : Nat, wo.cell? ⟨w.heap.size, j, none⟩ = #[Value.int .i64 kind, .int .i64 co.length, .int .i64 cap, .slice A xw.length a, .slice B xv.length b, .slice (some ⟨cb, cof, none⟩) co.length d][j]? := fun j => bI.cell j
          clear HH oV oR bI oL mn mr eg etk numL haa
          go_wp2_with (fail)
          refine RG.out.mono ?_
          rintro e w2 ⟨rfl, x2⟩
          have Y2 := Lib.hid (Y'.out.tr x2)
          have bI2 := bI'.out.ext x2
          have c0 : w2.cell? ⟨w.heap.size, 0, none⟩ = some (.int .i64 kind) := bI2.cell 0
          have c1 : w2.cell? ⟨w.heap.size, 1, none⟩ = some (.int .i64 co.length) := bI2.cell 1
          have c2 : w2.cell? ⟨w.heap.size, 2, none⟩ = some (.int .i64 cap) := bI2.cell 2
          have c3 : w2.cell? ⟨w.heap.size, 3, none⟩ = some (.slice A xw.length a) := bI2.cell 3
          have c4 : w2.cell? ⟨w.heap.size, 4, none⟩ = some (.slice B xv.length b) := bI2.cell 4
          have c5 : w2.cell? ⟨w.heap.size, 5, none⟩ = some (.slice (some ⟨cb, cof, none⟩) co.length d) := bI2.cell 5
          replace bI2 := Lib.hid bI2
          have oL2 := Lib.hid (oL'.out.ext x2)
          clear x2
          go_wp2_with (fail)
          refine (MI.out _ Y2.out).mono ?_
          rintro e w3 ⟨rfl, x3⟩
          have Y3 := Lib.hid (Y2.out.tr x3)
          have bI3 := bI2.out.ext x3
          clear c0 c1 c2 c3 c4 c5
          have br := bred.out
          have be := bend.out
          obtain ⟨mi, hmi⟩ : ∃ mi, Hid (mirP co = mi) := ⟨_, rfl⟩
          rw [hmi.out] at ht2 ⊢
          obtain ⟨rv, hrv⟩ : ∃ rv, Hid (reduceT co l last = rv) := ⟨_, rfl⟩
          rw [hrv.out] at ht2 br ⊢
          cases mi with
          | false =>
            have ht3 : Hid (tot = cost + rv) := ht2.out
            have hw : IntKind.i64.wrap (cost + rv) = cost + rv := IntWalk.i64_in _ (by omega)
            go_wp2_with (fail)
            go_ret2
            rw [ht3.out]
            exact ⟨rfl, Y3.out⟩
          | true =>
            have ht3 : Hid (tot = cost + max rv ((endsT co l last + 1) / 2)) := ht2.out
            have ENN := EN.out w3 Y3.out LA lc l last (oL2.out.ext x3).read hin.out (List.nodup_cons.1 hnod.out).2 (by omega) hla
            obtain ⟨ev, hev⟩ : ∃ ev, Hid (endsT co l last = ev) := ⟨_, rfl⟩
            rw [hev.out] at ENN be ht3
            have c0 : w3.cell? ⟨w.heap.size, 0, none⟩ = some (.int .i64 kind) := bI3.cell 0
            have c1 : w3.cell? ⟨w.heap.size, 1, none⟩ = some (.int .i64 co.length) := bI3.cell 1
            have c2 : w3.cell? ⟨w.heap.size, 2, none⟩ = some (.int .i64 cap) := bI3.cell 2
            have c3 : w3.cell? ⟨w.heap.size, 3, none⟩ = some (.slice A xw.length a) := bI3.cell 3
            have c4 : w3.cell? ⟨w.heap.size, 4, none⟩ = some (.slice B xv.length b) := bI3.cell 4
            have c5 : w3.cell? ⟨w.heap.size, 5, none⟩ = some (.slice (some ⟨cb, cof, none⟩) co.length d) := bI3.cell 5
            have hq : ev.tdiv 2 = ev / 2 := Int.tdiv_eq_ediv_of_nonneg (by omega)
            have hr : ev.tmod 2 = ev % 2 := Int.tmod_eq_emod_of_nonneg (by omega)
            have hw1 : IntKind.i64.wrap (ev / 2) = ev / 2 := IntWalk.i64_in _ (by omega)
            have hw2 : IntKind.i64.wrap (ev % 2) = ev % 2 := IntWalk.i64_in _ (by omega)
            have hes : ev / 2 + ev % 2 = (ev + 1) / 2 := by omega
            have hw3 : IntKind.i64.wrap ((ev + 1) / 2) = (ev + 1) / 2 := IntWalk.i64_in _ (by omega)
            have hmax : (if rv < (ev + 1) / 2 then (ev + 1) / 2 else rv) = max rv ((ev + 1) / 2) := by split <;> omega
            obtain ⟨mv, hmv⟩ : ∃ mv, Hid (max rv ((ev + 1) / 2) = mv) := ⟨_, rfl⟩
            have bmv : 0 ≤ mv ∧ mv ≤ 4294967294 * 100 := by rw [← hmv.out]; omega
            rw [hmv.out] at ht3 hmax
            have hw4 : IntKind.i64.wrap (cost + mv) = cost + mv := IntWalk.i64_in _ (by omega)
            replace ENN := Lib.hid ENN
            replace bI3 := Lib.hid bI3
            go_wp2_with (fail)
            refine ENN.out.mono ?_
            rintro e w4 ⟨rfl, x4⟩
            have Y4 := Lib.hid (Y3.out.tr x4)
            clear x4 c0 c1 c2 c3 c4 c5
            go_wp2_with (fail)
            go_ret2
            rw [ht3.out]
            exact ⟨rfl, Y4.out⟩
end Go.Proofs.YtpngflmngnjjoaaDoor
