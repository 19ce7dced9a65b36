/-
  The document's tour: what no answer that begins so is below.
  A core of a drawn region, with words that need not be kept once they are spent.
  kurganref08.Small, Perm, Cost and Best at a checked assignment.
  The document's values for tours: Small, Cost, Best at kind 3; the document's Best and Answers for tours.
  bits.Mul64 of small numbers; the program's sizes, products and Cross of small numbers.
    The program's sizes, products and Cross of small numbers.
    The program's Cross of small numbers.
  The closure that tells which of two items stands ahead; the numbers from 0 on.
    The numbers from 0 on; the sort by merging, with whatever order.
  A knapsack's kernel: what New leaves alone of other problems; what a problem in form says.
    A knapsack's kernel as New makes it: its first half, the memory of it.
    A knapsack's kernel as New makes it: what an append and a store do to it.
  A knapsack's kernel: how deep it goes, where a beginning has come to, what may follow.
    A knapsack's kernel: Part; what the rest may bring; Kids.
  A knapsack's kernel: what the rest may bring, Bound, Answer; of no kernel nothing is told.
  kurganref08.Small at a checked knapsack.
    kurganref08.Cost at a checked knapsack and an answer of zeros and ones.
  The document's Best (kurganref08): a knapsack's; a tour's from the empty beginning on; of any kind.
  The kind of a problem in form.
  The document's Best of a knapsack and Small (kurganref08), of all problems.
  A search in place, plainly: what it leaves; that it is what a stack of beginnings does; that it finds the best, in so many steps.
-/
import Derived.Test.YtcpadkaljnnieaaCheckWordsP3
import Derived.Lib.VarintBits
namespace Go.Proofs.Ytcpadkaljnnieaa
open Go.RowKit Go.ChangeShapes Go.WideShapes Go.ChangeAt Go.Deep

theorem ent_row {rows : List (List Int)} {l : List Nat} {last s src : Nat} (hn : (last :: l).Nodup) (h0 : 0 ∉ l) (hs : (last :: l)[s]? = some src) {b v : Nat} (hb : l[b]? = some v) : entT rows l last src v = if b + 1 = s then -1 else costAt rows src v := by
  have hv : v ∈ l := List.mem_of_getElem? hb
  have hb' : (last :: l)[b + 1]? = some v := by simpa using hb
  have key : v = src ↔ b + 1 = s := by
    obtain ⟨h1, h2⟩ := List.getElem?_eq_some_iff.1 hs
    obtain ⟨h3, h4⟩ := List.getElem?_eq_some_iff.1 hb'
    constructor
    · intro e
      refine (List.getElem_inj (h₀ := h3) (h₁ := h1) hn).1 ?_
      rw [h2, h4, e]
    · intro e
      subst e
      rw [← h4, ← h2]
  unfold entT
  by_cases e : b + 1 = s
  · rw [if_pos e, if_neg]
    have hvs := key.2 e
    unfold colsT
    split
    · rename_i h
      rw [hvs, h] at hv
      exact absurd hv (List.nodup_cons.1 hn).1
    · intro hm
      rcases List.mem_cons.1 hm with h | h
      · rw [h] at hv; exact h0 hv
      · have := (List.mem_filter.1 h).2
        simp at this
        exact this hvs.symm
  · rw [if_neg e, if_pos]
    have hvs : ¬ v = src := fun h => e (key.1 h)
    unfold colsT
    split
    · exact hv
    · exact List.mem_cons_of_mem _ (List.mem_filter.2 ⟨hv, by simpa using fun h => hvs h.symm⟩)
theorem ent_home {rows : List (List Int)} {l : List Nat} {last s src : Nat} (hn : (last :: l).Nodup) (h0 : 0 ∉ l) (hs : (last :: l)[s]? = some src) : entT rows l last src 0 = if s = 0 then -1 else costAt rows src 0 := by
  have key : src = last ↔ s = 0 := by
    obtain ⟨h1, h2⟩ := List.getElem?_eq_some_iff.1 hs
    constructor
    · intro e
      have h3 : (last :: l)[0]'(by simp) = last := rfl
      refine (List.getElem_inj (h₀ := h1) (h₁ := by simp) hn).1 ?_
      rw [h2, e, h3]
    · intro e
      subst e
      simpa using h2.symm
  unfold entT colsT
  by_cases e : s = 0
  · rw [if_pos e, if_pos (key.2 e), if_neg h0]
  · rw [if_neg e, if_neg (fun h => e (key.1 h)), if_pos (by simp)]
set_option maxRecDepth 100000 in
set_option maxHeartbeats 4000000 in
theorem rbound13_any (i : InstP) (us : List Value) (P : Option Addr) (pc : Nat) (p : List Int) (w : World) (H : RInst w us i) (ok : SquareOk i) (hP : RdI w P p) (lp : p.length ≤ 1000000000) :
    Calls Try.prog 93 #[.agg (List.toArray us), .slice P p.length pc] w fun e w' => e = .returned (.tuple #[.int .i64 (boundT i.cost (mirP i.cost) p).1, .int .i64 (boundT i.cost (mirP i.cost) p).2]) ∧ Ext w w' := by
  have rok := rows_ok ok
  have l1 := rok.n1
  have l2 := rok.n2
  have hnn : i.n = (i.cost.length : Int) := ok.len.symm
  have FR := fun (W : World) (x : Ext w W) => rrest_any i us P pc p W (H.ext x) i.cost.length hnn rfl rok l1 l2 (hP.ext x) lp
  have MI := fun (W : World) (x : Ext w W) => rmirror_any i us W (H.ext x) ok
  have EN := fun (W : World) (x : Ext w W) (A : Option Addr) (c : Nat) (l : List Nat) (last : Nat) (h : RdI W A (intsN l)) (h1 : ∀ x ∈ l, x < i.cost.length) (h2 : l.Nodup) (h3 : l.length ≤ 24) (h4 : last < i.cost.length) => rends13_any i us A c l last W (H.ext x) rok h h1 h2 h3 h4
  clear ok hP
  obtain ⟨kind, nn, cap, xw, xv, co⟩ := i
  obtain ⟨A, a, B, b, D, d, rfl, -, -, ⟨hC, -, -⟩⟩ := H
  simp only at *
  subst hnn
  obtain ⟨cb, cof, _, _, _, rfl, _, _⟩ := cost_at rok hC (r := 0) (c := 0) (by omega) (by omega)
  have num := ends_num rok
  have CA := Lib.hid (fun (W : World) (x : Ext w W) (r c : Nat) (hr : r < co.length) (hc : c < co.length) => cost_in rok (hC.ext x fun _ _ h => h.ext x) hr hc)
  obtain ⟨r, hr⟩ : ∃ r, Hid (walkP co p = r) := ⟨_, rfl⟩
  rw [hr.out] at FR
  have B1 : Hid (Blk (w.alloc (.cells #[.int .i64 kind, .int .i64 co.length, .int .i64 cap, .slice A xw.length a, .slice B xv.length b, .slice (some ⟨cb, cof, none⟩) co.length d] 61)) w.heap.size 61 #[.int .i64 kind, .int .i64 co.length, .int .i64 cap, .slice A xw.length a, .slice B xv.length b, .slice (some ⟨cb, cof, none⟩) co.length d]) := .new rfl
  replace hC := Lib.hid hC
  cases r with
  | none =>
    have e : boundT co (mirP co) p = (0, 1) := by unfold boundT; rw [hr.out]
    rw [e]
    unfold RRest at FR
    replace FR := Lib.hid FR
    clear MI EN
    go_enter Try.func93, Try.ntmps93
    go_wp2_with (fail)
    refine (FR.out _ (by (repeat (first | assumption | exact Ext.rf _ | apply Ext.drew | apply Ext.drewN | apply Ext.alloc)))).mono ?_
    rintro e w1 ⟨rfl, x1⟩
    have X1 := Lib.hid (Ext.tr (a := w) (by (repeat (first | assumption | exact Ext.rf _ | apply Ext.drew | apply Ext.drewN | apply Ext.alloc))) x1)
    clear x1
    go_wp2_with (fail)
    go_ret2
    exact ⟨rfl, X1.out⟩
  | some s =>
    obtain ⟨m, last, cost⟩ := s
    obtain ⟨pl, WO⟩ := walk_ok l1 l2 hr.out
    have hS := WO.sub
    have hla := walk_last l1 WO
    have h0m : 0 ∉ memsM m := fun h => ((WO.rest 0).1 h).1.2 rfl
    have hlen : (memsM m).length ≤ 23 := by have := WO.len; omega
    have hnl : last ∉ memsM m := fun h => by
      have h1 := (WO.rest last).1 h
      rw [WO.last] at h1
      rcases lastT_mem pl 0 with e | e
      · rw [e] at h1; exact h1.1.2 rfl
      · exact h1.2 e
    have hnod : (last :: memsM m).Nodup := List.nodup_cons.2 ⟨hnl, (memsM_sorted m).imp fun h => by omega⟩
    have bcost : 0 ≤ cost ∧ cost ≤ 2147483647 * 24 := by
      have h1 := wayC_bd num pl 0 (by omega) fun x hx => (WO.inn x hx).1
      have h2 := WO.len
      rw [WO.cost]
      omega
    replace FR := fun (W : World) (x : Ext w W) => (show Calls _ _ _ W (RestSome m last cost W) from FR W x)
    unfold RestSome at FR
    have e : boundT co (mirP co) p = (cost + (if memsM m = [] then costAt co last 0 else if mirP co = true then max (reduceT co (memsM m) last) ((endsT co (memsM m) last + 1) / 2) else reduceT co (memsM m) last), 0) := by unfold boundT; rw [hr.out]
    obtain ⟨tot, ht⟩ : ∃ tot, Hid (tot = cost + (if memsM m = [] then costAt co last 0 else if mirP co = true then max (reduceT co (memsM m) last) ((endsT co (memsM m) last + 1) / 2) else reduceT co (memsM m) last)) := ⟨_, rfl⟩
    rw [e, ← ht.out]
    clear e
    have hin : Hid (∀ x ∈ memsM m, x < co.length) := hS.2
    obtain ⟨l, hll⟩ : ∃ l, Hid (memsM m = l) := ⟨_, rfl⟩
    rw [hll.out] at FR ht hin h0m hlen hnl hnod
    replace FR := Lib.hid FR
    replace MI := Lib.hid MI
    replace EN := Lib.hid EN
    replace num := Lib.hid num
    replace h0m := Lib.hid h0m
    replace hnod := Lib.hid hnod
    replace hnl := Lib.hid hnl
    clear hr WO hS
    go_enter Try.func93, Try.ntmps93
    go_wp2_with (fail)
    refine (FR.out _ (by (repeat (first | assumption | exact Ext.rf _ | apply Ext.drew | apply Ext.drewN | apply Ext.alloc)))).mono ?_
    rintro e w1 ⟨LA, lc, rfl, oL, x1⟩
    have X1 := Lib.hid (Ext.tr (a := w) (by (repeat (first | assumption | exact Ext.rf _ | apply Ext.drew | apply Ext.drewN | apply Ext.alloc))) x1)
    have b1 := Lib.hid (B1.out.ext x1)
    have oL1 : Hid (OwI w1 w.heap.size LA lc (intsN l)) := OwI.more oL (by simp)
    clear x1 oL
    by_cases hne : l.length = 0
    · have hl0 : l = [] := List.eq_nil_of_length_eq_zero hne
      have ht2 : Hid (tot = cost + costAt co last 0) := by
        have h := ht.out
        rw [if_pos hl0] at h
        exact h
      have n2 := num.out last 0 hla (by omega)
      obtain ⟨rb1, ro1, d1, c11, c12⟩ := CA.out _ X1.out last 0 hla (by omega)
      generalize costAt co last 0 = y at *
      replace c12 : w1.cell? ⟨rb1, ro1, none⟩ = some (.int .i64 y) := c12
      have d5 : w1.cell? ⟨w.heap.size, 5, none⟩ = some (.slice (some ⟨cb, cof, none⟩) co.length d) := b1.out.cell 5
      have hw : IntKind.i64.wrap (cost + y) = cost + y := IntWalk.i64_in _ (by omega)
      have q1 : (last : Int) < (co.length : Int) := by omega
      have q2 : (0 : Int) < (co.length : Int) := by omega
      have elen : ((l.length : Int) == 0) = true := by rw [hne]; rfl
      clear hl0 ht
      replace hne := Lib.hid hne
      go_wp2_with (fail)
      go_ret2
      rw [ht2.out]
      exact ⟨rfl, X1.out⟩
    · have elen : ((l.length : Int) == 0) = false := by rw [beq_eq_false_iff_ne]; omega
      have hlnil : l ≠ [] := fun h => hne (by rw [h]; rfl)
      have ht2 : Hid (tot = cost + (if mirP co = true then max (reduceT co l last) ((endsT co l last + 1) / 2) else reduceT co l last)) := by
        have h := ht.out
        rw [if_neg hlnil] at h
        exact h
      have bred := Lib.hid (reduceT_bd num.out (by omega) hla hin.out (by omega : l.length ≤ 24))
      have bend := Lib.hid (endsT_bd num.out (by omega) hla hin.out (by omega : l.length ≤ 24) hlnil)
      obtain ⟨i0, hi, hz0, hz1, hz2⟩ := info_parts row_info
      replace hi := Lib.hid hi
      replace hz0 := Lib.hid hz0
      replace hz1 := Lib.hid hz1
      replace hz2 := Lib.hid hz2
      replace hlnil := Lib.hid hlnil
      have lml : Hid ((matT co l last).length = l.length + 1) := mat_len
      obtain ⟨ms, hms⟩ : ∃ ms, Hid (matT co l last = ms) := ⟨_, rfl⟩
      rw [hms.out] at lml
      have START : Hid (OwV w1 w.heap.size 22 1 none 0 0 [] ∧ RowsO w1 w.heap.size [] (ms.take 0) ∧ Ext w w1 ∧ Blk w1 w.heap.size 61 #[.int .i64 kind, .int .i64 co.length, .int .i64 cap, .slice A xw.length a, .slice B xv.length b, .slice (some ⟨cb, cof, none⟩) co.length d] ∧ OwI w1 w.heap.size LA lc (intsN l)) := ⟨OwV.nil _ _ _ _, by simpa using RowsO.nil w1 w.heap.size, X1.out, b1.out, oL1.out⟩
      clear ht
      go_wp2_with (fail)
      go_loopw [10, 11] (fun v10 v11 wr => ∃ (s : Nat) (aa : Int) (MA : Option Addr) (mc : Nat) (mus : List Value), v11 = .int .i64 aa ∧ Hid (aa = (s : Int) - 1) ∧ v10 = .slice MA s mc ∧ s ≤ l.length + 1 ∧ Hid (OwV wr w.heap.size 22 1 MA s mc mus ∧ RowsO wr w.heap.size mus (ms.take s) ∧ Ext w wr ∧ Blk wr w.heap.size 61 #[.int .i64 kind, .int .i64 co.length, .int .i64 cap, .slice A xw.length a, .slice B xv.length b, .slice (some ⟨cb, cof, none⟩) co.length d] ∧ OwI wr w.heap.size LA lc (intsN l))) (fun _ v11 _ => (l.length - intOf v11).toNat)
      case atStart => exact ⟨0, -1, none, 0, [], rfl, by exact (show (-1 : Int) = ((0 : Nat) : Int) - 1 from by omega), rfl, by omega, START⟩
      case round =>
        obtain ⟨wo, rfl⟩ : ∃ wo : World, wo = wr := ⟨_, rfl⟩
        clear START
        obtain ⟨s, aa, MA, mc, mus, rfl, haa, rfl, hk, HH⟩ := hrel
        obtain ⟨oV, oR, Y, bI, oL⟩ := HH.out
        by_cases hlt : s < l.length + 1
        · have hsl : s < (last :: l).length := by simpa using hlt
          obtain ⟨src, hsrc⟩ : ∃ src, Hid ((last :: l)[s]? = some src) := ⟨_, List.getElem?_eq_getElem hsl⟩
          have hsm : src = last ∨ src ∈ l := by
            have := List.mem_of_getElem? hsrc.out
            simpa using this
          have hsn : src < co.length := by
            rcases hsm with rfl | h
            · exact hla
            · exact hin.out _ h
          obtain ⟨row, hrow⟩ : ∃ row : List Int, Hid (List.map (fun dst : Nat => entT co l last src dst) (l ++ [0] : List Nat) = row) := ⟨List.map (fun dst : Nat => entT co l last src dst) (l ++ [0] : List Nat), rfl⟩
          have etk : Hid (ms.take (s + 1) = ms.take s ++ [row]) := by
            have h : ms.take (s + 1) = ms.take s ++ [row] := by
              have e1 : ms[s]? = some row := by
                rw [← hms.out, ← hrow.out]
                unfold matT
                rw [List.getElem?_map, hsrc.out]
                rfl
              rw [List.take_add_one, e1]
              rfl
            exact h
          have lrow : row.length = l.length + 1 := by rw [← hrow.out]; simp
          have erow : Hid (∀ b v, l[b]? = some v → row[b]? = some (if b + 1 = s then -1 else costAt co src v)) := fun b v hb => by
            have hbl : b < l.length := (List.getElem?_eq_some_iff.1 hb).1
            rw [← hrow.out, List.getElem?_map, List.getElem?_append_left hbl, hb, ← ent_row hnod.out h0m.out hsrc.out hb]
            rfl
          have ehome : Hid (row[l.length]? = some (if s = 0 then -1 else costAt co src 0)) := by
            have h : row[l.length]? = some (if s = 0 then -1 else costAt co src 0) := by
              rw [← hrow.out, List.getElem?_map, List.getElem?_append_right (Nat.le_refl _), ← ent_home hnod.out h0m.out hsrc.out]
              simp
            exact h
          obtain ⟨lb, lo, rfl⟩ : ∃ lb lo, LA = some ⟨lb, lo, none⟩ := by
            obtain ⟨b', o', x', h1, _⟩ := oL.read.at (k := 0) (by rw [intsN_len]; omega)
            exact ⟨b', o', h1⟩
          have OM := oV.lt
          replace oV := Lib.hid oV
          replace oR := Lib.hid oR
          replace Y := Lib.hid Y
          replace bI := Lib.hid bI
          replace oL := Lib.hid oL
          have zwo : w.heap.size ≤ wo.heap.size := Y.out.size
          clear HH hsm hsl
          cases s with
          | zero =>
            obtain rfl : aa = -1 := by have := haa.out; omega
            obtain rfl : src = last := by have h := hsrc.out; simp at h; exact h.symm
            clear haa
            have q1 : (-1 : Int) < (l.length : Int) := by omega
            have START2 : Hid (OwI wo wo.heap.size none 0 (row.take 0) ∧ Ext wo wo) := ⟨OwI.nil _ _, Ext.rf _⟩
            have hrg : Hid (OwI (wo.alloc (.cells #[] 3)) wo.heap.size (some ⟨wo.heap.size, 0, none⟩) 0 (row.take 0) ∧ Ext wo (wo.alloc (.cells #[] 3))) := ⟨OwI.empty (.new rfl) (Nat.le_refl _), (Ext.rf _).alloc _⟩
            go_wp2_with (fail)
            go_loopw [13, 14] (fun v13 v14 wr => ∃ (b : Nat) (RA : Option Addr) (rc : Nat), v14 = .int .i64 b ∧ v13 = .slice RA b rc ∧ b ≤ l.length ∧ Hid (OwI wr wo.heap.size RA rc (row.take b) ∧ Ext wo wr)) (fun _ v14 _ => l.length - (intOf v14).toNat)
            case atStart => exact ⟨0, some ⟨wo.heap.size, 0, none⟩, 0, rfl, rfl, by omega, hrg⟩
            case round =>
              obtain ⟨wi, rfl⟩ : ∃ wi : World, wi = wr := ⟨_, rfl⟩
              clear START2 hrg
              obtain ⟨b', RA, rc, rfl, rfl, hb, HR⟩ := hrel
              obtain ⟨oN, Z⟩ := HR.out
              replace oN := Lib.hid oN
              replace Z := Lib.hid Z
              have zwi := Z.out.size
              have d5 : wi.cell? ⟨w.heap.size, 5, none⟩ = some (.slice (some ⟨cb, cof, none⟩) co.length d) := (bI.out.ext Z.out).cell 5
              have ltk : (row.take b').length = b' := by rw [List.length_take, lrow]; omega
              clear HR
              by_cases hlb : b' < l.length
              · have eb : l[b']? = some l[b'] := List.getElem?_eq_getElem hlb
                have hvn := hin.out _ (List.getElem_mem hlb)
                have er := erow.out b' _ eb
                obtain ⟨lb2, lo2, xv2, hq2, zl2, cl2, el2, _⟩ := (oL.out.ext Z.out).read.at (k := b') (by rw [intsN_len]; exact hlb)
                obtain ⟨rfl, rfl⟩ : lb = lb2 ∧ lo = lo2 := by simpa using hq2
                have exv : xv2 = ((l[b'] : Nat) : Int) := by
                  have h := el2.out
                  rw [intsN_get eb] at h
                  exact (Option.some.inj h).symm
                subst exv
                generalize l[b'] = v at *
                have etb : Hid (row.take (b' + 1) = row.take b' ++ [if b' + 1 = 0 then -1 else costAt co src v]) := by
                  have h : row.take (b' + 1) = row.take b' ++ [if b' + 1 = 0 then -1 else costAt co src v] := by rw [List.take_add_one, er]; rfl
                  exact h
                have q2 : (b' : Int) < (l.length : Int) := by omega
                clear er eb el2 hq2
                have hif : (if b' + 1 = 0 then (-1 : Int) else costAt co src v) = costAt co src v := if_neg (by omega)
                rw [hif] at etb
                have te : ((b' : Int) == -1) = false := by rw [beq_eq_false_iff_ne]; omega
                obtain ⟨rb5, ro5, d5', c51, c52⟩ := CA.out _ (Y.out.tr Z.out) src v hsn hvn
                obtain ⟨cv, hcv⟩ : ∃ cv, Hid (costAt co src v = cv) := ⟨_, rfl⟩
                rw [hcv.out] at c52 etb
                have q3 : (src : Int) < (co.length : Int) := by omega
                have q4 : (v : Int) < (co.length : Int) := by omega
                go_upto_region 19 with (fail)
                refine wp_region_any (by kernel_rfl) ?_
                change wpAny _ _ _ _ _ _ _ (World.drew _)
                refine wpAny_T (i := 0) (op := Op.move (Operand.tmp 13)) (t := 22) (d := some 65) (v := ?_) rfl (by decide +kernel) (by decide +kernel) (by decide +kernel) (fun _ _ _ h => h) ?_ ?_
                case refine_2 => (intro _; unfold exec2; go_simp; try with_reducible rfl)
                try simp only [Act.put, List.setIfInBounds_toArray, List.set_cons_zero, List.set_cons_succ]
                refine wpAny_T (i := 1) (op := Op.fieldAddr 61 (Operand.tmp 2) 5) (t := 0) (d := some 66) (v := ?_) rfl (by decide +kernel) (by decide +kernel) (by decide +kernel) (fun _ _ _ h => h) ?_ ?_
                case refine_2 => (intro _; unfold exec2; go_simp; try with_reducible rfl)
                try simp only [Act.put, List.setIfInBounds_toArray, List.set_cons_zero, List.set_cons_succ]
                refine wpAny_T (i := 3) (op := Op.move (Operand.tmp 12)) (t := 3) (d := some 68) (v := ?_) rfl (by decide +kernel) (by decide +kernel) (by decide +kernel) (fun _ _ _ h => h) ?_ ?_
                case refine_2 => (intro _; unfold exec2; go_simp; try with_reducible rfl)
                try simp only [Act.put, List.setIfInBounds_toArray, List.set_cons_zero, List.set_cons_succ]
                refine wpAny_T (i := 6) (op := Op.move (Operand.tmp 6)) (t := 22) (d := some 71) (v := ?_) rfl (by decide +kernel) (by decide +kernel) (by decide +kernel) (fun _ _ _ h => h) ?_ ?_
                case refine_2 => (intro _; unfold exec2; go_simp; try with_reducible rfl)
                try simp only [Act.put, List.setIfInBounds_toArray, List.set_cons_zero, List.set_cons_succ]
                refine wpAny_T (i := 7) (op := Op.move (Operand.tmp 14)) (t := 3) (d := some 72) (v := ?_) rfl (by decide +kernel) (by decide +kernel) (by decide +kernel) (fun _ _ _ h => h) ?_ ?_
                case refine_2 => (intro _; unfold exec2; go_simp; try with_reducible rfl)
                try simp only [Act.put, List.setIfInBounds_toArray, List.set_cons_zero, List.set_cons_succ]
                refine wpAny_reads2 (n := 3) [(2, some 67), (4, some 69), (5, some 70), (8, some 73), (9, some 74), (10, some 75), (11, some 76)] (fun | 2 => .slice (some ⟨cb, cof, none⟩) co.length d | 4 => .pointer (some ⟨cb, cof + src, none⟩) | 5 => .slice (some ⟨rb5, ro5, none⟩) co.length d5' | 8 => .pointer (some ⟨lb, lo + b', none⟩) | 9 => .int .i64 (v : Int) | 10 => .pointer (some ⟨rb5, ro5 + v, none⟩) | 11 => .int .i64 cv | _ => undef) #[true, true, true, true, true, true, true, true, true, true, true, true, false, false, false] (by decide +kernel) ?_ ?_
                · intro pS hpm uS hD K hK
                  simp only [List.mem_cons, List.not_mem_nil, or_false] at hpm
                  rcases hpm with rfl | rfl | rfl | rfl | rfl | rfl | rfl
                  · exact op_ld (T := 59) (x := Operand.tmp 66) (t := 59) (d := some 67) rfl (.pointer (some ⟨w.heap.size, 5, none⟩)) (by kernel_rfl) (.slice (some ⟨cb, cof, none⟩) co.length d) (by go_simp) hK
                  · exact op_ix (T := 59) (x := Operand.tmp 67) (y := Operand.tmp 68) (t := 0) (d := some 69) rfl (.slice (some ⟨cb, cof, none⟩) co.length d) (.int .i64 (src : Int)) (Eq.trans (b := uS 2) (by kernel_rfl) (hD 2 (depIn (by kernel_rfl)))) (by kernel_rfl) (.pointer (some ⟨cb, cof + src, none⟩)) (by go_simp) hK
                  · exact op_ld (T := 22) (x := Operand.tmp 69) (t := 22) (d := some 70) rfl (.pointer (some ⟨cb, cof + src, none⟩)) (Eq.trans (b := uS 4) (by kernel_rfl) (hD 4 (depIn (by kernel_rfl)))) (.slice (some ⟨rb5, ro5, none⟩) co.length d5') (by go_simp) hK
                  · exact op_ix (T := 22) (x := Operand.tmp 71) (y := Operand.tmp 72) (t := 0) (d := some 73) rfl (.slice (some ⟨lb, lo, none⟩) l.length lc) (.int .i64 (b' : Int)) (by kernel_rfl) (by kernel_rfl) (.pointer (some ⟨lb, lo + b', none⟩)) (by go_simp) hK
                  · exact op_ld (T := 3) (x := Operand.tmp 73) (t := 3) (d := some 74) rfl (.pointer (some ⟨lb, lo + b', none⟩)) (Eq.trans (b := uS 8) (by kernel_rfl) (hD 8 (depIn (by kernel_rfl)))) (.int .i64 (v : Int)) (by go_simp) hK
                  · exact op_ix (T := 22) (x := Operand.tmp 70) (y := Operand.tmp 74) (t := 0) (d := some 75) rfl (.slice (some ⟨rb5, ro5, none⟩) co.length d5') (.int .i64 (v : Int)) (Eq.trans (b := uS 5) (by kernel_rfl) (hD 5 (depIn (by kernel_rfl)))) (Eq.trans (b := uS 9) (by kernel_rfl) (hD 9 (depIn (by kernel_rfl)))) (.pointer (some ⟨rb5, ro5 + v, none⟩)) (by go_simp) hK
                  · exact op_ld (T := 3) (x := Operand.tmp 75) (t := 3) (d := some 76) rfl (.pointer (some ⟨rb5, ro5 + v, none⟩)) (Eq.trans (b := uS 10) (by kernel_rfl) (hD 10 (depIn (by kernel_rfl)))) (.int .i64 cv) (by go_simp) hK
                simp only [putAll, Act.put, List.setIfInBounds_toArray, List.set_cons_zero, List.set_cons_succ]
                refine wpAny_next 12 (by decide +kernel) (op_bs1 rfl (.int .i64 cv) (by kernel_rfl) _ (ibs1g_run _ _) ?_)
                try simp only [Act.put, List.setIfInBounds_toArray, List.set_cons_zero, List.set_cons_succ]
                have oN2 : OwI (wi.drew.alloc (.cells #[.int .i64 cv] 3)) wo.heap.size RA rc (row.take b') := oN.out.ext (((Ext.rf _).drew).alloc _)
                obtain ⟨A5, c5, w5, hrun, o5, g5, -⟩ := run_app_i (wi.drew.alloc (.cells #[.int .i64 cv] 3)) wo.heap.size 22 RA b' rc (row.take b') [cv] (some ⟨wi.drew.heap.size, 0, none⟩) 1 ltk.symm oN2 (.blk (.new rfl) rfl) (by simp; omega) (by simp; omega)
                have X5 := Ext.grow ((Z.out.drew).alloc (.cells #[.int .i64 cv] 3)) g5 (fun k hk => (oN2.lt k hk).1)
                have lapp : (row.take b' ++ [cv]).length = b' + 1 := by rw [List.length_append, ltk]; rfl
                rw [lapp] at hrun
                refine wpAny_next 13 (by decide +kernel) (op_app rfl (.slice RA b' rc) (.slice (some ⟨wi.drew.heap.size, 0, none⟩) 1 1) (by kernel_rfl) (by kernel_rfl) _ hrun ?_)
                try simp only [Act.put, List.setIfInBounds_toArray, List.set_cons_zero, List.set_cons_succ]
                refine wpAny_T (i := 14) (op := Op.assign (Operand.tmp 78)) (t := 22) (d := some 13) (v := ?_) rfl (by decide +kernel) (by decide +kernel) (by decide +kernel) (fun _ _ _ h => h) ?_ ?_
                case refine_2 => (intro _; unfold exec2; go_simp; try with_reducible rfl)
                try simp only [Act.put, List.setIfInBounds_toArray, List.set_cons_zero, List.set_cons_succ]
                refine wpAny_done (by kernel_rfl) ?_ _
                clear hrun lapp
                go_simp
                go_wp2_with (fail)
                go_roundw
                case rel =>
                  refine ⟨b' + 1, A5, c5, by go_num, ?_, by omega, ?_⟩
                  · first | rfl | (rw [List.length_append, ltk]; rfl) | (simp; omega)
                  · exact (show OwI w5 wo.heap.size A5 c5 (row.take (b' + 1)) ∧ Ext wo w5 from ⟨by rw [etb.out]; exact o5, X5⟩)
                case measure => simp [intOf] <;> omega
              · obtain rfl : b' = l.length := by omega
                have q2 : ¬ ((l.length : Int) < (l.length : Int)) := by omega
                have er := ehome.out
                have etb : Hid (row = row.take l.length ++ [-1]) := by
                  have h : row = row.take l.length ++ [-1] := by
                    have h1 : row.take (l.length + 1) = row := List.take_of_length_le (by rw [lrow]; exact Nat.le_refl _)
                    rw [← h1, List.take_add_one, er]
                    simp [lrow]
                  exact h
                clear er
                have oN2 : Hid (OwI (wi.alloc (.cells #[.int .i64 (-1)] 3)) wo.heap.size RA rc (row.take l.length)) := oN.out.ext ((Ext.rf _).alloc _)
                go_wp2_with (first | (at_builtin; go_loud (refine wpl_app_i _ rfl _ _ rfl wo.heap.size RA l.length rc (row.take l.length) [-1] (some ⟨wi.heap.size, 0, none⟩) 1 rfl rfl ltk.symm ?_ ?_ ?_ ?_ ?_; (exact oN2.out); (exact .blk (.new rfl) rfl); (simp; omega); (simp; omega); rintro A5 c5 w5 o5 g5 _; have X5 := Ext.grow (Z.out.alloc _) g5 (fun k hk => (oN2.out.lt k hk).1); rw [← etb.out] at o5 ⊢; rw [lrow])) | (at_builtin; refine wpl_app_v _ (e := 22) Try.underlying59 hi.out hz0.out hz1.out hz2.out (by simp [Value.cells]) (by omega) rfl _ _ rfl w.heap.size MA 0 mc mus (some ⟨w5.heap.size, 0, none⟩) 1 1 [.slice A5 (l.length + 1) c5] rfl rfl ((oV.out.ext X5).ext ((Ext.rf _).alloc _)) (RdV.blk (.new (by simp))).rdC (by simp) (by simp [Value.oneCell']) (by simp only [maxLen]; omega) (by omega) (by have := X5.size; simp; omega) ?_; rintro M6' m6 w6 o6 g6 _))
                have oV5 := (oV.out.ext X5).ext ((Ext.rf w5).alloc (.cells #[.slice A5 (l.length + 1) c5] 22))
                have M6 := oV5.grownT g6
                have X6 : Ext wo (w5.alloc (.cells #[.slice A5 (l.length + 1) c5] 22)) := X5.tr ((Ext.rf _).alloc _)
                have NEW : Hid (OwV w6 w.heap.size 22 1 M6' (0 + 1) m6 (mus ++ [.slice A5 (l.length + 1) c5]) ∧ RowsO w6 w.heap.size (mus ++ [.slice A5 (l.length + 1) c5]) (ms.take (0 + 1)) ∧ Ext w w6 ∧ Blk w6 w.heap.size 61 #[.int .i64 kind, .int .i64 co.length, .int .i64 cap, .slice A xw.length a, .slice B xv.length b, .slice (some ⟨cb, cof, none⟩) co.length d] ∧ OwI w6 w.heap.size (some ⟨lb, lo, none⟩) lc (intsN l)) := by
                  refine ⟨o6, ?_, (Y.out.tr X6).modT M6 (Nat.le_refl _), (bI.out.ext X6).modT M6 (by decide), (oL.out.ext X6).modT M6 (by decide)⟩
                  rw [etk.out]
                  have h := ((oR.out.ext X6).modT M6 (by decide)).snoc (((o5.more zwo).ext ((Ext.rf _).alloc _)).modT M6 (by decide))
                  rw [lrow] at h
                  exact h
                go_roundw
                case rel => exact ⟨0 + 1, 0, M6', m6, mus ++ [.slice A5 (l.length + 1) c5], by go_num, by exact (show (0 : Int) = ((0 + 1 : Nat) : Int) - 1 from by omega), rfl, by omega, NEW⟩
                case measure => simp [intOf] <;> omega
          | succ k =>
            obtain rfl : aa = (k : Int) := by have := haa.out; omega
            have hkl : k < l.length := by omega
            have ek : l[k]? = some src := by have h := hsrc.out; simpa using h
            obtain ⟨lb', lo', xs, hq, zs, cs0, es, _⟩ := oL.out.read.at (k := k) (by rw [intsN_len]; exact hkl)
            obtain ⟨rfl, rfl⟩ : lb = lb' ∧ lo = lo' := by simpa using hq
            have exs : xs = (src : Int) := by
              have h := es.out
              rw [intsN_get ek] at h
              exact (Option.some.inj h).symm
            subst exs
            clear haa es hq
            replace ek := Lib.hid ek
            have q1 : (k : Int) < (l.length : Int) := by omega
            have q1' : ¬ ((k : Int) < 0) := by omega
            have START2 : Hid (OwI wo wo.heap.size none 0 (row.take 0) ∧ Ext wo wo) := ⟨OwI.nil _ _, Ext.rf _⟩
            have hrg : Hid (OwI (wo.alloc (.cells #[] 3)) wo.heap.size (some ⟨wo.heap.size, 0, none⟩) 0 (row.take 0) ∧ Ext wo (wo.alloc (.cells #[] 3))) := ⟨OwI.empty (.new rfl) (Nat.le_refl _), (Ext.rf _).alloc _⟩
            go_wp2_with (fail)
            go_loopw [13, 14] (fun v13 v14 wr => ∃ (b : Nat) (RA : Option Addr) (rc : Nat), v14 = .int .i64 b ∧ v13 = .slice RA b rc ∧ b ≤ l.length ∧ Hid (OwI wr wo.heap.size RA rc (row.take b) ∧ Ext wo wr)) (fun _ v14 _ => l.length - (intOf v14).toNat)
            case atStart => exact ⟨0, some ⟨wo.heap.size, 0, none⟩, 0, rfl, rfl, by omega, hrg⟩
            case round =>
              obtain ⟨wi, rfl⟩ : ∃ wi : World, wi = wr := ⟨_, rfl⟩
              clear START2 hrg
              obtain ⟨b', RA, rc, rfl, rfl, hb, HR⟩ := hrel
              obtain ⟨oN, Z⟩ := HR.out
              replace oN := Lib.hid oN
              replace Z := Lib.hid Z
              have zwi := Z.out.size
              have d5 : wi.cell? ⟨w.heap.size, 5, none⟩ = some (.slice (some ⟨cb, cof, none⟩) co.length d) := (bI.out.ext Z.out).cell 5
              have ltk : (row.take b').length = b' := by rw [List.length_take, lrow]; omega
              clear HR
              by_cases hlb : b' < l.length
              · have eb : l[b']? = some l[b'] := List.getElem?_eq_getElem hlb
                have hvn := hin.out _ (List.getElem_mem hlb)
                have er := erow.out b' _ eb
                obtain ⟨lb2, lo2, xv2, hq2, zl2, cl2, el2, _⟩ := (oL.out.ext Z.out).read.at (k := b') (by rw [intsN_len]; exact hlb)
                obtain ⟨rfl, rfl⟩ : lb = lb2 ∧ lo = lo2 := by simpa using hq2
                have exv : xv2 = ((l[b'] : Nat) : Int) := by
                  have h := el2.out
                  rw [intsN_get eb] at h
                  exact (Option.some.inj h).symm
                subst exv
                generalize l[b'] = v at *
                have etb : Hid (row.take (b' + 1) = row.take b' ++ [if b' + 1 = k + 1 then -1 else costAt co src v]) := by
                  have h : row.take (b' + 1) = row.take b' ++ [if b' + 1 = k + 1 then -1 else costAt co src v] := by rw [List.take_add_one, er]; rfl
                  exact h
                have q2 : (b' : Int) < (l.length : Int) := by omega
                clear er eb el2 hq2
                by_cases hbk : b' = k
                · have hif : (if b' + 1 = k + 1 then (-1 : Int) else costAt co src v) = -1 := if_pos (by omega)
                  rw [hif] at etb
                  have te : ((b' : Int) == (k : Int)) = true := by rw [beq_iff_eq]; omega
                  have oN2 : OwI (wi.alloc (.cells #[.int .i64 (-1)] 3)) wo.heap.size RA rc (row.take b') := oN.out.ext ((Ext.rf _).alloc _)
                  go_wp2_with (at_builtin; go_loud (refine wpl_app_i _ rfl _ _ rfl wo.heap.size RA b' rc (row.take b') [-1] (some ⟨wi.heap.size, 0, none⟩) 1 rfl rfl ltk.symm ?_ ?_ ?_ ?_ ?_; (exact oN2); (exact .blk (.new rfl) rfl); (simp; omega); (simp; omega); rintro A5 c5 w5 o5 g5 _; have X5 := Ext.grow (Z.out.alloc _) g5 (fun k hk => (oN2.lt k hk).1)))
                  go_roundw
                  case rel =>
                    refine ⟨b' + 1, A5, c5, by go_num, ?_, by omega, ?_⟩
                    · first | rfl | (rw [List.length_append, ltk]; rfl) | (simp; omega)
                    · exact (show OwI w5 wo.heap.size A5 c5 (row.take (b' + 1)) ∧ Ext wo w5 from ⟨by rw [etb.out]; exact o5, X5⟩)
                  case measure => simp [intOf] <;> omega
                · have hif : (if b' + 1 = k + 1 then (-1 : Int) else costAt co src v) = costAt co src v := if_neg (by omega)
                  rw [hif] at etb
                  have te : ((b' : Int) == (k : Int)) = false := by rw [beq_eq_false_iff_ne]; omega
                  obtain ⟨rb5, ro5, d5', c51, c52⟩ := CA.out _ (Y.out.tr Z.out) src v hsn hvn
                  obtain ⟨cv, hcv⟩ : ∃ cv, Hid (costAt co src v = cv) := ⟨_, rfl⟩
                  rw [hcv.out] at c52 etb
                  have q3 : (src : Int) < (co.length : Int) := by omega
                  have q4 : (v : Int) < (co.length : Int) := by omega
                  go_upto_region 19 with (fail)
                  refine wp_region_any (by kernel_rfl) ?_
                  change wpAny _ _ _ _ _ _ _ (World.drew _)
                  refine wpAny_T (i := 0) (op := Op.move (Operand.tmp 13)) (t := 22) (d := some 65) (v := ?_) rfl (by decide +kernel) (by decide +kernel) (by decide +kernel) (fun _ _ _ h => h) ?_ ?_
                  case refine_2 => (intro _; unfold exec2; go_simp; try with_reducible rfl)
                  try simp only [Act.put, List.setIfInBounds_toArray, List.set_cons_zero, List.set_cons_succ]
                  refine wpAny_T (i := 1) (op := Op.fieldAddr 61 (Operand.tmp 2) 5) (t := 0) (d := some 66) (v := ?_) rfl (by decide +kernel) (by decide +kernel) (by decide +kernel) (fun _ _ _ h => h) ?_ ?_
                  case refine_2 => (intro _; unfold exec2; go_simp; try with_reducible rfl)
                  try simp only [Act.put, List.setIfInBounds_toArray, List.set_cons_zero, List.set_cons_succ]
                  refine wpAny_T (i := 3) (op := Op.move (Operand.tmp 12)) (t := 3) (d := some 68) (v := ?_) rfl (by decide +kernel) (by decide +kernel) (by decide +kernel) (fun _ _ _ h => h) ?_ ?_
                  case refine_2 => (intro _; unfold exec2; go_simp; try with_reducible rfl)
                  try simp only [Act.put, List.setIfInBounds_toArray, List.set_cons_zero, List.set_cons_succ]
                  refine wpAny_T (i := 6) (op := Op.move (Operand.tmp 6)) (t := 22) (d := some 71) (v := ?_) rfl (by decide +kernel) (by decide +kernel) (by decide +kernel) (fun _ _ _ h => h) ?_ ?_
                  case refine_2 => (intro _; unfold exec2; go_simp; try with_reducible rfl)
                  try simp only [Act.put, List.setIfInBounds_toArray, List.set_cons_zero, List.set_cons_succ]
                  refine wpAny_T (i := 7) (op := Op.move (Operand.tmp 14)) (t := 3) (d := some 72) (v := ?_) rfl (by decide +kernel) (by decide +kernel) (by decide +kernel) (fun _ _ _ h => h) ?_ ?_
                  case refine_2 => (intro _; unfold exec2; go_simp; try with_reducible rfl)
                  try simp only [Act.put, List.setIfInBounds_toArray, List.set_cons_zero, List.set_cons_succ]
                  refine wpAny_reads2 (n := 3) [(2, some 67), (4, some 69), (5, some 70), (8, some 73), (9, some 74), (10, some 75), (11, some 76)] (fun | 2 => .slice (some ⟨cb, cof, none⟩) co.length d | 4 => .pointer (some ⟨cb, cof + src, none⟩) | 5 => .slice (some ⟨rb5, ro5, none⟩) co.length d5' | 8 => .pointer (some ⟨lb, lo + b', none⟩) | 9 => .int .i64 (v : Int) | 10 => .pointer (some ⟨rb5, ro5 + v, none⟩) | 11 => .int .i64 cv | _ => undef) #[true, true, true, true, true, true, true, true, true, true, true, true, false, false, false] (by decide +kernel) ?_ ?_
                  · intro pS hpm uS hD K hK
                    simp only [List.mem_cons, List.not_mem_nil, or_false] at hpm
                    rcases hpm with rfl | rfl | rfl | rfl | rfl | rfl | rfl
                    · exact op_ld (T := 59) (x := Operand.tmp 66) (t := 59) (d := some 67) rfl (.pointer (some ⟨w.heap.size, 5, none⟩)) (by kernel_rfl) (.slice (some ⟨cb, cof, none⟩) co.length d) (by go_simp) hK
                    · exact op_ix (T := 59) (x := Operand.tmp 67) (y := Operand.tmp 68) (t := 0) (d := some 69) rfl (.slice (some ⟨cb, cof, none⟩) co.length d) (.int .i64 (src : Int)) (Eq.trans (b := uS 2) (by kernel_rfl) (hD 2 (depIn (by kernel_rfl)))) (by kernel_rfl) (.pointer (some ⟨cb, cof + src, none⟩)) (by go_simp) hK
                    · exact op_ld (T := 22) (x := Operand.tmp 69) (t := 22) (d := some 70) rfl (.pointer (some ⟨cb, cof + src, none⟩)) (Eq.trans (b := uS 4) (by kernel_rfl) (hD 4 (depIn (by kernel_rfl)))) (.slice (some ⟨rb5, ro5, none⟩) co.length d5') (by go_simp) hK
                    · exact op_ix (T := 22) (x := Operand.tmp 71) (y := Operand.tmp 72) (t := 0) (d := some 73) rfl (.slice (some ⟨lb, lo, none⟩) l.length lc) (.int .i64 (b' : Int)) (by kernel_rfl) (by kernel_rfl) (.pointer (some ⟨lb, lo + b', none⟩)) (by go_simp) hK
                    · exact op_ld (T := 3) (x := Operand.tmp 73) (t := 3) (d := some 74) rfl (.pointer (some ⟨lb, lo + b', none⟩)) (Eq.trans (b := uS 8) (by kernel_rfl) (hD 8 (depIn (by kernel_rfl)))) (.int .i64 (v : Int)) (by go_simp) hK
                    · exact op_ix (T := 22) (x := Operand.tmp 70) (y := Operand.tmp 74) (t := 0) (d := some 75) rfl (.slice (some ⟨rb5, ro5, none⟩) co.length d5') (.int .i64 (v : Int)) (Eq.trans (b := uS 5) (by kernel_rfl) (hD 5 (depIn (by kernel_rfl)))) (Eq.trans (b := uS 9) (by kernel_rfl) (hD 9 (depIn (by kernel_rfl)))) (.pointer (some ⟨rb5, ro5 + v, none⟩)) (by go_simp) hK
                    · exact op_ld (T := 3) (x := Operand.tmp 75) (t := 3) (d := some 76) rfl (.pointer (some ⟨rb5, ro5 + v, none⟩)) (Eq.trans (b := uS 10) (by kernel_rfl) (hD 10 (depIn (by kernel_rfl)))) (.int .i64 cv) (by go_simp) hK
                  simp only [putAll, Act.put, List.setIfInBounds_toArray, List.set_cons_zero, List.set_cons_succ]
                  refine wpAny_next 12 (by decide +kernel) (op_bs1 rfl (.int .i64 cv) (by kernel_rfl) _ (ibs1g_run _ _) ?_)
                  try simp only [Act.put, List.setIfInBounds_toArray, List.set_cons_zero, List.set_cons_succ]
                  have oN2 : OwI (wi.drew.alloc (.cells #[.int .i64 cv] 3)) wo.heap.size RA rc (row.take b') := oN.out.ext (((Ext.rf _).drew).alloc _)
                  obtain ⟨A5, c5, w5, hrun, o5, g5, -⟩ := run_app_i (wi.drew.alloc (.cells #[.int .i64 cv] 3)) wo.heap.size 22 RA b' rc (row.take b') [cv] (some ⟨wi.drew.heap.size, 0, none⟩) 1 ltk.symm oN2 (.blk (.new rfl) rfl) (by simp; omega) (by simp; omega)
                  have X5 := Ext.grow ((Z.out.drew).alloc (.cells #[.int .i64 cv] 3)) g5 (fun k hk => (oN2.lt k hk).1)
                  have lapp : (row.take b' ++ [cv]).length = b' + 1 := by rw [List.length_append, ltk]; rfl
                  rw [lapp] at hrun
                  refine wpAny_next 13 (by decide +kernel) (op_app rfl (.slice RA b' rc) (.slice (some ⟨wi.drew.heap.size, 0, none⟩) 1 1) (by kernel_rfl) (by kernel_rfl) _ hrun ?_)
                  try simp only [Act.put, List.setIfInBounds_toArray, List.set_cons_zero, List.set_cons_succ]
                  refine wpAny_T (i := 14) (op := Op.assign (Operand.tmp 78)) (t := 22) (d := some 13) (v := ?_) rfl (by decide +kernel) (by decide +kernel) (by decide +kernel) (fun _ _ _ h => h) ?_ ?_
                  case refine_2 => (intro _; unfold exec2; go_simp; try with_reducible rfl)
                  try simp only [Act.put, List.setIfInBounds_toArray, List.set_cons_zero, List.set_cons_succ]
                  refine wpAny_done (by kernel_rfl) ?_ _
                  clear hrun lapp
                  go_simp
                  go_wp2_with (fail)
                  go_roundw
                  case rel =>
                    refine ⟨b' + 1, A5, c5, by go_num, ?_, by omega, ?_⟩
                    · first | rfl | (rw [List.length_append, ltk]; rfl) | (simp; omega)
                    · exact (show OwI w5 wo.heap.size A5 c5 (row.take (b' + 1)) ∧ Ext wo w5 from ⟨by rw [etb.out]; exact o5, X5⟩)
                  case measure => simp [intOf] <;> omega
              · obtain rfl : b' = l.length := by omega
                have q2 : ¬ ((l.length : Int) < (l.length : Int)) := by omega
                have er := ehome.out
                have etb : Hid (row = row.take l.length ++ [costAt co src 0]) := by
                  have h : row = row.take l.length ++ [costAt co src 0] := by
                    have h1 : row.take (l.length + 1) = row := List.take_of_length_le (by rw [lrow]; exact Nat.le_refl _)
                    rw [← h1, List.take_add_one, er]
                    simp [lrow]
                  exact h
                clear er
                obtain ⟨rb6, ro6, d6, c61, c62⟩ := CA.out _ (Y.out.tr Z.out) src 0 hsn (by omega)
                obtain ⟨cv0, hcv0⟩ : ∃ cv0, Hid (costAt co src 0 = cv0) := ⟨_, rfl⟩
                rw [hcv0.out] at c62 etb
                replace c62 : wi.cell? ⟨rb6, ro6, none⟩ = some (.int .i64 cv0) := c62
                have q3 : (src : Int) < (co.length : Int) := by omega
                have q4 : (0 : Int) < (co.length : Int) := by omega
                have oN2 : Hid (OwI (wi.alloc (.cells #[.int .i64 (cv0)] 3)) wo.heap.size RA rc (row.take l.length)) := oN.out.ext ((Ext.rf _).alloc _)
                go_wp2_with (first | (at_builtin; go_loud (refine wpl_app_i _ rfl _ _ rfl wo.heap.size RA l.length rc (row.take l.length) [cv0] (some ⟨wi.heap.size, 0, none⟩) 1 rfl rfl ltk.symm ?_ ?_ ?_ ?_ ?_; (exact oN2.out); (exact .blk (.new rfl) rfl); (simp; omega); (simp; omega); rintro A5 c5 w5 o5 g5 _; have X5 := Ext.grow (Z.out.alloc _) g5 (fun k hk => (oN2.out.lt k hk).1); rw [← etb.out] at o5 ⊢; rw [lrow])) | (at_builtin; refine wpl_app_v _ (e := 22) Try.underlying59 hi.out hz0.out hz1.out hz2.out (by simp [Value.cells]) (by omega) rfl _ _ rfl w.heap.size MA (k + 1) mc mus (some ⟨w5.heap.size, 0, none⟩) 1 1 [.slice A5 (l.length + 1) c5] rfl rfl ((oV.out.ext X5).ext ((Ext.rf _).alloc _)) (RdV.blk (.new (by simp))).rdC (by simp) (by simp [Value.oneCell']) (by simp only [maxLen]; omega) (by omega) (by have := X5.size; simp; omega) ?_; rintro M6' m6 w6 o6 g6 _))
                have oV5 := (oV.out.ext X5).ext ((Ext.rf w5).alloc (.cells #[.slice A5 (l.length + 1) c5] 22))
                have M6 := oV5.grownT g6
                have X6 : Ext wo (w5.alloc (.cells #[.slice A5 (l.length + 1) c5] 22)) := X5.tr ((Ext.rf _).alloc _)
                have NEW : Hid (OwV w6 w.heap.size 22 1 M6' ((k + 1) + 1) m6 (mus ++ [.slice A5 (l.length + 1) c5]) ∧ RowsO w6 w.heap.size (mus ++ [.slice A5 (l.length + 1) c5]) (ms.take ((k + 1) + 1)) ∧ Ext w w6 ∧ Blk w6 w.heap.size 61 #[.int .i64 kind, .int .i64 co.length, .int .i64 cap, .slice A xw.length a, .slice B xv.length b, .slice (some ⟨cb, cof, none⟩) co.length d] ∧ OwI w6 w.heap.size (some ⟨lb, lo, none⟩) lc (intsN l)) := by
                  refine ⟨o6, ?_, (Y.out.tr X6).modT M6 (Nat.le_refl _), (bI.out.ext X6).modT M6 (by decide), (oL.out.ext X6).modT M6 (by decide)⟩
                  rw [etk.out]
                  have h := ((oR.out.ext X6).modT M6 (by decide)).snoc (((o5.more zwo).ext ((Ext.rf _).alloc _)).modT M6 (by decide))
                  rw [lrow] at h
                  exact h
                go_roundw
                case rel => exact ⟨k + 1 + 1, ((k : Int) + 1), M6', m6, mus ++ [.slice A5 (l.length + 1) c5], by go_num, by exact (show ((k : Int) + 1) = ((k + 1 + 1 : Nat) : Int) - 1 from by omega), rfl, by omega, NEW⟩
                case measure => simp [intOf] <;> omega
        · obtain rfl : s = l.length + 1 := by omega
          obtain rfl : aa = (l.length : Int) := by have := haa.out; omega
          have q0 : ¬ ((l.length : Int) < (l.length : Int)) := by omega
          have etk : ms.take (l.length + 1) = ms := List.take_of_length_le (by rw [lml.out]; exact Nat.le_refl _)
          rw [etk] at oR
          have numL : ∀ a b, (a = last ∨ a ∈ l) → (b = 0 ∨ b ∈ l) → 0 ≤ costAt co a b ∧ costAt co a b ≤ 2147483647 := fun a b ha hb => num.out a b (by
            rcases ha with rfl | h
            · exact hla
            · exact hin.out _ h) (by
            rcases hb with rfl | h
            · omega
            · exact hin.out _ h)
          have mn := mat_num (rows := co) (us := l) (last := last) (B := 2147483647) (by omega) numL
          have mr := mat_row (rows := co) (us := l) (last := last)
          rw [hms.out] at mn mr
          have RG := rreduceg_any ms (l.length + 1) MA mc wo (rde_of oV oR fun r hr x hx => by have := mn r hr x hx; omega) mr (by omega) (by omega) (by rw [lml.out]; omega) (by rw [lml.out]; omega) fun r hr x hx => (mn r hr x hx).2
          have eg := reduceG_mat (rows := co) (us := l) (last := last) (fun a b ha hb => (numL a b ha hb).1) hnl.out h0m.out
          rw [hms.out] at eg
          rw [eg, lml.out] at RG
          have bI' := Lib.hid bI
          have Y' := Lib.hid Y
          have oL' := Lib.hid oL
          replace RG := Lib.hid RG
          have c0 : ∀ j : Nat, wo.cell? ⟨w.heap.size, j, none⟩ = #[Value.int .i64 kind, .int .i64 co.length, .int .i64 cap, .slice A xw.length a, .slice B xv.length b, .slice (some ⟨cb, cof, none⟩) co.length d][j]? := fun j => bI.cell j
          clear HH oV oR bI oL mn mr eg etk numL haa
          go_wp2_with (fail)
          refine RG.out.mono ?_
          rintro e w2 ⟨rfl, x2⟩
          have Y2 := Lib.hid (Y'.out.tr x2)
          have bI2 := bI'.out.ext x2
          have c0 : w2.cell? ⟨w.heap.size, 0, none⟩ = some (.int .i64 kind) := bI2.cell 0
          have c1 : w2.cell? ⟨w.heap.size, 1, none⟩ = some (.int .i64 co.length) := bI2.cell 1
          have c2 : w2.cell? ⟨w.heap.size, 2, none⟩ = some (.int .i64 cap) := bI2.cell 2
          have c3 : w2.cell? ⟨w.heap.size, 3, none⟩ = some (.slice A xw.length a) := bI2.cell 3
          have c4 : w2.cell? ⟨w.heap.size, 4, none⟩ = some (.slice B xv.length b) := bI2.cell 4
          have c5 : w2.cell? ⟨w.heap.size, 5, none⟩ = some (.slice (some ⟨cb, cof, none⟩) co.length d) := bI2.cell 5
          replace bI2 := Lib.hid bI2
          have oL2 := Lib.hid (oL'.out.ext x2)
          clear x2
          go_wp2_with (fail)
          refine (MI.out _ Y2.out).mono ?_
          rintro e w3 ⟨rfl, x3⟩
          have Y3 := Lib.hid (Y2.out.tr x3)
          have bI3 := bI2.out.ext x3
          clear c0 c1 c2 c3 c4 c5
          have br := bred.out
          have be := bend.out
          obtain ⟨mi, hmi⟩ : ∃ mi, Hid (mirP co = mi) := ⟨_, rfl⟩
          rw [hmi.out] at ht2 ⊢
          obtain ⟨rv, hrv⟩ : ∃ rv, Hid (reduceT co l last = rv) := ⟨_, rfl⟩
          rw [hrv.out] at ht2 br ⊢
          cases mi with
          | false =>
            have ht3 : Hid (tot = cost + rv) := ht2.out
            have hw : IntKind.i64.wrap (cost + rv) = cost + rv := IntWalk.i64_in _ (by omega)
            go_wp2_with (fail)
            go_ret2
            rw [ht3.out]
            exact ⟨rfl, Y3.out⟩
          | true =>
            have ht3 : Hid (tot = cost + max rv ((endsT co l last + 1) / 2)) := ht2.out
            have ENN := EN.out w3 Y3.out LA lc l last (oL2.out.ext x3).read hin.out (List.nodup_cons.1 hnod.out).2 (by omega) hla
            obtain ⟨ev, hev⟩ : ∃ ev, Hid (endsT co l last = ev) := ⟨_, rfl⟩
            rw [hev.out] at ENN be ht3
            have c0 : w3.cell? ⟨w.heap.size, 0, none⟩ = some (.int .i64 kind) := bI3.cell 0
            have c1 : w3.cell? ⟨w.heap.size, 1, none⟩ = some (.int .i64 co.length) := bI3.cell 1
            have c2 : w3.cell? ⟨w.heap.size, 2, none⟩ = some (.int .i64 cap) := bI3.cell 2
            have c3 : w3.cell? ⟨w.heap.size, 3, none⟩ = some (.slice A xw.length a) := bI3.cell 3
            have c4 : w3.cell? ⟨w.heap.size, 4, none⟩ = some (.slice B xv.length b) := bI3.cell 4
            have c5 : w3.cell? ⟨w.heap.size, 5, none⟩ = some (.slice (some ⟨cb, cof, none⟩) co.length d) := bI3.cell 5
            have hq : ev.tdiv 2 = ev / 2 := Int.tdiv_eq_ediv_of_nonneg (by omega)
            have hr : ev.tmod 2 = ev % 2 := Int.tmod_eq_emod_of_nonneg (by omega)
            have hw1 : IntKind.i64.wrap (ev / 2) = ev / 2 := IntWalk.i64_in _ (by omega)
            have hw2 : IntKind.i64.wrap (ev % 2) = ev % 2 := IntWalk.i64_in _ (by omega)
            have hes : ev / 2 + ev % 2 = (ev + 1) / 2 := by omega
            have hw3 : IntKind.i64.wrap ((ev + 1) / 2) = (ev + 1) / 2 := IntWalk.i64_in _ (by omega)
            have hmax : (if rv < (ev + 1) / 2 then (ev + 1) / 2 else rv) = max rv ((ev + 1) / 2) := by split <;> omega
            obtain ⟨mv, hmv⟩ : ∃ mv, Hid (max rv ((ev + 1) / 2) = mv) := ⟨_, rfl⟩
            have bmv : 0 ≤ mv ∧ mv ≤ 4294967294 * 100 := by rw [← hmv.out]; omega
            rw [hmv.out] at ht3 hmax
            have hw4 : IntKind.i64.wrap (cost + mv) = cost + mv := IntWalk.i64_in _ (by omega)
            replace ENN := Lib.hid ENN
            replace bI3 := Lib.hid bI3
            go_wp2_with (fail)
            refine ENN.out.mono ?_
            rintro e w4 ⟨rfl, x4⟩
            have Y4 := Lib.hid (Y3.out.tr x4)
            clear x4 c0 c1 c2 c3 c4 c5
            go_wp2_with (fail)
            go_ret2
            rw [ht3.out]
            exact ⟨rfl, Y4.out⟩
end Go.Proofs.Ytcpadkaljnnieaa
namespace Go.Proofs.Ytcpadkaljnnieaa
open Go.RowKit

/-- is an operation's word to be kept over another one's run? not where it is spent (the one alone that wants it has run), nor where it comes behind that one -/
def keepsV (ops : Array Oper) (rem : List (Nat × Option Tmp)) (kill : Nat → List Nat) (i j : Nat) : Bool :=
  decide (i ≠ j) && !(kill j).contains i && (kill j).all (fun k => !reachN ops (rem.map (·.1)) (rem.length + 1) i k) && !reachN ops (rem.map (·.1)) (rem.length + 1) j i
/-- who wants it spends it, or it is not spent -/
def killOk (ops : Array Oper) (rem : List (Nat × Option Tmp)) (kill : Nat → List Nat) : Bool :=
  rem.all fun p => (depsOf ops rem p.1).all fun j => (kill j).all fun k => k == p.1
section
variable {P : Program} {ops : Array Oper} {Q : Exit → Act → World → Prop}
/-- wpAny_core2, with words that are spent -/
theorem wpAny_core3 (rem : List (Nat × Option Tmp)) (kill : Nat → List Nat) (R : World → Prop) (V : Nat → Value → World → Prop) (Stab : Nat → World → World → Prop) {listed0 : Array Bool} (listed1 : Array Bool) (hok : coreOk2 ops listed0 listed1 rem = true) (hkill : killOk ops rem kill = true)
    (stab : ∀ i j v w w', keepsV ops rem kill i j = true → V j v w → Stab i w w' → V j v w')
    {a0 : Act}
    (step : ∀ p ∈ rem, ∀ u w, R w → (∀ j ∈ depsOf ops rem p.1, V j (u j) w) → ∀ K : Act → World → Prop, (∀ v w', V p.1 v w' → R w' → Stab p.1 w w' → K ((putAll a0 rem u).put p.2 v) w') → wpOp P ops Q p.1 K (putAll a0 rem u) w)
    (n : Nat) (done : ∀ u w, R w → (∀ p ∈ rem, kill p.1 = [] → V p.1 (u p.1) w) → wpAny P .any ops Q n listed1 (putAll a0 rem u) w) {w0 : World} (hR : R w0) :
    wpAny P .any ops Q (rem.length + n) listed0 a0 w0 := by
  simp only [coreOk2, Bool.and_eq_true, decide_eq_true_eq] at hok
  obtain ⟨⟨⟨⟨⟨hn, hdn⟩, hsz⟩, hsz1⟩, hall⟩, hcomp⟩ := hok
  have hall := List.all_eq_true.1 hall
  have hcomp := List.all_eq_true.1 hcomp
  have hmem : ∀ i ∈ rem.map (·.1), listed0.getD i true = false ∧ i < ops.size := by
    intro i hi
    obtain ⟨p, hp, rfl⟩ := List.mem_map.1 hi
    have h1 := hall p hp
    have hlt : p.1 < ops.size := by
      rcases Nat.lt_or_ge p.1 ops.size with h | h
      · exact h
      · rw [Array.getElem?_eq_none h] at h1; simp at h1
    have := hcomp p.1 (List.mem_range.2 hlt)
    have hc : (rem.map (·.1)).contains p.1 = true := by simpa using hi
    rw [hc] at this
    simp only [if_true, Bool.and_eq_true, Bool.not_eq_true'] at this
    exact ⟨this.1, hlt⟩
  have hone : ∀ i ∈ rem.map (·.1), listed1.getD i true = true := by
    intro i hi
    have := hcomp i (List.mem_range.2 (hmem i hi).2)
    have hc : (rem.map (·.1)).contains i = true := by simpa using hi
    rw [hc] at this
    simp only [if_true, Bool.and_eq_true] at this
    exact this.2
  have hrest : ∀ i, i < ops.size → i ∉ rem.map (·.1) → listed1.getD i true = listed0.getD i true ∧ ((listed0.getD i true = true ∨ ∀ p ∈ rem, reachN ops (rem.map (·.1)) (rem.length + 1) i p.1 = true) ∨ ∃ o, ops[i]? = some o ∧ ∃ e ∈ o.after.toList, Region.binds .any e = true ∧ e.on < ops.size ∧ listed0.getD e.on true = false ∧ e.on ∉ rem.map (·.1)) := by
    intro i hi hni
    have := hcomp i (List.mem_range.2 hi)
    have hc : (rem.map (·.1)).contains i = false := by
      cases h : (rem.map (·.1)).contains i with
      | false => rfl
      | true => exact absurd (by simpa using h) hni
    rw [hc] at this
    simp only [Bool.false_eq_true, if_false, Bool.and_eq_true, beq_iff_eq, Bool.or_eq_true] at this
    refine ⟨this.1, ?_⟩
    rcases this.2 with (h | h) | h
    · exact .inl (.inl h)
    · exact .inl (.inr fun p hp => List.all_eq_true.1 h p hp)
    · right
      rw [Array.getElem?_eq_getElem hi] at h
      refine ⟨ops[i], Array.getElem?_eq_getElem hi, ?_⟩
      simp only [Array.any_toList.symm, List.any_eq_true, Bool.and_eq_true, decide_eq_true_eq, Bool.not_eq_true'] at h
      obtain ⟨e, he, ⟨⟨h1, h2⟩, h3⟩, h4⟩ := h
      exact ⟨e, he, h1, h2, h3, by simpa using h4⟩
  -- the invariant
  suffices H : ∀ k (listed : Array Bool) (u : Nat → Value) (w : World), listed.size = ops.size → R w → (∀ i, i < ops.size → i ∉ rem.map (·.1) → listed.getD i true = listed0.getD i true) →
      (∀ p ∈ rem, listed.getD p.1 true = true → (∀ k ∈ kill p.1, listed.getD k true = false) → V p.1 (u p.1) w) → (∀ p ∈ rem.map (·.1), listed.getD p true = true → ∀ o, ops[p]? = some o → ∀ e ∈ o.after.toList, Region.binds .any e = true → listed.getD e.on true = true) → openOf listed rem = k → wpAny P .any ops Q (k + n) listed (putAll a0 rem u) w by
    obtain ⟨u, hu⟩ := putAll_self a0 rem hn
    have hopen : openOf listed0 rem = rem.length := by
      unfold openOf
      rw [List.filter_eq_self.2]
      intro p hp
      simp [(hmem p.1 (List.mem_map.2 ⟨p, hp, rfl⟩)).1]
    have h := H rem.length listed0 u w0 hsz hR (fun i hi hni => rfl) (fun p hp hl _ => by
      have := (hmem p.1 (List.mem_map.2 ⟨p, hp, rfl⟩)).1
      rw [this] at hl
      cases hl) (fun p hp hl => by
      rw [(hmem p hp).1] at hl
      cases hl) hopen
    rwa [hu] at h
  intro k
  induction k with
  | zero =>
    intro listed u w hs hRw hout hV hcl hopen
    have hall' : ∀ p ∈ rem, listed.getD p.1 true = true := by
      intro p hp
      simp only [openOf, List.length_eq_zero_iff, List.filter_eq_nil_iff, Bool.not_eq_true', Bool.not_eq_false] at hopen
      exact hopen p hp
    have hl : listed = listed1 := by
      apply Array.ext
      · rw [hs, hsz1]
      · intro i h1 h2
        have : listed.getD i true = listed1.getD i true := by
          by_cases hr : i ∈ rem.map (·.1)
          · rw [hone i hr]
            obtain ⟨p, hp, rfl⟩ := List.mem_map.1 hr
            exact hall' p hp
          · rw [hout i (by omega) hr, (hrest i (by omega) hr).1]
        simpa [Array.getD, h1, h2] using this
    rw [hl, Nat.zero_add]
    exact done u w hRw (fun p hp hk => hV p hp (hall' p hp) (fun k h => by rw [hk] at h; cases h))
  | succ k ih =>
    intro listed u w hs hRw hout hV hcl hopen
    rw [Nat.add_right_comm]
    -- one of the list is not yet listed: none of the others is ready
    have hsome : ∃ p ∈ rem, listed.getD p.1 true = false := by
      have : (rem.filter fun p => !listed.getD p.1 true) ≠ [] := by
        intro h
        simp only [openOf, h, List.length_nil] at hopen
        omega
      obtain ⟨p, hp⟩ := List.exists_mem_of_ne_nil _ this
      obtain ⟨h1, h2⟩ := List.mem_filter.1 hp
      exact ⟨p, h1, by simpa using h2⟩
    have hno : ∀ i, i ∈ Region.ready .any ops listed → i ∈ rem.map (·.1) := by
      intro i hi
      obtain ⟨hi1, hi2⟩ := List.mem_filter.1 hi
      have hilt := List.mem_range.1 hi1
      simp only [Bool.and_eq_true] at hi2
      have hil : listed.getD i true = false := by simpa using hi2.1
      by_cases hr : i ∈ rem.map (·.1)
      · exact hr
      · exfalso
        obtain ⟨h1, h2⟩ := hrest i hilt hr
        rw [hout i hilt hr] at hil
        rcases h2 with (h2 | h2) | h2
        · rw [h2] at hil; cases hil
        rotate_left
        · obtain ⟨o, ho, e, he, hb, hsz2, hl0, hnr⟩ := h2
          have h3 := hi2.2
          rw [ho] at h3
          simp only [Option.map_some, Option.getD_some, Array.all_eq_true_iff_forall_mem] at h3
          have := h3 e (by simpa using he)
          rw [hb] at this
          simp only [Bool.not_true, Bool.false_or] at this
          have hlt : e.on < listed.size := by rw [hs]; exact hsz2
          have e1 : listed.getD e.on false = listed.getD e.on true := by simp only [Array.getD, hlt, dif_pos]
          rw [e1, hout e.on hsz2 hnr, hl0] at this
          cases this
        · obtain ⟨p, hp, hpl⟩ := hsome
          have := reach_listed hcl _ i (ready_deps hi2.2) p.1 (h2 p hp)
          rw [hpl] at this
          cases this
    constructor
    · intro hnil
      -- the least one that is not listed is ready
      exfalso
      have key : ∀ i, i < ops.size → i ∈ rem.map (·.1) → listed.getD i true = true := by
        intro i
        induction i using Nat.strongRecOn with
        | _ i ihi =>
          intro hi hr
          obtain ⟨p, hp, rfl⟩ := List.mem_map.1 hr
          have h1 := hall p hp
          cases hl : listed.getD p.1 true with
          | true => rfl
          | false =>
            exfalso
            have hready : p.1 ∈ Region.ready .any ops listed := by
              refine List.mem_filter.2 ⟨List.mem_range.2 hi, ?_⟩
              rw [Array.getElem?_eq_getElem hi] at h1 ⊢
              simp only [Bool.and_eq_true, beq_iff_eq] at h1
              simp only [hl, Bool.not_false, Option.map_some, Option.getD_some, Bool.true_and]
              rw [Array.all_eq_true_iff_forall_mem] at h1 ⊢
              intro e he
              have := h1.2 e he
              cases hb : Region.binds .any e with
              | false => rfl
              | true =>
                rw [hb] at this
                simp only [Bool.not_true, Bool.false_or, Bool.and_eq_true, decide_eq_true_eq, Bool.or_eq_true] at this
                have hlt : e.on < listed.size := by rw [hs]; omega
                have hh : listed.getD e.on true = true := by
                  rcases this.2 with h | h
                  · exact ihi e.on this.1 (by omega) (by simpa using h)
                  · by_cases hr' : e.on ∈ rem.map (·.1)
                    · exact ihi e.on this.1 (by omega) hr'
                    · rw [hout e.on (by omega) hr']; exact h
                simp only [Array.getD, hlt, dif_pos] at hh ⊢
                simpa using hh
            rw [hnil] at hready
            cases hready
      obtain ⟨p, hp, hpl⟩ := hsome
      have := key p.1 (hmem p.1 (List.mem_map.2 ⟨p, hp, rfl⟩)).2 (List.mem_map.2 ⟨p, hp, rfl⟩)
      rw [this] at hpl
      cases hpl
    · intro i hi
      have hir := hno i hi
      obtain ⟨hi1, hi2⟩ := List.mem_filter.1 hi
      have hilt := List.mem_range.1 hi1
      simp only [Bool.and_eq_true] at hi2
      have hil : listed.getD i true = false := by simpa using hi2.1
      obtain ⟨p, hp, rfl⟩ := List.mem_map.1 hir
      refine step p hp u w hRw ?_ _ ?_
      · intro j hj
        rw [depsOf, Array.getElem?_eq_getElem hilt] at hj
        obtain ⟨e, he, rfl⟩ := List.mem_map.1 hj
        obtain ⟨he1, he2⟩ := List.mem_filter.1 he
        simp only [Bool.and_eq_true] at he2
        have hjr : e.on ∈ rem.map (·.1) := by simpa using he2.2
        obtain ⟨q, hq, hqe⟩ := List.mem_map.1 hjr
        have hjd : e.on ∈ depsOf ops rem p.1 := by
          rw [depsOf, Array.getElem?_eq_getElem hilt]
          exact List.mem_map.2 ⟨e, he, rfl⟩
        have hkj : ∀ k ∈ kill q.1, listed.getD k true = false := by
          intro k hk
          rw [hqe] at hk
          have h9 := List.all_eq_true.1 (List.all_eq_true.1 (List.all_eq_true.1 hkill p hp) e.on hjd) k hk
          obtain rfl : k = p.1 := by simpa using h9
          exact hil
        rw [← hqe]
        refine hV q hq ?_ hkj
        have h3 := hi2.2
        rw [Array.getElem?_eq_getElem hilt] at h3
        simp only [Option.map_some, Option.getD_some, Array.all_eq_true_iff_forall_mem] at h3
        have := h3 e (by simpa using he1)
        rw [he2.1] at this
        simp only [Bool.not_true, Bool.false_or] at this
        rw [hqe]
        have hlt : e.on < listed.size := by rw [hs, ← hqe]; exact (hmem q.1 (List.mem_map.2 ⟨q, hq, rfl⟩)).2
        simp only [Array.getD, hlt, dif_pos] at this ⊢
        simpa using this
      · intro v w' hv hR' hst
        have hpp : (p.1, p.2) ∈ rem := hp
        rw [putAll_upd a0 p.1 p.2 u v rem hn hdn hpp]
        have hset : ∀ j, (listed.setIfInBounds p.1 true).getD j true = if j = p.1 then true else listed.getD j true := by
          intro j
          simp only [Array.getD_eq_getD_getElem?, Array.getElem?_setIfInBounds]
          by_cases hj : p.1 = j
          · subst hj
            simp
            split <;> simp
          · rw [if_neg hj, if_neg (Ne.symm hj)]
        refine ih _ _ _ (by simpa using hs) hR' ?_ ?_ ?_ ?_
        · intro j hj hjr
          have hjp : ¬ j = p.1 := fun e => hjr (by rw [e]; exact List.mem_map.2 ⟨p, hp, rfl⟩)
          rw [hset, if_neg hjp]
          exact hout j hj hjr
        · intro q hq hql hkq
          rw [hset] at hql
          by_cases he : q.1 = p.1
          · rw [he]
            simpa [upd] using hv
          · rw [if_neg he] at hql
            simp only [upd, if_neg he]
            have hk1 : ∀ k ∈ kill q.1, k ≠ p.1 ∧ listed.getD k true = false := by
              intro k hk
              have h9 := hkq k hk
              rw [hset] at h9
              by_cases hkp : k = p.1
              · rw [if_pos hkp] at h9; cases h9
              · rw [if_neg hkp] at h9; exact ⟨hkp, h9⟩
            refine stab p.1 q.1 _ _ _ ?_ (hV q hq hql fun k hk => (hk1 k hk).2) hst
            unfold keepsV
            simp only [Bool.and_eq_true, decide_eq_true_eq, Bool.not_eq_true']
            refine ⟨⟨⟨Ne.symm he, ?_⟩, List.all_eq_true.2 fun k hk => ?_⟩, ?_⟩
            · cases hc : (kill q.1).contains p.1 with
              | false => rfl
              | true => exact absurd rfl (hk1 p.1 (by simpa using hc)).1
            · cases hc : reachN ops (rem.map (·.1)) (rem.length + 1) p.1 k with
              | false => rfl
              | true =>
                have h5 := reach_listed hcl _ p.1 (ready_deps hi2.2) k hc
                rw [(hk1 k hk).2] at h5
                cases h5
            · cases hc : reachN ops (rem.map (·.1)) (rem.length + 1) q.1 p.1 with
              | false => rfl
              | true =>
                have h5 := reach_listed hcl _ q.1 (hcl q.1 (List.mem_map.2 ⟨q, hq, rfl⟩) hql) p.1 hc
                rw [hil] at h5
                cases h5
        · intro q hq hql o ho e he hb
          rw [hset]
          split
          · rfl
          · rw [hset] at hql
            by_cases hqp : q = p.1
            · subst hqp
              exact ready_deps hi2.2 o ho e he hb
            · rw [if_neg hqp] at hql
              exact hcl q hq hql o ho e he hb
        · have hlt : openOf (listed.setIfInBounds p.1 true) rem + 1 = openOf listed rem := by
            unfold openOf
            have h1 : ∀ (qs : List (Nat × Option Tmp)), (qs.map (·.1)).Nodup → p ∈ qs → (qs.filter fun q => !(listed.setIfInBounds p.1 true).getD q.1 true).length + 1 = (qs.filter fun q => !listed.getD q.1 true).length := by
              intro qs hqn hpq
              have heq : ∀ (rs : List (Nat × Option Tmp)), p.1 ∉ rs.map (·.1) → (rs.filter fun q => !(listed.setIfInBounds p.1 true).getD q.1 true) = (rs.filter fun q => !listed.getD q.1 true) := by
                intro rs hrs
                refine List.filter_congr fun q hq => ?_
                have hne : q.1 ≠ p.1 := fun e => hrs (e ▸ List.mem_map.2 ⟨q, hq, rfl⟩)
                rw [hset, if_neg hne]
              induction qs with
              | nil => cases hpq
              | cons r rs ihr =>
                rcases List.mem_cons.1 hpq with rfl | hpq'
                · have := heq rs (List.nodup_cons.1 hqn).1
                  rw [List.filter_cons, List.filter_cons, this, hset, if_pos rfl, hil]
                  simp
                · have ih2 := ihr (List.nodup_cons.1 hqn).2 hpq'
                  have hne : r.1 ≠ p.1 := by
                    intro e
                    exact (List.nodup_cons.1 hqn).1 (List.mem_map.2 ⟨p, hpq', e.symm⟩)
                  rw [List.filter_cons, List.filter_cons, hset, if_neg hne]
                  split <;> (try simp only [List.length_cons]) <;> omega
            exact h1 rem hn hp
          omega
end
theorem VF.stab1 {f : Nat → Option Value} {g : Nat → Value → World → Prop} {j : Nat} {v : Value} {w w' : World} (h : f j = none → g j v w → g j v w') (hv : VF f g j v w) : VF f g j v w' := by
  unfold VF at hv ⊢
  cases hf : f j with
  | none => rw [hf] at hv; exact h hf hv
  | some c => rw [hf] at hv; exact hv
end Go.Proofs.Ytcpadkaljnnieaa
namespace Go.Proofs.Ytcpadkaljnnieaa
open Go.RowKit Go.ChangeShapes Go.WideShapes Go.ChangeAt Go.Deep

theorem count_one {k : Nat} : ∀ {l : List Nat}, l.Nodup → k ∈ l → l.count k = 1
  | [], _, h => by cases h
  | x :: l, hd, h => by
    have hd' := List.nodup_cons.1 hd
    by_cases e : x = k
    · subst e
      rw [List.count_cons_self, List.count_eq_zero.2 hd'.1]
    · rw [List.count_cons_of_ne e]
      rcases List.mem_cons.1 h with h | h
      · exact absurd h.symm e
      · exact count_one hd'.2 h
set_option maxRecDepth 100000 in
set_option maxHeartbeats 2000000 in
theorem perm_yes (P : Option Addr) (c n : Nat) (l : List Nat) (w : World) (hP : RdI w P (intsN l)) (hl : l.Perm (List.range n)) (hn : n ≤ 1000) :
    Calls Try.prog 57 #[.slice P n c, .int .i64 n] w fun e w' => e = .returned (.bool true) ∧ Ext w w' := by
  have hlen : Hid (l.length = n) := by
    have h : l.length = n := by rw [hl.length_eq, List.length_range]
    exact h
  have C1 : Hid (∀ k, k < n → l.count k = 1) := fun k hk => by
    rw [hl.count_eq]
    exact count_one List.nodup_range (List.mem_range.2 hk)
  have ne0 : ((n : Int) != (n : Int)) = false := by simp
  replace hP := Lib.hid hP
  clear hl
  go_enter Try.func57, Try.ntmps57
  go_wp2_with (fail)
  go_loopw [5] (fun v wr => ∃ k : Nat, v = .int .i64 k ∧ k ≤ n ∧ Hid (Ext w wr)) (fun v _ => n - (intOf v).toNat)
  case atStart => exact ⟨0, rfl, by omega, Ext.rf _⟩
  case round =>
    obtain ⟨wo, rfl⟩ : ∃ wo : World, wo = wr := ⟨_, rfl⟩
    obtain ⟨k, rfl, hk, Y⟩ := hrel
    by_cases hkn : k < n
    · have q1 : (k : Int) < (n : Int) := by omega
      have c1 := C1.out k hkn
      replace c1 := Lib.hid c1
      go_wp2_with (fail)
      go_loopw [7, 6] (fun v fv wr => ∃ j : Nat, v = .int .i64 j ∧ fv = .int .i64 ((l.take j).count k : Nat) ∧ j ≤ n ∧ Hid (Ext w wr)) (fun v _ _ => n - (intOf v).toNat)
      case atStart => exact ⟨0, rfl, by rw [List.take_zero, List.count_nil]; rfl, by omega, Y⟩
      case round =>
        obtain ⟨wi, rfl⟩ : ∃ wi : World, wi = wr := ⟨_, rfl⟩
        obtain ⟨j, rfl, rfl, hj, YI⟩ := hrel
        have hcl := List.count_le_length (a := k) (l := l.take j)
        rw [List.length_take] at hcl
        by_cases hjn : j < n
        · have q2 : (j : Int) < (n : Int) := by omega
          have ej : l[j]? = some (l[j]'(by rw [hlen.out]; exact hjn)) := List.getElem?_eq_getElem _
          generalize l[j]'(by rw [hlen.out]; exact hjn) = y at ej
          obtain ⟨pb, po, x, rfl, _, cx, ex, _⟩ := (hP.out.ext YI.out).at (k := j) (by rw [intsN_len, hlen.out]; exact hjn)
          obtain rfl : x = (y : Int) := by
            have h := ex.out
            rw [intsN_get ej] at h
            exact (Option.some.inj h).symm
          have HC : Hid ((l.take (j + 1)).count k = (l.take j).count k + if y = k then 1 else 0) := by
            have h : (l.take (j + 1)).count k = (l.take j).count k + if y = k then 1 else 0 := by
              rw [List.take_add_one, ej, List.count_append]
              simp [List.count_cons]
            exact h
          clear ex ej
          generalize (l.take j).count k = cn at *
          by_cases hyk : y = k
          · subst hyk
            rw [if_pos rfl] at HC
            go_wp2_with (fail)
            go_roundw
            case rel => exact ⟨j + 1, by go_num, by rw [HC.out]; go_num, by omega, YI⟩
            case measure => simp [intOf]; omega
          · have HC2 : Hid ((l.take (j + 1)).count k = cn) := by
              have h := HC.out
              rw [if_neg hyk] at h
              exact h
            clear HC
            have t1 : (y == k) = false := by rw [beq_eq_false_iff_ne]; exact hyk
            have t2 : ((y : Int) == (k : Int)) = false := by rw [beq_eq_false_iff_ne]; omega
            go_wp2_with (fail)
            go_roundw
            case rel => exact ⟨j + 1, by go_num, by rw [HC2.out], by omega, YI⟩
            case measure => simp [intOf]; omega
        · have q2 : ¬ (j : Int) < (n : Int) := by omega
          have e1 : (l.take j).count k = 1 := by
            rw [List.take_of_length_le (by rw [hlen.out]; omega)]
            exact c1.out
          rw [e1]
          clear e1 hcl
          go_wp2_with (fail)
          go_roundw
          case rel => exact ⟨k + 1, by go_num, by omega, YI⟩
          case measure => simp [intOf]; omega
    · have q1 : ¬ (k : Int) < (n : Int) := by omega
      go_wp2_with (fail)
      go_ret
      exact ⟨rfl, Y.out⟩
set_option maxRecDepth 100000 in
set_option maxHeartbeats 4000000 in
theorem cost2_any (i : InstP) (us : List Value) (P : Option Addr) (c : Nat) (l : List Nat) (w : World) (H : RInst w us i) (hc : checkP i = 0) (hk : i.kind = 2) (hP : RdI w P (intsN l)) (hl : l.Perm (List.range i.cost.length)) :
    Calls Try.prog 30 #[.agg (List.toArray us), .slice P i.cost.length c] w fun e w' => e = .returned (.tuple #[.int .i64 (costF i.cost (intsN l)), .int .i64 0]) ∧ Ext w w' := by
  have CH := fun (W : World) (x : Ext w W) => rcheck_any i us W (H.ext x)
  rw [hc] at CH
  have sq := square_ok hc (by omega)
  have rok := rows_ok sq
  have hnn : i.n = (i.cost.length : Int) := sq.len.symm
  have PE := fun (W : World) (x : Ext w W) => perm_yes P c i.cost.length l W (hP.ext x) hl (by have := rok.n2; omega)
  have hlt : Hid (∀ x ∈ l, x < i.cost.length) := fun x hx => List.mem_range.1 (hl.mem_iff.1 hx)
  have hlen : Hid (l.length = i.cost.length) := by
    have h : l.length = i.cost.length := by rw [hl.length_eq, List.length_range]
    exact h
  have n24 := rok.n2
  clear hl hc sq
  obtain ⟨kind, nn, cap, xw, xv, co⟩ := i
  obtain ⟨A, a, B, b, D, d, rfl, -, -, ⟨hC, -, -⟩⟩ := H
  simp only at *
  subst hk hnn
  replace CH := Lib.hid CH
  replace PE := Lib.hid PE
  replace hP := Lib.hid hP
  replace hC := Lib.hid hC
  replace rok := Lib.hid rok
  have B1 : Hid (Blk (w.alloc (.cells #[.int .i64 2, .int .i64 co.length, .int .i64 cap, .slice A xw.length a, .slice B xv.length b, .slice D co.length d] 61)) w.heap.size 61 #[.int .i64 2, .int .i64 co.length, .int .i64 cap, .slice A xw.length a, .slice B xv.length b, .slice D co.length d]) := .new rfl
  go_enter Try.func30, Try.ntmps30
  go_wp2_with (fail)
  refine (CH.out _ (by (repeat (first | assumption | exact Ext.rf _ | apply Ext.drew | apply Ext.drewN | apply Ext.alloc)))).mono ?_
  rintro e w1 ⟨rfl, x1⟩
  have X1 := Lib.hid (Ext.tr (a := w) (by (repeat (first | assumption | exact Ext.rf _ | apply Ext.drew | apply Ext.drewN | apply Ext.alloc))) x1)
  have BB := Lib.hid (B1.out.ext x1)
  have d0 : w1.cell? ⟨w.heap.size, 0, none⟩ = some (.int .i64 2) := BB.out.cell 0
  have d1 : w1.cell? ⟨w.heap.size, 1, none⟩ = some (.int .i64 co.length) := BB.out.cell 1
  clear x1
  go_wp2_with (fail)
  refine (PE.out _ X1.out).mono ?_
  rintro e w2 ⟨rfl, x2⟩
  have X2 := Lib.hid (X1.out.tr x2)
  have BC := Lib.hid (BB.out.ext x2)
  have e0 : w2.cell? ⟨w.heap.size, 0, none⟩ = some (.int .i64 2) := BC.out.cell 0
  clear x2 d0 d1 BB
  go_wp2_with (fail)
  go_loopw [8, 7] (fun v s wr => ∃ (k : Nat) (su : Int), v = .int .i64 k ∧ s = .int .i64 su ∧ k ≤ co.length ∧ Hid (costF co ((intsN l).take k) = su) ∧ Hid (Ext w2 wr)) (fun v _ _ => co.length - (intOf v).toNat)
  case atStart => exact ⟨0, 0, rfl, rfl, by omega, (by cases co <;> rfl : costF co ((intsN l).take 0) = 0), Ext.rf _⟩
  case round =>
    obtain ⟨wo, rfl⟩ : ∃ wo : World, wo = wr := ⟨_, rfl⟩
    obtain ⟨k, su, rfl, rfl, hk, HS, Y⟩ := hrel
    have bdS : Hid (0 ≤ su ∧ su ≤ 2147483647 * 24) := by
      have h1 := costF_bd (B := 2147483647) (rows := co) (p := (intsN l).take k) (by omega) fun row hr c hc => by
        obtain ⟨q, hq, rfl⟩ := List.mem_map.1 (List.mem_of_mem_take hc)
        have := hlt.out q hq
        exact rok.out.get hr (by omega)
      have h2 : ((intsN l).take k).length ≤ 24 := by rw [List.length_take]; omega
      have h : 0 ≤ su ∧ su ≤ 2147483647 * 24 := by
        rw [← HS.out]
        omega
      exact h
    have d0 : wo.cell? ⟨w.heap.size, 0, none⟩ = some (.int .i64 2) := (BC.out.ext Y.out).cell 0
    have d1 : wo.cell? ⟨w.heap.size, 1, none⟩ = some (.int .i64 co.length) := (BC.out.ext Y.out).cell 1
    have d5 : wo.cell? ⟨w.heap.size, 5, none⟩ = some (.slice D co.length d) := (BC.out.ext Y.out).cell 5
    have XW := Lib.hid (X2.out.tr Y.out)
    clear e0
    by_cases hkl : k < co.length
    · obtain ⟨cb, cof, D', row, d', rfl, _, cD, er, _, rD, iD, ld, md⟩ := (hC.out.ext XW.out fun _ _ h => h.ext XW.out).ints hkl
      have hmem := List.mem_of_getElem? er.out
      obtain ⟨pb, po, x, rfl, zp, cp, ep, _⟩ := (hP.out.ext XW.out).at (k := k) (by rw [intsN_len, hlen.out]; exact hkl)
      obtain ⟨q, hq, rfl⟩ := List.mem_map.1 (List.mem_of_getElem? ep.out)
      have hqn := hlt.out q hq
      have lrow := rok.out.row row hmem
      obtain ⟨rb, ro, y, rfl, zy, cy, ey, _⟩ := rD.at (k := q) (by omega)
      have yb := rok.out.get hmem (c := q) (by omega)
      rw [getD_some ey.out] at yb
      have b1 := bdS.out
      have hw : IntKind.i64.wrap (su + y) = su + y := IntWalk.i64_in _ (by omega)
      have HS2 : Hid (costF co ((intsN l).take (k + 1)) = su + y) := by
        have h : costF co ((intsN l).take (k + 1)) = su + y := by
          rw [costF_snoc er.out ep.out, HS.out, Int.toNat_natCast, getD_some ey.out]
        exact h
      have q1 : (k : Int) < (co.length : Int) := by omega
      have q3 : (q : Int) < (row.length : Int) := by omega
      clear er ep ey lrow b1 yb HS hq rD hmem
      go_wp2_with (fail)
      go_quiet (fail)
      go_wp2_with (fail)
      go_roundw
      case rel => exact ⟨k + 1, su + y, by go_num, rfl, by omega, HS2, Y.out.drewN _⟩
      case measure => simp [intOf]; omega
    · have q1 : ¬ (k : Int) < (co.length : Int) := by omega
      have HS2 : Hid (costF co (intsN l) = su) := by
        have h := HS.out
        rw [List.take_of_length_le (by rw [intsN_len, hlen.out]; omega)] at h
        exact h
      go_wp2_with (fail)
      go_ret2
      rw [HS2.out]
      exact ⟨rfl, XW.out⟩
set_option maxRecDepth 100000 in
theorem ibs0_run (u : World) : (Instr.buildSlice 22 0 #[]).run Try.prog u = .ok (.slice (some ⟨u.heap.size, 0, none⟩) 0 0) (u.alloc (.cells #[] 3)) := by go_simp
set_option maxRecDepth 100000 in
theorem ibs1_run (u : World) (x : Int) : (Instr.buildSlice 22 1 #[(0, .int .i64 x)]).run Try.prog u = .ok (.slice (some ⟨u.heap.size, 0, none⟩) 1 1) (u.alloc (.cells #[.int .i64 x] 3)) := by go_simp
/-- the columns that are left from k on -/
def restF (m n k : Nat) : List Nat := ((List.range n).drop k).filter fun c => m.testBit c
theorem restF_step {m n k : Nat} (h : k < n) : restF m n k = if m.testBit k = true then k :: restF m n (k + 1) else restF m n (k + 1) := by
  unfold restF
  have h' : k < (List.range n).length := by rw [List.length_range]; exact h
  rw [List.drop_eq_getElem_cons h', List.getElem_range, List.filter_cons]
set_option maxRecDepth 100000 in
set_option maxHeartbeats 8000000 in
theorem best2_more (i : InstP) (us : List Value) (P : Option Addr) (c : Nat) (l : List Nat) (w : World) (H : RInst w us i) (hk2 : i.kind = 2) (hP : RdI w P (intsN l)) (n m : Nat) (hn : i.n = n) (hn24 : n ≤ 24) (hlen : l.length < n) (bs : Int) (f : Int → Int)
    (hused : ∀ k, k < n → (m.testBit k = true ↔ k ∉ l)) (e5 : leastF f (-1) (intsN (restF m n 0)) = bs) (fpos : ∀ k, k < n → m.testBit k = true → 0 ≤ f (k : Int))
    (IH3 : ∀ (k : Nat) (A : Option Addr) (d : Nat) (q : List Int), k < n → m.testBit k = true → q = intsN l ++ [(k : Int)] → ∀ W : World, Ext w W → RdI W A q → Calls Try.prog 32 #[.agg (List.toArray us), .slice A q.length d] W fun e w' => e = .returned (.int .i64 (f k)) ∧ Ext W w') :
    Calls Try.prog 32 #[.agg (List.toArray us), .slice P l.length c] w fun e w' => e = .returned (.int .i64 bs) ∧ Ext w w' := by
  obtain ⟨kind, nn, cap, xw, xv, co⟩ := i
  obtain ⟨A, a, B, b, D, d, rfl, -, -, -⟩ := H
  simp only at *
  subst hk2 hn
  replace IH3 := Lib.hid IH3
  replace e5 := Lib.hid e5
  replace hP := Lib.hid hP
  replace hused := Lib.hid hused
  replace fpos := Lib.hid fpos
  have hne : ((l.length : Int) == (n : Int)) = false := by rw [beq_eq_false_iff_ne]; omega
  have B1 : Hid (Blk (w.alloc (.cells #[.int .i64 2, .int .i64 n, .int .i64 cap, .slice A xw.length a, .slice B xv.length b, .slice D co.length d] 61)) w.heap.size 61 #[.int .i64 2, .int .i64 n, .int .i64 cap, .slice A xw.length a, .slice B xv.length b, .slice D co.length d]) := .new rfl
  have X0 : Hid (Ext w (w.alloc (.cells #[.int .i64 2, .int .i64 n, .int .i64 cap, .slice A xw.length a, .slice B xv.length b, .slice D co.length d] 61))) := (Ext.rf _).alloc _
  obtain ⟨w1, hw1⟩ : ∃ w1, w1 = (w.alloc (.cells #[.int .i64 2, .int .i64 n, .int .i64 cap, .slice A xw.length a, .slice B xv.length b, .slice D co.length d] 61)) := ⟨_, rfl⟩
  have B2 : Hid (Blk w1 w.heap.size 61 #[.int .i64 2, .int .i64 n, .int .i64 cap, .slice A xw.length a, .slice B xv.length b, .slice D co.length d]) := by rw [hw1]; exact B1.out
  have X1 : Hid (Ext w w1) := by rw [hw1]; exact X0.out
  replace hw1 := Lib.hid hw1
  clear B1
  go_enter Try.func32, Try.ntmps32
  go_wp2_with (fail)
  rw [← hw1.out]
  clear X0
  go_loopw [9, 7] (fun v bv wr => ∃ (k : Nat) (bb : Int), v = .int .i64 k ∧ bv = .int .i64 bb ∧ k ≤ n ∧ Hid (leastF f bb (intsN (restF m n k)) = bs) ∧ Hid (Ext w1 wr)) (fun v _ _ => n - (intOf v).toNat)
  case atStart => exact ⟨0, -1, rfl, rfl, by omega, e5, Ext.rf _⟩
  case round =>
    obtain ⟨wo, rfl⟩ : ∃ wo : World, wo = wr := ⟨_, rfl⟩
    obtain ⟨k, bb, rfl, rfl, hk, HS, Y⟩ := hrel
    by_cases hlt : k < n
    · have HN : Hid (leastF f bb (intsN (if m.testBit k = true then k :: restF m n (k + 1) else restF m n (k + 1))) = bs) := by
        have h := HS.out
        rw [restF_step hlt] at h
        exact h
      have q1 : (k : Int) < (n : Int) := by omega
      have B3 := B2.out.ext Y.out
      have zb3 := B3.lt
      have c0 : wo.cell? ⟨w.heap.size, 0, none⟩ = some (.int .i64 2) := B3.cell 0
      have HU := hused.out k hlt
      replace HU := Lib.hid HU
      replace B3 := Lib.hid B3
      clear HS
      go_wp2_with (fail)
      go_loopw [11, 10] (fun v uv wr => ∃ j : Nat, v = .int .i64 j ∧ uv = .bool ((l.take j).contains k) ∧ j ≤ l.length ∧ wr = wo) (fun v _ _ => l.length - (intOf v).toNat)
      case atStart => exact ⟨0, rfl, rfl, by omega, rfl⟩
      case round =>
        obtain ⟨j, rfl, rfl, hj, hwr⟩ := hrel
        have hwr' : wo = wr := (show wr = wo from hwr).symm
        clear hwr
        subst hwr'
        by_cases hjl : j < l.length
        · have q2 : (j : Int) < (l.length : Int) := by omega
          have ej : l[j]? = some l[j] := List.getElem?_eq_getElem hjl
          generalize l[j] = y at ej
          obtain ⟨pb, po, x, rfl, _, cx, ex, _⟩ := (hP.out.ext (X1.out.tr Y.out)).at (k := j) (by rw [intsN_len]; exact hjl)
          obtain rfl : x = (y : Int) := by
            have h := ex.out
            rw [intsN_get ej] at h
            exact (Option.some.inj h).symm
          have HC : Hid ((l.take (j + 1)).contains k = ((l.take j).contains k || (y == k))) := by
            have h : (l.take (j + 1)).contains k = ((l.take j).contains k || (y == k)) := by
              rw [List.take_add_one, ej, Bool.eq_iff_iff, Bool.or_eq_true, List.contains_iff_mem, List.contains_iff_mem, beq_iff_eq]
              show k ∈ l.take j ++ [y] ↔ _
              rw [List.mem_append, List.mem_singleton]
              exact ⟨fun h => h.imp id Eq.symm, fun h => h.imp id Eq.symm⟩
            exact h
          clear ex ej
          cases hb : (l.take j).contains k with
          | true =>
            have HC2 : Hid ((l.take (j + 1)).contains k = true) := by
              have h := HC.out
              rw [hb, Bool.true_or] at h
              exact h
            clear HC hb
            go_wp2_with (fail)
            go_roundw
            case rel => exact ⟨j + 1, by go_num, by rw [HC2.out], by omega, by first | exact rfl | exact trivial⟩
            case measure => simp [intOf]; omega
          | false =>
            obtain ⟨yk, hyk⟩ : ∃ yk, Hid ((y == k) = yk) := ⟨_, rfl⟩
            have HC2 : Hid ((l.take (j + 1)).contains k = yk) := by
              have h := HC.out
              rw [hb, Bool.false_or, hyk.out] at h
              exact h
            have t1 : (y == k) = yk := hyk.out
            have t2 : ((y : Int) == (k : Int)) = yk := by
              rw [← hyk.out, Bool.eq_iff_iff, beq_iff_eq, beq_iff_eq]
              omega
            clear HC hb
            go_wp2_with (fail)
            go_roundw
            case rel => exact ⟨j + 1, by go_num, by rw [HC2.out], by omega, by first | exact rfl | exact trivial⟩
            case measure => simp [intOf]; omega
        · have q2 : ¬ (j : Int) < (l.length : Int) := by omega
          rw [List.take_of_length_le (by omega)]
          cases hb : m.testBit k with
          | false =>
            have hu : l.contains k = true := by
              rw [List.contains_iff_mem]
              cases hd : decide (k ∈ l) with
              | true => exact of_decide_eq_true hd
              | false =>
                have := HU.out.2 (of_decide_eq_false hd)
                rw [hb] at this
                cases this
            have HN2 : Hid (leastF f bb (intsN (restF m n (k + 1))) = bs) := by
              have h := HN.out
              rw [hb, if_neg (by simp)] at h
              exact h
            rw [hu]
            clear HN hb hu
            go_wp2_with (fail)
            go_roundw
            case rel => exact ⟨k + 1, bb, by go_num, rfl, by omega, HN2, Y⟩
            case measure => simp [intOf]; omega
          | true =>
            have hu : l.contains k = false := by
              cases hd : l.contains k with
              | false => rfl
              | true => exact absurd (List.contains_iff_mem.1 hd) (HU.out.1 hb)
            have HN2 : Hid (leastF f (if bb < 0 then f (k : Int) else if f (k : Int) < bb then f (k : Int) else bb) (intsN (restF m n (k + 1))) = bs) := by
              have h := HN.out
              rw [hb, if_pos rfl] at h
              exact h
            have IHk := Lib.hid (fun (A : Option Addr) (d : Nat) (q : List Int) (hq : q = intsN l ++ [(k : Int)]) => IH3.out k A d q hlt hb hq)
            have fk := fpos.out k hlt hb
            rw [hu]
            generalize f (k : Int) = fv at *
            clear HN hb hu HU
            have c1' : wo.cell? ⟨w.heap.size, 1, none⟩ = some (.int .i64 n) := B3.out.cell 1
            have c2 : wo.cell? ⟨w.heap.size, 2, none⟩ = some (.int .i64 cap) := B3.out.cell 2
            have c3 : wo.cell? ⟨w.heap.size, 3, none⟩ = some (.slice A xw.length a) := B3.out.cell 3
            have c4 : wo.cell? ⟨w.heap.size, 4, none⟩ = some (.slice B xv.length b) := B3.out.cell 4
            have c5 : wo.cell? ⟨w.heap.size, 5, none⟩ = some (.slice D co.length d) := B3.out.cell 5
            obtain ⟨q, hq⟩ : ∃ q, Hid (q = intsN l ++ [(k : Int)]) := ⟨_, rfl⟩
            have lq : q.length = l.length + 1 := by rw [hq.out]; simp [intsN]
            go_upto_region 19 with (fail)
            refine wp_region_any (by kernel_rfl) ?_
            change wpAny _ _ _ _ _ _ _ (World.drew _)
            refine wpAny_T (i := 2) (op := Op.move (Operand.tmp 1)) (t := 22) (d := some 74) (v := ?_) rfl (by decide +kernel) (by decide +kernel) (by decide +kernel) (fun _ _ _ h => h) ?_ ?_
            case refine_2 => (intro _; unfold exec2; go_simp; try with_reducible rfl)
            try simp only [Act.put, List.setIfInBounds_toArray, List.set_cons_zero, List.set_cons_succ]
            refine wpAny_T (i := 4) (op := Op.move (Operand.tmp 9)) (t := 3) (d := some 76) (v := ?_) rfl (by decide +kernel) (by decide +kernel) (by decide +kernel) (fun _ _ _ h => h) ?_ ?_
            case refine_2 => (intro _; unfold exec2; go_simp; try with_reducible rfl)
            try simp only [Act.put, List.setIfInBounds_toArray, List.set_cons_zero, List.set_cons_succ]
            refine wpAny_core3 (n := 2) [(0, some 72), (1, some 73), (3, some 75), (5, some 77), (6, some 78)] (fun | 1 => [3] | 3 => [6] | 5 => [6] | _ => []) (Ext wo)
              (VF (fun | 0 => some (.agg #[.int .i64 2, .int .i64 n, .int .i64 cap, .slice A xw.length a, .slice B xv.length b, .slice D co.length d]) | _ => none)
                (fun j v W => (j = 1 → ∃ g, v = .slice (some ⟨g, 0, none⟩) 0 0 ∧ wo.heap.size ≤ g ∧ Blk W g 3 #[]) ∧ (j = 3 → ∃ A c, v = .slice A (intsN l).length c ∧ OwI W wo.heap.size A c (intsN l)) ∧ (j = 5 → ∃ h, v = .slice (some ⟨h, 0, none⟩) 1 1 ∧ Blk W h 3 #[.int .i64 (k : Int)]) ∧ (j = 6 → ∃ A c, v = .slice A q.length c ∧ OwI W wo.heap.size A c q)))
              (fun i W W' => i ≠ 6 → Ext W W') #[true, true, true, true, true, true, true, false, false] (by kernel_rfl) (by kernel_rfl) ?_ ?_ ?_ ((Ext.rf _).drew)
            · intro i j v W W' hkp hv hs
              refine VF.stab1 (fun _ ⟨g1, g3, g8, g9⟩ => ?_) hv
              by_cases hi : i = 6
              · subst hi
                refine ⟨fun h => ?_, fun h => ?_, fun h => ?_, fun h => ?_⟩
                all_goals (subst h; exact absurd hkp (by decide +kernel))
              · have hx := hs hi
                refine ⟨fun h => ?_, fun h => ?_, fun h => ?_, fun h => ?_⟩
                · obtain ⟨g, q1, q2, q3⟩ := g1 h
                  exact ⟨g, q1, q2, q3.ext hx⟩
                · obtain ⟨A', c', q1, q2⟩ := g3 h
                  exact ⟨A', c', q1, q2.ext hx⟩
                · obtain ⟨h', q1, q2⟩ := g8 h
                  exact ⟨h', q1, q2.ext hx⟩
                · obtain ⟨A', c', q1, q2⟩ := g9 h
                  exact ⟨A', c', q1, q2.ext hx⟩
            · intro pq hpm u W hRW hD K hK
              have z2 := hRW.size
              simp only [List.mem_cons, List.not_mem_nil, or_false] at hpm
              rcases hpm with rfl | rfl | rfl | rfl | rfl
              · have r0 := keepEL hRW zb3 c0
                have r1 := keepEL hRW zb3 c1'
                have r2 := keepEL hRW zb3 c2
                have r3 := keepEL hRW zb3 c3
                have r4 := keepEL hRW zb3 c4
                have r5 := keepEL hRW zb3 c5
                exact op_ld (T := 61) rfl (.pointer (some ⟨w.heap.size, 0, none⟩)) (by kernel_rfl) (.agg #[.int .i64 2, .int .i64 n, .int .i64 cap, .slice A xw.length a, .slice B xv.length b, .slice D co.length d]) (by go_simp) (hK _ _ (VF.mk rfl) hRW (fun _ => Ext.rf _))
              · exact op_bs0 rfl _ (ibs0_run _) (hK _ _ (VF.mg rfl ⟨fun _ => ⟨_, rfl, z2, .new rfl⟩, (fun h => by cases h), (fun h => by cases h), (fun h => by cases h)⟩) (hRW.alloc _) (fun _ => (Ext.rf _).alloc _))
              · obtain ⟨g, h1, zg, bg⟩ := ((hD 1 (depIn (by kernel_rfl))).g rfl).1 rfl
                obtain ⟨A3, c3, w3, hr3, o3, x3⟩ := run_copy_i W wo.heap.size 22 g (intsN l) P c bg zg (hP.out.ext ((X1.out.tr Y.out).tr hRW)) (by rw [intsN_len]; omega)
                exact op_app rfl (.slice (some ⟨g, 0, none⟩) 0 0) (.slice P (intsN l).length c) (Eq.trans (b := u 1) (by kernel_rfl) h1) (by rw [intsN_len]; kernel_rfl) _ hr3 (hK _ _ (VF.mg rfl ⟨(fun h => by cases h), fun _ => ⟨A3, c3, rfl, o3⟩, (fun h => by cases h), (fun h => by cases h)⟩) (hRW.tr x3) (fun _ => x3))
              · exact op_bs1 rfl (.int .i64 (k : Int)) (by kernel_rfl) _ (ibs1_run _ _) (hK _ _ (VF.mg rfl ⟨(fun h => by cases h), (fun h => by cases h), fun _ => ⟨_, rfl, .new rfl⟩, (fun h => by cases h)⟩) (hRW.alloc _) (fun _ => (Ext.rf _).alloc _))
              · obtain ⟨A3, c3', h3, o3⟩ := ((hD 3 (depIn (by kernel_rfl))).g rfl).2.1 rfl
                obtain ⟨g8, h8, b8⟩ := ((hD 5 (depIn (by kernel_rfl))).g rfl).2.2.1 rfl
                obtain ⟨A7, c7, w7, hrun, o7, g7, -⟩ := run_app_i W wo.heap.size 22 A3 (intsN l).length c3' (intsN l) [(k : Int)] (some ⟨g8, 0, none⟩) 1 rfl o3 (.blk b8 rfl) (by rw [intsN_len]; simp; omega) hRW.size
                have x7 : Ext wo w7 := hRW.grow g7 (fun k hk => (o3.lt k hk).1)
                rw [← hq.out] at hrun o7
                exact op_app rfl (.slice A3 (intsN l).length c3') (.slice (some ⟨g8, 0, none⟩) 1 1) (Eq.trans (b := u 3) (by kernel_rfl) h3) (Eq.trans (b := u 5) (by kernel_rfl) h8) _ hrun (hK _ _ (VF.mg rfl ⟨(fun h => by cases h), (fun h => by cases h), (fun h => by cases h), fun _ => ⟨A7, c7, rfl, o7⟩⟩) x7 (fun h => absurd rfl h))
            · intro u w7 hRW hV
              have h0 := (hV (0, some 72) (by simp) rfl).k rfl
              obtain ⟨A7, c7, h9, o7⟩ := ((hV (6, some 78) (by simp) rfl).g rfl).2.2.2 rfl
              simp only [putAll, h0, h9]
              have rq := Lib.hid o7.read
              have x7 := Lib.hid hRW
              clear h0 h9 hV o7 hRW
              try simp only [Act.put, List.setIfInBounds_toArray, List.set_cons_zero, List.set_cons_succ]
              refine wpAny_next 7 (by decide +kernel) (op_call (f := 32) (xs := #[Operand.tmp 72, Operand.tmp 78]) (ts := #[61, 22]) (t := 3) (d := some 79) rfl #[.agg #[.int .i64 2, .int .i64 n, .int .i64 cap, .slice A xw.length a, .slice B xv.length b, .slice D co.length d], .slice A7 q.length c7] (by go_simp) (by kernel_rfl) _ (IHk.out A7 c7 q hq.out w7 (X1.out.tr (Y.out.tr x7.out)) rq.out) ?_)
              rintro e w8 ⟨rfl, x8⟩
              refine ⟨_, rfl, ?_⟩
              try simp only [Act.put, List.setIfInBounds_toArray, List.set_cons_zero, List.set_cons_succ]
              refine wpAny_T (i := 8) (op := Op.assign (Operand.tmp 79)) (t := 3) (d := some 12) (v := ?_) rfl (by decide +kernel) (by decide +kernel) (by decide +kernel) (fun _ _ _ h => h) ?_ ?_
              case refine_2 => (intro _; unfold exec2; go_simp; try with_reducible rfl)
              try simp only [Act.put, List.setIfInBounds_toArray, List.set_cons_zero, List.set_cons_succ]
              refine wpAny_done (by kernel_rfl) ?_ _
              have Y8 := Lib.hid (Y.out.tr (x7.out.tr x8))
              clear x8 x7 rq c0 c1' c2 c3 c4 c5
              go_simp
              by_cases hbb : bb < 0
              · rw [if_pos hbb] at HN2
                go_wp2_with (fail)
                go_roundw
                case rel => exact ⟨k + 1, fv, by go_num, rfl, by omega, HN2, Y8⟩
                case measure => simp [intOf]; omega
              · rw [if_neg hbb] at HN2
                by_cases hfb : fv < bb
                · rw [if_pos hfb] at HN2
                  go_wp2_with (fail)
                  go_roundw
                  case rel => exact ⟨k + 1, fv, by go_num, rfl, by omega, HN2, Y8⟩
                  case measure => simp [intOf]; omega
                · rw [if_neg hfb] at HN2
                  go_wp2_with (fail)
                  go_roundw
                  case rel => exact ⟨k + 1, bb, by go_num, rfl, by omega, HN2, Y8⟩
                  case measure => simp [intOf]; omega
    · obtain rfl : k = n := by omega
      have q1 : ¬ (k : Int) < (k : Int) := by omega
      have HN : Hid (bb = bs) := by
        have h := HS.out
        unfold restF at h
        rw [List.drop_of_length_le (by rw [List.length_range]; omega)] at h
        exact h
      obtain rfl := HN.out
      go_wp2_with (fail)
      go_ret
      exact ⟨rfl, X1.out.tr Y.out⟩
set_option maxRecDepth 100000 in
set_option maxHeartbeats 2000000 in
theorem best2_whole (i : InstP) (us : List Value) (P : Option Addr) (c : Nat) (l : List Nat) (w : World) (H : RInst w us i) (hc : checkP i = 0) (hk : i.kind = 2) (hP : RdI w P (intsN l)) (hl : l.Perm (List.range i.cost.length)) :
    Calls Try.prog 32 #[.agg (List.toArray us), .slice P (intsN l).length c] w fun e w' => e = .returned (.int .i64 (costF i.cost (intsN l))) ∧ Ext w w' := by
  have CO := fun (W : World) (x : Ext w W) => cost2_any i us P c l W (H.ext x) hc hk (hP.ext x) hl
  have hll : l.length = i.cost.length := by rw [hl.length_eq, List.length_range]
  have hnn : i.n = (i.cost.length : Int) := (square_ok hc (by omega)).len.symm
  rw [intsN_len, hll]
  generalize costF i.cost (intsN l) = cv at *
  clear hll hl hP hc
  obtain ⟨kind, nn, cap, xw, xv, co⟩ := i
  obtain ⟨A, a, B, b, D, d, rfl, -, -, -⟩ := H
  simp only at *
  subst hk hnn
  replace CO := Lib.hid CO
  have hb : ((co.length : Int) == (co.length : Int)) = true := by simp
  go_enter Try.func32, Try.ntmps32
  go_wp2_with (fail)
  refine (CO.out _ (by (repeat (first | assumption | exact Ext.rf _ | apply Ext.drew | apply Ext.drewN | apply Ext.alloc)))).mono ?_
  rintro e w1 ⟨rfl, x1⟩
  have X1 := Lib.hid (Ext.tr (a := w) (by (repeat (first | assumption | exact Ext.rf _ | apply Ext.drew | apply Ext.drewN | apply Ext.alloc))) x1)
  clear x1
  go_wp2_with (fail)
  go_ret
  exact ⟨rfl, X1.out⟩
theorem memsM_bits {n m : Nat} (h : SubN n m) (hn : n ≤ 64) {k : Nat} (hk : k < n) : k ∈ memsM m ↔ m.testBit k = true := by
  rw [memsM_mem]
  exact ⟨fun h => h.2, fun h => ⟨by omega, h⟩⟩
theorem best2_any (i : InstP) (us : List Value) (hc : checkP i = 0) (hk : i.kind = 2) : ∀ (f : Nat) (P : Option Addr) (c : Nat) (p : List Int) (m : Nat) (w : World), freeP i.cost.length p = some m → f = i.cost.length - p.length → RInst w us i → RdI w P p →
    Calls Try.prog 32 #[.agg (List.toArray us), .slice P p.length c] w fun e w' => e = .returned (.int .i64 (bestA i.cost i.cost.length f p)) ∧ Ext w w'
  | 0, P, c, p, m, w => fun hp hf H hP => by
    have sq := square_ok hc (by omega)
    have rok := rows_ok sq
    have hlen := freeP_len rok.n2 hp
    obtain ⟨l, rfl, hl⟩ := whole_cols rok.n2 hp (by omega)
    have hll : l.length = i.cost.length := by rw [hl.length_eq, List.length_range]
    exact best2_whole i us P c l w H hc hk hP hl
  | f + 1, P, c, p, m, w => fun hp hf H hP => by
    have sq := square_ok hc (by omega)
    have rok := rows_ok sq
    have h24 := rok.n2
    have hlen := freeP_len h24 hp
    obtain ⟨_, _, hsub⟩ := freeP_in h24 hp
    obtain ⟨l, rfl, h1, h2, h3⟩ := freeP_cols h24 hp
    have hmem : ∀ k, k < i.cost.length → (k ∈ memsM m ↔ m.testBit k = true) := fun k hk => memsM_bits hsub (by omega) hk
    rw [intsN_len] at hlen hf ⊢
    refine best2_more i us P c l w H hk hP i.cost.length m sq.len.symm h24 (by omega) _ (fun x => bestA i.cost i.cost.length f (intsN l ++ [x])) (fun k hk => ?_) ?_ (fun k hk hb => ?_) ?_
    · rw [← hmem k hk, h3 k]
      exact ⟨fun h => h.2, fun h => ⟨hk, h⟩⟩
    · have e : restF m i.cost.length 0 = memsM m := by
        unfold restF
        rw [List.drop_zero, ← memsM_range hsub (by omega)]
      rw [e]
      show _ = leastF _ (-1) (match freeP i.cost.length (intsN l) with | none => [] | some m => intsN (memsM m))
      rw [hp]
    · have hs := freeP_snoc h24 hp ((hmem k hk).2 hb)
      have h4 := bounda_below rok hs
      rw [show i.cost.length - (intsN l ++ [(k : Int)]).length = f by rw [List.length_append, intsN_len, List.length_singleton]; omega] at h4
      omega
    · rintro k A d q hkn hb rfl W x hq
      have hs := freeP_snoc h24 hp ((hmem k hkn).2 hb)
      exact best2_any i us hc hk f A d _ _ W hs (by rw [List.length_append, intsN_len, List.length_singleton]; omega) (H.ext x) hq
end Go.Proofs.Ytcpadkaljnnieaa
namespace Go.Proofs.Ytcpadkaljnnieaa
open Go.RowKit Go.ChangeShapes Go.WideShapes Go.ChangeAt Go.Deep

set_option maxRecDepth 100000 in
set_option maxHeartbeats 8000000 in
theorem cost3_any (i : InstP) (us : List Value) (P : Option Addr) (c : Nat) (q : List Nat) (w : World) (H : RInst w us i) (hc : checkP i = 0) (hk : i.kind = 3) (hP : RdI w P (intsN (0 :: q))) (hl : (0 :: q).Perm (List.range i.cost.length)) :
    Calls Try.prog 30 #[.agg (List.toArray us), .slice P i.cost.length c] w fun e w' => e = .returned (.tuple #[.int .i64 (pathT i.cost 0 q), .int .i64 0]) ∧ Ext w w' := by
  have CH := fun (W : World) (x : Ext w W) => rcheck_any i us W (H.ext x)
  rw [hc] at CH
  have sq := square_ok hc (by omega)
  have rok := rows_ok sq
  have hnn : i.n = (i.cost.length : Int) := sq.len.symm
  have PE := fun (W : World) (x : Ext w W) => perm_yes P c i.cost.length (0 :: q) W (hP.ext x) hl (by have := rok.n2; omega)
  have hlt : Hid (∀ x ∈ 0 :: q, x < i.cost.length) := fun x hx => List.mem_range.1 (hl.mem_iff.1 hx)
  have hlen : Hid ((0 :: q).length = i.cost.length) := by
    have h : (0 :: q).length = i.cost.length := by rw [hl.length_eq, List.length_range]
    exact h
  have n24 := rok.n2
  have n1 := rok.n1
  clear hl hc sq
  obtain ⟨kind, nn, cap, xw, xv, co⟩ := i
  obtain ⟨A, a, B, b, D, d, rfl, -, -, ⟨hC, -, -⟩⟩ := H
  simp only at *
  subst hk hnn
  obtain ⟨cb, cof, _, _, _, rfl, _, _⟩ := cost_at rok hC (r := 0) (c := 0) (by omega) (by omega)
  have num := ends_num rok
  have CA := Lib.hid (fun (W : World) (x : Ext w W) (r c : Nat) (hr : r < co.length) (hc : c < co.length) => cost_in rok (hC.ext x fun _ _ h => h.ext x) hr hc)
  obtain ⟨tot, htot⟩ : ∃ tot, Hid (pathT co 0 q = tot) := ⟨_, rfl⟩
  rw [htot.out]
  have bt : 0 ≤ tot ∧ tot ≤ 2147483647 * 24 := by
    have h1 := pathT_bd num q 0 (by omega) fun x hx => hlt.out x (by simp [hx])
    have h2 := hlen.out
    rw [List.length_cons] at h2
    rw [htot.out] at h1
    omega
  have START : Hid ((0 : Int) + restW co ((0 :: q).drop 0) = tot) := by
    have h : (0 : Int) + restW co ((0 :: q).drop 0) = tot := by rw [← htot.out]; simp [restW]
    exact h
  obtain ⟨l, hll⟩ : ∃ l, Hid (0 :: q = l) := ⟨_, rfl⟩
  have h00 : Hid (l[0]? = some 0) := by
    have h : l[0]? = some 0 := by rw [← hll.out]; rfl
    exact h
  rw [hll.out] at hP hlt hlen START
  obtain ⟨pb, po, x0, rfl, zp0, cp0, ep0, _⟩ := hP.at (k := 0) (by rw [intsN_len, hlen.out]; omega)
  obtain rfl : x0 = 0 := by
    have h := ep0.out
    rw [intsN_get h00.out] at h
    exact (Option.some.inj h).symm
  replace cp0 : w.cell? ⟨pb, po, none⟩ = some (.int .i64 0) := cp0
  have DR : Hid (∀ k, k < co.length → ∃ u, l[k]? = some u ∧ u < co.length ∧ l.drop k = u :: l.drop (k + 1)) := fun k hk => by
    have h : k < l.length := by rw [hlen.out]; exact hk
    exact ⟨l[k], List.getElem?_eq_getElem h, hlt.out _ (List.getElem_mem h), List.drop_eq_getElem_cons h⟩
  replace CH := Lib.hid CH
  replace PE := Lib.hid PE
  replace hP := Lib.hid hP
  replace hC := Lib.hid hC
  replace rok := Lib.hid rok
  replace num := Lib.hid num
  have B1 : Hid (Blk (w.alloc (.cells #[.int .i64 3, .int .i64 co.length, .int .i64 cap, .slice A xw.length a, .slice B xv.length b, .slice (some ⟨cb, cof, none⟩) co.length d] 61)) w.heap.size 61 #[.int .i64 3, .int .i64 co.length, .int .i64 cap, .slice A xw.length a, .slice B xv.length b, .slice (some ⟨cb, cof, none⟩) co.length d]) := .new rfl
  have q00 : (0 : Int) < (co.length : Int) := by omega
  clear ep0
  go_enter Try.func30, Try.ntmps30
  go_wp2_with (fail)
  refine (CH.out _ (by (repeat (first | assumption | exact Ext.rf _ | apply Ext.drew | apply Ext.drewN | apply Ext.alloc)))).mono ?_
  rintro e w1 ⟨rfl, x1⟩
  have X1 := Lib.hid (Ext.tr (a := w) (by (repeat (first | assumption | exact Ext.rf _ | apply Ext.drew | apply Ext.drewN | apply Ext.alloc))) x1)
  have BB := Lib.hid (B1.out.ext x1)
  have d0 : w1.cell? ⟨w.heap.size, 0, none⟩ = some (.int .i64 3) := BB.out.cell 0
  have d1 : w1.cell? ⟨w.heap.size, 1, none⟩ = some (.int .i64 co.length) := BB.out.cell 1
  clear x1
  go_wp2_with (fail)
  refine (PE.out _ X1.out).mono ?_
  rintro e w2 ⟨rfl, x2⟩
  have X2 := Lib.hid (X1.out.tr x2)
  have BC := Lib.hid (BB.out.ext x2)
  have e0 : w2.cell? ⟨w.heap.size, 0, none⟩ = some (.int .i64 3) := BC.out.cell 0
  have e2 : w2.cell? ⟨pb, po, none⟩ = some (.int .i64 0) := keepEL X2.out zp0 cp0
  clear x2 d0 d1 BB
  go_wp2_with (fail)
  go_loopw [8, 7] (fun v s wr => ∃ (k : Nat) (su : Int), v = .int .i64 k ∧ s = .int .i64 su ∧ k ≤ co.length ∧ Hid (0 ≤ su ∧ su + restW co (l.drop k) = tot) ∧ Hid (Ext w2 wr)) (fun v _ _ => co.length - (intOf v).toNat)
  case atStart => exact ⟨0, 0, rfl, rfl, by omega, by exact (show (0 : Int) ≤ 0 ∧ (0 : Int) + restW co (l.drop 0) = tot from ⟨by omega, START.out⟩), Ext.rf _⟩
  case round =>
    obtain ⟨wo, rfl⟩ : ∃ wo : World, wo = wr := ⟨_, rfl⟩
    obtain ⟨k, su, rfl, rfl, hk, HS, Y⟩ := hrel
    have d0 : wo.cell? ⟨w.heap.size, 0, none⟩ = some (.int .i64 3) := (BC.out.ext Y.out).cell 0
    have d1 : wo.cell? ⟨w.heap.size, 1, none⟩ = some (.int .i64 co.length) := (BC.out.ext Y.out).cell 1
    have d5 : wo.cell? ⟨w.heap.size, 5, none⟩ = some (.slice (some ⟨cb, cof, none⟩) co.length d) := (BC.out.ext Y.out).cell 5
    have XW := Lib.hid (X2.out.tr Y.out)
    clear e0 e2 START
    by_cases hkl : k < co.length
    · obtain ⟨u, ek, hun, edr⟩ := DR.out k hkl
      obtain ⟨pb', po', xu, hPq, zpk, cpk, epk, _⟩ := (hP.out.ext XW.out).at (k := k) (by rw [intsN_len, hlen.out]; exact hkl)
      obtain ⟨rfl, rfl⟩ : pb = pb' ∧ po = po' := by simpa using hPq
      obtain rfl : xu = (u : Int) := by
        have h := epk.out
        rw [intsN_get ek] at h
        exact (Option.some.inj h).symm
      have HS1 := HS.out
      rw [edr] at HS1
      have q1 : (k : Int) < (co.length : Int) := by omega
      have q2 : (u : Int) < (co.length : Int) := by omega
      have hw0 : IntKind.i64.wrap ((k : Int) + 1) = (k : Int) + 1 := IntWalk.i64_in _ (by omega)
      clear ek edr hPq epk HS
      by_cases hlast : k + 1 = co.length
      · have e1 : l.drop (k + 1) = [] := List.drop_of_length_le (by rw [hlen.out]; omega)
        rw [e1] at HS1
        obtain ⟨rb, ro, d', c1, c2⟩ := CA.out _ XW.out u 0 hun (by omega)
        have nu := num.out u 0 hun (by omega)
        obtain ⟨y, hy⟩ : ∃ y, Hid (costAt co u 0 = y) := ⟨_, rfl⟩
        simp only [restW, pathT] at HS1
        rw [hy.out] at c2 nu HS1
        replace c2 : wo.cell? ⟨rb, ro, none⟩ = some (.int .i64 y) := c2
        have hrem : ((k : Int) + 1).tmod (co.length : Int) = 0 := by
          have h : (k : Int) + 1 = (co.length : Int) := by omega
          rw [h, Int.tmod_self]
        have hw1 : IntKind.i64.wrap 0 = 0 := IntWalk.i64_in _ (by omega)
        have hw : IntKind.i64.wrap (su + y) = su + y := IntWalk.i64_in _ (by omega)
        have p0 : wo.cell? ⟨pb, po, none⟩ = some (.int .i64 0) := keepEL XW.out zp0 cp0
        have NEW : Hid (0 ≤ su + y ∧ su + y + restW co (l.drop (k + 1)) = tot) := by
          have h : 0 ≤ su + y ∧ su + y + restW co (l.drop (k + 1)) = tot := by
            rw [e1]
            simp only [restW]
            omega
          exact h
        have hnz : ((co.length : Int) == 0) = false := by rw [beq_eq_false_iff_ne]; omega
        clear HS1 e1
        replace hlast := Lib.hid hlast
        go_wp2_with (fail)
        go_quiet (fail)
        go_wp2_with (fail)
        go_roundw
        case rel => exact ⟨k + 1, su + y, by go_num, rfl, by omega, NEW, Y.out.drewN _⟩
        case measure => simp [intOf]; omega
      · have hk1 : k + 1 < co.length := by omega
        obtain ⟨v, ek1, hvn, edr1⟩ := DR.out (k + 1) hk1
        obtain ⟨pb', po', xu, hPq, zpk1, cpk1, epk1, _⟩ := (hP.out.ext XW.out).at (k := k + 1) (by rw [intsN_len, hlen.out]; exact hk1)
        obtain ⟨rfl, rfl⟩ : pb = pb' ∧ po = po' := by simpa using hPq
        obtain rfl : xu = (v : Int) := by
          have h := epk1.out
          rw [intsN_get ek1] at h
          exact (Option.some.inj h).symm
        rw [edr1] at HS1
        obtain ⟨rb, ro, d', c1, c2⟩ := CA.out _ XW.out u v hun hvn
        have nu := num.out u v hun hvn
        obtain ⟨y, hy⟩ : ∃ y, Hid (costAt co u v = y) := ⟨_, rfl⟩
        simp only [restW, pathT] at HS1
        rw [hy.out] at c2 nu HS1
        have hpp := (pathT_bd num.out (l.drop (k + 1 + 1)) v hvn fun x hx => hlt.out x (List.mem_of_mem_drop hx)).1
        have hrem : ((k : Int) + 1).tmod (co.length : Int) = ((k + 1 : Nat) : Int) := by
          rw [Int.tmod_eq_emod_of_nonneg (by omega), Int.emod_eq_of_lt (by omega) (by omega)]
          omega
        have hw1 : IntKind.i64.wrap ((k + 1 : Nat) : Int) = ((k + 1 : Nat) : Int) := IntWalk.i64_in _ (by omega)
        have hw : IntKind.i64.wrap (su + y) = su + y := IntWalk.i64_in _ (by omega)
        have NEW : Hid (0 ≤ su + y ∧ su + y + restW co (l.drop (k + 1)) = tot) := by
          have h : 0 ≤ su + y ∧ su + y + restW co (l.drop (k + 1)) = tot := by
            rw [edr1]
            simp only [restW]
            omega
          exact h
        have q3 : (v : Int) < (co.length : Int) := by omega
        have q4 : ((k + 1 : Nat) : Int) < (co.length : Int) := by omega
        have hnz : ((co.length : Int) == 0) = false := by rw [beq_eq_false_iff_ne]; omega
        clear HS1 edr1 ek1 hPq epk1 hpp
        replace hlast := Lib.hid hlast
        go_wp2_with (fail)
        go_quiet (fail)
        go_wp2_with (fail)
        go_roundw
        case rel => exact ⟨k + 1, su + y, by go_num, rfl, by omega, NEW, Y.out.drewN _⟩
        case measure => simp [intOf]; omega
    · have q1 : ¬ (k : Int) < (co.length : Int) := by omega
      have HS2 : Hid (su = tot) := by
        have h := HS.out.2
        rw [List.drop_of_length_le (by rw [hlen.out]; omega)] at h
        simp only [restW] at h
        have h2 : su = tot := by omega
        exact h2
      go_wp2_with (fail)
      go_ret2
      rw [HS2.out]
      exact ⟨rfl, XW.out⟩
set_option maxRecDepth 100000 in
set_option maxHeartbeats 8000000 in
theorem best3_more (i : InstP) (us : List Value) (P : Option Addr) (c : Nat) (l : List Nat) (w : World) (H : RInst w us i) (hk2 : i.kind = 3) (hP : RdI w P (intsN l)) (n m : Nat) (hn : i.n = n) (hn24 : n ≤ 24) (hlen : l.length < n) (hl0 : 0 < l.length) (bs : Int) (f : Int → Int)
    (hused : ∀ k, k < n → (m.testBit k = true ↔ k ∉ l)) (e5 : leastF f (-1) (intsN (restF m n 0)) = bs) (fpos : ∀ k, k < n → m.testBit k = true → 0 ≤ f (k : Int))
    (IH3 : ∀ (k : Nat) (A : Option Addr) (d : Nat) (q : List Int), k < n → m.testBit k = true → q = intsN l ++ [(k : Int)] → ∀ W : World, Ext w W → RdI W A q → Calls Try.prog 32 #[.agg (List.toArray us), .slice A q.length d] W fun e w' => e = .returned (.int .i64 (f k)) ∧ Ext W w') :
    Calls Try.prog 32 #[.agg (List.toArray us), .slice P l.length c] w fun e w' => e = .returned (.int .i64 bs) ∧ Ext w w' := by
  obtain ⟨kind, nn, cap, xw, xv, co⟩ := i
  obtain ⟨A, a, B, b, D, d, rfl, -, -, -⟩ := H
  simp only at *
  subst hk2 hn
  replace IH3 := Lib.hid IH3
  replace e5 := Lib.hid e5
  replace hP := Lib.hid hP
  replace hused := Lib.hid hused
  replace fpos := Lib.hid fpos
  have hz0 : ((l.length : Int) == 0) = false := by rw [beq_eq_false_iff_ne]; omega
  have hne : ((l.length : Int) == (n : Int)) = false := by rw [beq_eq_false_iff_ne]; omega
  have B1 : Hid (Blk (w.alloc (.cells #[.int .i64 3, .int .i64 n, .int .i64 cap, .slice A xw.length a, .slice B xv.length b, .slice D co.length d] 61)) w.heap.size 61 #[.int .i64 3, .int .i64 n, .int .i64 cap, .slice A xw.length a, .slice B xv.length b, .slice D co.length d]) := .new rfl
  have X0 : Hid (Ext w (w.alloc (.cells #[.int .i64 3, .int .i64 n, .int .i64 cap, .slice A xw.length a, .slice B xv.length b, .slice D co.length d] 61))) := (Ext.rf _).alloc _
  obtain ⟨w1, hw1⟩ : ∃ w1, w1 = (w.alloc (.cells #[.int .i64 3, .int .i64 n, .int .i64 cap, .slice A xw.length a, .slice B xv.length b, .slice D co.length d] 61)) := ⟨_, rfl⟩
  have B2 : Hid (Blk w1 w.heap.size 61 #[.int .i64 3, .int .i64 n, .int .i64 cap, .slice A xw.length a, .slice B xv.length b, .slice D co.length d]) := by rw [hw1]; exact B1.out
  have X1 : Hid (Ext w w1) := by rw [hw1]; exact X0.out
  replace hw1 := Lib.hid hw1
  clear B1
  go_enter Try.func32, Try.ntmps32
  go_wp2_with (fail)
  rw [← hw1.out]
  clear X0
  go_loopw [9, 7] (fun v bv wr => ∃ (k : Nat) (bb : Int), v = .int .i64 k ∧ bv = .int .i64 bb ∧ k ≤ n ∧ Hid (leastF f bb (intsN (restF m n k)) = bs) ∧ Hid (Ext w1 wr)) (fun v _ _ => n - (intOf v).toNat)
  case atStart => exact ⟨0, -1, rfl, rfl, by omega, e5, Ext.rf _⟩
  case round =>
    obtain ⟨wo, rfl⟩ : ∃ wo : World, wo = wr := ⟨_, rfl⟩
    obtain ⟨k, bb, rfl, rfl, hk, HS, Y⟩ := hrel
    by_cases hlt : k < n
    · have HN : Hid (leastF f bb (intsN (if m.testBit k = true then k :: restF m n (k + 1) else restF m n (k + 1))) = bs) := by
        have h := HS.out
        rw [restF_step hlt] at h
        exact h
      have q1 : (k : Int) < (n : Int) := by omega
      have B3 := B2.out.ext Y.out
      have zb3 := B3.lt
      have c0 : wo.cell? ⟨w.heap.size, 0, none⟩ = some (.int .i64 3) := B3.cell 0
      have HU := hused.out k hlt
      replace HU := Lib.hid HU
      replace B3 := Lib.hid B3
      clear HS
      go_wp2_with (fail)
      go_loopw [11, 10] (fun v uv wr => ∃ j : Nat, v = .int .i64 j ∧ uv = .bool ((l.take j).contains k) ∧ j ≤ l.length ∧ wr = wo) (fun v _ _ => l.length - (intOf v).toNat)
      case atStart => exact ⟨0, rfl, rfl, by omega, rfl⟩
      case round =>
        obtain ⟨j, rfl, rfl, hj, hwr⟩ := hrel
        have hwr' : wo = wr := (show wr = wo from hwr).symm
        clear hwr
        subst hwr'
        by_cases hjl : j < l.length
        · have q2 : (j : Int) < (l.length : Int) := by omega
          have ej : l[j]? = some l[j] := List.getElem?_eq_getElem hjl
          generalize l[j] = y at ej
          obtain ⟨pb, po, x, rfl, _, cx, ex, _⟩ := (hP.out.ext (X1.out.tr Y.out)).at (k := j) (by rw [intsN_len]; exact hjl)
          obtain rfl : x = (y : Int) := by
            have h := ex.out
            rw [intsN_get ej] at h
            exact (Option.some.inj h).symm
          have HC : Hid ((l.take (j + 1)).contains k = ((l.take j).contains k || (y == k))) := by
            have h : (l.take (j + 1)).contains k = ((l.take j).contains k || (y == k)) := by
              rw [List.take_add_one, ej, Bool.eq_iff_iff, Bool.or_eq_true, List.contains_iff_mem, List.contains_iff_mem, beq_iff_eq]
              show k ∈ l.take j ++ [y] ↔ _
              rw [List.mem_append, List.mem_singleton]
              exact ⟨fun h => h.imp id Eq.symm, fun h => h.imp id Eq.symm⟩
            exact h
          clear ex ej
          cases hb : (l.take j).contains k with
          | true =>
            have HC2 : Hid ((l.take (j + 1)).contains k = true) := by
              have h := HC.out
              rw [hb, Bool.true_or] at h
              exact h
            clear HC hb
            go_wp2_with (fail)
            go_roundw
            case rel => exact ⟨j + 1, by go_num, by rw [HC2.out], by omega, by first | exact rfl | exact trivial⟩
            case measure => simp [intOf]; omega
          | false =>
            obtain ⟨yk, hyk⟩ : ∃ yk, Hid ((y == k) = yk) := ⟨_, rfl⟩
            have HC2 : Hid ((l.take (j + 1)).contains k = yk) := by
              have h := HC.out
              rw [hb, Bool.false_or, hyk.out] at h
              exact h
            have t1 : (y == k) = yk := hyk.out
            have t2 : ((y : Int) == (k : Int)) = yk := by
              rw [← hyk.out, Bool.eq_iff_iff, beq_iff_eq, beq_iff_eq]
              omega
            clear HC hb
            go_wp2_with (fail)
            go_roundw
            case rel => exact ⟨j + 1, by go_num, by rw [HC2.out], by omega, by first | exact rfl | exact trivial⟩
            case measure => simp [intOf]; omega
        · have q2 : ¬ (j : Int) < (l.length : Int) := by omega
          rw [List.take_of_length_le (by omega)]
          cases hb : m.testBit k with
          | false =>
            have hu : l.contains k = true := by
              rw [List.contains_iff_mem]
              cases hd : decide (k ∈ l) with
              | true => exact of_decide_eq_true hd
              | false =>
                have := HU.out.2 (of_decide_eq_false hd)
                rw [hb] at this
                cases this
            have HN2 : Hid (leastF f bb (intsN (restF m n (k + 1))) = bs) := by
              have h := HN.out
              rw [hb, if_neg (by simp)] at h
              exact h
            rw [hu]
            clear HN hb hu
            go_wp2_with (fail)
            go_roundw
            case rel => exact ⟨k + 1, bb, by go_num, rfl, by omega, HN2, Y⟩
            case measure => simp [intOf]; omega
          | true =>
            have hu : l.contains k = false := by
              cases hd : l.contains k with
              | false => rfl
              | true => exact absurd (List.contains_iff_mem.1 hd) (HU.out.1 hb)
            have HN2 : Hid (leastF f (if bb < 0 then f (k : Int) else if f (k : Int) < bb then f (k : Int) else bb) (intsN (restF m n (k + 1))) = bs) := by
              have h := HN.out
              rw [hb, if_pos rfl] at h
              exact h
            have IHk := Lib.hid (fun (A : Option Addr) (d : Nat) (q : List Int) (hq : q = intsN l ++ [(k : Int)]) => IH3.out k A d q hlt hb hq)
            have fk := fpos.out k hlt hb
            rw [hu]
            generalize f (k : Int) = fv at *
            clear HN hb hu HU
            have c1' : wo.cell? ⟨w.heap.size, 1, none⟩ = some (.int .i64 n) := B3.out.cell 1
            have c2 : wo.cell? ⟨w.heap.size, 2, none⟩ = some (.int .i64 cap) := B3.out.cell 2
            have c3 : wo.cell? ⟨w.heap.size, 3, none⟩ = some (.slice A xw.length a) := B3.out.cell 3
            have c4 : wo.cell? ⟨w.heap.size, 4, none⟩ = some (.slice B xv.length b) := B3.out.cell 4
            have c5 : wo.cell? ⟨w.heap.size, 5, none⟩ = some (.slice D co.length d) := B3.out.cell 5
            obtain ⟨q, hq⟩ : ∃ q, Hid (q = intsN l ++ [(k : Int)]) := ⟨_, rfl⟩
            have lq : q.length = l.length + 1 := by rw [hq.out]; simp [intsN]
            go_upto_region 19 with (fail)
            refine wp_region_any (by kernel_rfl) ?_
            change wpAny _ _ _ _ _ _ _ (World.drew _)
            refine wpAny_T (i := 2) (op := Op.move (Operand.tmp 1)) (t := 22) (d := some 74) (v := ?_) rfl (by decide +kernel) (by decide +kernel) (by decide +kernel) (fun _ _ _ h => h) ?_ ?_
            case refine_2 => (intro _; unfold exec2; go_simp; try with_reducible rfl)
            try simp only [Act.put, List.setIfInBounds_toArray, List.set_cons_zero, List.set_cons_succ]
            refine wpAny_T (i := 4) (op := Op.move (Operand.tmp 9)) (t := 3) (d := some 76) (v := ?_) rfl (by decide +kernel) (by decide +kernel) (by decide +kernel) (fun _ _ _ h => h) ?_ ?_
            case refine_2 => (intro _; unfold exec2; go_simp; try with_reducible rfl)
            try simp only [Act.put, List.setIfInBounds_toArray, List.set_cons_zero, List.set_cons_succ]
            refine wpAny_core3 (n := 2) [(0, some 72), (1, some 73), (3, some 75), (5, some 77), (6, some 78)] (fun | 1 => [3] | 3 => [6] | 5 => [6] | _ => []) (Ext wo)
              (VF (fun | 0 => some (.agg #[.int .i64 3, .int .i64 n, .int .i64 cap, .slice A xw.length a, .slice B xv.length b, .slice D co.length d]) | _ => none)
                (fun j v W => (j = 1 → ∃ g, v = .slice (some ⟨g, 0, none⟩) 0 0 ∧ wo.heap.size ≤ g ∧ Blk W g 3 #[]) ∧ (j = 3 → ∃ A c, v = .slice A (intsN l).length c ∧ OwI W wo.heap.size A c (intsN l)) ∧ (j = 5 → ∃ h, v = .slice (some ⟨h, 0, none⟩) 1 1 ∧ Blk W h 3 #[.int .i64 (k : Int)]) ∧ (j = 6 → ∃ A c, v = .slice A q.length c ∧ OwI W wo.heap.size A c q)))
              (fun i W W' => i ≠ 6 → Ext W W') #[true, true, true, true, true, true, true, false, false] (by kernel_rfl) (by kernel_rfl) ?_ ?_ ?_ ((Ext.rf _).drew)
            · intro i j v W W' hkp hv hs
              refine VF.stab1 (fun _ ⟨g1, g3, g8, g9⟩ => ?_) hv
              by_cases hi : i = 6
              · subst hi
                refine ⟨fun h => ?_, fun h => ?_, fun h => ?_, fun h => ?_⟩
                all_goals (subst h; exact absurd hkp (by decide +kernel))
              · have hx := hs hi
                refine ⟨fun h => ?_, fun h => ?_, fun h => ?_, fun h => ?_⟩
                · obtain ⟨g, q1, q2, q3⟩ := g1 h
                  exact ⟨g, q1, q2, q3.ext hx⟩
                · obtain ⟨A', c', q1, q2⟩ := g3 h
                  exact ⟨A', c', q1, q2.ext hx⟩
                · obtain ⟨h', q1, q2⟩ := g8 h
                  exact ⟨h', q1, q2.ext hx⟩
                · obtain ⟨A', c', q1, q2⟩ := g9 h
                  exact ⟨A', c', q1, q2.ext hx⟩
            · intro pq hpm u W hRW hD K hK
              have z2 := hRW.size
              simp only [List.mem_cons, List.not_mem_nil, or_false] at hpm
              rcases hpm with rfl | rfl | rfl | rfl | rfl
              · have r0 := keepEL hRW zb3 c0
                have r1 := keepEL hRW zb3 c1'
                have r2 := keepEL hRW zb3 c2
                have r3 := keepEL hRW zb3 c3
                have r4 := keepEL hRW zb3 c4
                have r5 := keepEL hRW zb3 c5
                exact op_ld (T := 61) rfl (.pointer (some ⟨w.heap.size, 0, none⟩)) (by kernel_rfl) (.agg #[.int .i64 3, .int .i64 n, .int .i64 cap, .slice A xw.length a, .slice B xv.length b, .slice D co.length d]) (by go_simp) (hK _ _ (VF.mk rfl) hRW (fun _ => Ext.rf _))
              · exact op_bs0 rfl _ (ibs0_run _) (hK _ _ (VF.mg rfl ⟨fun _ => ⟨_, rfl, z2, .new rfl⟩, (fun h => by cases h), (fun h => by cases h), (fun h => by cases h)⟩) (hRW.alloc _) (fun _ => (Ext.rf _).alloc _))
              · obtain ⟨g, h1, zg, bg⟩ := ((hD 1 (depIn (by kernel_rfl))).g rfl).1 rfl
                obtain ⟨A3, c3, w3, hr3, o3, x3⟩ := run_copy_i W wo.heap.size 22 g (intsN l) P c bg zg (hP.out.ext ((X1.out.tr Y.out).tr hRW)) (by rw [intsN_len]; omega)
                exact op_app rfl (.slice (some ⟨g, 0, none⟩) 0 0) (.slice P (intsN l).length c) (Eq.trans (b := u 1) (by kernel_rfl) h1) (by rw [intsN_len]; kernel_rfl) _ hr3 (hK _ _ (VF.mg rfl ⟨(fun h => by cases h), fun _ => ⟨A3, c3, rfl, o3⟩, (fun h => by cases h), (fun h => by cases h)⟩) (hRW.tr x3) (fun _ => x3))
              · exact op_bs1 rfl (.int .i64 (k : Int)) (by kernel_rfl) _ (ibs1_run _ _) (hK _ _ (VF.mg rfl ⟨(fun h => by cases h), (fun h => by cases h), fun _ => ⟨_, rfl, .new rfl⟩, (fun h => by cases h)⟩) (hRW.alloc _) (fun _ => (Ext.rf _).alloc _))
              · obtain ⟨A3, c3', h3, o3⟩ := ((hD 3 (depIn (by kernel_rfl))).g rfl).2.1 rfl
                obtain ⟨g8, h8, b8⟩ := ((hD 5 (depIn (by kernel_rfl))).g rfl).2.2.1 rfl
                obtain ⟨A7, c7, w7, hrun, o7, g7, -⟩ := run_app_i W wo.heap.size 22 A3 (intsN l).length c3' (intsN l) [(k : Int)] (some ⟨g8, 0, none⟩) 1 rfl o3 (.blk b8 rfl) (by rw [intsN_len]; simp; omega) hRW.size
                have x7 : Ext wo w7 := hRW.grow g7 (fun k hk => (o3.lt k hk).1)
                rw [← hq.out] at hrun o7
                exact op_app rfl (.slice A3 (intsN l).length c3') (.slice (some ⟨g8, 0, none⟩) 1 1) (Eq.trans (b := u 3) (by kernel_rfl) h3) (Eq.trans (b := u 5) (by kernel_rfl) h8) _ hrun (hK _ _ (VF.mg rfl ⟨(fun h => by cases h), (fun h => by cases h), (fun h => by cases h), fun _ => ⟨A7, c7, rfl, o7⟩⟩) x7 (fun h => absurd rfl h))
            · intro u w7 hRW hV
              have h0 := (hV (0, some 72) (by simp) rfl).k rfl
              obtain ⟨A7, c7, h9, o7⟩ := ((hV (6, some 78) (by simp) rfl).g rfl).2.2.2 rfl
              simp only [putAll, h0, h9]
              have rq := Lib.hid o7.read
              have x7 := Lib.hid hRW
              clear h0 h9 hV o7 hRW
              try simp only [Act.put, List.setIfInBounds_toArray, List.set_cons_zero, List.set_cons_succ]
              refine wpAny_next 7 (by decide +kernel) (op_call (f := 32) (xs := #[Operand.tmp 72, Operand.tmp 78]) (ts := #[61, 22]) (t := 3) (d := some 79) rfl #[.agg #[.int .i64 3, .int .i64 n, .int .i64 cap, .slice A xw.length a, .slice B xv.length b, .slice D co.length d], .slice A7 q.length c7] (by go_simp) (by kernel_rfl) _ (IHk.out A7 c7 q hq.out w7 (X1.out.tr (Y.out.tr x7.out)) rq.out) ?_)
              rintro e w8 ⟨rfl, x8⟩
              refine ⟨_, rfl, ?_⟩
              try simp only [Act.put, List.setIfInBounds_toArray, List.set_cons_zero, List.set_cons_succ]
              refine wpAny_T (i := 8) (op := Op.assign (Operand.tmp 79)) (t := 3) (d := some 12) (v := ?_) rfl (by decide +kernel) (by decide +kernel) (by decide +kernel) (fun _ _ _ h => h) ?_ ?_
              case refine_2 => (intro _; unfold exec2; go_simp; try with_reducible rfl)
              try simp only [Act.put, List.setIfInBounds_toArray, List.set_cons_zero, List.set_cons_succ]
              refine wpAny_done (by kernel_rfl) ?_ _
              have Y8 := Lib.hid (Y.out.tr (x7.out.tr x8))
              clear x8 x7 rq c0 c1' c2 c3 c4 c5
              go_simp
              by_cases hbb : bb < 0
              · rw [if_pos hbb] at HN2
                go_wp2_with (fail)
                go_roundw
                case rel => exact ⟨k + 1, fv, by go_num, rfl, by omega, HN2, Y8⟩
                case measure => simp [intOf]; omega
              · rw [if_neg hbb] at HN2
                by_cases hfb : fv < bb
                · rw [if_pos hfb] at HN2
                  go_wp2_with (fail)
                  go_roundw
                  case rel => exact ⟨k + 1, fv, by go_num, rfl, by omega, HN2, Y8⟩
                  case measure => simp [intOf]; omega
                · rw [if_neg hfb] at HN2
                  go_wp2_with (fail)
                  go_roundw
                  case rel => exact ⟨k + 1, bb, by go_num, rfl, by omega, HN2, Y8⟩
                  case measure => simp [intOf]; omega
    · obtain rfl : k = n := by omega
      have q1 : ¬ (k : Int) < (k : Int) := by omega
      have HN : Hid (bb = bs) := by
        have h := HS.out
        unfold restF at h
        rw [List.drop_of_length_le (by rw [List.length_range]; omega)] at h
        exact h
      obtain rfl := HN.out
      go_wp2_with (fail)
      go_ret
      exact ⟨rfl, X1.out.tr Y.out⟩
set_option maxRecDepth 100000 in
set_option maxHeartbeats 8000000 in
theorem best3_whole (i : InstP) (us : List Value) (P : Option Addr) (c : Nat) (q : List Nat) (w : World) (H : RInst w us i) (hc : checkP i = 0) (hk : i.kind = 3) (hP : RdI w P (intsN (0 :: q))) (hl : (0 :: q).Perm (List.range i.cost.length)) :
    Calls Try.prog 32 #[.agg (List.toArray us), .slice P i.cost.length c] w fun e w' => e = .returned (.int .i64 (pathT i.cost 0 q)) ∧ Ext w w' := by
  have CO := fun (W : World) (x : Ext w W) => cost3_any i us P c q W (H.ext x) hc hk (hP.ext x) hl
  have hnn : i.n = (i.cost.length : Int) := (square_ok hc (by omega)).len.symm
  generalize pathT i.cost 0 q = cv at *
  clear hl hP hc
  obtain ⟨kind, nn, cap, xw, xv, co⟩ := i
  obtain ⟨A, a, B, b, D, d, rfl, -, -, -⟩ := H
  simp only at *
  subst hk hnn
  replace CO := Lib.hid CO
  have hb : ((co.length : Int) == (co.length : Int)) = true := by simp
  go_enter Try.func32, Try.ntmps32
  go_wp2_with (fail)
  refine (CO.out _ (by (repeat (first | assumption | exact Ext.rf _ | apply Ext.drew | apply Ext.drewN | apply Ext.alloc)))).mono ?_
  rintro e w1 ⟨rfl, x1⟩
  have X1 := Lib.hid (Ext.tr (a := w) (by (repeat (first | assumption | exact Ext.rf _ | apply Ext.drew | apply Ext.drewN | apply Ext.alloc))) x1)
  clear x1
  go_wp2_with (fail)
  go_ret
  exact ⟨rfl, X1.out⟩
theorem whole_perm {rows : List (List Int)} {p : List Int} {m last : Nat} {cost : Int} {l : List Nat} (h1 : 1 ≤ rows.length) (W : WalkOk rows p m last cost l) (hlen : l.length = rows.length - 1) : (0 :: l).Perm (List.range rows.length) := by
  have hm := W.len
  have he : memsM m = [] := List.eq_nil_of_length_eq_zero (by omega)
  refine (List.perm_ext_iff_of_nodup (List.nodup_cons.2 ⟨fun h => (W.inn 0 h).2 rfl, W.nodup⟩) List.nodup_range).2 fun x => ?_
  rw [List.mem_range]
  constructor
  · intro hx
    rcases List.mem_cons.1 hx with rfl | hx
    · omega
    · exact (W.inn x hx).1
  · intro hx
    by_cases h0 : x = 0
    · simp [h0]
    · by_cases hl : x ∈ l
      · exact List.mem_cons_of_mem _ hl
      · have := (W.rest x).2 ⟨⟨hx, h0⟩, hl⟩
        rw [he] at this
        cases this
theorem best3_any (i : InstP) (us : List Value) (hc : checkP i = 0) (hk : i.kind = 3) : ∀ (f : Nat) (P : Option Addr) (c : Nat) (p : List Int) (m last : Nat) (cost : Int) (w : World), walkP i.cost p = some (m, last, cost) → f = i.cost.length - 1 - p.length → RInst w us i → RdI w P (0 :: p) →
    Calls Try.prog 32 #[.agg (List.toArray us), .slice P (0 :: p).length c] w fun e w' => e = .returned (.int .i64 (bestT i.cost f p)) ∧ Ext w w'
  | 0, P, c, p, m, last, cost, w => fun hp hf H hP => by
    have sq := square_ok hc (by omega)
    have rok := rows_ok sq
    obtain ⟨l, W⟩ := walk_ok rok.n1 rok.n2 hp
    have hlen := W.len
    have h1 := rok.n1
    have hpl : p.length = l.length := by rw [W.eq, intsN_len]
    have e : bestT i.cost 0 p = pathT i.cost 0 l := by
      show pathT i.cost 0 (p.map Int.toNat) = _
      rw [W.eq, toNat_ints]
    have hpm := whole_perm h1 W (by omega)
    rw [e, show (0 :: p).length = i.cost.length by simp; omega]
    have hP' : RdI w P (intsN (0 :: l)) := by
      have e2 : intsN (0 :: l) = 0 :: p := by rw [W.eq]; rfl
      rw [e2]
      exact hP
    exact best3_whole i us P c l w H hc hk hP' hpm
  | f + 1, P, c, p, m, last, cost, w => fun hp hf H hP => by
    have sq := square_ok hc (by omega)
    have rok := rows_ok sq
    have h24 := rok.n2
    have h1 := rok.n1
    obtain ⟨l, W⟩ := walk_ok h1 h24 hp
    have hlen := W.len
    have hsub := W.sub
    have hpl : p.length = l.length := by rw [W.eq, intsN_len]
    have hmem : ∀ k, k < i.cost.length → (k ∈ memsM m ↔ m.testBit k = true) := fun k hk => memsM_bits hsub (by omega) hk
    have e2 : intsN (0 :: l) = 0 :: p := by rw [W.eq]; rfl
    have hP' : RdI w P (intsN (0 :: l)) := by
      rw [e2]
      exact hP
    have elen : (0 :: p).length = (0 :: l).length := by simp [hpl]
    rw [elen]
    refine best3_more i us P c (0 :: l) w H hk hP' i.cost.length m sq.len.symm h24 (by simp; omega) (by simp) _ (fun x => bestT i.cost f (p ++ [x])) (fun k hk => ?_) ?_ (fun k hk hb => ?_) ?_
    · rw [← hmem k hk, W.rest k, List.mem_cons]
      constructor
      · rintro ⟨⟨_, a⟩, b⟩ (h | h)
        · exact a h
        · exact b h
      · intro h
        exact ⟨⟨hk, fun a => h (.inl a)⟩, fun b => h (.inr b)⟩
    · have e : restF m i.cost.length 0 = memsM m := by
        unfold restF
        rw [List.drop_zero, ← memsM_range hsub (by omega)]
      rw [e]
      show _ = leastF _ (-1) (match walkP i.cost p with | none => [] | some (m, _, _) => intsN (memsM m))
      rw [hp]
    · have hs := walkP_snoc h1 h24 hp ((hmem k hk).2 hb)
      have h4 := boundT_below (mirror := false) h1 h24 (ends_num rok) (fun h => by cases h) hs
      rw [show i.cost.length - 1 - (p ++ [(k : Int)]).length = f by rw [List.length_append, List.length_singleton]; omega] at h4
      omega
    · rintro k A d q hkn hb rfl W' x hq
      have hs := walkP_snoc h1 h24 hp ((hmem k hkn).2 hb)
      have e3 : intsN (0 :: l) ++ [(k : Int)] = 0 :: (p ++ [(k : Int)]) := by rw [e2]; rfl
      rw [e3] at hq ⊢
      exact best3_any i us hc hk f A d _ _ _ _ W' hs (by rw [List.length_append, List.length_singleton]; omega) (H.ext x) hq
end Go.Proofs.Ytcpadkaljnnieaa
namespace Go.Proofs.Ytcpadkaljnnieaa
open Go.RowKit Go.ChangeShapes Go.WideShapes Go.ChangeAt Go.Deep

theorem u64_and32 (x : Int) (h₀ : 0 ≤ x) (h₁ : x < 18446744073709551616) : bits .and .u64 x 4294967295 = x % 4294967296 := bits_mask .u64 64 (by decide) wraps_u64 32 (by decide) x h₀ h₁
theorem mul_bd {a b : Int} (ha : 0 ≤ a) (ha' : a ≤ 2147483647) (hb : 0 ≤ b) (hb' : b ≤ 2147483647) : 0 ≤ a * b ∧ a * b ≤ 4611686014132420609 := by
  refine ⟨Int.mul_nonneg ha hb, ?_⟩
  have h1 : a * b ≤ 2147483647 * b := Int.mul_le_mul_of_nonneg_right ha' hb
  omega
set_option maxRecDepth 100000 in
theorem mul64_any (a b : Int) (w : World) (ha : 0 ≤ a) (ha' : a ≤ 2147483647) (hb : 0 ≤ b) (hb' : b ≤ 2147483647) :
    Calls Try.prog 140 #[.int .u64 a, .int .u64 b] w fun e w' => e = .returned (.tuple #[.int .u64 0, .int .u64 (a * b)]) ∧ Ext w w' := by
  have ea : Hid (bits BinOp.and IntKind.u64 a 4294967295 = a) := by
    have h := u64_and32 a ha (by omega)
    rw [Int.emod_eq_of_lt ha (by omega)] at h
    exact h
  have eb : Hid (bits BinOp.and IntKind.u64 b 4294967295 = b) := by
    have h := u64_and32 b hb (by omega)
    rw [Int.emod_eq_of_lt hb (by omega)] at h
    exact h
  have da : Hid (a / 4294967296 = 0) := by
    have h : a / 4294967296 = 0 := by omega
    exact h
  have db : Hid (b / 4294967296 = 0) := by
    have h : b / 4294967296 = 0 := by omega
    exact h
  have hm := mul_bd ha ha' hb hb'
  have wm : Hid (IntKind.u64.wrap (a * b) = a * b) := wraps_u64 _ hm.1 (by omega)
  have dm : Hid (∃ q : Int, 0 ≤ q ∧ q < 4294967296 ∧ a * b / 4294967296 = q) := by
    have h : ∃ q : Int, 0 ≤ q ∧ q < 4294967296 ∧ a * b / 4294967296 = q := ⟨_, by omega, by omega, rfl⟩
    exact h
  have w0 : Hid (IntKind.u64.wrap 0 = 0) := by
    have h : IntKind.u64.wrap 0 = 0 := by decide
    exact h
  clear hm
  go_enter Try.func140, Try.ntmps140
  go_wp2
  refine bodyPost_ret (v := .tuple #[.int .u64 0, .int .u64 (a * b)]) ?_ rfl ⟨rfl, Ext.rf _⟩
  obtain ⟨q, hq0, hq1, hq⟩ := dm.out
  have w1 := ea.out
  have w2 := eb.out
  have w3 := da.out
  have w4 := db.out
  have w5 := wm.out
  have w6 := w0.out
  have wq := wraps_u64 q hq0 (by omega)
  have dq : q / 4294967296 = 0 := by omega
  have aq : bits BinOp.and IntKind.u64 q 4294967295 = q := by
    have h := u64_and32 q hq0 (by omega)
    rw [Int.emod_eq_of_lt hq0 hq1] at h
    exact h
  simp only [w1, w2, w3, w4, w5, w6, hq, Int.zero_mul, Int.mul_zero, Int.add_zero, Int.zero_add, wq, dq, aq]
  simp [results, Try.results140, go_sem]
end Go.Proofs.Ytcpadkaljnnieaa
namespace Go.Proofs.Ytcpadkaljnnieaa
open Go.RowKit Go.ChangeShapes Go.WideShapes Go.ChangeAt Go.Deep

theorem size64_any (a : Int) (w : World) (ha : 0 ≤ a) (ha' : a ≤ 2147483647) :
    Calls Try.prog 141 #[.int .i64 a] w fun e w' => e = .returned (.int .u64 a) ∧ Ext w w' := by
  have wm : IntKind.u64.wrap a = a := wraps_u64 _ ha (by omega)
  go_enter Try.func141, Try.ntmps141
  go_wp2
  go_ret
  exact ⟨rfl, Ext.rf _⟩
/-- a sum of which one part is nought -/
def sgnP (a b : Int) : Int := if a = 0 ∨ b = 0 then 0 else 1
set_option maxRecDepth 100000 in
set_option maxHeartbeats 1000000 in
theorem product_any (a b : Int) (w : World) (ha : 0 ≤ a) (ha' : a ≤ 2147483647) (hb : 0 ≤ b) (hb' : b ≤ 2147483647) :
    Calls Try.prog 135 #[.int .i64 a, .int .i64 b] w fun e w' => e = .returned (.tuple #[.int .i64 (sgnP a b), .agg #[.int .u64 0, .int .u64 (a * b)]]) ∧ Ext w w' := by
  have na : decide (a < 0) = false := by simpa using ha
  have nb : decide (b < 0) = false := by simpa using hb
  have B0 : Hid (Blk (w.alloc (.cells #[.int .u64 0, .int .u64 0] 162)) w.heap.size 162 #[.int .u64 0, .int .u64 0]) := .new rfl
  go_enter Try.func135, Try.ntmps135
  go_wp2_with (fail)
  refine (size64_any a _ ha ha').mono ?_
  rintro e w1 ⟨rfl, x1⟩
  go_wp2_with (fail)
  refine (size64_any b _ hb hb').mono ?_
  rintro e w2 ⟨rfl, x2⟩
  go_wp2_with (fail)
  refine (mul64_any a b _ ha ha' hb hb').mono ?_
  rintro e w3 ⟨rfl, x3⟩
  have X3 : Ext w w3 := Ext.tr (Ext.tr (Ext.tr ((Ext.rf w).alloc _) x1) x2) x3
  have B3 := Lib.hid (((B0.out.ext x1).ext x2).ext x3)
  have X4 := Lib.hid ((X3.setNew (p := ⟨w.heap.size, 0, none⟩) (Nat.le_refl _) (.int .u64 0)).setNew (p := ⟨w.heap.size, 1, none⟩) (Nat.le_refl _) (.int .u64 (a * b)))
  have c0 : w3.cell? ⟨w.heap.size, 0, none⟩ = some (.int .u64 0) := B3.out.cell 0
  have c1 : w3.cell? ⟨w.heap.size, 1, none⟩ = some (.int .u64 0) := B3.out.cell 1
  have f0 := B3.out.free 0
  have f1 := B3.out.free 1
  clear X3
  by_cases a0 : a = 0
  · subst a0
    have e1 : Hid (sgnP 0 b = 0) := rfl
    have e2 : Hid ((0 : Int) * b = 0) := Int.zero_mul b
    have X5 : Hid (Ext w ((w3.setCell ⟨w.heap.size, 0, none⟩ (.int .u64 0)).setCell ⟨w.heap.size, 1, none⟩ (.int .u64 0))) := by
      have h := X4.out
      rw [e2.out] at h
      exact h
    clear X4
    go_wp2
    exact bodyPost_ret (v := .tuple #[.int .i64 0, .agg #[.int .u64 0, .int .u64 0]]) (by simp [results, Try.results135, go_sem, *]) rfl ⟨by rw [e1.out, e2.out], X5.out⟩
  · have a0' : (a == 0) = false := by simpa using a0
    by_cases b0 : b = 0
    · subst b0
      have e1 : Hid (sgnP a 0 = 0) := by
        have h : sgnP a 0 = 0 := by simp [sgnP]
        exact h
      have e2 : Hid (a * (0 : Int) = 0) := Int.mul_zero a
      have X5 : Hid (Ext w ((w3.setCell ⟨w.heap.size, 0, none⟩ (.int .u64 0)).setCell ⟨w.heap.size, 1, none⟩ (.int .u64 0))) := by
        have h := X4.out
        rw [e2.out] at h
        exact h
      clear X4 a0
      go_wp2
      exact bodyPost_ret (v := .tuple #[.int .i64 0, .agg #[.int .u64 0, .int .u64 0]]) (by simp [results, Try.results135, go_sem, *]) rfl ⟨by rw [e1.out, e2.out], X5.out⟩
    · have b0' : (b == 0) = false := by simpa using b0
      have e1 : Hid (sgnP a b = 1) := by
        have h : sgnP a b = 1 := by simp [sgnP, a0, b0]
        exact h
      clear a0 b0
      go_wp2
      exact bodyPost_ret (v := .tuple #[.int .i64 1, .agg #[.int .u64 0, .int .u64 (a * b)]]) (by simp [results, Try.results135, go_sem, *]) rfl ⟨by rw [e1.out], X4.out⟩
/-- which of two sizes is less -/
def ordP (x y : Int) : Int := if x = y then 0 else if x < y then -1 else 1
theorem order_any (x y : Int) (w : World) : Calls Try.prog 136 #[.agg #[.int .u64 0, .int .u64 x], .agg #[.int .u64 0, .int .u64 y]] w fun e w' => e = .returned (.int .i64 (ordP x y)) ∧ Ext w w' := by
  unfold ordP
  by_cases h : x = y
  · subst h
    rw [if_pos rfl]
    go_enter Try.func136, Try.ntmps136
    go_wp2
    go_ret
    exact ⟨rfl, by (repeat (first | assumption | exact Ext.rf _ | apply Ext.drew | apply Ext.drewN | apply Ext.alloc))⟩
  · rw [if_neg h]
    by_cases h1 : x < y
    · rw [if_pos h1]
      have h' : (x == y) = false := by simpa using h
      clear h
      go_enter Try.func136, Try.ntmps136
      go_wp2
      go_ret
      exact ⟨rfl, by (repeat (first | assumption | exact Ext.rf _ | apply Ext.drew | apply Ext.drewN | apply Ext.alloc))⟩
    · rw [if_neg h1]
      have h' : (x == y) = false := by simpa using h
      clear h
      go_enter Try.func136, Try.ntmps136
      go_wp2
      go_ret
      exact ⟨rfl, by (repeat (first | assumption | exact Ext.rf _ | apply Ext.drew | apply Ext.drewN | apply Ext.alloc))⟩
end Go.Proofs.Ytcpadkaljnnieaa
namespace Go.Proofs.Ytcpadkaljnnieaa
open Go.RowKit Go.ChangeShapes Go.WideShapes Go.ChangeAt Go.Deep

theorem sgnP_cases (a b : Int) : sgnP a b = 0 ∨ sgnP a b = 1 := by unfold sgnP; split <;> simp
def crossP (a b c d : Int) : Int := if sgnP a b < sgnP c d then -1 else if sgnP c d < sgnP a b then 1 else sgnP a b * ordP (a * b) (c * d)
set_option maxRecDepth 100000 in
set_option maxHeartbeats 1000000 in
theorem cross_any (a b c d : Int) (w : World) (ha : 0 ≤ a ∧ a ≤ 2147483647) (hb : 0 ≤ b ∧ b ≤ 2147483647) (hc : 0 ≤ c ∧ c ≤ 2147483647) (hd : 0 ≤ d ∧ d ≤ 2147483647) :
    Calls Try.prog 133 #[.int .i64 a, .int .i64 b, .int .i64 c, .int .i64 d] w fun e w' => e = .returned (.int .i64 (crossP a b c d)) ∧ Ext w w' := by
  have s1 := sgnP_cases a b
  have s2 := sgnP_cases c d
  have HC : Hid (crossP a b c d = if sgnP a b < sgnP c d then -1 else if sgnP c d < sgnP a b then 1 else sgnP a b * ordP (a * b) (c * d)) := rfl
  have HO : -1 ≤ ordP (a * b) (c * d) ∧ ordP (a * b) (c * d) ≤ 1 := by unfold ordP; split <;> (try split) <;> omega
  have P1 := product_any a b
  have P2 := product_any c d
  have M1 := mul_bd ha.1 ha.2 hb.1 hb.2
  have M2 := mul_bd hc.1 hc.2 hd.1 hd.2
  generalize crossP a b c d = res at *
  generalize sgnP a b = s at *
  generalize sgnP c d = t at *
  generalize a * b = p at *
  generalize c * d = q at *
  replace P1 := Lib.hid P1
  replace P2 := Lib.hid P2
  have O1 := Lib.hid (order_any p q)
  generalize ordP p q = r at *
  go_enter Try.func133, Try.ntmps133
  go_wp2_with (fail)
  refine (P1.out _ ha.1 ha.2 hb.1 hb.2).mono ?_
  rintro e w1 ⟨rfl, x1⟩
  go_wp2_with (fail)
  refine (P2.out _ hc.1 hc.2 hd.1 hd.2).mono ?_
  rintro e w2 ⟨rfl, x2⟩
  have B1 : Blk (w1.alloc (.cells #[.int .u64 0, .int .u64 p] 162)) w1.heap.size 162 #[.int .u64 0, .int .u64 p] := .new rfl
  have B2 := Lib.hid (B1.ext x2)
  have c0 : w2.cell? ⟨w1.heap.size, 0, none⟩ = some (.int .u64 0) := B2.out.cell 0
  have c1 : w2.cell? ⟨w1.heap.size, 1, none⟩ = some (.int .u64 p) := B2.out.cell 1
  have lt1 : w1.heap.size < w2.heap.size := B2.out.lt
  have X2 : Ext w w2 := Ext.tr (Ext.tr x1 ((Ext.rf _).alloc _)) x2
  clear B1
  rcases s1 with rfl | rfl
  · rcases s2 with rfl | rfl
    · go_wp2_with (fail)
      refine (O1.out _).mono ?_
      rintro e w3 ⟨rfl, x3⟩
      go_wp2
      go_ret
      exact ⟨ret_i (by rw [HC.out]; simp), Ext.tr (a := w) (by (repeat (first | assumption | exact Ext.rf _ | apply Ext.drew | apply Ext.drewN | apply Ext.alloc))) x3⟩
    · go_wp2_with (fail)
      go_ret
      exact ⟨ret_i (by rw [HC.out]; simp), by (repeat (first | assumption | exact Ext.rf _ | apply Ext.drew | apply Ext.drewN | apply Ext.alloc))⟩
  · rcases s2 with rfl | rfl
    · go_wp2_with (fail)
      go_ret
      exact ⟨ret_i (by rw [HC.out]; simp), by (repeat (first | assumption | exact Ext.rf _ | apply Ext.drew | apply Ext.drewN | apply Ext.alloc))⟩
    · go_wp2_with (fail)
      refine (O1.out _).mono ?_
      rintro e w3 ⟨rfl, x3⟩
      go_wp2
      go_ret
      exact ⟨ret_i (by rw [HC.out]; simp), Ext.tr (a := w) (by (repeat (first | assumption | exact Ext.rf _ | apply Ext.drew | apply Ext.drewN | apply Ext.alloc))) x3⟩
end Go.Proofs.Ytcpadkaljnnieaa
namespace Go.Proofs.Ytcpadkaljnnieaa
open Go.RowKit Go.ChangeShapes Go.WideShapes Go.ChangeAt Go.Deep

end Go.Proofs.Ytcpadkaljnnieaa
namespace Go.Proofs.Ytcpadkaljnnieaa
open Go.RowKit Go.ChangeShapes Go.WideShapes Go.ChangeAt Go.Deep

def nl (l : List Nat) : List Int := l.map fun n : Nat => (n : Int)
theorem nl_len (l : List Nat) : (nl l).length = l.length := by simp [nl]
theorem nl_get {l : List Nat} {k n : Nat} (h : l[k]? = some n) : (nl l)[k]? = some (n : Int) := by simp [nl, h]
end Go.Proofs.Ytcpadkaljnnieaa
namespace Go.Proofs.Ytcpadkaljnnieaa
open Go.RowKit Go.ChangeShapes Go.WideShapes Go.ChangeAt Go.Deep

end Go.Proofs.Ytcpadkaljnnieaa
namespace Go.Proofs.Ytcpadkaljnnieaa
open Go.RowKit Go.ChangeShapes Go.WideShapes Go.ChangeAt Go.Deep

section
variable {ops : Array Oper} {i : Nat} {t : TypeId} {d : Option Tmp} {a : Act} {w : World} {K : Act → World → Prop} {Q : Exit → Act → World → Prop}
end
theorem RdI.mod {S : Nat → Prop} {w w' : World} {A : Option Addr} {xs : List Int} (h : RdI w A xs) (k : Mod S w w') (hb : ∀ b, bl A = some b → ¬ S b) : RdI w' A xs := by
  rcases h with rfl | ⟨b, off, rfl, hlt, hc⟩
  · exact .inl rfl
  · refine .inr ⟨b, off, rfl, Nat.lt_of_lt_of_le hlt k.size, fun j x hj => ?_⟩
    rw [← hc j x hj]
    exact World.cell?_of_block (k.block b hlt (hb b rfl))
end Go.Proofs.Ytcpadkaljnnieaa
namespace Go.Proofs.Ytcpadkaljnnieaa
open Go.RowKit Go.ChangeShapes Go.WideShapes Go.ChangeAt Go.Deep

section
variable {w w2 : World} {base g pn pc wc vc hc c' : Nat} {cap x : Int} {PA WA VA HA A' : Option Addr} {ws vs bs : List Int}
end
/-- the sums from behind: nought before place k, and from there on -/
def sumsL (vs : List Int) (k : Nat) : List Int := (List.range (vs.length + 1)).map fun i => if i < k then 0 else sumL (vs.drop i)
theorem sumsL_len (vs : List Int) (k : Nat) : (sumsL vs k).length = vs.length + 1 := by simp [sumsL]
theorem sumL_bd {vs : List Int} (h : Small31 vs) (k : Nat) : 0 ≤ sumL (vs.drop k) ∧ sumL (vs.drop k) ≤ 2147483647 * vs.length := by
  have key : ∀ l : List Int, (∀ x ∈ l, 0 ≤ x ∧ x ≤ 2147483647) → 0 ≤ sumL l ∧ sumL l ≤ 2147483647 * l.length := by
    intro l
    induction l with
    | nil => intro _; simp [sumL]
    | cons x l ih =>
      intro hl
      have h1 := hl x (by simp)
      have h2 := ih fun y hy => hl y (by simp [hy])
      simp only [sumL, List.length_cons, Int.natCast_add, Int.natCast_one]
      omega
  have h1 := key (vs.drop k) fun x hx => h x (List.mem_of_mem_drop hx)
  have h2 : (vs.drop k).length ≤ vs.length := by simp
  omega
theorem inOrder_len (l : List Nat) (v : List Int) : (inOrder l v).length = l.length := by simp [inOrder]
theorem inOrder_succ {l : List Nat} {k n : Nat} {v : List Int} {x : Int} (h : l[k]? = some n) (hx : v[n]? = some x) : inOrder (l.take (k + 1)) v = inOrder (l.take k) v ++ [x] := by
  obtain ⟨hk, h⟩ := List.getElem?_eq_some_iff.1 h
  unfold inOrder
  rw [List.take_succ_eq_append_getElem hk, List.map_append, h]
  simp [List.getD, hx]
theorem inOrder_get {l : List Nat} {k n : Nat} {v : List Int} {x : Int} (h : l[k]? = some n) (hx : v[n]? = some x) : (inOrder l v)[k]? = some x := by
  unfold inOrder
  rw [List.getElem?_map, h]
  simp [List.getD, hx]
end Go.Proofs.Ytcpadkaljnnieaa
namespace Go.Proofs.Ytcpadkaljnnieaa
open Go.RowKit Go.ChangeShapes Go.WideShapes Go.ChangeAt Go.Deep

structure KOk (cap : Int) (l : List Nat) (ws vs bs : List Int) : Prop where
  cap : 0 ≤ cap ∧ cap ≤ 2147483647
  l64 : l.length ≤ 64
  lw : ws.length = l.length
  lv : vs.length = l.length
  lb : bs.length = l.length + 1
  sw : Small31 ws
  sv : Small31 vs
end Go.Proofs.Ytcpadkaljnnieaa
namespace Go.Proofs.Ytcpadkaljnnieaa
open Go.RowKit Go.ChangeShapes Go.WideShapes Go.ChangeAt Go.Deep

set_option maxRecDepth 100000 in
theorem div64_any (x y : Int) (w : World) (hx : 0 ≤ x) (hx' : x ≤ 4611686014132420609) (hy : 1 ≤ y) (hy' : y ≤ 2147483647) :
    Calls Try.prog 171 #[.int .u64 0, .int .u64 x, .int .u64 y] w fun e w' => e = .returned (.tuple #[.int .u64 (x / y), .int .u64 (x % y)]) ∧ Ext w w' := by
  have y0 : (y == 0) = false := by rw [beq_eq_false_iff_ne]; omega
  have y1 : decide (y ≤ 0) = false := by simp; omega
  go_enter Try.func171, Try.ntmps171
  go_wp2_with (go_quiet (fail))
  go_ret2
  exact ⟨rfl, by (repeat (first | assumption | exact Ext.rf _ | apply Ext.drew | apply Ext.drewN | apply Ext.alloc))⟩
set_option maxRecDepth 100000 in
set_option maxHeartbeats 1000000 in
theorem part_any (a b c : Int) (w : World) (ha : 0 ≤ a ∧ a ≤ 2147483647) (hb : 0 ≤ b ∧ b ≤ 2147483647) (hc : 1 ≤ c ∧ c ≤ 2147483647) :
    Calls Try.prog 170 #[.int .i64 a, .int .i64 b, .int .i64 c] w fun e w' => e = .returned (.tuple #[.int .i64 (a * b / c), .bool true]) ∧ Ext w w' := by
  obtain ⟨ha, ha'⟩ := ha
  obtain ⟨hb, hb'⟩ := hb
  obtain ⟨hc, hc'⟩ := hc
  have hm := mul_bd ha ha' hb hb'
  have wa : IntKind.u64.wrap a = a := wraps_u64 _ ha (by omega)
  have wb : IntKind.u64.wrap b = b := wraps_u64 _ hb (by omega)
  have wc : IntKind.u64.wrap c = c := wraps_u64 _ (by omega) (by omega)
  have M := mul64_any a b
  have D := div64_any (a * b) c
  have hq : 0 ≤ a * b / c ∧ a * b / c ≤ 4611686014132420609 := by
    refine ⟨Int.ediv_nonneg hm.1 (by omega), ?_⟩
    have := Int.ediv_le_self c hm.1
    omega
  have na : decide (a < 0) = false := by simpa using ha
  have nb : decide (b < 0) = false := by simpa using hb
  have nc : decide (c ≤ 0) = false := by simp; omega
  generalize a * b = p at *
  generalize p / c = q at *
  generalize p % c = r at *
  obtain ⟨hm1, hm2⟩ := hm
  obtain ⟨hq1, hq2⟩ := hq
  have wq : IntKind.i64.wrap q = q := IntWalk.i64_in _ (by omega)
  have hcc : decide (c ≤ 0) = false := nc
  have ng : ¬ (9223372036854775807 < q) := by omega
  replace M := Lib.hid M
  replace D := Lib.hid D
  go_enter Try.func170, Try.ntmps170
  go_wp2_with (fail)
  refine (M.out _ ha ha' hb hb').mono ?_
  rintro e w1 ⟨rfl, x1⟩
  go_wp2_with (fail)
  refine (D.out _ hm1 hm2 hc hc').mono ?_
  rintro e w2 ⟨rfl, x2⟩
  go_wp2
  go_ret2
  exact ⟨rfl, Ext.tr x1 x2⟩
def KidsPost (ks : List Int) (err : Int) (w : World) (e : Ending) (w' : World) : Prop := ∃ A c, e = .returned (.tuple #[.slice A ks.length c, .int .i64 err]) ∧ RdI w' A ks ∧ ks.length ≤ c ∧ c ≤ 9223372036854775807 ∧ Ext w w'
end Go.Proofs.Ytcpadkaljnnieaa
namespace Go.Proofs.Ytcpadkaljnnieaa
open Go.RowKit Go.ChangeShapes Go.WideShapes Go.ChangeAt Go.Deep

def BoundVal (b : Int × Int) : Value := .tuple #[.int .i64 b.1, .int .i64 b.2]
end Go.Proofs.Ytcpadkaljnnieaa
namespace Go.Proofs.Ytcpadkaljnnieaa
open Go.RowKit Go.ChangeShapes Go.WideShapes Go.ChangeAt Go.Deep

end Go.Proofs.Ytcpadkaljnnieaa
namespace Go.Proofs.Ytcpadkaljnnieaa
open Go.RowKit Go.ChangeShapes Go.WideShapes Go.ChangeAt Go.Deep

set_option maxRecDepth 100000 in
set_option maxHeartbeats 4000000 in
theorem rcost_any (i : InstP) (us : List Value) (P : Option Addr) (c : Nat) (x : List Int) (w : World) (H : RInst w us i) (hc : checkP i = 0) (hk : i.kind = 1) (hP : RdI w P x) (lx : (x.length : Int) = i.n) (h01 : ∀ v ∈ x, v = 0 ∨ v = 1) :
    Calls Try.prog 30 #[.agg (List.toArray us), .slice P x.length c] w fun e w' => e = .returned (BoundVal (costP i.cap i.weight i.value x)) ∧ Ext w w' := by
  have CH := fun (W : World) (x : Ext w W) => rcheck_any i us W (H.ext x)
  rw [hc] at CH
  have ok := knap_ok hc hk
  have k1 := ok.n1
  have k2 := ok.n2
  have k3 := ok.w
  have k4 := ok.v
  have k5 := ok.cap
  have k6 := Lib.hid ok.sw
  have k7 := Lib.hid ok.sv
  clear ok hc
  obtain ⟨kind, nn, cap, xw, xv, co⟩ := i
  obtain ⟨A, a, B, b, D, d, rfl, ⟨rA, iA, lA, mA⟩, ⟨rB, iB, lB, mB⟩, -⟩ := H
  simp only at *
  subst hk
  obtain ⟨n, rfl⟩ : ∃ n : Nat, nn = (n : Int) := ⟨nn.toNat, by omega⟩
  have lxn : x.length = n := by omega
  have lwn : xw.length = n := by omega
  have lvn : xv.length = n := by omega
  have hn2 : n ≤ 64 := by omega
  replace lwn := Lib.hid lwn
  replace lvn := Lib.hid lvn
  replace lxn := Lib.hid lxn
  clear lx k3 k4
  have W1 : ∀ k v u, x[k]? = some v → xw[k]? = some u → takenL (x.take (k + 1)) xw = takenL (x.take k) xw + if v = 1 then u else 0 := fun k v u h1 h2 => sumZip_take _ k x xw h1 h2
  have V1 : ∀ k v u, x[k]? = some v → xv[k]? = some u → leftL (x.take (k + 1)) xv = leftL (x.take k) xv + if v = 1 then 0 else u := fun k v u h1 h2 => sumZip_take _ k x xv h1 h2
  replace W1 := Lib.hid W1
  replace V1 := Lib.hid V1
  replace CH := Lib.hid CH
  replace rA := Lib.hid rA
  replace rB := Lib.hid rB
  replace hP := Lib.hid hP
  replace mA := Lib.hid mA
  replace mB := Lib.hid mB
  replace iA := Lib.hid iA
  replace iB := Lib.hid iB
  replace h01 := Lib.hid h01
  have B1 : Hid (Blk (w.alloc (.cells #[.int .i64 1, .int .i64 n, .int .i64 cap, .slice A xw.length a, .slice B xv.length b, .slice D co.length d] 61)) w.heap.size 61 #[.int .i64 1, .int .i64 n, .int .i64 cap, .slice A xw.length a, .slice B xv.length b, .slice D co.length d]) := .new rfl
  have lz := List.take_length (l := x)
  have bW : ∀ k, k ≤ n → 0 ≤ takenL (x.take k) xw ∧ takenL (x.take k) xw ≤ 2147483647 * (k : Int) := by
    intro k
    induction k with
    | zero => intro _; simp [takenL, sumL]
    | succ k ih =>
      intro hk
      have h0 := ih (by omega)
      have h8 : k < x.length := by rw [lxn.out]; omega
      have e1 : x[k]? = some x[k] := List.getElem?_eq_getElem h8
      have h9 : k < xw.length := by rw [lwn.out]; omega
      have e2 : xw[k]? = some xw[k] := List.getElem?_eq_getElem h9
      have h1 := W1.out k _ _ e1 e2
      have h2 := k6.out.get e2
      rw [h1]
      split <;> omega
  have bV : ∀ k, k ≤ n → 0 ≤ leftL (x.take k) xv ∧ leftL (x.take k) xv ≤ 2147483647 * (k : Int) := by
    intro k
    induction k with
    | zero => intro _; simp [leftL, sumL]
    | succ k ih =>
      intro hk
      have h0 := ih (by omega)
      have h8 : k < x.length := by rw [lxn.out]; omega
      have e1 : x[k]? = some x[k] := List.getElem?_eq_getElem h8
      have h9 : k < xv.length := by rw [lvn.out]; omega
      have e2 : xv[k]? = some xv[k] := List.getElem?_eq_getElem h9
      have h1 := V1.out k _ _ e1 e2
      have h2 := k7.out.get e2
      rw [h1]
      split <;> omega
  replace bW := Lib.hid bW
  replace bV := Lib.hid bV
  obtain ⟨cc, hcc⟩ : ∃ cc, Hid (costP cap xw xv x = cc) := ⟨_, rfl⟩
  have HC : Hid (cc = if cap < takenL (x.take n) xw then (0, 9) else (leftL (x.take n) xv, 0)) := by
    have h : cc = if cap < takenL (x.take n) xw then (0, 9) else (leftL (x.take n) xv, 0) := by
      rw [← hcc.out, ← lxn.out, lz]
      rfl
    exact h
  rw [hcc.out]
  clear hcc lz
  go_enter Try.func30, Try.ntmps30
  go_wp2_with (fail)
  refine (CH.out _ (by (repeat (first | assumption | exact Ext.rf _ | apply Ext.drew | apply Ext.drewN | apply Ext.alloc)))).mono ?_
  rintro e w1 ⟨rfl, x1⟩
  have X1 := Lib.hid (Ext.tr (a := w) (by (repeat (first | assumption | exact Ext.rf _ | apply Ext.drew | apply Ext.drewN | apply Ext.alloc))) x1)
  have BB := Lib.hid (B1.out.ext x1)
  have d0 : w1.cell? ⟨w.heap.size, 0, none⟩ = some (.int .i64 1) := BB.out.cell 0
  have d1 : w1.cell? ⟨w.heap.size, 1, none⟩ = some (.int .i64 n) := BB.out.cell 1
  have zb := BB.out.lt
  clear x1
  have exn : (x.length : Int) = (n : Int) := by rw [lxn.out]
  have d2 : w1.cell? ⟨w.heap.size, 2, none⟩ = some (.int .i64 cap) := BB.out.cell 2
  have d3 : w1.cell? ⟨w.heap.size, 3, none⟩ = some (.slice A xw.length a) := BB.out.cell 3
  have d4 : w1.cell? ⟨w.heap.size, 4, none⟩ = some (.slice B xv.length b) := BB.out.cell 4
  go_wp2_with (fail)
  go_loopw [9, 10, 11] (fun a b i wr => ∃ k : Nat, i = .int .i64 k ∧ a = .int .i64 (takenL (x.take k) xw) ∧ b = .int .i64 (leftL (x.take k) xv) ∧ k ≤ n ∧ Ext w1 wr) (fun _ _ i _ => n - (intOf i).toNat)
  case atStart => exact ⟨0, rfl, rfl, rfl, by omega, Ext.rf _⟩
  case round =>
    obtain ⟨wo, rfl⟩ : ∃ wo : World, wo = wr := ⟨_, rfl⟩
    obtain ⟨k, rfl, rfl, rfl, hk, Y⟩ := hrel
    have e1 := keepEL Y zb d1
    have e2 := keepEL Y zb d2
    have e3 := keepEL Y zb d3
    have e4 := keepEL Y zb d4
    obtain ⟨tw1, tw2⟩ := bW.out k hk
    obtain ⟨tv1, tv2⟩ := bV.out k hk
    by_cases hlt : k < n
    · obtain ⟨pb, po, y, rfl, zy, cy, ey, _⟩ := (hP.out.ext (X1.out.tr Y)).at (k := k) (by rw [lxn.out]; exact hlt)
      obtain ⟨ab, ao, u, rfl, zu, cu, eu, _⟩ := (rA.out.ext (X1.out.tr Y)).at (k := k) (by rw [lwn.out]; exact hlt)
      obtain ⟨vb, vo, v, rfl, zv, cv, ev, _⟩ := (rB.out.ext (X1.out.tr Y)).at (k := k) (by rw [lvn.out]; exact hlt)
      have sW := Lib.hid (W1.out k y u ey.out eu.out)
      have sV := Lib.hid (V1.out k y v ey.out ev.out)
      have bu := k6.out.get eu.out
      have bv := k7.out.get ev.out
      have q1 : (k : Int) < (x.length : Int) := by omega
      have q2 : (k : Int) < (xw.length : Int) := by rw [lwn.out]; omega
      have q3 : (k : Int) < (xv.length : Int) := by rw [lvn.out]; omega
      have hy := h01.out y (List.mem_of_getElem? ey.out)
      obtain ⟨tw, htw⟩ : ∃ tw, tw = takenL (x.take k) xw := ⟨_, rfl⟩
      obtain ⟨tv, htv⟩ : ∃ tv, tv = leftL (x.take k) xv := ⟨_, rfl⟩
      rw [← htw] at tw1 tw2 sW ⊢
      rw [← htv] at tv1 tv2 sV ⊢
      clear ey eu ev htw htv e2
      by_cases y1 : y = 1
      · subst y1
        have sW2 : Hid (takenL (x.take (k + 1)) xw = tw + u) := by
          have h := sW.out
          rw [if_pos rfl] at h
          exact h
        have sV2 : Hid (leftL (x.take (k + 1)) xv = tv) := by
          have h := sV.out
          rw [if_pos rfl, Int.add_zero] at h
          exact h
        clear sW sV hy
        have w1' : IntKind.i64.wrap (tw + u) = tw + u := IntWalk.i64_in _ (by omega)
        go_wp2_with (go_quiet (fail))
        go_roundw
        case rel => exact ⟨k + 1, by go_num, by rw [sW2.out], by rw [sV2.out], by omega, by repeat (first | exact Y | apply Ext.drewN)⟩
        case measure => simp [intOf]; omega
      · obtain rfl : y = 0 := by omega
        have sW2 : Hid (takenL (x.take (k + 1)) xw = tw) := by
          have h := sW.out
          rw [if_neg (by decide), Int.add_zero] at h
          exact h
        have sV2 : Hid (leftL (x.take (k + 1)) xv = tv + v) := by
          have h := sV.out
          rw [if_neg (by decide)] at h
          exact h
        clear sW sV hy y1
        have w1' : IntKind.i64.wrap (tv + v) = tv + v := IntWalk.i64_in _ (by omega)
        go_wp2_with (go_quiet (fail))
        go_roundw
        case rel => exact ⟨k + 1, by go_num, by rw [sW2.out], by rw [sV2.out], by omega, by repeat (first | exact Y | apply Ext.drewN)⟩
        case measure => simp [intOf]; omega
    · obtain rfl : k = n := by omega
      obtain ⟨tw, htw⟩ : ∃ tw, tw = takenL (x.take k) xw := ⟨_, rfl⟩
      obtain ⟨tv, htv⟩ : ∃ tv, tv = leftL (x.take k) xv := ⟨_, rfl⟩
      rw [← htw] at tw1 tw2 HC ⊢
      rw [← htv] at tv1 tv2 HC ⊢
      clear htw htv e3 e4
      by_cases hcap : cap < tw
      · have hb : decide (cap < tw) = true := decide_eq_true hcap
        have HC2 : Hid (cc = (0, 9)) := by
          have h := HC.out
          rw [if_pos hcap] at h
          exact h
        clear HC hcap
        go_wp2_with (fail)
        go_ret2
        rw [HC2.out]
        exact ⟨rfl, X1.out.tr Y⟩
      · have hb : decide (cap < tw) = false := decide_eq_false hcap
        have HC2 : Hid (cc = (tv, 0)) := by
          have h := HC.out
          rw [if_neg hcap] at h
          exact h
        clear HC hcap
        go_wp2_with (fail)
        go_ret2
        rw [HC2.out]
        exact ⟨rfl, X1.out.tr Y⟩
end Go.Proofs.Ytcpadkaljnnieaa
namespace Go.Proofs.Ytcpadkaljnnieaa
open Go.RowKit Go.ChangeShapes Go.WideShapes Go.ChangeAt Go.Deep

def foldB (f : Int → Int) : Int → List Nat → Int
  | b, [] => b
  | b, k :: l => foldB f (pkB b (f (k : Int))) l
def rest1 (k : Nat) : List Nat := (List.range 2).drop k
set_option maxRecDepth 100000 in
set_option maxHeartbeats 4000000 in
theorem best1_more (i : InstP) (us : List Value) (P : Option Addr) (c : Nat) (x : List Int) (w : World) (H : RInst w us i) (hk2 : i.kind = 1) (hP : RdI w P x) (lx : x.length ≤ 1000) (n : Nat) (hn : i.n = n) (n1 : 1 ≤ n) (n64 : n ≤ 64) (hlen : x.length < n) (f : Int → Int)
    (IH : ∀ (k : Nat) (A : Option Addr) (d : Nat) (q : List Int), k < 2 → q = x ++ [(k : Int)] → ∀ W, Ext w W → RdI W A q → Calls Try.prog 32 #[.agg (List.toArray us), .slice A q.length d] W fun e w' => e = .returned (.int .i64 (f (k : Int))) ∧ Ext W w') :
    Calls Try.prog 32 #[.agg (List.toArray us), .slice P x.length c] w fun e w' => e = .returned (.int .i64 (pkB (pkB (-1) (f 0)) (f 1))) ∧ Ext w w' := by
  have e5 : foldB f (-1) (rest1 0) = pkB (pkB (-1) (f 0)) (f 1) := by first | rfl | simp [rest1, foldB]
  generalize pkB (pkB (-1) (f 0)) (f 1) = bs at *
  have ST : ∀ k, k < 2 → rest1 k = k :: rest1 (k + 1) := fun k hk => by
    unfold rest1; rw [List.drop_eq_getElem_cons (by rw [List.length_range]; exact hk), List.getElem_range]
  have EN : ∀ k, 2 ≤ k → rest1 k = [] := fun k hk => by
    unfold rest1; exact List.drop_of_length_le (by rw [List.length_range]; exact hk)
  obtain ⟨kind, nn, cap, xw, xv, co⟩ := i
  obtain ⟨A, a, B, b, D, d, rfl, -, -, -⟩ := H
  simp only at *
  subst hk2 hn
  have hne : ((x.length : Int) == (n : Int)) = false := by rw [beq_eq_false_iff_ne]; omega
  replace IH := Lib.hid IH
  replace ST := Lib.hid ST
  replace EN := Lib.hid EN
  replace e5 := Lib.hid e5
  replace hP := Lib.hid hP
  have B1 : Hid (Blk (w.alloc (.cells #[.int .i64 1, .int .i64 n, .int .i64 cap, .slice A xw.length a, .slice B xv.length b, .slice D co.length d] 61)) w.heap.size 61 #[.int .i64 1, .int .i64 n, .int .i64 cap, .slice A xw.length a, .slice B xv.length b, .slice D co.length d]) := .new rfl
  have X0 : Hid (Ext w (w.alloc (.cells #[.int .i64 1, .int .i64 n, .int .i64 cap, .slice A xw.length a, .slice B xv.length b, .slice D co.length d] 61))) := (Ext.rf _).alloc _
  obtain ⟨w1, hw1⟩ : ∃ w1, w1 = (w.alloc (.cells #[.int .i64 1, .int .i64 n, .int .i64 cap, .slice A xw.length a, .slice B xv.length b, .slice D co.length d] 61)) := ⟨_, rfl⟩
  have B2 : Hid (Blk w1 w.heap.size 61 #[.int .i64 1, .int .i64 n, .int .i64 cap, .slice A xw.length a, .slice B xv.length b, .slice D co.length d]) := by rw [hw1]; exact B1.out
  have X1 : Hid (Ext w w1) := by rw [hw1]; exact X0.out
  replace hw1 := Lib.hid hw1
  clear B1
  go_enter Try.func32, Try.ntmps32
  go_wp2_with (fail)
  rw [← hw1.out]
  clear X0
  go_loopw [9, 7] (fun v bv wr => ∃ (k : Nat) (bb : Int), v = .int .i64 k ∧ bv = .int .i64 bb ∧ k ≤ 2 ∧ Hid (foldB f bb (rest1 k) = bs) ∧ Hid (Ext w1 wr)) (fun v _ _ => 2 - (intOf v).toNat)
  case atStart => exact ⟨0, -1, rfl, rfl, by omega, e5, Ext.rf _⟩
  case round =>
    obtain ⟨wo, rfl⟩ : ∃ wo : World, wo = wr := ⟨_, rfl⟩
    obtain ⟨k, bb, rfl, rfl, hk, HS, Y⟩ := hrel
    by_cases hlt : k < 2
    · have HN : Hid (foldB f bb (k :: rest1 (k + 1)) = bs) := by
        have h := HS.out
        rw [ST.out k hlt] at h
        exact h
      have q1 : (k : Int) < 2 := by omega
      have B3 := B2.out.ext Y.out
      have zb3 := B3.lt
      have c0 : wo.cell? ⟨w.heap.size, 0, none⟩ = some (.int .i64 1) := B3.cell 0
      replace B3 := Lib.hid B3
      clear HS
      go_wp2_with (fail)
      go_loopw [11, 10] (fun v uv wr => v = .int .i64 0 ∧ uv = .bool false ∧ wr = wo) (fun _ _ _ => 0)
      case atStart => exact ⟨rfl, rfl, rfl⟩
      case round =>
        obtain ⟨rfl, rfl, hwr⟩ := hrel
        have hwr' : wo = wr := (show wr = wo from hwr).symm
        clear hwr
        subst hwr'
        have HN2 : Hid ((0 ≤ f (k : Int) ∧ (bb < 0 ∨ f (k : Int) < bb) → Hid (foldB f (f (k : Int)) (rest1 (k + 1)) = bs)) ∧ (¬ (0 ≤ f (k : Int) ∧ (bb < 0 ∨ f (k : Int) < bb)) → Hid (foldB f bb (rest1 (k + 1)) = bs))) := by
          have h : foldB f (pkB bb (f (k : Int))) (rest1 (k + 1)) = bs := HN.out
          unfold pkB at h
          exact ⟨fun hh => by rw [if_pos hh] at h; exact h, fun hh => by rw [if_neg hh] at h; exact h⟩
        by_cases hx0 : (0 : Int) < (x.length : Int)
        · have IHk := Lib.hid (fun (A : Option Addr) (d : Nat) (q : List Int) (hq : q = x ++ [(k : Int)]) => IH.out k A d q hlt hq)
          generalize f (k : Int) = fv at *
          clear HN
          have c1' : wo.cell? ⟨w.heap.size, 1, none⟩ = some (.int .i64 n) := B3.out.cell 1
          have c2 : wo.cell? ⟨w.heap.size, 2, none⟩ = some (.int .i64 cap) := B3.out.cell 2
          have c3 : wo.cell? ⟨w.heap.size, 3, none⟩ = some (.slice A xw.length a) := B3.out.cell 3
          have c4 : wo.cell? ⟨w.heap.size, 4, none⟩ = some (.slice B xv.length b) := B3.out.cell 4
          have c5 : wo.cell? ⟨w.heap.size, 5, none⟩ = some (.slice D co.length d) := B3.out.cell 5
          obtain ⟨q, hq⟩ : ∃ q, Hid (q = x ++ [(k : Int)]) := ⟨_, rfl⟩
          have lq : q.length = x.length + 1 := by rw [hq.out]; simp
          replace lq := Lib.hid lq
          go_upto_region 19 with (fail)
          refine wp_region_any (by kernel_rfl) ?_
          change wpAny _ _ _ _ _ _ _ (World.drew _)
          refine wpAny_T (i := 2) (op := Op.move (Operand.tmp 1)) (t := 22) (d := some 74) (v := ?_) rfl (by decide +kernel) (by decide +kernel) (by decide +kernel) (fun _ _ _ h => h) ?_ ?_
          case refine_2 => (intro _; unfold exec2; go_simp; try with_reducible rfl)
          try simp only [Act.put, List.setIfInBounds_toArray, List.set_cons_zero, List.set_cons_succ]
          refine wpAny_T (i := 4) (op := Op.move (Operand.tmp 9)) (t := 3) (d := some 76) (v := ?_) rfl (by decide +kernel) (by decide +kernel) (by decide +kernel) (fun _ _ _ h => h) ?_ ?_
          case refine_2 => (intro _; unfold exec2; go_simp; try with_reducible rfl)
          try simp only [Act.put, List.setIfInBounds_toArray, List.set_cons_zero, List.set_cons_succ]
          refine wpAny_core3 (n := 2) [(0, some 72), (1, some 73), (3, some 75), (5, some 77), (6, some 78)] (fun | 1 => [3] | 3 => [6] | 5 => [6] | _ => []) (Ext wo)
            (VF (fun | 0 => some (.agg #[.int .i64 1, .int .i64 n, .int .i64 cap, .slice A xw.length a, .slice B xv.length b, .slice D co.length d]) | _ => none)
              (fun j v W => (j = 1 → ∃ g, v = .slice (some ⟨g, 0, none⟩) 0 0 ∧ wo.heap.size ≤ g ∧ Blk W g 3 #[]) ∧ (j = 3 → ∃ A c, v = .slice A x.length c ∧ OwI W wo.heap.size A c x) ∧ (j = 5 → ∃ h, v = .slice (some ⟨h, 0, none⟩) 1 1 ∧ Blk W h 3 #[.int .i64 (k : Int)]) ∧ (j = 6 → ∃ A c, v = .slice A q.length c ∧ OwI W wo.heap.size A c q)))
            (fun i W W' => i ≠ 6 → Ext W W') #[true, true, true, true, true, true, true, false, false] (by kernel_rfl) (by kernel_rfl) ?_ ?_ ?_ ((Ext.rf _).drew)
          · intro i j v W W' hkp hv hs
            refine VF.stab1 (fun _ ⟨g1, g3, g8, g9⟩ => ?_) hv
            by_cases hi : i = 6
            · subst hi
              refine ⟨fun h => ?_, fun h => ?_, fun h => ?_, fun h => ?_⟩
              all_goals (subst h; exact absurd hkp (by decide +kernel))
            · have hx := hs hi
              refine ⟨fun h => ?_, fun h => ?_, fun h => ?_, fun h => ?_⟩
              · obtain ⟨g, q1, q2, q3⟩ := g1 h
                exact ⟨g, q1, q2, q3.ext hx⟩
              · obtain ⟨A', c', q1, q2⟩ := g3 h
                exact ⟨A', c', q1, q2.ext hx⟩
              · obtain ⟨h', q1, q2⟩ := g8 h
                exact ⟨h', q1, q2.ext hx⟩
              · obtain ⟨A', c', q1, q2⟩ := g9 h
                exact ⟨A', c', q1, q2.ext hx⟩
          · intro pq hpm u W hRW hD K hK
            have z2 := hRW.size
            simp only [List.mem_cons, List.not_mem_nil, or_false] at hpm
            rcases hpm with rfl | rfl | rfl | rfl | rfl
            · have r0 := keepEL hRW zb3 c0
              have r1 := keepEL hRW zb3 c1'
              have r2 := keepEL hRW zb3 c2
              have r3 := keepEL hRW zb3 c3
              have r4 := keepEL hRW zb3 c4
              have r5 := keepEL hRW zb3 c5
              exact op_ld (T := 61) rfl (.pointer (some ⟨w.heap.size, 0, none⟩)) (by kernel_rfl) (.agg #[.int .i64 1, .int .i64 n, .int .i64 cap, .slice A xw.length a, .slice B xv.length b, .slice D co.length d]) (by go_simp) (hK _ _ (VF.mk rfl) hRW (fun _ => Ext.rf _))
            · exact op_bs0 rfl _ (ibs0_run _) (hK _ _ (VF.mg rfl ⟨fun _ => ⟨_, rfl, z2, .new rfl⟩, (fun h => by cases h), (fun h => by cases h), (fun h => by cases h)⟩) (hRW.alloc _) (fun _ => (Ext.rf _).alloc _))
            · obtain ⟨g, h1, zg, bg⟩ := ((hD 1 (depIn (by kernel_rfl))).g rfl).1 rfl
              obtain ⟨A3, c3, w3, hr3, o3, x3⟩ := run_copy_i W wo.heap.size 22 g x P c bg zg (hP.out.ext ((X1.out.tr Y.out).tr hRW)) (by omega)
              exact op_app rfl (.slice (some ⟨g, 0, none⟩) 0 0) (.slice P x.length c) (Eq.trans (b := u 1) (by kernel_rfl) h1) (by kernel_rfl) _ hr3 (hK _ _ (VF.mg rfl ⟨(fun h => by cases h), fun _ => ⟨A3, c3, rfl, o3⟩, (fun h => by cases h), (fun h => by cases h)⟩) (hRW.tr x3) (fun _ => x3))
            · exact op_bs1 rfl (.int .i64 (k : Int)) (by kernel_rfl) _ (ibs1_run _ _) (hK _ _ (VF.mg rfl ⟨(fun h => by cases h), (fun h => by cases h), fun _ => ⟨_, rfl, .new rfl⟩, (fun h => by cases h)⟩) (hRW.alloc _) (fun _ => (Ext.rf _).alloc _))
            · obtain ⟨A3, c3', h3, o3⟩ := ((hD 3 (depIn (by kernel_rfl))).g rfl).2.1 rfl
              obtain ⟨g8, h8, b8⟩ := ((hD 5 (depIn (by kernel_rfl))).g rfl).2.2.1 rfl
              obtain ⟨A7, c7, w7, hrun, o7, g7, -⟩ := run_app_i W wo.heap.size 22 A3 x.length c3' x [(k : Int)] (some ⟨g8, 0, none⟩) 1 rfl o3 (.blk b8 rfl) (by simp; omega) hRW.size
              have x7 : Ext wo w7 := hRW.grow g7 (fun k hk => (o3.lt k hk).1)
              rw [← hq.out] at hrun o7
              exact op_app rfl (.slice A3 x.length c3') (.slice (some ⟨g8, 0, none⟩) 1 1) (Eq.trans (b := u 3) (by kernel_rfl) h3) (Eq.trans (b := u 5) (by kernel_rfl) h8) _ hrun (hK _ _ (VF.mg rfl ⟨(fun h => by cases h), (fun h => by cases h), (fun h => by cases h), fun _ => ⟨A7, c7, rfl, o7⟩⟩) x7 (fun h => absurd rfl h))
          · intro u w7 hRW hV
            have h0 := (hV (0, some 72) (by simp) rfl).k rfl
            obtain ⟨A7, c7, h9, o7⟩ := ((hV (6, some 78) (by simp) rfl).g rfl).2.2.2 rfl
            simp only [putAll, h0, h9]
            have rq := Lib.hid o7.read
            have x7 := Lib.hid hRW
            clear h0 h9 hV o7 hRW
            try simp only [Act.put, List.setIfInBounds_toArray, List.set_cons_zero, List.set_cons_succ]
            refine wpAny_next 7 (by decide +kernel) (op_call (f := 32) (xs := #[Operand.tmp 72, Operand.tmp 78]) (ts := #[61, 22]) (t := 3) (d := some 79) rfl #[.agg #[.int .i64 1, .int .i64 n, .int .i64 cap, .slice A xw.length a, .slice B xv.length b, .slice D co.length d], .slice A7 q.length c7] (by go_simp) (by kernel_rfl) _ (IHk.out A7 c7 q hq.out w7 (X1.out.tr (Y.out.tr x7.out)) rq.out) ?_)
            rintro e w8 ⟨rfl, x8⟩
            refine ⟨_, rfl, ?_⟩
            try simp only [Act.put, List.setIfInBounds_toArray, List.set_cons_zero, List.set_cons_succ]
            refine wpAny_T (i := 8) (op := Op.assign (Operand.tmp 79)) (t := 3) (d := some 12) (v := ?_) rfl (by decide +kernel) (by decide +kernel) (by decide +kernel) (fun _ _ _ h => h) ?_ ?_
            case refine_2 => (intro _; unfold exec2; go_simp; try with_reducible rfl)
            try simp only [Act.put, List.setIfInBounds_toArray, List.set_cons_zero, List.set_cons_succ]
            refine wpAny_done (by kernel_rfl) ?_ _
            have Y8 := Lib.hid (Y.out.tr (x7.out.tr x8))
            clear x8 x7 rq c0 c1' c2 c3 c4 c5
            go_simp
            by_cases hfv : 0 ≤ fv
            · by_cases hbb : bb < 0
              · have HN3 := HN2.out.1 ⟨hfv, .inl hbb⟩
                clear HN2
                go_wp2_with (fail)
                go_roundw
                case rel => exact ⟨k + 1, fv, by go_num, rfl, by omega, HN3, Y8⟩
                case measure => simp [intOf]; omega
              · by_cases hfb : fv < bb
                · have HN3 := HN2.out.1 ⟨hfv, .inr hfb⟩
                  clear HN2
                  go_wp2_with (fail)
                  go_roundw
                  case rel => exact ⟨k + 1, fv, by go_num, rfl, by omega, HN3, Y8⟩
                  case measure => simp [intOf]; omega
                · have HN3 := HN2.out.2 (by omega)
                  clear HN2
                  go_wp2_with (fail)
                  go_roundw
                  case rel => exact ⟨k + 1, bb, by go_num, rfl, by omega, HN3, Y8⟩
                  case measure => simp [intOf]; omega
            · have HN3 := HN2.out.2 (by omega)
              clear HN2
              go_wp2_with (fail)
              go_roundw
              case rel => exact ⟨k + 1, bb, by go_num, rfl, by omega, HN3, Y8⟩
              case measure => simp [intOf]; omega
        · have IHk := Lib.hid (fun (A : Option Addr) (d : Nat) (q : List Int) (hq : q = x ++ [(k : Int)]) => IH.out k A d q hlt hq)
          generalize f (k : Int) = fv at *
          clear HN
          have c1' : wo.cell? ⟨w.heap.size, 1, none⟩ = some (.int .i64 n) := B3.out.cell 1
          have c2 : wo.cell? ⟨w.heap.size, 2, none⟩ = some (.int .i64 cap) := B3.out.cell 2
          have c3 : wo.cell? ⟨w.heap.size, 3, none⟩ = some (.slice A xw.length a) := B3.out.cell 3
          have c4 : wo.cell? ⟨w.heap.size, 4, none⟩ = some (.slice B xv.length b) := B3.out.cell 4
          have c5 : wo.cell? ⟨w.heap.size, 5, none⟩ = some (.slice D co.length d) := B3.out.cell 5
          obtain ⟨q, hq⟩ : ∃ q, Hid (q = x ++ [(k : Int)]) := ⟨_, rfl⟩
          have lq : q.length = x.length + 1 := by rw [hq.out]; simp
          replace lq := Lib.hid lq
          go_upto_region 19 with (fail)
          refine wp_region_any (by kernel_rfl) ?_
          change wpAny _ _ _ _ _ _ _ (World.drew _)
          refine wpAny_T (i := 2) (op := Op.move (Operand.tmp 1)) (t := 22) (d := some 74) (v := ?_) rfl (by decide +kernel) (by decide +kernel) (by decide +kernel) (fun _ _ _ h => h) ?_ ?_
          case refine_2 => (intro _; unfold exec2; go_simp; try with_reducible rfl)
          try simp only [Act.put, List.setIfInBounds_toArray, List.set_cons_zero, List.set_cons_succ]
          refine wpAny_T (i := 4) (op := Op.move (Operand.tmp 9)) (t := 3) (d := some 76) (v := ?_) rfl (by decide +kernel) (by decide +kernel) (by decide +kernel) (fun _ _ _ h => h) ?_ ?_
          case refine_2 => (intro _; unfold exec2; go_simp; try with_reducible rfl)
          try simp only [Act.put, List.setIfInBounds_toArray, List.set_cons_zero, List.set_cons_succ]
          refine wpAny_core3 (n := 2) [(0, some 72), (1, some 73), (3, some 75), (5, some 77), (6, some 78)] (fun | 1 => [3] | 3 => [6] | 5 => [6] | _ => []) (Ext wo)
            (VF (fun | 0 => some (.agg #[.int .i64 1, .int .i64 n, .int .i64 cap, .slice A xw.length a, .slice B xv.length b, .slice D co.length d]) | _ => none)
              (fun j v W => (j = 1 → ∃ g, v = .slice (some ⟨g, 0, none⟩) 0 0 ∧ wo.heap.size ≤ g ∧ Blk W g 3 #[]) ∧ (j = 3 → ∃ A c, v = .slice A x.length c ∧ OwI W wo.heap.size A c x) ∧ (j = 5 → ∃ h, v = .slice (some ⟨h, 0, none⟩) 1 1 ∧ Blk W h 3 #[.int .i64 (k : Int)]) ∧ (j = 6 → ∃ A c, v = .slice A q.length c ∧ OwI W wo.heap.size A c q)))
            (fun i W W' => i ≠ 6 → Ext W W') #[true, true, true, true, true, true, true, false, false] (by kernel_rfl) (by kernel_rfl) ?_ ?_ ?_ ((Ext.rf _).drew)
          · intro i j v W W' hkp hv hs
            refine VF.stab1 (fun _ ⟨g1, g3, g8, g9⟩ => ?_) hv
            by_cases hi : i = 6
            · subst hi
              refine ⟨fun h => ?_, fun h => ?_, fun h => ?_, fun h => ?_⟩
              all_goals (subst h; exact absurd hkp (by decide +kernel))
            · have hx := hs hi
              refine ⟨fun h => ?_, fun h => ?_, fun h => ?_, fun h => ?_⟩
              · obtain ⟨g, q1, q2, q3⟩ := g1 h
                exact ⟨g, q1, q2, q3.ext hx⟩
              · obtain ⟨A', c', q1, q2⟩ := g3 h
                exact ⟨A', c', q1, q2.ext hx⟩
              · obtain ⟨h', q1, q2⟩ := g8 h
                exact ⟨h', q1, q2.ext hx⟩
              · obtain ⟨A', c', q1, q2⟩ := g9 h
                exact ⟨A', c', q1, q2.ext hx⟩
          · intro pq hpm u W hRW hD K hK
            have z2 := hRW.size
            simp only [List.mem_cons, List.not_mem_nil, or_false] at hpm
            rcases hpm with rfl | rfl | rfl | rfl | rfl
            · have r0 := keepEL hRW zb3 c0
              have r1 := keepEL hRW zb3 c1'
              have r2 := keepEL hRW zb3 c2
              have r3 := keepEL hRW zb3 c3
              have r4 := keepEL hRW zb3 c4
              have r5 := keepEL hRW zb3 c5
              exact op_ld (T := 61) rfl (.pointer (some ⟨w.heap.size, 0, none⟩)) (by kernel_rfl) (.agg #[.int .i64 1, .int .i64 n, .int .i64 cap, .slice A xw.length a, .slice B xv.length b, .slice D co.length d]) (by go_simp) (hK _ _ (VF.mk rfl) hRW (fun _ => Ext.rf _))
            · exact op_bs0 rfl _ (ibs0_run _) (hK _ _ (VF.mg rfl ⟨fun _ => ⟨_, rfl, z2, .new rfl⟩, (fun h => by cases h), (fun h => by cases h), (fun h => by cases h)⟩) (hRW.alloc _) (fun _ => (Ext.rf _).alloc _))
            · obtain ⟨g, h1, zg, bg⟩ := ((hD 1 (depIn (by kernel_rfl))).g rfl).1 rfl
              obtain ⟨A3, c3, w3, hr3, o3, x3⟩ := run_copy_i W wo.heap.size 22 g x P c bg zg (hP.out.ext ((X1.out.tr Y.out).tr hRW)) (by omega)
              exact op_app rfl (.slice (some ⟨g, 0, none⟩) 0 0) (.slice P x.length c) (Eq.trans (b := u 1) (by kernel_rfl) h1) (by kernel_rfl) _ hr3 (hK _ _ (VF.mg rfl ⟨(fun h => by cases h), fun _ => ⟨A3, c3, rfl, o3⟩, (fun h => by cases h), (fun h => by cases h)⟩) (hRW.tr x3) (fun _ => x3))
            · exact op_bs1 rfl (.int .i64 (k : Int)) (by kernel_rfl) _ (ibs1_run _ _) (hK _ _ (VF.mg rfl ⟨(fun h => by cases h), (fun h => by cases h), fun _ => ⟨_, rfl, .new rfl⟩, (fun h => by cases h)⟩) (hRW.alloc _) (fun _ => (Ext.rf _).alloc _))
            · obtain ⟨A3, c3', h3, o3⟩ := ((hD 3 (depIn (by kernel_rfl))).g rfl).2.1 rfl
              obtain ⟨g8, h8, b8⟩ := ((hD 5 (depIn (by kernel_rfl))).g rfl).2.2.1 rfl
              obtain ⟨A7, c7, w7, hrun, o7, g7, -⟩ := run_app_i W wo.heap.size 22 A3 x.length c3' x [(k : Int)] (some ⟨g8, 0, none⟩) 1 rfl o3 (.blk b8 rfl) (by simp; omega) hRW.size
              have x7 : Ext wo w7 := hRW.grow g7 (fun k hk => (o3.lt k hk).1)
              rw [← hq.out] at hrun o7
              exact op_app rfl (.slice A3 x.length c3') (.slice (some ⟨g8, 0, none⟩) 1 1) (Eq.trans (b := u 3) (by kernel_rfl) h3) (Eq.trans (b := u 5) (by kernel_rfl) h8) _ hrun (hK _ _ (VF.mg rfl ⟨(fun h => by cases h), (fun h => by cases h), (fun h => by cases h), fun _ => ⟨A7, c7, rfl, o7⟩⟩) x7 (fun h => absurd rfl h))
          · intro u w7 hRW hV
            have h0 := (hV (0, some 72) (by simp) rfl).k rfl
            obtain ⟨A7, c7, h9, o7⟩ := ((hV (6, some 78) (by simp) rfl).g rfl).2.2.2 rfl
            simp only [putAll, h0, h9]
            have rq := Lib.hid o7.read
            have x7 := Lib.hid hRW
            clear h0 h9 hV o7 hRW
            try simp only [Act.put, List.setIfInBounds_toArray, List.set_cons_zero, List.set_cons_succ]
            refine wpAny_next 7 (by decide +kernel) (op_call (f := 32) (xs := #[Operand.tmp 72, Operand.tmp 78]) (ts := #[61, 22]) (t := 3) (d := some 79) rfl #[.agg #[.int .i64 1, .int .i64 n, .int .i64 cap, .slice A xw.length a, .slice B xv.length b, .slice D co.length d], .slice A7 q.length c7] (by go_simp) (by kernel_rfl) _ (IHk.out A7 c7 q hq.out w7 (X1.out.tr (Y.out.tr x7.out)) rq.out) ?_)
            rintro e w8 ⟨rfl, x8⟩
            refine ⟨_, rfl, ?_⟩
            try simp only [Act.put, List.setIfInBounds_toArray, List.set_cons_zero, List.set_cons_succ]
            refine wpAny_T (i := 8) (op := Op.assign (Operand.tmp 79)) (t := 3) (d := some 12) (v := ?_) rfl (by decide +kernel) (by decide +kernel) (by decide +kernel) (fun _ _ _ h => h) ?_ ?_
            case refine_2 => (intro _; unfold exec2; go_simp; try with_reducible rfl)
            try simp only [Act.put, List.setIfInBounds_toArray, List.set_cons_zero, List.set_cons_succ]
            refine wpAny_done (by kernel_rfl) ?_ _
            have Y8 := Lib.hid (Y.out.tr (x7.out.tr x8))
            clear x8 x7 rq c0 c1' c2 c3 c4 c5
            go_simp
            by_cases hfv : 0 ≤ fv
            · by_cases hbb : bb < 0
              · have HN3 := HN2.out.1 ⟨hfv, .inl hbb⟩
                clear HN2
                go_wp2_with (fail)
                go_roundw
                case rel => exact ⟨k + 1, fv, by go_num, rfl, by omega, HN3, Y8⟩
                case measure => simp [intOf]; omega
              · by_cases hfb : fv < bb
                · have HN3 := HN2.out.1 ⟨hfv, .inr hfb⟩
                  clear HN2
                  go_wp2_with (fail)
                  go_roundw
                  case rel => exact ⟨k + 1, fv, by go_num, rfl, by omega, HN3, Y8⟩
                  case measure => simp [intOf]; omega
                · have HN3 := HN2.out.2 (by omega)
                  clear HN2
                  go_wp2_with (fail)
                  go_roundw
                  case rel => exact ⟨k + 1, bb, by go_num, rfl, by omega, HN3, Y8⟩
                  case measure => simp [intOf]; omega
            · have HN3 := HN2.out.2 (by omega)
              clear HN2
              go_wp2_with (fail)
              go_roundw
              case rel => exact ⟨k + 1, bb, by go_num, rfl, by omega, HN3, Y8⟩
              case measure => simp [intOf]; omega
    · have hkm : k = 2 := by omega
      have q1 : ¬ (k : Int) < 2 := by omega
      have HN : Hid (bb = bs) := by
        have h := HS.out
        rw [EN.out k (by omega)] at h
        exact h
      obtain rfl := HN.out
      replace hkm := Lib.hid hkm
      go_wp2_with (fail)
      go_ret
      exact ⟨rfl, X1.out.tr Y.out⟩
def rest3 (k : Nat) : List Nat := if k = 0 then [0] else []
set_option maxRecDepth 100000 in
set_option maxHeartbeats 4000000 in
theorem best3_root (i : InstP) (us : List Value) (P : Option Addr) (c : Nat) (x : List Int) (w : World) (H : RInst w us i) (hk2 : i.kind = 3) (hP : RdI w P x) (lx : x.length ≤ 1000) (hx0 : x = []) (n : Nat) (hn : i.n = n) (n1 : 1 ≤ n) (n64 : n ≤ 64) (hlen : x.length < n) (f : Int → Int)
    (IH : ∀ (k : Nat) (A : Option Addr) (d : Nat) (q : List Int), k = 0 → q = x ++ [(k : Int)] → ∀ W, Ext w W → RdI W A q → Calls Try.prog 32 #[.agg (List.toArray us), .slice A q.length d] W fun e w' => e = .returned (.int .i64 (f (k : Int))) ∧ Ext W w') :
    Calls Try.prog 32 #[.agg (List.toArray us), .slice P x.length c] w fun e w' => e = .returned (.int .i64 (pkB (-1) (f 0))) ∧ Ext w w' := by
  have e5 : foldB f (-1) (rest3 0) = pkB (-1) (f 0) := by first | rfl | simp [rest3, foldB]
  generalize pkB (-1) (f 0) = bs at *
  have ST : ∀ k, k < n → rest3 k = (if k = 0 then 0 :: rest3 1 else rest3 (k + 1)) := fun k hk => by
    unfold rest3; by_cases e : k = 0 <;> simp [e]
  have EN : ∀ k, n ≤ k → rest3 k = [] := fun k hk => by
    unfold rest3; rw [if_neg (by omega)]
  obtain ⟨kind, nn, cap, xw, xv, co⟩ := i
  obtain ⟨A, a, B, b, D, d, rfl, -, -, -⟩ := H
  simp only at *
  subst hk2 hn
  have hne : ((x.length : Int) == (n : Int)) = false := by rw [beq_eq_false_iff_ne]; omega
  have hx1 : x.length = 0 := by rw [hx0]; rfl
  have hz0 : ((x.length : Int) == 0) = true := by rw [hx1]; rfl
  have hz1 : ¬ (0 : Int) < (x.length : Int) := by omega
  replace hx1 := Lib.hid hx1
  replace IH := Lib.hid IH
  replace ST := Lib.hid ST
  replace EN := Lib.hid EN
  replace e5 := Lib.hid e5
  replace hP := Lib.hid hP
  replace hx0 := Lib.hid hx0
  have B1 : Hid (Blk (w.alloc (.cells #[.int .i64 3, .int .i64 n, .int .i64 cap, .slice A xw.length a, .slice B xv.length b, .slice D co.length d] 61)) w.heap.size 61 #[.int .i64 3, .int .i64 n, .int .i64 cap, .slice A xw.length a, .slice B xv.length b, .slice D co.length d]) := .new rfl
  have X0 : Hid (Ext w (w.alloc (.cells #[.int .i64 3, .int .i64 n, .int .i64 cap, .slice A xw.length a, .slice B xv.length b, .slice D co.length d] 61))) := (Ext.rf _).alloc _
  obtain ⟨w1, hw1⟩ : ∃ w1, w1 = (w.alloc (.cells #[.int .i64 3, .int .i64 n, .int .i64 cap, .slice A xw.length a, .slice B xv.length b, .slice D co.length d] 61)) := ⟨_, rfl⟩
  have B2 : Hid (Blk w1 w.heap.size 61 #[.int .i64 3, .int .i64 n, .int .i64 cap, .slice A xw.length a, .slice B xv.length b, .slice D co.length d]) := by rw [hw1]; exact B1.out
  have X1 : Hid (Ext w w1) := by rw [hw1]; exact X0.out
  replace hw1 := Lib.hid hw1
  clear B1
  go_enter Try.func32, Try.ntmps32
  go_wp2_with (fail)
  rw [← hw1.out]
  clear X0
  go_loopw [9, 7] (fun v bv wr => ∃ (k : Nat) (bb : Int), v = .int .i64 k ∧ bv = .int .i64 bb ∧ k ≤ n ∧ Hid (foldB f bb (rest3 k) = bs) ∧ Hid (Ext w1 wr)) (fun v _ _ => n - (intOf v).toNat)
  case atStart => exact ⟨0, -1, rfl, rfl, by omega, e5, Ext.rf _⟩
  case round =>
    obtain ⟨wo, rfl⟩ : ∃ wo : World, wo = wr := ⟨_, rfl⟩
    obtain ⟨k, bb, rfl, rfl, hk, HS, Y⟩ := hrel
    by_cases hlt : k < n
    · have HN : Hid (foldB f bb (if k = 0 then 0 :: rest3 1 else rest3 (k + 1)) = bs) := by
        have h := HS.out
        rw [ST.out k hlt] at h
        exact h
      have q1 : (k : Int) < (n : Int) := by omega
      have B3 := B2.out.ext Y.out
      have zb3 := B3.lt
      have c0 : wo.cell? ⟨w.heap.size, 0, none⟩ = some (.int .i64 3) := B3.cell 0
      replace B3 := Lib.hid B3
      clear HS
      go_wp2_with (fail)
      go_loopw [11, 10] (fun v uv wr => v = .int .i64 0 ∧ uv = .bool false ∧ wr = wo) (fun _ _ _ => 0)
      case atStart => exact ⟨rfl, rfl, rfl⟩
      case round =>
        obtain ⟨rfl, rfl, hwr⟩ := hrel
        have hwr' : wo = wr := (show wr = wo from hwr).symm
        clear hwr
        subst hwr'
        by_cases hk0 : k = 0
        · have HM : Hid (foldB f bb (0 :: rest3 1) = bs) := by
            have h := HN.out
            rw [if_pos hk0] at h
            exact h
          have ek : (k : Int) = 0 := by omega
          have k1 : k + 1 = 1 := by omega
          have HN2 : Hid ((0 ≤ f (k : Int) ∧ (bb < 0 ∨ f (k : Int) < bb) → Hid (foldB f (f (k : Int)) (rest3 (k + 1)) = bs)) ∧ (¬ (0 ≤ f (k : Int) ∧ (bb < 0 ∨ f (k : Int) < bb)) → Hid (foldB f bb (rest3 (k + 1)) = bs))) := by
            have h : foldB f (pkB bb (f (k : Int))) (rest3 (k + 1)) = bs := by rw [ek, k1]; exact HM.out
            unfold pkB at h
            exact ⟨fun hh => by rw [if_pos hh] at h; exact h, fun hh => by rw [if_neg hh] at h; exact h⟩
          replace k1 := Lib.hid k1
          clear HM
          have IHk := Lib.hid (fun (A : Option Addr) (d : Nat) (q : List Int) (hq : q = x ++ [(k : Int)]) => IH.out k A d q hk0 hq)
          generalize f (k : Int) = fv at *
          clear HN
          have c1' : wo.cell? ⟨w.heap.size, 1, none⟩ = some (.int .i64 n) := B3.out.cell 1
          have c2 : wo.cell? ⟨w.heap.size, 2, none⟩ = some (.int .i64 cap) := B3.out.cell 2
          have c3 : wo.cell? ⟨w.heap.size, 3, none⟩ = some (.slice A xw.length a) := B3.out.cell 3
          have c4 : wo.cell? ⟨w.heap.size, 4, none⟩ = some (.slice B xv.length b) := B3.out.cell 4
          have c5 : wo.cell? ⟨w.heap.size, 5, none⟩ = some (.slice D co.length d) := B3.out.cell 5
          obtain ⟨q, hq⟩ : ∃ q, Hid (q = x ++ [(k : Int)]) := ⟨_, rfl⟩
          have lq : q.length = x.length + 1 := by rw [hq.out]; simp
          replace lq := Lib.hid lq
          have ekn : ((k : Int) != 0) = false := by simp [ek]
          replace ek := Lib.hid ek
          replace hk0 := Lib.hid hk0
          go_upto_region 19 with (fail)
          refine wp_region_any (by kernel_rfl) ?_
          change wpAny _ _ _ _ _ _ _ (World.drew _)
          refine wpAny_T (i := 2) (op := Op.move (Operand.tmp 1)) (t := 22) (d := some 74) (v := ?_) rfl (by decide +kernel) (by decide +kernel) (by decide +kernel) (fun _ _ _ h => h) ?_ ?_
          case refine_2 => (intro _; unfold exec2; go_simp; try with_reducible rfl)
          try simp only [Act.put, List.setIfInBounds_toArray, List.set_cons_zero, List.set_cons_succ]
          refine wpAny_T (i := 4) (op := Op.move (Operand.tmp 9)) (t := 3) (d := some 76) (v := ?_) rfl (by decide +kernel) (by decide +kernel) (by decide +kernel) (fun _ _ _ h => h) ?_ ?_
          case refine_2 => (intro _; unfold exec2; go_simp; try with_reducible rfl)
          try simp only [Act.put, List.setIfInBounds_toArray, List.set_cons_zero, List.set_cons_succ]
          refine wpAny_core3 (n := 2) [(0, some 72), (1, some 73), (3, some 75), (5, some 77), (6, some 78)] (fun | 1 => [3] | 3 => [6] | 5 => [6] | _ => []) (Ext wo)
            (VF (fun | 0 => some (.agg #[.int .i64 3, .int .i64 n, .int .i64 cap, .slice A xw.length a, .slice B xv.length b, .slice D co.length d]) | _ => none)
              (fun j v W => (j = 1 → ∃ g, v = .slice (some ⟨g, 0, none⟩) 0 0 ∧ wo.heap.size ≤ g ∧ Blk W g 3 #[]) ∧ (j = 3 → ∃ A c, v = .slice A x.length c ∧ OwI W wo.heap.size A c x) ∧ (j = 5 → ∃ h, v = .slice (some ⟨h, 0, none⟩) 1 1 ∧ Blk W h 3 #[.int .i64 (k : Int)]) ∧ (j = 6 → ∃ A c, v = .slice A q.length c ∧ OwI W wo.heap.size A c q)))
            (fun i W W' => i ≠ 6 → Ext W W') #[true, true, true, true, true, true, true, false, false] (by kernel_rfl) (by kernel_rfl) ?_ ?_ ?_ ((Ext.rf _).drew)
          · intro i j v W W' hkp hv hs
            refine VF.stab1 (fun _ ⟨g1, g3, g8, g9⟩ => ?_) hv
            by_cases hi : i = 6
            · subst hi
              refine ⟨fun h => ?_, fun h => ?_, fun h => ?_, fun h => ?_⟩
              all_goals (subst h; exact absurd hkp (by decide +kernel))
            · have hx := hs hi
              refine ⟨fun h => ?_, fun h => ?_, fun h => ?_, fun h => ?_⟩
              · obtain ⟨g, q1, q2, q3⟩ := g1 h
                exact ⟨g, q1, q2, q3.ext hx⟩
              · obtain ⟨A', c', q1, q2⟩ := g3 h
                exact ⟨A', c', q1, q2.ext hx⟩
              · obtain ⟨h', q1, q2⟩ := g8 h
                exact ⟨h', q1, q2.ext hx⟩
              · obtain ⟨A', c', q1, q2⟩ := g9 h
                exact ⟨A', c', q1, q2.ext hx⟩
          · intro pq hpm u W hRW hD K hK
            have z2 := hRW.size
            simp only [List.mem_cons, List.not_mem_nil, or_false] at hpm
            rcases hpm with rfl | rfl | rfl | rfl | rfl
            · have r0 := keepEL hRW zb3 c0
              have r1 := keepEL hRW zb3 c1'
              have r2 := keepEL hRW zb3 c2
              have r3 := keepEL hRW zb3 c3
              have r4 := keepEL hRW zb3 c4
              have r5 := keepEL hRW zb3 c5
              exact op_ld (T := 61) rfl (.pointer (some ⟨w.heap.size, 0, none⟩)) (by kernel_rfl) (.agg #[.int .i64 3, .int .i64 n, .int .i64 cap, .slice A xw.length a, .slice B xv.length b, .slice D co.length d]) (by go_simp) (hK _ _ (VF.mk rfl) hRW (fun _ => Ext.rf _))
            · exact op_bs0 rfl _ (ibs0_run _) (hK _ _ (VF.mg rfl ⟨fun _ => ⟨_, rfl, z2, .new rfl⟩, (fun h => by cases h), (fun h => by cases h), (fun h => by cases h)⟩) (hRW.alloc _) (fun _ => (Ext.rf _).alloc _))
            · obtain ⟨g, h1, zg, bg⟩ := ((hD 1 (depIn (by kernel_rfl))).g rfl).1 rfl
              obtain ⟨A3, c3, w3, hr3, o3, x3⟩ := run_copy_i W wo.heap.size 22 g x P c bg zg (hP.out.ext ((X1.out.tr Y.out).tr hRW)) (by omega)
              exact op_app rfl (.slice (some ⟨g, 0, none⟩) 0 0) (.slice P x.length c) (Eq.trans (b := u 1) (by kernel_rfl) h1) (by kernel_rfl) _ hr3 (hK _ _ (VF.mg rfl ⟨(fun h => by cases h), fun _ => ⟨A3, c3, rfl, o3⟩, (fun h => by cases h), (fun h => by cases h)⟩) (hRW.tr x3) (fun _ => x3))
            · exact op_bs1 rfl (.int .i64 (k : Int)) (by kernel_rfl) _ (ibs1_run _ _) (hK _ _ (VF.mg rfl ⟨(fun h => by cases h), (fun h => by cases h), fun _ => ⟨_, rfl, .new rfl⟩, (fun h => by cases h)⟩) (hRW.alloc _) (fun _ => (Ext.rf _).alloc _))
            · obtain ⟨A3, c3', h3, o3⟩ := ((hD 3 (depIn (by kernel_rfl))).g rfl).2.1 rfl
              obtain ⟨g8, h8, b8⟩ := ((hD 5 (depIn (by kernel_rfl))).g rfl).2.2.1 rfl
              obtain ⟨A7, c7, w7, hrun, o7, g7, -⟩ := run_app_i W wo.heap.size 22 A3 x.length c3' x [(k : Int)] (some ⟨g8, 0, none⟩) 1 rfl o3 (.blk b8 rfl) (by simp; omega) hRW.size
              have x7 : Ext wo w7 := hRW.grow g7 (fun k hk => (o3.lt k hk).1)
              rw [← hq.out] at hrun o7
              exact op_app rfl (.slice A3 x.length c3') (.slice (some ⟨g8, 0, none⟩) 1 1) (Eq.trans (b := u 3) (by kernel_rfl) h3) (Eq.trans (b := u 5) (by kernel_rfl) h8) _ hrun (hK _ _ (VF.mg rfl ⟨(fun h => by cases h), (fun h => by cases h), (fun h => by cases h), fun _ => ⟨A7, c7, rfl, o7⟩⟩) x7 (fun h => absurd rfl h))
          · intro u w7 hRW hV
            have h0 := (hV (0, some 72) (by simp) rfl).k rfl
            obtain ⟨A7, c7, h9, o7⟩ := ((hV (6, some 78) (by simp) rfl).g rfl).2.2.2 rfl
            simp only [putAll, h0, h9]
            have rq := Lib.hid o7.read
            have x7 := Lib.hid hRW
            clear h0 h9 hV o7 hRW
            try simp only [Act.put, List.setIfInBounds_toArray, List.set_cons_zero, List.set_cons_succ]
            refine wpAny_next 7 (by decide +kernel) (op_call (f := 32) (xs := #[Operand.tmp 72, Operand.tmp 78]) (ts := #[61, 22]) (t := 3) (d := some 79) rfl #[.agg #[.int .i64 3, .int .i64 n, .int .i64 cap, .slice A xw.length a, .slice B xv.length b, .slice D co.length d], .slice A7 q.length c7] (by go_simp) (by kernel_rfl) _ (IHk.out A7 c7 q hq.out w7 (X1.out.tr (Y.out.tr x7.out)) rq.out) ?_)
            rintro e w8 ⟨rfl, x8⟩
            refine ⟨_, rfl, ?_⟩
            try simp only [Act.put, List.setIfInBounds_toArray, List.set_cons_zero, List.set_cons_succ]
            refine wpAny_T (i := 8) (op := Op.assign (Operand.tmp 79)) (t := 3) (d := some 12) (v := ?_) rfl (by decide +kernel) (by decide +kernel) (by decide +kernel) (fun _ _ _ h => h) ?_ ?_
            case refine_2 => (intro _; unfold exec2; go_simp; try with_reducible rfl)
            try simp only [Act.put, List.setIfInBounds_toArray, List.set_cons_zero, List.set_cons_succ]
            refine wpAny_done (by kernel_rfl) ?_ _
            have Y8 := Lib.hid (Y.out.tr (x7.out.tr x8))
            clear x8 x7 rq c0 c1' c2 c3 c4 c5
            go_simp
            by_cases hfv : 0 ≤ fv
            · by_cases hbb : bb < 0
              · have HN3 := HN2.out.1 ⟨hfv, .inl hbb⟩
                clear HN2
                go_wp2_with (fail)
                go_roundw
                case rel => exact ⟨k + 1, fv, by go_num, rfl, by omega, HN3, Y8⟩
                case measure => simp [intOf]; omega
              · by_cases hfb : fv < bb
                · have HN3 := HN2.out.1 ⟨hfv, .inr hfb⟩
                  clear HN2
                  go_wp2_with (fail)
                  go_roundw
                  case rel => exact ⟨k + 1, fv, by go_num, rfl, by omega, HN3, Y8⟩
                  case measure => simp [intOf]; omega
                · have HN3 := HN2.out.2 (by omega)
                  clear HN2
                  go_wp2_with (fail)
                  go_roundw
                  case rel => exact ⟨k + 1, bb, by go_num, rfl, by omega, HN3, Y8⟩
                  case measure => simp [intOf]; omega
            · have HN3 := HN2.out.2 (by omega)
              clear HN2
              go_wp2_with (fail)
              go_roundw
              case rel => exact ⟨k + 1, bb, by go_num, rfl, by omega, HN3, Y8⟩
              case measure => simp [intOf]; omega
        · have ekn : ((k : Int) != 0) = true := by simp; omega
          have HM : Hid (foldB f bb (rest3 (k + 1)) = bs) := by
            have h := HN.out
            rw [if_neg hk0] at h
            exact h
          clear HN
          go_wp2_with (fail)
          go_roundw
          case rel => exact ⟨k + 1, bb, by go_num, rfl, by omega, HM, Y⟩
          case measure => simp [intOf]; omega
    · have hkm : k = n := by omega
      have q1 : ¬ (k : Int) < (n : Int) := by omega
      have HN : Hid (bb = bs) := by
        have h := HS.out
        rw [EN.out k (by omega)] at h
        exact h
      obtain rfl := HN.out
      replace hkm := Lib.hid hkm
      go_wp2_with (fail)
      go_ret
      exact ⟨rfl, X1.out.tr Y.out⟩
end Go.Proofs.Ytcpadkaljnnieaa
namespace Go.Proofs.Ytcpadkaljnnieaa
open Go.RowKit Go.ChangeShapes Go.WideShapes Go.ChangeAt Go.Deep

theorem check_kind {i : InstP} (h : checkP i = 0) : i.kind = 1 ∨ i.kind = 2 ∨ i.kind = 3 := by
  unfold checkP at h
  by_cases hs : sizeP i.kind i.n = 0
  · exact sizeP_kind hs
  · rw [if_neg hs] at h
    exact absurd h hs
end Go.Proofs.Ytcpadkaljnnieaa
namespace Go.Proofs.Ytcpadkaljnnieaa
open Go.RowKit Go.ChangeShapes Go.WideShapes Go.ChangeAt Go.Deep

set_option maxRecDepth 100000 in
set_option maxHeartbeats 1000000 in
theorem best1_whole (i : InstP) (us : List Value) (P : Option Addr) (c : Nat) (x : List Int) (w : World) (H : RInst w us i) (hc : checkP i = 0) (hk : i.kind = 1) (hP : RdI w P x) (lx : (x.length : Int) = i.n) (h01 : ∀ v ∈ x, v = 0 ∨ v = 1) :
    Calls Try.prog 32 #[.agg (List.toArray us), .slice P x.length c] w fun e w' => e = .returned (.int .i64 (best1 i.cap i.weight i.value 0 x)) ∧ Ext w w' := by
  have CO := fun (W : World) (y : Ext w W) => rcost_any i us P c x W (H.ext y) hc hk (hP.ext y) lx h01
  unfold best1
  unfold costP at CO
  by_cases hcap : i.cap < takenL x i.weight
  · rw [if_pos hcap]
    rw [if_pos hcap] at CO
    unfold BoundVal at CO
    clear hcap hP hc h01
    obtain ⟨kind, nn, cap, xw, xv, co⟩ := i
    obtain ⟨A, a, B, b, D, d, rfl, -, -, -⟩ := H
    simp only at *
    subst lx hk
    have hb : ((x.length : Int) == (x.length : Int)) = true := by simp
    replace CO := Lib.hid CO
    go_enter Try.func32, Try.ntmps32
    go_wp2_with (fail)
    refine (CO.out _ (by (repeat (first | assumption | exact Ext.rf _ | apply Ext.drew | apply Ext.drewN | apply Ext.alloc)))).mono ?_
    rintro e w1 ⟨rfl, x1⟩
    have X1 := Lib.hid (Ext.tr (a := w) (by (repeat (first | assumption | exact Ext.rf _ | apply Ext.drew | apply Ext.drewN | apply Ext.alloc))) x1)
    clear x1
    go_wp2_with (fail)
    go_ret
    exact ⟨rfl, X1.out⟩
  · rw [if_neg hcap]
    rw [if_neg hcap] at CO
    unfold BoundVal at CO
    generalize leftL x i.value = lv at *
    clear hcap hP hc h01
    obtain ⟨kind, nn, cap, xw, xv, co⟩ := i
    obtain ⟨A, a, B, b, D, d, rfl, -, -, -⟩ := H
    simp only at *
    subst lx hk
    have hb : ((x.length : Int) == (x.length : Int)) = true := by simp
    replace CO := Lib.hid CO
    go_enter Try.func32, Try.ntmps32
    go_wp2_with (fail)
    refine (CO.out _ (by (repeat (first | assumption | exact Ext.rf _ | apply Ext.drew | apply Ext.drewN | apply Ext.alloc)))).mono ?_
    rintro e w1 ⟨rfl, x1⟩
    have X1 := Lib.hid (Ext.tr (a := w) (by (repeat (first | assumption | exact Ext.rf _ | apply Ext.drew | apply Ext.drewN | apply Ext.alloc))) x1)
    clear x1
    go_wp2_with (fail)
    go_ret
    exact ⟨rfl, X1.out⟩
theorem best1_any (i : InstP) (us : List Value) (hc : checkP i = 0) (hk : i.kind = 1) (n : Nat) (hn : i.n = n) : ∀ (f : Nat) (P : Option Addr) (c : Nat) (x : List Int) (w : World), x.length + f = n → (∀ v ∈ x, v = 0 ∨ v = 1) → RInst w us i → RdI w P x →
    Calls Try.prog 32 #[.agg (List.toArray us), .slice P x.length c] w fun e w' => e = .returned (.int .i64 (best1 i.cap i.weight i.value f x)) ∧ Ext w w'
  | 0, P, c, x, w => fun hl h01 H hP => best1_whole i us P c x w H hc hk hP (by omega) h01
  | f + 1, P, c, x, w => fun hl h01 H hP => by
    have ok := knap_ok hc hk
    have k1 := ok.n1
    have k2 := ok.n2
    refine best1_more i us P c x w H hk hP (by omega) n hn (by omega) (by omega) (by omega) (fun b => best1 i.cap i.weight i.value f (x ++ [b])) ?_
    rintro k A d q hk2 rfl W y hq
    refine best1_any i us hc hk n hn f A d _ W (by simp; omega) (fun v hv => ?_) (H.ext y) hq
    rcases List.mem_append.1 hv with h | h
    · exact h01 v h
    · have := List.mem_singleton.1 h
      omega
end Go.Proofs.Ytcpadkaljnnieaa
namespace Go.Proofs.Ytcpadkaljnnieaa

section
variable {D : Nat} {kids : List Int → List Int} {bound : List Int → Int}
end
/-- what a kernel is, for a search: the beginnings, the least cost behind each -/
structure KrnOk (D : Nat) (kids : List Int → List Int) (bound : List Int → Int) (okp : List Int → Prop) (bx : List Int → Int) : Prop where
  len : ∀ p, okp p → p.length ≤ D
  kid : ∀ p, okp p → p.length < D → ∀ n ∈ kids p, okp (p ++ [n])
  leaf : ∀ p, okp p → p.length = D → bound p = bx p
  low : ∀ p, okp p → bound p ≤ bx p
  node : ∀ p, okp p → p.length < D → (∃ n ∈ kids p, bx (p ++ [n]) = bx p) ∧ ∀ n ∈ kids p, bx p ≤ bx (p ++ [n])
/-- how many beginnings there are, at most: w r: how many kids where r are left -/
def cntK (w : Nat → Nat) : Nat → Nat
  | 0 => 1
  | r + 1 => 1 + w (r + 1) * cntK w r
section
variable {D : Nat} {kids : List Int → List Int} {bound : List Int → Int} {okp : List Int → Prop} {bx : List Int → Int}
end
end Go.Proofs.Ytcpadkaljnnieaa
