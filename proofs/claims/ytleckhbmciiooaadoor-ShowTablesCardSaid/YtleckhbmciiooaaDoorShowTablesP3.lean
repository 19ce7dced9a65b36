/-
  Rows of texts of the call's own; show.rows.
  strings.Repeat and the methods of strings.Builder lie in this program: their bodies, their types, number by number.
  strings.Builder, as a text that grows: WriteString, WriteByte, String.
  show.Table: a problem's numbers in columns.
  The document's Table (kurganref34).
  How long the words of an answer may be.
  show.words at a knapsack. (Begun.)
  show.words at an assignment. (Begun.)
  show.Answer of all problems and lists; the law's own example.
  The law's own example of an answer in words.
  From the condition that the tables of the lowest bits and of the powers of ten are as they were laid to the tables' cells.
-/
import Derived.Test.YtleckhbmciiooaaDoorShowTablesP2
import Derived.Shelf.Lays
import Derived.Shelf.Strings.OnBuilder
import Derived.Shelf.Strings.Repeat
import Derived.Shelf.Strings.BuilderK
import Derived.LaidMore
import Derived.Lay
import Derived.SevenTiedAt
import Derived.Stop.Joined
import Derived.Stop.LaidErr
import Derived.Lib.LaidTab
import Derived.Test.YtleckhbmciiooaaDoorRows
namespace Go.Proofs.YtleckhbmciiooaaDoor
open Go.RowKit Go.ChangeShapes Go.WideShapes Go.ChangeAt Go.Deep

theorem strs_info : (Tryd.prog.info? 63).map (fun i => (i.zero, i.size, i.bytes)) = some (some (.slice none 0 0), 1, 24) := by kernel_rfl
def strsL (L : List (List Int)) : List (List Txt) := L.map fun r => r.map Lib.itoa
/-- rows of texts of the call's own, each in a block of its own -/
structure RowsT (w : World) (base : Nat) (us : List Value) (L : List (List Txt)) : Prop where
  len : us.length = L.length
  row : ∀ (j : Nat) (u : Value), us[j]? = some u → ∃ (l : List Txt) (A : Option Addr) (c : Nat), L[j]? = some l ∧ u = .slice A l.length c ∧ OwV w base 9 1 A l.length c (txV l)
  dist : RowsD us
section
variable {w w' : World} {base : Nat} {us : List Value} {L : List (List Txt)}
theorem RowsT.nil (w : World) (base : Nat) : RowsT w base [] [] := ⟨rfl, fun j u h => by simp at h, RowsD.nil⟩
theorem RowsT.keep (h : RowsT w base us L) (hk : ∀ (k : Nat) (cs : Array Value), w.heap[k]? = some (Obj.cells cs 9 (0, 0)) → w'.heap[k]? = w.heap[k]?) : RowsT w' base us L :=
  ⟨h.len, fun j u hj => by
    obtain ⟨l, A, c, h1, h2, h3⟩ := h.row j u hj
    refine ⟨l, A, c, h1, h2, h3.keep fun g hg => ?_⟩
    rcases h3.cases with ⟨rfl, _⟩ | ⟨g', cur, rfl, _, hh, _⟩
    · simp [bl] at hg
    · simp [bl] at hg
      subst hg
      exact hk _ _ hh, h.dist⟩
theorem RowsT.ext (h : RowsT w base us L) (x : Ext w w') : RowsT w' base us L := h.keep fun k _ hk => x.block k (Array.getElem?_eq_some_iff.1 hk).1
theorem RowsT.modT {b' : Nat} {ts : List TypeId} (h : RowsT w base us L) (m : ModT b' ts w w') (ht : 9 ∉ ts) : RowsT w' base us L := h.keep fun k cs hk => (Blk.modT (g := k) hk m ht).trans hk.symm
theorem RowsT.snoc {W : World} (h : RowsT w base us L) (hW : RowsT W base us L) {nb c : Nat} {A : Option Addr} {l : List Txt} (hn : w.heap.size ≤ nb) (hb : base ≤ nb) (o : OwV W nb 9 1 A l.length c (txV l)) : RowsT W base (us ++ [.slice A l.length c]) (L ++ [l]) := by
  have hl := h.len
  refine ⟨by rw [List.length_append, List.length_append, hl]; rfl, fun j u hj => ?_, ?_⟩
  · by_cases hlt : j < us.length
    · rw [List.getElem?_append_left hlt] at hj
      obtain ⟨l', A', c', h1, h2, h3⟩ := hW.row j u hj
      exact ⟨l', A', c', by rw [List.getElem?_append_left (by omega)]; exact h1, h2, h3⟩
    · rw [List.getElem?_append_right (by omega)] at hj
      have : j - us.length = 0 := by
        rcases Nat.eq_zero_or_pos (j - us.length) with h | h
        · exact h
        · rw [List.getElem?_eq_none (by simp; omega)] at hj; cases hj
      rw [this] at hj
      simp at hj
      subst hj
      exact ⟨l, A, c, by rw [List.getElem?_append_right (by omega), show j - L.length = 0 by omega]; rfl, rfl, o.more hb⟩
  · intro i j vi vj hij hi hj b hbi e
    by_cases hjl : j < us.length
    · rw [List.getElem?_append_left hjl] at hj
      rw [List.getElem?_append_left (by omega)] at hi
      exact h.dist i j vi vj hij hi hj b hbi e
    · rw [List.getElem?_append_right (by omega)] at hj
      have hj0 : j - us.length = 0 := by
        rcases Nat.eq_zero_or_pos (j - us.length) with h | h
        · exact h
        · rw [List.getElem?_eq_none (by simp; omega)] at hj; cases hj
      rw [hj0] at hj
      simp at hj
      subst hj
      rw [List.getElem?_append_left (by omega)] at hi
      obtain ⟨l', A', c', h1, h2, h3⟩ := h.row i vi hi
      rw [h2, ownBlock_bl] at hbi
      rw [ownBlock_bl] at e
      have p1 := (h3.lt b hbi).2
      have p2 := (o.lt b e).1
      omega
theorem RowsT.at (h : RowsT w base us L) {j : Nat} (hj : j < L.length) : ∃ (l : List Txt) (A : Option Addr) (c : Nat), us[j]? = some (.slice A l.length c) ∧ L[j]? = some l ∧ OwV w base 9 1 A l.length c (txV l) := by
  have hl := h.len
  obtain ⟨l, A, c, h1, h2, h3⟩ := h.row j _ (List.getElem?_eq_getElem (by omega))
  exact ⟨l, A, c, by rw [← h2]; exact List.getElem?_eq_getElem (by omega), h1, h3⟩
end
def RowsPost (L : List (List Txt)) (w : World) (e : Ending) (w' : World) : Prop := ∃ (A : Option Addr) (c : Nat) (us : List Value), e = .returned (.slice A L.length c) ∧ OwV w' w.heap.size 63 1 A L.length c us ∧ RowsT w' w.heap.size us L ∧ Ext w w'
theorem strsL_len (L : List (List Int)) : (strsL L).length = L.length := by unfold strsL; rw [List.length_map]
theorem strsL_at {L : List (List Int)} {k : Nat} {r : List Int} (h : L[k]? = some r) : (strsL L)[k]? = some (r.map Lib.itoa) := by unfold strsL; rw [List.getElem?_map, h]; rfl
theorem rowsL1_len {i : InstP} (hk : i.kind = 1) (hw : (i.weight.length : Int) = i.n) : (rowsL i).length = i.weight.length := by
  unfold rowsL
  rw [if_pos hk, List.length_map, List.length_range]
  omega
theorem rowsL1_at {i : InstP} (hk : i.kind = 1) (hw : (i.weight.length : Int) = i.n) {k : Nat} {x y : Int} (h1 : i.weight[k]? = some x) (h2 : i.value[k]? = some y) : (rowsL i)[k]? = some [x, y] := by
  have := (List.getElem?_eq_some_iff.1 h1).1
  unfold rowsL
  rw [if_pos hk, List.getElem?_map, List.getElem?_range (by omega), Option.map_some, getD_some h1, getD_some h2]
set_option maxRecDepth 100000 in
set_option maxHeartbeats 2000000 in
theorem rows1_any (i : InstP) (us : List Value) (w : World) (H : RInst w us i) (hc : checkP i = 0) (hk : i.kind = 1) (hT : Ten w) :
    Calls Tryd.prog 49 #[.agg (List.toArray us)] w (RowsPost (strsL (rowsL i)) w) := by
  obtain ⟨j0, hj, hy0, hy1, hy2⟩ := info_parts strs_info
  have ok := knap_ok hc hk
  have WD := fun (W : World) (y : Ext w W) (n : Int) (h : 0 ≤ n ∧ n ≤ 2147483647) => write_any n (by omega) (by omega) W (hT.ext y)
  have TL : Hid ((strsL (rowsL i)).length = i.weight.length) := by
    have h : (strsL (rowsL i)).length = i.weight.length := by rw [strsL_len, rowsL1_len hk ok.w]
    exact h
  have TE : Hid (∀ k x y, i.weight[k]? = some x → i.value[k]? = some y → (strsL (rowsL i))[k]? = some [Lib.itoa x, Lib.itoa y]) := fun k x y h1 h2 => strsL_at (rowsL1_at hk ok.w h1 h2)
  have sw := Lib.hid ok.sw
  have sv := Lib.hid ok.sv
  have lw := ok.w
  have lv := ok.v
  have n64 := ok.n2
  generalize strsL (rowsL i) = L at *
  clear ok hc hT
  obtain ⟨kind, nn, cap, xw, xv, co⟩ := i
  obtain ⟨A, a, B, b, D, d, rfl, ⟨rA, -, -, -⟩, ⟨rB, -, -, -⟩, -⟩ := H
  simp only at *
  subst hk
  replace hj := Lib.hid hj
  replace hy0 := Lib.hid hy0
  replace hy1 := Lib.hid hy1
  replace hy2 := Lib.hid hy2
  replace WD := Lib.hid WD
  replace rA := Lib.hid rA
  replace rB := Lib.hid rB
  obtain ⟨N, hN⟩ : ∃ N, Hid (xw.length = N) := ⟨_, rfl⟩
  have hN2 : Hid (xv.length = N) := by
    have h : xv.length = N := by have := hN.out; omega
    exact h
  have hnn : nn = (N : Int) := by have := hN.out; omega
  subst hnn
  have n64' : N ≤ 64 := by omega
  have START : Hid (OwV (w.alloc (.cells #[.int .i64 1, .int .i64 N, .int .i64 cap, .slice A xw.length a, .slice B xv.length b, .slice D co.length d] 25)) w.heap.size 63 1 none 0 0 []) := OwV.nil _ _ _ _
  have BS : Hid (Blk (w.alloc (.cells #[.int .i64 1, .int .i64 N, .int .i64 cap, .slice A xw.length a, .slice B xv.length b, .slice D co.length d] 25)) w.heap.size 25 #[.int .i64 1, .int .i64 N, .int .i64 cap, .slice A xw.length a, .slice B xv.length b, .slice D co.length d]) := .new rfl
  have RS : Hid (RowsT (w.alloc (.cells #[.int .i64 1, .int .i64 N, .int .i64 cap, .slice A xw.length a, .slice B xv.length b, .slice D co.length d] 25)) w.heap.size [] (L.take 0)) := RowsT.nil _ _
  clear lw lv n64
  unfold txS at *
  go_enter Tryd.func49, Tryd.ntmps49
  go_wp2_with (fail)
  go_loopw [3, 10] (fun v3 v10 wr => ∃ (k : Nat) (C' : Option Addr) (cc : Nat) (vs : List Value), v10 = .int .i64 k ∧ v3 = .slice C' k cc ∧ k ≤ N ∧ Hid (OwV wr w.heap.size 63 1 C' k cc vs) ∧ Hid (RowsT wr w.heap.size vs (L.take k)) ∧ Hid (Blk wr w.heap.size 25 #[.int .i64 1, .int .i64 N, .int .i64 cap, .slice A xw.length a, .slice B xv.length b, .slice D co.length d]) ∧ Hid (Ext w wr)) (fun _ v _ => N - (intOf v).toNat)
  case atStart => exact ⟨0, none, 0, [], rfl, rfl, by omega, START, RS, BS, by (repeat (first | assumption | exact Ext.rf _ | apply Ext.drew | apply Ext.drewN | apply Ext.alloc))⟩
  case round =>
    obtain ⟨wo, rfl⟩ : ∃ wo : World, wo = wr := ⟨_, rfl⟩
    clear START RS BS
    obtain ⟨k, C', cc, vs, rfl, rfl, hk, oV, RT, BB, Y⟩ := hrel
    have zw := Y.out.size
    have zB := BB.out.lt
    by_cases hlt : k < N
    · obtain ⟨pb, po, x, rfl, zx, cx, ex, _⟩ := (rA.out.ext Y.out).at (k := k) (by have := hN.out; omega)
      obtain ⟨qb, qo, y, rfl, zy, cy, ey, _⟩ := (rB.out.ext Y.out).at (k := k) (by have := hN2.out; omega)
      have q1 : (k : Int) < (N : Int) := by omega
      have q2 : (k : Int) < (xw.length : Int) := by have := hN.out; omega
      have q3 : (k : Int) < (xv.length : Int) := by have := hN2.out; omega
      have bx := sw.out x (List.mem_of_getElem? ex.out)
      have b_y := sv.out y (List.mem_of_getElem? ey.out)
      have PE : Hid (L.take (k + 1) = L.take k ++ [[Lib.itoa x, Lib.itoa y]]) := by
        have h : L.take (k + 1) = L.take k ++ [[Lib.itoa x, Lib.itoa y]] := by rw [List.take_add_one, TE.out k x y ex.out ey.out]; rfl
        exact h
      have t0 : wo.cell? ⟨w.heap.size, 0, none⟩ = some (.int .i64 1) := BB.out.cell 0
      have t3 : wo.cell? ⟨w.heap.size, 3, none⟩ = some (.slice (some ⟨pb, po, none⟩) xw.length a) := BB.out.cell 3
      have t4 : wo.cell? ⟨w.heap.size, 4, none⟩ = some (.slice (some ⟨qb, qo, none⟩) xv.length b) := BB.out.cell 4
      clear ex ey
      go_wp2_with (fail)
      go_region_held3 (fun w' => w'.cell? ⟨w.heap.size, 3, none⟩ = some (.slice (some ⟨pb, po, none⟩) xw.length a) ∧ w'.cell? ⟨w.heap.size, 4, none⟩ = some (.slice (some ⟨qb, qo, none⟩) xv.length b) ∧ w'.cell? ⟨pb, po + k, none⟩ = some (.int .i64 x) ∧ w'.cell? ⟨qb, qo + k, none⟩ = some (.int .i64 y)) (go_keep)
        (first
        | (go_at_call_of 46 (Value.int .i64 x); refine (WD.out _ (Y.out.tr (by (repeat (first | assumption | exact Ext.rf _ | apply Ext.drew | apply Ext.drewN | apply Ext.alloc)))) x bx).mono ?_; rintro e w2 ⟨rfl, x2⟩; have y2 := Ext.tr (a := wo) (by (repeat (first | assumption | exact Ext.rf _ | apply Ext.drew | apply Ext.drewN | apply Ext.alloc))) x2; have s1 := keepEL y2 zB t3; have s2 := keepEL y2 zB t4; have s3 := keepEL y2 zx cx; have s4 := keepEL y2 zy cy)
        | (go_at_call_of 46 (Value.int .i64 y); refine (WD.out _ (Y.out.tr (by (repeat (first | assumption | exact Ext.rf _ | apply Ext.drew | apply Ext.drewN | apply Ext.alloc)))) y b_y).mono ?_; rintro e w3 ⟨rfl, x3⟩; have y3 := Ext.tr (a := wo) (by (repeat (first | assumption | exact Ext.rf _ | apply Ext.drew | apply Ext.drewN | apply Ext.alloc))) x3; have s1 := keepEL y3 zB t3; have s2 := keepEL y3 zB t4; have s3 := keepEL y3 zx cx; have s4 := keepEL y3 zy cy))
      go_wp2_with (at_builtin; refine wpl_app_v _ (e := 63) Tryd.underlying61 hj.out hy0.out hy1.out hy2.out (by simp [Value.cells]) (by omega) rfl _ _ rfl w.heap.size C' k cc vs (some ⟨w3.heap.size + 1, 0, none⟩) 1 1 [.slice (some ⟨w3.heap.size, 0, none⟩) 2 2] rfl rfl ((oV.out.ext y3).ext (((Ext.rf _).alloc _).alloc _)) (RdV.blk (.new (by simp))).rdC (by simp) (by simp [Value.oneCell']) (by simp only [maxLen]; omega) (by omega) (by have := y3.size; simp; omega) ?_; rintro C6 c6 w6 o6 g6 _)
      have x36 : Ext wo ((w3.alloc (.cells #[.string ⟨(Lib.itoa x).toArray⟩, .string ⟨(Lib.itoa y).toArray⟩] 9)).alloc (.cells #[.slice (some ⟨w3.heap.size, 0, none⟩) 2 2] 63)) := (y3.alloc _).alloc _
      have M6 := (oV.out.ext x36).grownT g6
      have NEW : OwV w6 wo.heap.size 9 1 (some ⟨w3.heap.size, 0, none⟩) [Lib.itoa x, Lib.itoa y].length 2 (txV [Lib.itoa x, Lib.itoa y]) := by
        refine OwV.modT (OwV.full (cs := #[.string ⟨(Lib.itoa x).toArray⟩, .string ⟨(Lib.itoa y).toArray⟩]) (n := 2) (size := 1) ?_ y3.size rfl (by simp [maxLen])) M6 (by decide)
        exact .alloc (.new rfl) _
      have R6 : Hid (RowsT w6 w.heap.size (vs ++ [.slice (some ⟨w3.heap.size, 0, none⟩) 2 2]) (L.take (k + 1))) := by
        have h : RowsT w6 w.heap.size (vs ++ [.slice (some ⟨w3.heap.size, 0, none⟩) 2 2]) (L.take (k + 1)) := by
          rw [PE.out]
          exact RT.out.snoc ((RT.out.ext x36).modT M6 (by decide)) (Nat.le_refl _) zw NEW
        exact h
      have B6 : Hid (Blk w6 w.heap.size 25 #[.int .i64 1, .int .i64 N, .int .i64 cap, .slice (some ⟨pb, po, none⟩) xw.length a, .slice (some ⟨qb, qo, none⟩) xv.length b, .slice D co.length d]) := (BB.out.ext x36).modT M6 (by decide)
      have Y6 : Hid (Ext w w6) := (Y.out.tr x36).modT M6 (Nat.le_refl _)
      replace o6 := Lib.hid o6
      clear NEW M6 g6 x36 s1 s2 s3 s4 t0 t3 t4 x2 x3 y2 y3
      go_wp2_with (fail)
      go_roundw
      case rel => exact ⟨k + 1, C6, c6, _, by go_num, rfl, by omega, o6, R6, B6, Y6⟩
      case measure => simp [intOf]; omega
    · obtain rfl : k = N := by omega
      have LT : Hid (L.take k = L) := by
        have h : L.take k = L := List.take_of_length_le (by have := TL.out; have := hN.out; omega)
        exact h
      have LE : Hid (L.length = k) := by
        have h : L.length = k := by rw [TL.out, hN.out]
        exact h
      go_wp2_with (fail)
      go_ret
      refine ⟨C', cc, vs, by rw [LE.out]; rfl, by rw [LE.out]; exact oV.out, ?_, Y.out⟩
      have h := RT.out
      rw [LT.out] at h
      exact h
theorem rowsL2_at {i : InstP} (hk : i.kind ≠ 1) (hn : (i.cost.length : Int) = i.n) : rowsL i = i.cost := by
  unfold rowsL
  rw [if_neg hk, List.take_of_length_le (by omega)]
set_option maxRecDepth 100000 in
set_option maxHeartbeats 2000000 in
theorem rows2_any (i : InstP) (us : List Value) (w : World) (H : RInst w us i) (hc : checkP i = 0) (hk : i.kind ≠ 1) (hT : Ten w) :
    Calls Tryd.prog 49 #[.agg (List.toArray us)] w (RowsPost (strsL (rowsL i)) w) := by
  obtain ⟨i0, hi, hz0, hz1, hz2⟩ := info_parts str_info
  obtain ⟨j0, hj, hy0, hy1, hy2⟩ := info_parts strs_info
  have ok := square_ok hc hk
  have WD := fun (W : World) (y : Ext w W) (n : Int) (h : 0 ≤ n ∧ n ≤ 2147483647) => write_any n (by omega) (by omega) W (hT.ext y)
  rw [rowsL2_at hk ok.len]
  have TL : Hid ((strsL i.cost).length = i.cost.length) := by
    have h : (strsL i.cost).length = i.cost.length := strsL_len _
    exact h
  have TE : Hid (∀ (k : Nat) (r : List Int), i.cost[k]? = some r → (strsL i.cost)[k]? = some (r.map Lib.itoa)) := fun k r h => strsL_at h
  have RL := Lib.hid ok.row
  have RN := Lib.hid ok.num
  have ln := ok.len
  have n24 := ok.n2
  have ek : (i.kind == 1) = false := by simpa using hk
  generalize strsL i.cost = L at *
  clear ok hc hT hk
  obtain ⟨kind, nn, cap, xw, xv, co⟩ := i
  obtain ⟨A, a, B, b, D, d, rfl, -, -, ⟨rD, -, -⟩⟩ := H
  simp only at *
  replace hi := Lib.hid hi
  replace hz0 := Lib.hid hz0
  replace hz1 := Lib.hid hz1
  replace hz2 := Lib.hid hz2
  replace hj := Lib.hid hj
  replace hy0 := Lib.hid hy0
  replace hy1 := Lib.hid hy1
  replace hy2 := Lib.hid hy2
  replace WD := Lib.hid WD
  replace rD := Lib.hid rD
  obtain ⟨N, hN⟩ : ∃ N, Hid (co.length = N) := ⟨_, rfl⟩
  have hnn : nn = (N : Int) := by have := hN.out; omega
  subst hnn
  have n64 : N ≤ 24 := by omega
  have START : Hid (OwV (w.alloc (.cells #[.int .i64 kind, .int .i64 N, .int .i64 cap, .slice A xw.length a, .slice B xv.length b, .slice D co.length d] 25)) w.heap.size 63 1 none 0 0 []) := OwV.nil _ _ _ _
  have BS : Hid (Blk (w.alloc (.cells #[.int .i64 kind, .int .i64 N, .int .i64 cap, .slice A xw.length a, .slice B xv.length b, .slice D co.length d] 25)) w.heap.size 25 #[.int .i64 kind, .int .i64 N, .int .i64 cap, .slice A xw.length a, .slice B xv.length b, .slice D co.length d]) := .new rfl
  have RS : Hid (RowsT (w.alloc (.cells #[.int .i64 kind, .int .i64 N, .int .i64 cap, .slice A xw.length a, .slice B xv.length b, .slice D co.length d] 25)) w.heap.size [] (L.take 0)) := RowsT.nil _ _
  clear ln n24
  unfold txS at *
  go_enter Tryd.func49, Tryd.ntmps49
  go_wp2_with (fail)
  go_loopw [3, 10] (fun v3 v10 wr => ∃ (k : Nat) (C' : Option Addr) (cc : Nat) (vs : List Value), v10 = .int .i64 k ∧ v3 = .slice C' k cc ∧ k ≤ N ∧ Hid (OwV wr w.heap.size 63 1 C' k cc vs) ∧ Hid (RowsT wr w.heap.size vs (L.take k)) ∧ Hid (Blk wr w.heap.size 25 #[.int .i64 kind, .int .i64 N, .int .i64 cap, .slice A xw.length a, .slice B xv.length b, .slice D co.length d]) ∧ Hid (Ext w wr)) (fun _ v _ => N - (intOf v).toNat)
  case atStart => exact ⟨0, none, 0, [], rfl, rfl, by omega, START, RS, BS, by (repeat (first | assumption | exact Ext.rf _ | apply Ext.drew | apply Ext.drewN | apply Ext.alloc))⟩
  case round =>
    obtain ⟨wo, rfl⟩ : ∃ wo : World, wo = wr := ⟨_, rfl⟩
    clear START RS BS
    obtain ⟨k, C', cc, vs, rfl, rfl, hk, oV, RT, BB, Y⟩ := hrel
    have zw := Y.out.size
    have zB := BB.out.lt
    by_cases hlt : k < N
    · obtain ⟨db, dof, cs, row, rfl, zd, ⟨R, rc, rfl, rR, -, lR, mR⟩, -, hcell, er⟩ := (rD.out.ext Y.out (fun _ _ h => h.ext Y.out)).at (i := k) (by have := hN.out; omega)
      have q1 : (k : Int) < (N : Int) := by omega
      have q2 : (k : Int) < (co.length : Int) := by have := hN.out; omega
      have hcl : wo.cell? ⟨db, dof + k, none⟩ = some (.slice R row.length rc) := by have := hcell 0 _ rfl; simpa using this
      have rl : Hid (row.length = N) := by
        have h : row.length = N := by have := RL.out row (List.mem_of_getElem? er.out); omega
        exact h
      have rn := Lib.hid (RN.out row (List.mem_of_getElem? er.out))
      have PE : Hid (L.take (k + 1) = L.take k ++ [row.map Lib.itoa]) := by
        have h : L.take (k + 1) = L.take k ++ [row.map Lib.itoa] := by rw [List.take_add_one, TE.out k row er.out]; rfl
        exact h
      have t0 : wo.cell? ⟨w.heap.size, 0, none⟩ = some (.int .i64 kind) := BB.out.cell 0
      have t5 : wo.cell? ⟨w.heap.size, 5, none⟩ = some (.slice (some ⟨db, dof, none⟩) co.length d) := BB.out.cell 5
      have START : Hid (OwV wo wo.heap.size 9 1 none 0 0 (txV ((row.map Lib.itoa).take 0))) := OwV.nil _ _ _ _
      replace rR := Lib.hid rR
      clear er hcell lR mR
      go_wp2_with (fail)
      go_loopw [5, 35] (fun v5 v35 wx => ∃ (m : Nat) (C9 : Option Addr) (c9 : Nat), v35 = .int .i64 m ∧ v5 = .slice C9 m c9 ∧ m ≤ N ∧ Hid (OwV wx wo.heap.size 9 1 C9 m c9 (txV ((row.map Lib.itoa).take m))) ∧ Hid (Ext wo wx)) (fun _ v _ => N - (intOf v).toNat)
      case atStart => exact ⟨0, none, 0, rfl, rfl, by omega, START, by (repeat (first | assumption | exact Ext.rf _ | apply Ext.drew | apply Ext.drewN | apply Ext.alloc))⟩
      case round =>
        obtain ⟨wi, rfl⟩ : ∃ wi : World, wi = wr := ⟨_, rfl⟩
        clear START
        obtain ⟨m, C9, c9, rfl, rfl, hm, oR, Yi⟩ := hrel
        have zi := Yi.out.size
        by_cases hmt : m < N
        · obtain ⟨pb, po, y, rfl, zy, cy, ey, _⟩ := (rR.out.ext Yi.out).at (k := m) (by have := rl.out; omega)
          have r1 : (m : Int) < (row.length : Int) := by have := rl.out; omega
          have yb := rn.out y (List.mem_of_getElem? ey.out)
          have PR : Hid (txV ((row.map Lib.itoa).take (m + 1)) = txV ((row.map Lib.itoa).take m) ++ [txS (Lib.itoa y)]) := by
            have h : txV ((row.map Lib.itoa).take (m + 1)) = txV ((row.map Lib.itoa).take m) ++ [txS (Lib.itoa y)] := by
              rw [List.take_add_one, List.getElem?_map, ey.out, ← txV_snoc]; rfl
            exact h
          clear ey
          go_wp2_with (fail)
          refine (WD.out _ (Y.out.tr (Yi.out.tr (by (repeat (first | assumption | exact Ext.rf _ | apply Ext.drew | apply Ext.drewN | apply Ext.alloc))))) y yb).mono ?_
          rintro e w5 ⟨rfl, x5⟩
          have x5' := Ext.tr (a := wi) (by (repeat (first | assumption | exact Ext.rf _ | apply Ext.drew | apply Ext.drewN | apply Ext.alloc))) x5
          have oV5 := oR.out.ext x5'
          have zw5 := x5'.size
          go_wp2_with (at_builtin; refine wpl_app_v _ (e := 9) Tryd.underlying63 hi.out hz0.out hz1.out hz2.out (by simp [Value.cells]) (by omega) rfl _ _ rfl wo.heap.size C9 m c9 (txV ((row.map Lib.itoa).take m)) (some ⟨w5.heap.size, 0, none⟩) 1 1 [txS (Lib.itoa y)] rfl rfl (oV5.ext ((Ext.rf _).alloc _)) (RdV.blk (.new (by simp))).rdC (by simp) (by simp [Value.oneCell', txS]) (by simp only [maxLen]; omega) (by omega) (by simp; omega) ?_; rintro C6 c6 w6 o6 g6 _)
          have M6 := (oV5.ext ((Ext.rf w5).alloc (.cells #[txS (Lib.itoa y)] 9))).grownT g6
          have X6 : Ext wi (w5.alloc (.cells #[txS (Lib.itoa y)] 9)) := x5'.tr ((Ext.rf _).alloc _)
          have NEW : Hid (OwV w6 wo.heap.size 9 1 C6 (m + 1) c6 (txV ((row.map Lib.itoa).take (m + 1)))) := by
            have h : OwV w6 wo.heap.size 9 1 C6 (m + 1) c6 (txV ((row.map Lib.itoa).take (m + 1))) := by rw [PR.out]; exact o6
            exact h
          have XN : Hid (Ext wo w6) := (Yi.out.tr X6).modT M6 (Nat.le_refl _)
          clear oV5 x5 x5' o6 g6 M6 X6
          go_wp2_with (fail)
          go_roundw
          case rel => exact ⟨m + 1, C6, c6, by go_num, rfl, by omega, NEW, XN⟩
          case measure => simp [intOf]; omega
        · obtain rfl : m = N := by omega
          have r1 : ¬ (m : Int) < (row.length : Int) := by have := rl.out; omega
          have LT : Hid ((row.map Lib.itoa).take m = row.map Lib.itoa) := by
            have h : (row.map Lib.itoa).take m = row.map Lib.itoa := List.take_of_length_le (by rw [List.length_map, rl.out]; exact Nat.le_refl _)
            exact h
          have NR : Hid (OwV wi wo.heap.size 9 1 C9 (row.map Lib.itoa).length c9 (txV (row.map Lib.itoa))) := by
            have h : OwV wi wo.heap.size 9 1 C9 (row.map Lib.itoa).length c9 (txV (row.map Lib.itoa)) := by
              rw [List.length_map, rl.out]
              have := oR.out
              rw [LT.out] at this
              exact this
            exact h
          have LM : Hid ((row.map Lib.itoa).length = m) := by
            have h : (row.map Lib.itoa).length = m := by rw [List.length_map, rl.out]
            exact h
          go_wp2_with (at_builtin; refine wpl_app_v _ (e := 63) Tryd.underlying61 hj.out hy0.out hy1.out hy2.out (by simp [Value.cells]) (by omega) rfl _ _ rfl w.heap.size C' k cc vs (some ⟨wi.heap.size, 0, none⟩) 1 1 [.slice C9 m c9] rfl rfl ((oV.out.ext Yi.out).ext ((Ext.rf _).alloc _)) (RdV.blk (.new (by simp))).rdC (by simp) (by simp [Value.oneCell']) (by simp only [maxLen]; omega) (by omega) (by simp; omega) ?_; rintro C6 c6 w6 o6 g6 _)
          have x36 : Ext wo (wi.alloc (.cells #[.slice C9 m c9] 63)) := Yi.out.alloc _
          have M6 := (oV.out.ext x36).grownT g6
          have R6 : Hid (RowsT w6 w.heap.size (vs ++ [.slice C9 m c9]) (L.take (k + 1))) := by
            have h : RowsT w6 w.heap.size (vs ++ [.slice C9 m c9]) (L.take (k + 1)) := by
              rw [PE.out]
              have := RT.out.snoc ((RT.out.ext x36).modT M6 (by decide)) (Nat.le_refl _) zw ((NR.out.ext ((Ext.rf _).alloc _)).modT M6 (by decide))
              rw [LM.out] at this
              exact this
            exact h
          have B6 : Hid (Blk w6 w.heap.size 25 #[.int .i64 kind, .int .i64 m, .int .i64 cap, .slice A xw.length a, .slice B xv.length b, .slice (some ⟨db, dof, none⟩) co.length d]) := (BB.out.ext x36).modT M6 (by decide)
          have Y6 : Hid (Ext w w6) := (Y.out.tr x36).modT M6 (Nat.le_refl _)
          replace o6 := Lib.hid o6
          clear NR M6 g6 x36 t0 t5
          go_wp2_with (fail)
          go_roundw
          case rel => exact ⟨k + 1, C6, c6, _, by go_num, rfl, by omega, o6, R6, B6, Y6⟩
          case measure => simp [intOf]; omega
    · obtain rfl : k = N := by omega
      have LT : Hid (L.take k = L) := by
        have h : L.take k = L := List.take_of_length_le (by have := TL.out; have := hN.out; omega)
        exact h
      have LE : Hid (L.length = k) := by
        have h : L.length = k := by rw [TL.out, hN.out]
        exact h
      go_wp2_with (fail)
      go_ret
      refine ⟨C', cc, vs, by rw [LE.out]; rfl, by rw [LE.out]; exact oV.out, ?_, Y.out⟩
      have h := RT.out
      rw [LT.out] at h
      exact h
theorem trows_any (i : InstP) (us : List Value) (w : World) (H : RInst w us i) (hc : checkP i = 0) (hT : Ten w) :
    Calls Tryd.prog 49 #[.agg (List.toArray us)] w (RowsPost (strsL (rowsL i)) w) := by
  by_cases hk : i.kind = 1
  · exact rows1_any i us w H hc hk hT
  · exact rows2_any i us w H hc hk hT
end Go.Proofs.YtleckhbmciiooaaDoor
namespace Go.Proofs.YtleckhbmciiooaaDoor
open Go.Shelf

def bld_ren : Go.Shelf.Ren := ⟨fun | 105 => 50 | 212 => 79 | 99 => 80 | 165 => 81 | 166 => 51 | 170 => 82 | 169 => 54 | 263 => 104 | 264 => 105 | 206 => 106 | 240 => 83 | 241 => 107 | 276 => 108 | 277 => 125 | 167 => 53 | n => n, fun | 9 => 9 | 3 => 3 | 4 => 4 | 20 => 20 | 0 => 0 | 46 => 117 | 109 => 118 | 5 => 5 | 72 => 67 | 76 => 71 | 51 => 137 | 146 => 138 | 53 => 28 | 148 => 140 | 70 => 64 | 37 => 65 | 75 => 70 | 127 => 122 | 164 => 142 | 80 => 75 | n => n, fun n => n⟩
set_option maxRecDepth 100000 in
theorem lay105 : Lays.n105 Tryd.prog bld_ren where
  mixed := by kernel_rfl
  f99 := Tryd.func80.trans (congrArg some (by kernel_rfl))
  f105 := Tryd.func50.trans (congrArg some (by kernel_rfl))
  f165 := Tryd.func81.trans (congrArg some (by kernel_rfl))
  f166 := Tryd.func51.trans (congrArg some (by kernel_rfl))
  f169 := Tryd.func54.trans (congrArg some (by kernel_rfl))
  f170 := Tryd.func82.trans (congrArg some (by kernel_rfl))
  f206 := Tryd.func106.trans (congrArg some (by kernel_rfl))
  f212 := Tryd.func79.trans (congrArg some (by kernel_rfl))
  f240 := Tryd.func83.trans (congrArg some (by kernel_rfl))
  f241 := Tryd.func107.trans (congrArg some (by kernel_rfl))
  f263 := Tryd.func104.trans (congrArg some (by kernel_rfl))
  f264 := Tryd.func105.trans (congrArg some (by kernel_rfl))
  f276 := Tryd.func108.trans (congrArg some (by kernel_rfl))
  f277 := Tryd.func125.trans (congrArg some (by kernel_rfl))
  t0 := Tryd.underlying0
  a0 := Tryd.isAgg0
  z0 := Tryd.sizeOf0
  v0 := Tryd.zeroValue0
  t3 := Tryd.underlying3
  a3 := Tryd.isAgg3
  z3 := Tryd.sizeOf3
  v3 := Tryd.zeroValue3
  t4 := Tryd.underlying4
  a4 := Tryd.isAgg4
  z4 := Tryd.sizeOf4
  v4 := Tryd.zeroValue4
  t5 := Tryd.underlying5
  a5 := Tryd.isAgg5
  z5 := Tryd.sizeOf5
  v5 := Tryd.zeroValue5
  t9 := Tryd.underlying9
  a9 := Tryd.isAgg9
  z9 := Tryd.sizeOf9
  v9 := Tryd.zeroValue9
  t20 := Tryd.underlying20
  a20 := Tryd.isAgg20
  z20 := Tryd.sizeOf20
  v20 := Tryd.zeroValue20
  t37 := Tryd.underlying65
  a37 := Tryd.isAgg65
  z37 := Tryd.sizeOf65
  v37 := Tryd.zeroValue65
  t46 := Tryd.underlying117
  a46 := Tryd.isAgg117
  z46 := Tryd.sizeOf117
  v46 := Tryd.zeroValue117
  t51 := Tryd.underlying137
  a51 := Tryd.isAgg137
  z51 := Tryd.sizeOf137
  v51 := Tryd.zeroValue137
  t53 := Tryd.underlying28
  a53 := Tryd.isAgg28
  z53 := Tryd.sizeOf28
  v53 := Tryd.zeroValue28
  t70 := Tryd.underlying64
  a70 := Tryd.isAgg64
  z70 := Tryd.sizeOf64
  v70 := Tryd.zeroValue64
  t72 := Tryd.underlying67
  a72 := Tryd.isAgg67
  z72 := Tryd.sizeOf67
  v72 := Tryd.zeroValue67
  t75 := Tryd.underlying70
  a75 := Tryd.isAgg70
  z75 := Tryd.sizeOf70
  v75 := Tryd.zeroValue70
  t76 := Tryd.underlying71
  a76 := Tryd.isAgg71
  z76 := Tryd.sizeOf71
  v76 := Tryd.zeroValue71
  t109 := Tryd.underlying118
  a109 := Tryd.isAgg118
  z109 := Tryd.sizeOf118
  v109 := Tryd.zeroValue118
  t127 := Tryd.underlying122
  a127 := Tryd.isAgg122
  z127 := Tryd.sizeOf122
  v127 := Tryd.zeroValue122
  t146 := Tryd.underlying138
  a146 := Tryd.isAgg138
  z146 := Tryd.sizeOf138
  v146 := Tryd.zeroValue138
  t148 := Tryd.underlying140
  a148 := Tryd.isAgg140
  z148 := Tryd.sizeOf140
  v148 := Tryd.zeroValue140
  t164 := Tryd.underlying142
  a164 := Tryd.isAgg142
  z164 := Tryd.sizeOf142
  v164 := Tryd.zeroValue142
set_option maxRecDepth 100000 in
theorem lay166 : Lays.n166 Tryd.prog bld_ren where
  mixed := by kernel_rfl
  f166 := Tryd.func51.trans (congrArg some (by kernel_rfl))
  f240 := Tryd.func83.trans (congrArg some (by kernel_rfl))
  f276 := Tryd.func108.trans (congrArg some (by kernel_rfl))
  t0 := Tryd.underlying0
  a0 := Tryd.isAgg0
  z0 := Tryd.sizeOf0
  v0 := Tryd.zeroValue0
  t3 := Tryd.underlying3
  a3 := Tryd.isAgg3
  z3 := Tryd.sizeOf3
  v3 := Tryd.zeroValue3
  t4 := Tryd.underlying4
  a4 := Tryd.isAgg4
  z4 := Tryd.sizeOf4
  v4 := Tryd.zeroValue4
  t9 := Tryd.underlying9
  a9 := Tryd.isAgg9
  z9 := Tryd.sizeOf9
  v9 := Tryd.zeroValue9
  t20 := Tryd.underlying20
  a20 := Tryd.isAgg20
  z20 := Tryd.sizeOf20
  v20 := Tryd.zeroValue20
  t37 := Tryd.underlying65
  a37 := Tryd.isAgg65
  z37 := Tryd.sizeOf65
  v37 := Tryd.zeroValue65
  t70 := Tryd.underlying64
  a70 := Tryd.isAgg64
  z70 := Tryd.sizeOf64
  v70 := Tryd.zeroValue64
  t72 := Tryd.underlying67
  a72 := Tryd.isAgg67
  z72 := Tryd.sizeOf67
  v72 := Tryd.zeroValue67
  t75 := Tryd.underlying70
  a75 := Tryd.isAgg70
  z75 := Tryd.sizeOf70
  v75 := Tryd.zeroValue70
  t164 := Tryd.underlying142
  a164 := Tryd.isAgg142
  z164 := Tryd.sizeOf142
  v164 := Tryd.zeroValue142
set_option maxRecDepth 100000 in
theorem lay167 : Lays.n167 Tryd.prog bld_ren where
  mixed := by kernel_rfl
  f167 := Tryd.func53.trans (congrArg some (by kernel_rfl))
  f240 := Tryd.func83.trans (congrArg some (by kernel_rfl))
  f276 := Tryd.func108.trans (congrArg some (by kernel_rfl))
  t0 := Tryd.underlying0
  a0 := Tryd.isAgg0
  z0 := Tryd.sizeOf0
  v0 := Tryd.zeroValue0
  t4 := Tryd.underlying4
  a4 := Tryd.isAgg4
  z4 := Tryd.sizeOf4
  v4 := Tryd.zeroValue4
  t5 := Tryd.underlying5
  a5 := Tryd.isAgg5
  z5 := Tryd.sizeOf5
  v5 := Tryd.zeroValue5
  t9 := Tryd.underlying9
  a9 := Tryd.isAgg9
  z9 := Tryd.sizeOf9
  v9 := Tryd.zeroValue9
  t20 := Tryd.underlying20
  a20 := Tryd.isAgg20
  z20 := Tryd.sizeOf20
  v20 := Tryd.zeroValue20
  t37 := Tryd.underlying65
  a37 := Tryd.isAgg65
  z37 := Tryd.sizeOf65
  v37 := Tryd.zeroValue65
  t70 := Tryd.underlying64
  a70 := Tryd.isAgg64
  z70 := Tryd.sizeOf64
  v70 := Tryd.zeroValue64
  t72 := Tryd.underlying67
  a72 := Tryd.isAgg67
  z72 := Tryd.sizeOf67
  v72 := Tryd.zeroValue67
  t75 := Tryd.underlying70
  a75 := Tryd.isAgg70
  z75 := Tryd.sizeOf70
  v75 := Tryd.zeroValue70
  t164 := Tryd.underlying142
  a164 := Tryd.isAgg142
  z164 := Tryd.sizeOf142
  v164 := Tryd.zeroValue142
set_option maxRecDepth 100000 in
theorem lay169 : Lays.n169 Tryd.prog bld_ren where
  mixed := by kernel_rfl
  f169 := Tryd.func54.trans (congrArg some (by kernel_rfl))
  t0 := Tryd.underlying0
  a0 := Tryd.isAgg0
  z0 := Tryd.sizeOf0
  v0 := Tryd.zeroValue0
  t3 := Tryd.underlying3
  a3 := Tryd.isAgg3
  z3 := Tryd.sizeOf3
  v3 := Tryd.zeroValue3
  t9 := Tryd.underlying9
  a9 := Tryd.isAgg9
  z9 := Tryd.sizeOf9
  v9 := Tryd.zeroValue9
  t37 := Tryd.underlying65
  a37 := Tryd.isAgg65
  z37 := Tryd.sizeOf65
  v37 := Tryd.zeroValue65
  t70 := Tryd.underlying64
  a70 := Tryd.isAgg64
  z70 := Tryd.sizeOf64
  v70 := Tryd.zeroValue64
  t72 := Tryd.underlying67
  a72 := Tryd.isAgg67
  z72 := Tryd.sizeOf67
  v72 := Tryd.zeroValue67
  t127 := Tryd.underlying122
  a127 := Tryd.isAgg122
  z127 := Tryd.sizeOf122
  v127 := Tryd.zeroValue122
theorem bldExtra : Builder.Extra Tryd.prog bld_ren where
  sizeBuilder := by kernel_rfl
  liesBuilder := by kernel_rfl
  t5 := Tryd.underlying5
  a5 := Tryd.isAgg5
  z5 := Tryd.sizeOf5
  v5 := Tryd.zeroValue5
  infoByte := by kernel_rfl
  cellsByte := by kernel_rfl
  sizeByte := by kernel_rfl
  neB5 := by decide
/-- strings.Repeat -/
theorem repeat_any (s : List UInt8) (c : Nat) (w : World) (hc : c ≤ 9223372036854775807) (hlen : s.length * c ≤ 140737488355328) :
    Calls Tryd.prog 50 #[.string ⟨s.toArray⟩, .int .i64 c] w fun e w' => e = .returned (.string ⟨(Lib.repeatL s c).toArray⟩) ∧ Ext w w' :=
  Any.strings_Repeat lay105 bldExtra ⟨s.toArray⟩ c w hc hlen
end Go.Proofs.YtleckhbmciiooaaDoor
namespace Go.Proofs.YtleckhbmciiooaaDoor
open Go.Shelf Go.RowKit Go.ChangeShapes Go.WideShapes Go.ChangeAt

/-- the builder in block b holds this text -/
def Bl (w : World) (base b : Nat) (l : Txt) : Prop := Lib.IsBuilderF 67 5 base b (Lib.byteCells l) w
/-- what a builder's method turns -/
structure BK (base b : Nat) (w w' : World) : Prop where
  below : Below base w w'
  kept : Lib.OthersKept 5 (some b) w w'
section
variable {base b : Nat} {w w' w2 : World} {l : Txt}
theorem Bl.new (w : World) : Bl (w.alloc (.cells #[.pointer none, .slice none 0 0] 67)) w.heap.size w.heap.size [] := Lib.IsBuilderF.of (Lib.fresh_isBuilder 67 5 w)
theorem Bl.keep (h : Bl w base b l) (hk : ∀ (k : Nat) (cs : Array Value) (t : TypeId) (fz : Nat × Nat), w.heap[k]? = some (Obj.cells cs t fz) → t = 67 ∨ t = 5 → w'.heap[k]? = w.heap[k]?) : Bl w' base b l := by
  have at_ : ∀ p, Lib.BuilderAtF 67 5 base b p (Lib.byteCells l) w → Lib.BuilderAtF 67 5 base b p (Lib.byteCells l) w' := by
    rintro p ⟨hB, v, hb, hown, hne⟩
    refine ⟨hB, v, (hk b _ _ _ hb (.inl rfl)).trans hb, ⟨hown.1, ?_⟩, hne⟩
    rcases hown.2 with hn | ⟨g, cap, cur, fz, hv, hbg, hg, rest⟩
    · exact .inl hn
    · exact .inr ⟨g, cap, cur, fz, hv, hbg, (hk g _ _ _ hg (.inr rfl)).trans hg, rest⟩
  exact Or.elim h (fun x => .inl (at_ _ x)) (fun x => .inr (at_ _ x))
theorem Bl.ext (h : Bl w base b l) (x : Ext w w') : Bl w' base b l := h.keep fun k _ _ _ hk _ => x.block k (Array.getElem?_eq_some_iff.1 hk).1
theorem Bl.modT {base' : Nat} {ts : List TypeId} (h : Bl w base b l) (m : ModT base' ts w w') (h1 : 67 ∉ ts) (h2 : 5 ∉ ts) : Bl w' base b l := h.keep fun k cs t fz hk ht => m.block k (Array.getElem?_eq_some_iff.1 hk).1 (by
  rintro ⟨_, cs', t', h3, h4⟩
  rw [hk] at h3
  injection h3 with h3
  injection h3 with _ h3 _
  subst h3
  rcases ht with rfl | rfl
  · exact h1 h4
  · exact h2 h4)
theorem Bl.le (h : Bl w base b l) : base ≤ b ∧ b < w.heap.size := by
  rcases h with ⟨hB, v, hb, _⟩ | ⟨hB, v, hb, _⟩ <;> exact ⟨hB, (Array.getElem?_eq_some_iff.1 hb).1⟩
theorem Bl.isB (h : Bl w base b l) : ∃ cs, w.heap[b]? = some (Obj.cells cs 67 (0, 0)) := by
  rcases h with ⟨hB, v, hb, _⟩ | ⟨hB, v, hb, _⟩ <;> exact ⟨_, hb⟩
theorem BK.tr (h : BK base b w w') (k : BK base b w' w2) : BK base b w w2 := ⟨h.below.trans k.below, h.kept.trans k.kept⟩
theorem Ext.bk {w0 : World} (h : Ext w0 w) (k : BK base b w w') (hb : w0.heap.size ≤ base) : Ext w0 w' := Below.trans h (Below.mono k.below hb)
theorem RdV.bk {e : TypeId} {A : Option Addr} {vs : List Value} (h : RdV w e A vs) (k : BK base b w w') (hB : Bl w base b l) (h1 : e ≠ 5) (h2 : e ≠ 67) : RdV w' e A vs := by
  rcases h with rfl | ⟨g, off, cur, rfl, hg, hc⟩
  · exact .inl rfl
  · refine .inr ⟨g, off, cur, rfl, k.kept g _ hg ?_ ?_, hc⟩
    · intro e1
      injection e1 with e1
      subst e1
      obtain ⟨cs, hb⟩ := hB.isB
      rw [hb] at hg
      injection hg with hg
      injection hg with _ hg
      exact h2 hg.symm
    · rintro c fz hh
      injection hh with _ hh
      exact h1 hh
theorem Blk.bk {g : Nat} {e : TypeId} {cs : Array Value} (h : Blk w g e cs) (k : BK base b w w') (hB : Bl w base b l) (h1 : e ≠ 5) (h2 : e ≠ 67) : Blk w' g e cs := by
  refine k.kept g _ h ?_ ?_
  · intro e1
    injection e1 with e1
    subst e1
    obtain ⟨cs', hb⟩ := hB.isB
    have hg : w.heap[g]? = some (.cells cs e (0, 0)) := h
    rw [hb] at hg
    injection hg with hg
    injection hg with _ hg
    exact h2 hg.symm
  · rintro c fz hh
    injection hh with _ hh
    exact h1 hh
theorem OwV.bk {base' : Nat} {e : TypeId} {size n c : Nat} {A : Option Addr} {vs : List Value} (h : OwV w base' e size A n c vs) (k : BK base b w w') (hB : Bl w base b l) (h1 : e ≠ 5) (h2 : e ≠ 67) : OwV w' base' e size A n c vs :=
  h.keep fun g hg => by
    rcases h.cases with ⟨rfl, rfl, rfl, rfl⟩ | ⟨g', cur, rfl, hb', hh, _⟩
    · simp [bl] at hg
    · simp [bl] at hg
      subst hg
      exact (Blk.bk (g := g') hh k hB h1 h2).trans hh.symm
end
theorem strCells_tx (s : Txt) : Lib.strCells ⟨s.toArray⟩ = Lib.byteCells s := by simp [Lib.strCells, Lib.byteCells]
theorem wstr_any (base b : Nat) (l s : Txt) (w : World) (h : Bl w base b l) (hl : l.length + s.length ≤ 1000000000) (hb : base ≤ w.heap.size) :
    Calls Tryd.prog 51 #[.pointer (some ⟨b, 0, none⟩), .string ⟨s.toArray⟩] w fun e w' => e = .returned (.tuple #[.int .i64 s.length, .nilIface]) ∧ Bl w' base b (l ++ s) ∧ BK base b w w' := by
  have hs : (⟨s.toArray⟩ : ByteArray).size = s.length := by simp [ByteArray.size]
  have C := Any.Builder_WriteString_k lay166 bldExtra base b (Lib.byteCells l) ⟨s.toArray⟩ w h (by rw [Lib.byteCells_length, hs]; omega) hb
  rw [hs] at C
  refine C.mono ?_
  rintro e w' ⟨rfl, h1, h2, h3⟩
  rw [strCells_tx, ← Lib.byteCells_append] at h1
  exact ⟨rfl, .inr h1, h2, h3⟩
theorem wbyte_any (base b : Nat) (l : Txt) (c : UInt8) (w : World) (h : Bl w base b l) (hl : l.length + 1 ≤ 1000000000) (hb : base ≤ w.heap.size) :
    Calls Tryd.prog 53 #[.pointer (some ⟨b, 0, none⟩), .int .u8 c.toNat] w fun e w' => e = .returned .nilIface ∧ Bl w' base b (l ++ [c]) ∧ BK base b w w' := by
  refine (Any.Builder_WriteByte_k lay167 bldExtra base b (Lib.byteCells l) c.toNat w h (by rw [Lib.byteCells_length]; omega) hb).mono ?_
  rintro e w' ⟨rfl, h1, h2, h3⟩
  refine ⟨rfl, .inr ?_, h2, h3⟩
  rw [Lib.byteCells_append]
  exact h1
theorem wnl_any (base b : Nat) (l : Txt) (w : World) (h : Bl w base b l) (hl : l.length + 1 ≤ 1000000000) (hb : base ≤ w.heap.size) :
    Calls Tryd.prog 53 #[.pointer (some ⟨b, 0, none⟩), .int .u8 10] w fun e w' => e = .returned .nilIface ∧ Bl w' base b (l ++ [10]) ∧ BK base b w w' := wbyte_any base b l 10 w h hl hb
theorem btext_any (base b : Nat) (l : Txt) (w : World) (h : Bl w base b l) (hb : base ≤ w.heap.size) :
    Calls Tryd.prog 54 #[.pointer (some ⟨b, 0, none⟩)] w fun e w' => e = .returned (.string ⟨l.toArray⟩) ∧ Bl w' base b l ∧ BK base b w w' := by
  refine (Any.Builder_String_any_k lay169 bldExtra base b l w h hb).mono ?_
  rintro e w' ⟨rfl, h1, h2, h3⟩
  exact ⟨rfl, h1, h2, h3⟩
end Go.Proofs.YtleckhbmciiooaaDoor
namespace Go.Proofs.YtleckhbmciiooaaDoor
open Go.RowKit Go.ChangeShapes Go.WideShapes Go.ChangeAt Go.Deep

/-- the rows from one on still are as they were -/
structure RowsF (w : World) (base : Nat) (us : List Value) (T : List (List Txt)) (a : Nat) : Prop where
  len : us.length = T.length
  row : ∀ (j : Nat) (u : Value), a ≤ j → us[j]? = some u → ∃ (l : List Txt) (A : Option Addr) (c : Nat), T[j]? = some l ∧ u = .slice A l.length c ∧ OwV w base 9 1 A l.length c (txV l)
  dist : RowsD us
section
variable {w w' : World} {base a : Nat} {us : List Value} {T : List (List Txt)}
theorem RowsF.of (h : RowsT w base us T) : RowsF w base us T 0 := ⟨h.len, fun j u _ hj => h.row j u hj, h.dist⟩
theorem RowsF.keep (h : RowsF w base us T a) (hk : ∀ (k : Nat) (cs : Array Value), w.heap[k]? = some (Obj.cells cs 9 (0, 0)) → w'.heap[k]? = w.heap[k]?) : RowsF w' base us T a :=
  ⟨h.len, fun j u ha hj => by
    obtain ⟨l, A, c, h1, h2, h3⟩ := h.row j u ha hj
    refine ⟨l, A, c, h1, h2, h3.keep fun g hg => ?_⟩
    rcases h3.cases with ⟨rfl, _⟩ | ⟨g', cur, rfl, _, hh, _⟩
    · simp [bl] at hg
    · simp [bl] at hg
      subst hg
      exact hk _ _ hh, h.dist⟩
theorem RowsF.ext (h : RowsF w base us T a) (x : Ext w w') : RowsF w' base us T a := h.keep fun k _ hk => x.block k (Array.getElem?_eq_some_iff.1 hk).1
theorem RowsF.bk {B b : Nat} {l : Txt} (h : RowsF w base us T a) (k : BK B b w w') (hB : Bl w B b l) : RowsF w' base us T a := h.keep fun g cs hg => (Blk.bk (g := g) (cs := cs) hg k hB (by decide) (by decide)).trans hg.symm
/-- the next row, and the ones behind it -/
theorem RowsF.pop (h : RowsF w base us T a) (ha : a < T.length) : ∃ (l : List Txt) (A : Option Addr) (c : Nat), us[a]? = some (.slice A l.length c) ∧ T[a]? = some l ∧ OwV w base 9 1 A l.length c (txV l) ∧ RowsF w base us T (a + 1) ∧ (∀ j u, a < j → us[j]? = some u → ∀ b, bl A = some b → u.ownBlock ≠ some b) := by
  have hl := h.len
  obtain ⟨l, A, c, h1, h2, h3⟩ := h.row a _ (Nat.le_refl _) (List.getElem?_eq_getElem (by omega))
  have e : us[a]? = some (.slice A l.length c) := by rw [← h2]; exact List.getElem?_eq_getElem (by omega)
  exact ⟨l, A, c, e, h1, h3, ⟨h.len, fun j u hj hu => h.row j u (by omega) hu, h.dist⟩, fun j u hj hu b hb => h.dist a j _ _ hj e hu b (by rw [ownBlock_bl]; exact hb)⟩
/-- a number is put into the row ahead of them -/
theorem RowsF.put (h : RowsF w base us T (a + 1)) {g : Nat} (hd : ∀ j u, a < j → us[j]? = some u → ∀ b, bl (some (⟨g, 0, none⟩ : Addr)) = some b → u.ownBlock ≠ some b) (m : Nat) (v : Value) : RowsF (w.setCell ⟨g, m, none⟩ v) base us T (a + 1) :=
  ⟨h.len, fun j u ha hj => by
    obtain ⟨l, A, c, h1, h2, h3⟩ := h.row j u ha hj
    refine ⟨l, A, c, h1, h2, h3.keep fun k hk => ?_⟩
    have := hd j u (by omega) hj g rfl
    rw [h2, ownBlock_bl] at this
    exact Below.heap_setCell w ⟨g, m, none⟩ v k (fun e => this (by rw [hk, e])), h.dist⟩
end
def mixT (P S : List Txt) (m : Nat) : List Txt := P.take m ++ S.drop m
theorem mix_len {P S : List Txt} (h : P.length = S.length) (m : Nat) : (mixT P S m).length = S.length := by
  unfold mixT
  rw [List.length_append, List.length_take, List.length_drop]
  omega
theorem mix_at {P S : List Txt} (h : P.length = S.length) {m : Nat} (hm : m < S.length) : (mixT P S m)[m]? = S[m]? := by
  unfold mixT
  rw [List.getElem?_append_right (by rw [List.length_take]; omega), List.length_take, List.getElem?_drop]
  congr 1
  omega
theorem mix_set {P S : List Txt} (h : P.length = S.length) {m : Nat} {p : Txt} (hp : P[m]? = some p) : (txV (mixT P S m)).set m (txS p) = txV (mixT P S (m + 1)) := by
  have hm := (List.getElem?_eq_some_iff.1 hp).1
  unfold txV
  rw [← List.map_set]
  congr 1
  unfold mixT
  have e1 : (P.take m).length = m := by rw [List.length_take]; omega
  rw [List.set_append_right (h := by omega), e1, Nat.sub_self, List.drop_eq_getElem_cons (show m < S.length by omega), List.set_cons_zero, List.take_add_one, hp]
  simp
theorem mix_full {P S : List Txt} (h : P.length = S.length) : mixT P S S.length = P := by
  unfold mixT
  rw [List.take_of_length_le (by omega), List.drop_length, List.append_nil]
theorem repeatL_one_byte (b : UInt8) : ∀ c, Lib.repeatL [b] c = List.replicate c b
  | 0 => rfl
  | c + 1 => by
    simp only [Lib.repeatL, repeatL_one_byte b c]
    rfl
/-- what the problem in form has for rows -/
structure RowsIs (L : List (List Int)) (m : Nat) : Prop where
  n1 : L.length ≤ 64
  m1 : 1 ≤ m
  m2 : m ≤ 24
  row : ∀ r ∈ L, r.length = m
  num : ∀ r ∈ L, ∀ x ∈ r, 0 ≤ x ∧ x ≤ 2147483647
theorem rows_is {i : InstP} (hc : checkP i = 0) : ∃ m, RowsIs (rowsL i) m := by
  by_cases hk : i.kind = 1
  · have ok := knap_ok hc hk
    refine ⟨2, ⟨?_, by omega, by omega, ?_, ?_⟩⟩
    · rw [rowsL1_len hk ok.w]; have := ok.w; have := ok.n2; omega
    · intro r hr
      unfold rowsL at hr
      rw [if_pos hk] at hr
      obtain ⟨k, _, rfl⟩ := List.mem_map.1 hr
      rfl
    · intro r hr x hx
      unfold rowsL at hr
      rw [if_pos hk] at hr
      obtain ⟨k, hk', rfl⟩ := List.mem_map.1 hr
      have := ok.w
      have := ok.v
      rw [List.mem_range] at hk'
      simp only [List.mem_cons, List.not_mem_nil, or_false] at hx
      rcases hx with rfl | rfl
      · rw [getD_some (List.getElem?_eq_getElem (show k < i.weight.length by omega))]
        exact ok.sw _ (List.getElem_mem _)
      · rw [getD_some (List.getElem?_eq_getElem (show k < i.value.length by omega))]
        exact ok.sv _ (List.getElem_mem _)
  · have ok := square_ok hc hk
    have r := rows_ok ok
    rw [rowsL2_at hk ok.len]
    refine ⟨i.cost.length, ⟨by have := r.n2; omega, r.n1, r.n2, r.row, r.num⟩⟩
theorem RowsIs.le {L : List (List Int)} {m : Nat} (h : RowsIs L m) : wideL L ≤ 21 := wideL_le fun r hr x hx => itoa_le x (by have := h.num r hr x hx; omega)
theorem RowsIs.line {L : List (List Int)} {m : Nat} (h : RowsIs L m) {r : List Int} (hr : r ∈ L) : (Lib.join (padsR (wideL L) r) [32]).length ≤ 1000 := by
  have e := lineE_len (wideL L) r (fun x hx => wideL_mem hr hx) r.length (Nat.le_refl _)
  rw [lineE_join _ _ _ (Nat.le_refl _), List.take_of_length_le (by unfold padsR; rw [List.length_map]; exact Nat.le_refl _), h.row r hr] at e
  rw [e]
  have h1 := h.le
  have h2 := h.m2
  have : m * wideL L ≤ 24 * 21 := Nat.mul_le_mul h2 h1
  omega
theorem RowsIs.lines {L : List (List Int)} {m : Nat} (h : RowsIs L m) : ∀ a, (linesT (wideL L) (L.take a)).length ≤ 1001 * a
  | 0 => by simp [linesT]
  | a + 1 => by
    have ih := RowsIs.lines h a
    rcases Nat.lt_or_ge a L.length with hl | hl
    · have e : L[a]? = some L[a] := List.getElem?_eq_getElem hl
      rw [linesT_succ _ e, List.length_append]
      have := h.line (List.getElem_mem hl)
      unfold lineT
      rw [List.length_append, List.length_singleton]
      omega
    · rw [List.take_of_length_le (by omega)]
      rw [List.take_of_length_le hl] at ih
      omega
def tabG (i : InstP) : Txt × Int := if checkP i = 0 then (tableT i, 0) else ([], checkP i)
set_option maxRecDepth 100000 in
set_option maxHeartbeats 4000000 in
theorem table_yes (i : InstP) (us0 : List Value) (w : World) (H : RInst w us0 i) (hlw : i.weight.length ≤ 1000000000) (hlv : i.value.length ≤ 1000000000) (hT : Ten w) (hc : checkP i = 0) :
    Calls Tryd.prog 18 #[.agg (List.toArray us0)] w fun e w' => e = .returned (.tuple #[txS (tableT i), .int .i64 0]) ∧ Ext w w' := by
  have CH := fun (W : World) (x : Ext w W) => check_any i us0 W (H.ext x) hlw hlv
  rw [hc] at CH
  have RW := fun (W : World) (x : Ext w W) => trows_any i us0 W (H.ext x) hc (hT.ext x)
  obtain ⟨mm, RI⟩ := rows_is hc
  have TS := strsL_len (rowsL i)
  have TA : Hid (∀ (k : Nat) (r : List Int), (rowsL i)[k]? = some r → (strsL (rowsL i))[k]? = some (r.map Lib.itoa)) := fun k r h => strsL_at h
  unfold tableT
  generalize rowsL i = L at *
  generalize strsL L = T at *
  obtain ⟨N, hN⟩ : ∃ N, Hid (L.length = N) := ⟨_, rfl⟩
  have hN2 : T.length = N := by rw [TS]; exact hN.out
  unfold RowsPost at RW
  rw [hN2] at RW
  change ∀ (W : World), Ext w W → Calls Tryd.prog _ _ W (fun e w' => ∃ (A : Option Addr) (c : Nat) (us : List Value), e = .returned (.slice A N c) ∧ OwV w' W.heap.size 63 1 A N c us ∧ RowsT w' W.heap.size us T ∧ Ext W w') at RW
  have n64 : N ≤ 64 := by have := RI.n1; have := hN.out; omega
  replace hN2 := Lib.hid hN2
  replace CH := Lib.hid CH
  replace RW := Lib.hid RW
  replace RI := Lib.hid RI
  replace hT := Lib.hid hT
  clear TS hc hlw hlv
  obtain ⟨A, a, B, b, C, c, rfl, -, -, -⟩ := H
  have B1 : Hid (Blk (w.alloc (.cells #[.int .i64 i.kind, .int .i64 i.n, .int .i64 i.cap, .slice A i.weight.length a, .slice B i.value.length b, .slice C i.cost.length c] 25)) w.heap.size 25 #[.int .i64 i.kind, .int .i64 i.n, .int .i64 i.cap, .slice A i.weight.length a, .slice B i.value.length b, .slice C i.cost.length c]) := .new rfl
  unfold txS
  go_enter Tryd.func18, Tryd.ntmps18
  go_wp2_with (fail)
  refine (CH.out _ (by (repeat (first | assumption | exact Ext.rf _ | apply Ext.drew | apply Ext.drewN | apply Ext.alloc)))).mono ?_
  rintro e w1 ⟨rfl, x1⟩
  have X1 := Lib.hid (Ext.tr (a := w) (by (repeat (first | assumption | exact Ext.rf _ | apply Ext.drew | apply Ext.drewN | apply Ext.alloc))) x1)
  have b1 := B1.out.ext x1
  have t0 : w1.cell? ⟨w.heap.size, 0, none⟩ = some (.int .i64 i.kind) := b1.cell 0
  have t1 : w1.cell? ⟨w.heap.size, 1, none⟩ = some (.int .i64 i.n) := b1.cell 1
  have t2 : w1.cell? ⟨w.heap.size, 2, none⟩ = some (.int .i64 i.cap) := b1.cell 2
  have t3 : w1.cell? ⟨w.heap.size, 3, none⟩ = some (.slice A i.weight.length a) := b1.cell 3
  have t4 : w1.cell? ⟨w.heap.size, 4, none⟩ = some (.slice B i.value.length b) := b1.cell 4
  have t5 : w1.cell? ⟨w.heap.size, 5, none⟩ = some (.slice C i.cost.length c) := b1.cell 5
  clear x1 B1 b1
  go_wp2_with (fail)
  refine (RW.out _ X1.out).mono ?_
  rintro e w2 ⟨C2, c2, us, rfl, oO, RT, x2⟩
  have X2 := Lib.hid (X1.out.tr x2)
  have z12 := X1.out.size
  have z22 := x2.size
  replace oO := Lib.hid oO
  replace RT := Lib.hid RT
  have zb : w1.heap.size ≤ w2.heap.size := z22
  clear x2 t0 t1 t2 t3 t4 t5 CH RW z22
  obtain ⟨bs, hbs⟩ : ∃ bs, bs = w1.heap.size := ⟨_, rfl⟩
  rw [← hbs] at oO RT zb z12
  clear hbs X1
  go_wp2_with (fail)
  go_loopw [6, 25] (fun v6 v25 wr => ∃ (q : Nat), v25 = .int .i64 q ∧ v6 = .int .i64 ((wideL (L.take q) : Nat) : Int) ∧ q ≤ N ∧ Hid (Ext w2 wr)) (fun _ v _ => N - (intOf v).toNat)
  case atStart => exact ⟨0, rfl, rfl, by omega, by (repeat (first | assumption | exact Ext.rf _ | apply Ext.drew | apply Ext.drewN | apply Ext.alloc))⟩
  case round =>
    obtain ⟨wo, rfl⟩ : ∃ wo : World, wo = wr := ⟨_, rfl⟩
    obtain ⟨q, rfl, rfl, hq, Y⟩ := hrel
    by_cases hlt : q < N
    · obtain ⟨l, R, rc, eu, eT, oR⟩ := RT.out.at (j := q) (by have := hN2.out; omega)
      obtain ⟨ob, oo, v, rfl, zo, co, ev⟩ := (oO.out.ext Y.out).read.at (j := q) (by rw [RT.out.len, hN2.out]; exact hlt)
      obtain rfl : v = .slice R l.length rc := Option.some.inj (ev.out.symm.trans eu)
      obtain ⟨r, er⟩ : ∃ r, L[q]? = some r := ⟨_, List.getElem?_eq_getElem (by have := hN.out; omega)⟩
      obtain rfl : l = r.map Lib.itoa := Option.some.inj (eT.symm.trans (TA.out q r er))
      have q1 : (q : Int) < (N : Int) := by omega
      have WS : Hid (wideL (L.take (q + 1)) = wideR (wideL (L.take q)) (r.take r.length)) := by
        have h : wideL (L.take (q + 1)) = wideR (wideL (L.take q)) (r.take r.length) := by rw [wideL_succ er, List.take_length]
        exact h
      have lr : Hid ((r.map Lib.itoa).length = r.length) := by
        have h : (r.map Lib.itoa).length = r.length := List.length_map ..
        exact h
      have l24 : r.length ≤ 24 := by have := RI.out.row r (List.mem_of_getElem? er); have := RI.out.m2; omega
      rw [lr.out] at co
      generalize hW0 : wideL (L.take q) = W0 at *
      replace hW0 := Lib.hid hW0
      replace oR := Lib.hid (oR.ext Y.out)
      clear eu ev eT er
      go_wp2_with (fail)
      go_loopw [6, 31] (fun v6 v31 wx => ∃ (m : Nat), v31 = .int .i64 m ∧ v6 = .int .i64 ((wideR W0 (r.take m) : Nat) : Int) ∧ m ≤ r.length ∧ Hid (Ext wo wx)) (fun _ v _ => r.length - (intOf v).toNat)
      case atStart => exact ⟨0, rfl, rfl, by omega, by (repeat (first | assumption | exact Ext.rf _ | apply Ext.drew | apply Ext.drewN | apply Ext.alloc))⟩
      case round =>
        obtain ⟨wi, rfl⟩ : ∃ wi : World, wi = wr := ⟨_, rfl⟩
        obtain ⟨m, rfl, rfl, hm, Yi⟩ := hrel
        by_cases hmt : m < r.length
        · obtain ⟨pb, po, v, rfl, zp, cp, ep⟩ := (oR.out.ext Yi.out).read.at (j := m) (by rw [txV_len, lr.out]; exact hmt)
          obtain ⟨y, ey⟩ : ∃ y, r[m]? = some y := ⟨_, List.getElem?_eq_getElem hmt⟩
          obtain rfl : v = txS (Lib.itoa y) := by
            have h := ep.out
            unfold txV at h
            rw [List.getElem?_map, List.getElem?_map, ey] at h
            exact (Option.some.inj h).symm
          unfold txS at cp
          have r1 : (m : Int) < (r.length : Int) := by omega
          have WM : Hid (wideR W0 (r.take (m + 1)) = max (wideR W0 (r.take m)) (Lib.itoa y).length) := by
            have h : wideR W0 (r.take (m + 1)) = max (wideR W0 (r.take m)) (Lib.itoa y).length := wideR_succ W0 ey
            exact h
          generalize Lib.itoa y = ty at *
          generalize wideR W0 (r.take m) = W1 at *
          have em1 : max (W1 : Int) (ty.length : Int) = ((max W1 ty.length : Nat) : Int) := by omega
          have em2 : (if (ty.length : Int) < (W1 : Int) then (W1 : Int) else (ty.length : Int)) = ((max W1 ty.length : Nat) : Int) := by split <;> omega
          have em3 : (if (W1 : Int) < (ty.length : Int) then (ty.length : Int) else (W1 : Int)) = ((max W1 ty.length : Nat) : Int) := by split <;> omega
          have em4 : (if ty.length < W1 then (W1 : Int) else (ty.length : Int)) = ((max W1 ty.length : Nat) : Int) := by split <;> omega
          have em5 : (if W1 < ty.length then (ty.length : Int) else (W1 : Int)) = ((max W1 ty.length : Nat) : Int) := by split <;> omega
          clear ep ey
          go_wp2_with (fail)
          go_roundw
          case rel => exact ⟨m + 1, by go_num, by rw [WM.out], by omega, Yi.out.tr (by (repeat (first | assumption | exact Ext.rf _ | apply Ext.drew | apply Ext.drewN | apply Ext.alloc)))⟩
          case measure => simp [intOf]; omega
        · obtain rfl : m = r.length := by omega
          go_wp2_with (fail)
          go_roundw
          case rel => exact ⟨q + 1, by go_num, by rw [WS.out], by omega, Y.out.tr (Yi.out.tr (by (repeat (first | assumption | exact Ext.rf _ | apply Ext.drew | apply Ext.drewN | apply Ext.alloc))))⟩
          case measure => simp [intOf]; omega
    · obtain rfl : q = N := by omega
      have LT : Hid (L.take q = L) := by
        have h : L.take q = L := List.take_of_length_le (by have := hN.out; omega)
        exact h
      rw [LT.out]
      have BN : Hid (Bl (wo.alloc (.cells #[.pointer none, .slice none 0 0] 67)) wo.heap.size wo.heap.size (linesT (wideL L) (L.take 0))) := Bl.new wo
      have OO := Lib.hid ((oO.out.ext Y.out).ext ((Ext.rf wo).alloc (.cells #[.pointer none, .slice none 0 0] 67)))
      have RF := Lib.hid (RowsF.of ((RT.out.ext Y.out).ext ((Ext.rf wo).alloc (.cells #[.pointer none, .slice none 0 0] 67))))
      have XW : Hid (Ext w (wo.alloc (.cells #[.pointer none, .slice none 0 0] 67))) := X2.out.tr (Y.out.alloc _)
      have LS : Hid (∀ (k : Nat) (r : List Int), L[k]? = some r → linesT (wideL L) (L.take (k + 1)) = linesT (wideL L) (L.take k) ++ Lib.join (padsR (wideL L) r) [32] ++ [10]) := fun k r h => by
        rw [linesT_succ _ h, List.append_assoc]; rfl
      have LB : Hid (∀ k, k ≤ q → (linesT (wideL L) (L.take k)).length ≤ 70000) := fun k hk => by have := RI.out.lines k; omega
      have LJ : Hid (∀ r ∈ L, (Lib.join (padsR (wideL L) r) [32]).length ≤ 1000) := fun r hr => RI.out.line hr
      have W21 : wideL L ≤ 21 := RI.out.le
      have WM : Hid (∀ r ∈ L, ∀ x ∈ r, (Lib.itoa x).length ≤ wideL L) := fun r hr x hx => wideL_mem hr hx
      have Z0 := Y.out.size
      have zws := X2.out.size
      have U1 : Hid (RowsD us) := RT.out.dist
      generalize hWW : wideL L = W at *
      replace hWW := Lib.hid hWW
      clear oO RT X2 Y
      go_wp2_with (fail)
      generalize wo.alloc (.cells #[.pointer none, .slice none 0 0] 67) = wn at *
      generalize wo.heap.size = bb at *
      have RP := Lib.hid (fun (c : Nat) (hc : c ≤ 100) (W : World) => repeat_any [32] c W (by omega) (by simp; omega))
      have zbs : bs ≤ bb := by omega
      have zbb : bb ≤ wn.heap.size := by have := BN.out.le.2; omega
      go_loopw [43] (fun v43 wr => ∃ (a : Nat), v43 = .int .i64 a ∧ a ≤ q ∧ Hid (Bl wr bb bb (linesT W (L.take a))) ∧ Hid (OwV wr bs 63 1 C2 q c2 us) ∧ Hid (RowsF wr bs us T a) ∧ Hid (Ext w wr) ∧ bb ≤ wr.heap.size) (fun v _ => q - (intOf v).toNat)
      case atStart => exact ⟨0, rfl, by omega, BN, OO, RF, XW, zbb⟩
      case round =>
        clear BN OO RF XW zbb
        obtain ⟨wo, rfl⟩ : ∃ wo : World, wo = wr := ⟨_, rfl⟩
        obtain ⟨a, rfl, ha, BN, OO, RF, XW, zbb⟩ := hrel
        by_cases hlt : a < q
        · obtain ⟨l, R, rc, eu, eT, oR, RF2, hd⟩ := RF.out.pop (by have := hN2.out; omega)
          obtain ⟨ob, oo, v, rfl, zo, co, ev⟩ := OO.out.read.at (j := a) (by rw [RF.out.len, hN2.out]; exact hlt)
          obtain rfl : v = .slice R l.length rc := Option.some.inj (ev.out.symm.trans eu)
          obtain ⟨r, er⟩ : ∃ r, L[a]? = some r := ⟨_, List.getElem?_eq_getElem (by have := hN.out; omega)⟩
          obtain rfl : l = r.map Lib.itoa := Option.some.inj (eT.symm.trans (TA.out a r er))
          have q1 : (a : Int) < (q : Int) := by omega
          have rmem := List.mem_of_getElem? er
          have lr : Hid ((r.map Lib.itoa).length = r.length) := by
            have h : (r.map Lib.itoa).length = r.length := List.length_map ..
            exact h
          have r1 : 1 ≤ r.length ∧ r.length ≤ 24 := by have := RI.out.row r rmem; have := RI.out.m1; have := RI.out.m2; omega
          obtain ⟨g, rfl⟩ : ∃ g, R = some ⟨g, 0, none⟩ := by
            rcases oR.cases with ⟨_, _, h0, _⟩ | ⟨g, cur, h, _⟩
            · rw [lr.out] at h0; omega
            · exact ⟨g, h⟩
          rw [lr.out] at co oR
          have WR := Lib.hid (WM.out r rmem)
          have LE1 : Hid (linesT W (L.take (a + 1)) = linesT W (L.take a) ++ Lib.join (padsR W r) [32] ++ [10]) := LS.out a r er
          have LE2 : (linesT W (L.take a)).length ≤ 70000 := LB.out a (by omega)
          have LE3 : (Lib.join (padsR W r) [32]).length ≤ 1000 := LJ.out r rmem
          have PL : Hid ((padsR W r).length = r.length) := by
            have h : (padsR W r).length = r.length := by unfold padsR; exact List.length_map ..
            exact h
          have PS : Hid ((padsR W r).length = (r.map Lib.itoa).length) := by
            have h : (padsR W r).length = (r.map Lib.itoa).length := by rw [PL.out, lr.out]
            exact h
          have PA : Hid (∀ (m : Nat) (y : Int), r[m]? = some y → (padsR W r)[m]? = some (padT W (Lib.itoa y))) := fun m y h => by unfold padsR; rw [List.getElem?_map, h]; rfl
          have M0 : Hid (OwV wo bs 9 1 (some ⟨g, 0, none⟩) r.length rc (txV (mixT (padsR W r) (r.map Lib.itoa) 0))) := oR
          replace hd := Lib.hid hd
          replace RF2 := Lib.hid RF2
          generalize linesT W (L.take a) = acc at *
          clear eu ev eT er rmem oR RF
          go_wp2_with (fail)
          go_loopw [49] (fun v49 wx => ∃ (m : Nat), v49 = .int .i64 m ∧ m ≤ r.length ∧ Hid (OwV wx bs 9 1 (some ⟨g, 0, none⟩) r.length rc (txV (mixT (padsR W r) (r.map Lib.itoa) m))) ∧ Hid (Bl wx bb bb acc) ∧ Hid (OwV wx bs 63 1 (some ⟨ob, oo, none⟩) q c2 us) ∧ Hid (RowsF wx bs us T (a + 1)) ∧ Hid (Ext w wx) ∧ bb ≤ wx.heap.size) (fun v _ => r.length - (intOf v).toNat)
          case atStart => exact ⟨0, rfl, by omega, M0, BN, OO, RF2, XW, zbb⟩
          case round =>
            clear M0 BN OO RF2 XW zbb co
            obtain ⟨wi, rfl⟩ : ∃ wi : World, wi = wr := ⟨_, rfl⟩
            obtain ⟨m, rfl, hm, OM, BN, OO, RF2, XW, zbb⟩ := hrel
            by_cases hmt : m < r.length
            · obtain ⟨y, ey⟩ : ∃ y, r[m]? = some y := ⟨_, List.getElem?_eq_getElem hmt⟩
              have yW := WR.out y (List.mem_of_getElem? ey)
              have lm : m < (txV (mixT (padsR W r) (r.map Lib.itoa) m)).length := by rw [txV_len, mix_len PS.out, lr.out]; exact hmt
              have em : (txV (mixT (padsR W r) (r.map Lib.itoa) m))[m]? = some (txS (Lib.itoa y)) := by
                unfold txV
                rw [List.getElem?_map, mix_at PS.out (by rw [lr.out]; exact hmt), List.getElem?_map, ey]
                rfl
              have SE : Hid ((txV (mixT (padsR W r) (r.map Lib.itoa) m)).set m (txS (padT W (Lib.itoa y))) = txV (mixT (padsR W r) (r.map Lib.itoa) (m + 1))) := mix_set PS.out (PA.out m y ey)
              have c0 := (OM.out.set lm undef).1
              rw [em] at c0
              have r2 : (m : Int) < (r.length : Int) := by omega
              have RQ := RP.out (W - (Lib.itoa y).length) (by omega)
              rw [repeatL_one_byte] at RQ
              unfold padT at SE
              have lt' : (List.replicate (W - (Lib.itoa y).length) (32 : UInt8)).length = W - (Lib.itoa y).length := List.length_replicate ..
              generalize Lib.itoa y = ty at *
              generalize List.replicate (W - ty.length) (32 : UInt8) = tr at *
              have ec : ((W - ty.length : Nat) : Int) = (W : Int) - (ty.length : Int) := by omega
              rw [ec] at RQ
              have ll : ¬ 9223372036854775807 < tr.length + ty.length := by omega
              unfold txS at c0
              replace RQ := Lib.hid RQ
              clear ec em ey lt'
              go_wp2_with (fail)
              refine (RQ.out _).mono ?_
              rintro e w5 ⟨rfl, x5⟩
              have x5' := Ext.tr (a := wi) (by (repeat (first | assumption | exact Ext.rf _ | apply Ext.drew | apply Ext.drewN | apply Ext.alloc))) x5
              obtain ⟨c5, f5, hb5, o5⟩ := (OM.out.ext x5').set lm (.string ((⟨tr.toArray⟩ : ByteArray) ++ ⟨ty.toArray⟩))
              have k5 := (OM.out.ext x5')
              have NM : Hid (OwV (w5.setCell ⟨g, m, none⟩ (.string ((⟨tr.toArray⟩ : ByteArray) ++ ⟨ty.toArray⟩))) bs 9 1 (some ⟨g, 0, none⟩) r.length rc (txV (mixT (padsR W r) (r.map Lib.itoa) (m + 1)))) := by
                have h : OwV (w5.setCell ⟨g, m, none⟩ (.string ((⟨tr.toArray⟩ : ByteArray) ++ ⟨ty.toArray⟩))) bs 9 1 (some ⟨g, 0, none⟩) r.length rc (txV (mixT (padsR W r) (r.map Lib.itoa) (m + 1))) := by
                  rw [← SE.out]
                  unfold txS
                  rw [← bytes_app]
                  exact o5
                exact h
              have MS : ModT bs [9] w5 (w5.setCell ⟨g, m, none⟩ (.string ((⟨tr.toArray⟩ : ByteArray) ++ ⟨ty.toArray⟩))) := by
                rcases k5.cases with ⟨h0, _⟩ | ⟨g', cur, h1, hb', hh, _⟩
                · cases h0
                · injection h1 with h1
                  injection h1 with h1
                  subst h1
                  exact ModT.set w5 (g := g) (t := 9) (cs := cur) hh (by simp) hb' m _
              have BN5 : Hid (Bl (w5.setCell ⟨g, m, none⟩ (.string ((⟨tr.toArray⟩ : ByteArray) ++ ⟨ty.toArray⟩))) bb bb acc) := (BN.out.ext x5').modT MS (by decide) (by decide)
              have OO5 : Hid (OwV (w5.setCell ⟨g, m, none⟩ (.string ((⟨tr.toArray⟩ : ByteArray) ++ ⟨ty.toArray⟩))) bs 63 1 (some ⟨ob, oo, none⟩) q c2 us) := (OO.out.ext x5').modT MS (by decide)
              have RF5 : Hid (RowsF (w5.setCell ⟨g, m, none⟩ (.string ((⟨tr.toArray⟩ : ByteArray) ++ ⟨ty.toArray⟩))) bs us T (a + 1)) := (RF2.out.ext x5').put hd.out m _
              have XW5 : Hid (Ext w (w5.setCell ⟨g, m, none⟩ (.string ((⟨tr.toArray⟩ : ByteArray) ++ ⟨ty.toArray⟩)))) := (XW.out.tr x5').modT MS z12
              have zz : bb ≤ (w5.setCell ⟨g, m, none⟩ (.string ((⟨tr.toArray⟩ : ByteArray) ++ ⟨ty.toArray⟩))).heap.size := by have := MS.size; have := x5'.size; omega
              have e5 : w5.cell? ⟨g, m, none⟩ = some (.string ⟨ty.toArray⟩) := keepEL x5' (World.block_lt_of_cell? wi _ c0) c0
              clear SE o5 k5 MS RF2 OO BN XW OM c5
              go_wp2_with (fail)
              go_roundw
              case rel => exact ⟨m + 1, by go_num, by omega, NM, BN5, OO5, RF5, XW5, zz⟩
              case measure => simp [intOf]; omega
            · obtain rfl : m = r.length := by omega
              have MF : Hid (mixT (padsR W r) (r.map Lib.itoa) r.length = padsR W r) := by
                have h : mixT (padsR W r) (r.map Lib.itoa) r.length = padsR W r := by
                  have := mix_full PS.out
                  rw [lr.out] at this
                  exact this
                exact h
              have J := join_own bs (some ⟨g, 0, none⟩) rc (padsR W r) [32] wi (by have := OM.out; rw [MF.out] at this; rw [PL.out]; exact this) (by intro h0; have h1 := PL.out; rw [h0] at h1; simp at h1; omega) (by rw [PL.out]; omega) (by omega)
              rw [PL.out] at J
              unfold txS at J
              replace J := Lib.hid J
              generalize Lib.join (padsR W r) [32] = tj at *
              go_wp2_with (fail)
              refine J.out.mono ?_
              rintro e w6 ⟨rfl, x6⟩
              have BN6 := BN.out.ext x6
              have z6 := x6.size
              have WS := Lib.hid (wstr_any bb bb acc tj w6 BN6 (by omega) (by omega))
              clear J
              go_wp2_with (fail)
              refine WS.out.mono ?_
              rintro e w7 ⟨rfl, B7, k7⟩
              have z7 := k7.below.size
              have WN := Lib.hid (wnl_any bb bb (acc ++ tj) w7 B7 (by rw [List.length_append]; omega) (by omega))
              clear WS
              go_wp2_with (fail)
              refine WN.out.mono ?_
              rintro e w8 ⟨rfl, B8, k8⟩
              have z8 := k8.below.size
              have B9 : Hid (Bl w8 bb bb (linesT W (L.take (a + 1)))) := by
                have h : Bl w8 bb bb (linesT W (L.take (a + 1))) := by rw [LE1.out]; exact B8
                exact h
              have OO9 : Hid (OwV w8 bs 63 1 (some ⟨ob, oo, none⟩) q c2 us) := (((OO.out.ext x6).bk k7 BN6 (by decide) (by decide)).bk k8 B7 (by decide) (by decide))
              have RF9 : Hid (RowsF w8 bs us T (a + 1)) := ((RF2.out.ext x6).bk k7 BN6).bk k8 B7
              have XW9 : Hid (Ext w w8) := ((XW.out.tr x6).bk k7 (by omega)).bk k8 (by omega)
              clear WN B7 B8 k7 k8 BN6 RF2 OO XW BN OM
              go_wp2_with (fail)
              go_roundw
              case rel => exact ⟨a + 1, by go_num, by omega, B9, OO9, RF9, XW9, by omega⟩
              case measure => simp [intOf]; omega
        · obtain rfl : a = q := by omega
          rw [LT.out] at BN
          have BT := Lib.hid (btext_any bb bb _ wo BN.out zbb)
          go_wp2_with (fail)
          refine BT.out.mono ?_
          rintro e w6 ⟨rfl, B6, k6⟩
          have X6 := Lib.hid (XW.out.bk k6 (by omega))
          clear BT B6 k6
          go_wp2_with (fail)
          go_ret2
          refine ⟨?_, X6.out⟩
          rw [hWW.out]
          rfl
set_option maxRecDepth 100000 in
set_option maxHeartbeats 2000000 in
theorem table_no (i : InstP) (us0 : List Value) (w : World) (H : RInst w us0 i) (hlw : i.weight.length ≤ 1000000000) (hlv : i.value.length ≤ 1000000000) (hc : checkP i ≠ 0) :
    Calls Tryd.prog 18 #[.agg (List.toArray us0)] w fun e w' => e = .returned (.tuple #[txS [], .int .i64 (checkP i)]) ∧ Ext w w' := by
  have CH := fun (W : World) (x : Ext w W) => check_any i us0 W (H.ext x) hlw hlv
  generalize checkP i = ee at *
  have e1 : (ee != 0) = true := by simpa using hc
  replace CH := Lib.hid CH
  clear hlw hlv hc
  obtain ⟨A, a, B, b, C, c, rfl, -, -, -⟩ := H
  unfold txS
  go_enter Tryd.func18, Tryd.ntmps18
  go_wp2_with (fail)
  refine (CH.out _ (by (repeat (first | assumption | exact Ext.rf _ | apply Ext.drew | apply Ext.drewN | apply Ext.alloc)))).mono ?_
  rintro e w1 ⟨rfl, x1⟩
  have X1 := Lib.hid (Ext.tr (a := w) (by (repeat (first | assumption | exact Ext.rf _ | apply Ext.drew | apply Ext.drewN | apply Ext.alloc))) x1)
  clear x1
  go_wp2_with (fail)
  go_ret2
  exact ⟨rfl, X1.out⟩
theorem table_any (i : InstP) (us0 : List Value) (w : World) (H : RInst w us0 i) (hlw : i.weight.length ≤ 1000000000) (hlv : i.value.length ≤ 1000000000) (hT : Ten w) :
    Calls Tryd.prog 18 #[.agg (List.toArray us0)] w fun e w' => e = .returned (.tuple #[txS (tabG i).1, .int .i64 (tabG i).2]) ∧ Ext w w' := by
  unfold tabG
  by_cases hc : checkP i = 0
  · rw [if_pos hc]
    exact table_yes i us0 w H hlw hlv hT hc
  · rw [if_neg hc]
    exact table_no i us0 w H hlw hlv hc
end Go.Proofs.YtleckhbmciiooaaDoor
namespace Go.Proofs.YtleckhbmciiooaaDoor
open Go.RowKit Go.ChangeShapes Go.WideShapes Go.ChangeAt Go.Deep

/-- these cells are slices that read as these rows -/
def RowsR (w : World) (us : List Value) (L : List (List Int)) : Prop := us.length = L.length ∧ ∀ (k : Nat) (r : List Int), L[k]? = some r → ∃ (A : Option Addr) (c : Nat), us[k]? = some (.slice A r.length c) ∧ RdI w A r
section
variable {w w' : World} {us : List Value} {L : List (List Int)}
theorem RowsR.nil (w : World) : RowsR w [] [] := ⟨rfl, fun k r h => by simp at h⟩
theorem RowsR.ext (h : RowsR w us L) (x : Ext w w') : RowsR w' us L := ⟨h.1, fun k r hk => by obtain ⟨A, c, h1, h2⟩ := h.2 k r hk; exact ⟨A, c, h1, h2.ext x⟩⟩
theorem RowsR.of {base : Nat} (h : RowsO w base us L) : RowsR w us L := ⟨h.1, fun k r hk => by obtain ⟨A, c, h1, h2⟩ := h.2 k r hk; exact ⟨A, c, h1, h2.read⟩⟩
theorem RowsR.snoc (h : RowsR w us L) {r : List Int} {A : Option Addr} {c : Nat} (ho : RdI w A r) : RowsR w (us ++ [.slice A r.length c]) (L ++ [r]) := by
  obtain ⟨h1, h2⟩ := h
  refine ⟨by simp [h1], fun k q hq => ?_⟩
  by_cases hk : k < L.length
  · rw [List.getElem?_append_left hk] at hq
    obtain ⟨A', c', h3, h4⟩ := h2 k q hq
    exact ⟨A', c', by rw [List.getElem?_append_left (by omega)]; exact h3, h4⟩
  · rw [List.getElem?_append_right (by omega)] at hq
    have hk0 : k - L.length = 0 := by
      rcases Nat.eq_zero_or_pos (k - L.length) with h | h
      · exact h
      · rw [List.getElem?_eq_none (by simp; omega)] at hq; cases hq
    rw [hk0] at hq
    simp at hq
    subst hq
    exact ⟨A, c, by rw [List.getElem?_append_right (by omega), show k - us.length = 0 by omega]; rfl, ho⟩
end
theorem own2 {w wo : World} (h : w.heap.size ≤ wo.heap.size) (x y : Int) (o : Obj) : OwI ((wo.alloc (.cells #[.int .i64 x, .int .i64 y] 3)).alloc o).drew w.heap.size (some ⟨wo.heap.size, 0, none⟩) 2 [x, y] :=
  OwI.mk (cur := #[.int .i64 x, .int .i64 y]) h ((Blk.new (t := 3) (cs := #[.int .i64 x, .int .i64 y]) rfl).alloc o) (by simp) (by simp [maxLen]) rfl rfl
def strOf : Value → Nat
  | .string b => b.size
  | _ => 0
def Ro (kind : Int) (P : Prop) : Prop := kind = 1 → P
def Rn (kind : Int) (P : Prop) : Prop := kind ≠ 1 → P
set_option maxRecDepth 100000 in
set_option maxHeartbeats 4000000 in
theorem rtable_yes (i : InstP) (us0 : List Value) (w : World) (H : RInst w us0 i) (hc : checkP i = 0) :
    Calls Tryd.prog 19 #[.agg (List.toArray us0)] w fun e w' => e = .returned (.tuple #[txS (tableT i), .int .i64 0]) ∧ Ext w w' := by
  have CH := fun (W : World) (x : Ext w W) => rcheck_any i us0 W (H.ext x)
  rw [hc] at CH
  have RW := fun (n : Int) (h : 0 ≤ n ∧ n ≤ 2147483647) (W : World) => rwrite_any n (by omega) (by omega) W
  obtain ⟨mm, RI⟩ := rows_is hc
  obtain ⟨j0, hj, hy0, hy1, hy2⟩ := info_parts row_info
  have KN : i.kind = 1 → ∀ k, k < (rowsL i).length → ∃ x y, i.weight[k]? = some x ∧ i.value[k]? = some y ∧ (rowsL i)[k]? = some [x, y] := fun hk k hkl => by
    have ok := knap_ok hc hk
    rw [rowsL1_len hk ok.w] at hkl
    have h2 := ok.w
    have h3 := ok.v
    have e1 : i.weight[k]? = some i.weight[k] := List.getElem?_eq_getElem (by omega)
    have e2 : i.value[k]? = some (i.value[k]'(by omega)) := List.getElem?_eq_getElem (by omega)
    exact ⟨_, _, e1, e2, rowsL1_at hk ok.w e1 e2⟩
  have KS : i.kind ≠ 1 → rowsL i = i.cost := fun hk => rowsL2_at hk (square_ok hc hk).len
  have LN : ((rowsL i).length : Int) = i.n := by
    by_cases hk : i.kind = 1
    · rw [rowsL1_len hk (knap_ok hc hk).w, (knap_ok hc hk).w]
    · rw [KS hk, (square_ok hc hk).len]
  unfold tableT
  generalize rowsL i = L at *
  obtain ⟨N, hN⟩ : ∃ N, Hid (L.length = N) := ⟨_, rfl⟩
  rw [hN.out] at LN
  have n64 : N ≤ 64 := by have := RI.n1; have := hN.out; omega
  replace CH := Lib.hid CH
  replace RW := Lib.hid RW
  replace RI := Lib.hid RI
  replace KN := Lib.hid KN
  replace KS := Lib.hid KS
  replace hj := Lib.hid hj
  replace hy0 := Lib.hid hy0
  replace hy1 := Lib.hid hy1
  replace hy2 := Lib.hid hy2
  clear hc
  obtain ⟨kind, nn, cap, xw, xv, co⟩ := i
  obtain ⟨A, a, B, b, D, d, rfl, ⟨rA, -, lA, -⟩, ⟨rB, -, lB, -⟩, ⟨rD, lD, -⟩⟩ := H
  simp only at *
  subst LN
  replace rA := Lib.hid rA
  replace rB := Lib.hid rB
  replace rD := Lib.hid rD
  have B1 : Hid (Blk (w.alloc (.cells #[.int .i64 kind, .int .i64 N, .int .i64 cap, .slice A xw.length a, .slice B xv.length b, .slice D co.length d] 25)) w.heap.size 25 #[.int .i64 kind, .int .i64 N, .int .i64 cap, .slice A xw.length a, .slice B xv.length b, .slice D co.length d]) := .new rfl
  unfold txS
  clear lA lB lD
  go_enter Tryd.func19, Tryd.ntmps19
  go_wp2_with (fail)
  refine (CH.out _ (by (repeat (first | assumption | exact Ext.rf _ | apply Ext.drew | apply Ext.drewN | apply Ext.alloc)))).mono ?_
  rintro e w1 ⟨rfl, x1⟩
  have X1 := Lib.hid (Ext.tr (a := w) (by (repeat (first | assumption | exact Ext.rf _ | apply Ext.drew | apply Ext.drewN | apply Ext.alloc))) x1)
  have BB1 := Lib.hid (B1.out.ext x1)
  clear x1 B1 CH
  have OS : Hid (OwV w1 w.heap.size 22 1 none 0 0 []) := OwV.nil _ _ _ _
  have RO : Hid (Ro kind (RowsO w1 w.heap.size [] (L.take 0))) := fun _ => RowsO.nil _ _
  have RS : Hid (Rn kind (RowsR w [] (L.take 0))) := fun _ => RowsR.nil _
  go_wp2_with (fail)
  go_loopw [5, 6] (fun v5 v6 wr => ∃ (k : Nat) (C' : Option Addr) (cc : Nat) (vs : List Value), v6 = .int .i64 k ∧ v5 = .slice C' k cc ∧ k ≤ N ∧ Hid (OwV wr w.heap.size 22 1 C' k cc vs) ∧ Hid (Ro kind (RowsO wr w.heap.size vs (L.take k))) ∧ Hid (Rn kind (RowsR w vs (L.take k))) ∧ Hid (Blk wr w.heap.size 25 #[.int .i64 kind, .int .i64 N, .int .i64 cap, .slice A xw.length a, .slice B xv.length b, .slice D co.length d]) ∧ Hid (Ext w wr)) (fun _ v _ => N - (intOf v).toNat)
  case atStart => exact ⟨0, none, 0, [], rfl, rfl, by omega, OS, RO, RS, BB1, X1⟩
  case round =>
    obtain ⟨wo, rfl⟩ : ∃ wo : World, wo = wr := ⟨_, rfl⟩
    clear OS RO RS BB1 X1
    obtain ⟨k, C', cc, vs, rfl, rfl, hk, oV, RO, RS, BB, Y⟩ := hrel
    have zw := Y.out.size
    have zB := BB.out.lt
    have t0 : wo.cell? ⟨w.heap.size, 0, none⟩ = some (.int .i64 kind) := BB.out.cell 0
    have t1 : wo.cell? ⟨w.heap.size, 1, none⟩ = some (.int .i64 N) := BB.out.cell 1
    by_cases hlt : k < N
    · have q1 : (k : Int) < (N : Int) := by omega
      by_cases hk1 : kind = 1
      · obtain ⟨x, y, ex, ey, eL⟩ := KN.out hk1 k (by have := hN.out; omega)
        have q2 : (k : Int) < (xw.length : Int) := by have := (List.getElem?_eq_some_iff.1 ex).1; omega
        have q3 : (k : Int) < (xv.length : Int) := by have := (List.getElem?_eq_some_iff.1 ey).1; omega
        obtain ⟨pb, po, x', rfl, zx, cx, ex', _⟩ := rA.out.at (k := k) (by omega)
        obtain rfl : x = x' := Option.some.inj (ex.symm.trans ex'.out)
        obtain ⟨qb, qo, y', rfl, zy, cy, ey', _⟩ := rB.out.at (k := k) (by omega)
        obtain rfl : y = y' := Option.some.inj (ey.symm.trans ey'.out)
        have PE : Hid (L.take (k + 1) = L.take k ++ [[x, y]]) := by
          have h : L.take (k + 1) = L.take k ++ [[x, y]] := by rw [List.take_add_one, eL]; rfl
          exact h
        have zx' : pb < wo.heap.size := by omega
        have zy' : qb < wo.heap.size := by omega
        have cx' := keepEL Y.out zx cx
        have cy' := keepEL Y.out zy cy
        have t3 : wo.cell? ⟨w.heap.size, 3, none⟩ = some (.slice (some ⟨pb, po, none⟩) xw.length a) := BB.out.cell 3
        have t4 : wo.cell? ⟨w.heap.size, 4, none⟩ = some (.slice (some ⟨qb, qo, none⟩) xv.length b) := BB.out.cell 4
        have RO1 := Lib.hid (RO.out hk1)
        subst hk1
        clear ex ey eL ex' ey' RO
        go_wp2_with (fail)
        go_region_held3 (fun w' => w'.cell? ⟨w.heap.size, 3, none⟩ = some (.slice (some ⟨pb, po, none⟩) xw.length a) ∧ w'.cell? ⟨w.heap.size, 4, none⟩ = some (.slice (some ⟨qb, qo, none⟩) xv.length b) ∧ w'.cell? ⟨pb, po + k, none⟩ = some (.int .i64 x) ∧ w'.cell? ⟨qb, qo + k, none⟩ = some (.int .i64 y)) (go_keep)
          (first
          | (refine step_app_v _ (e := 22) Tryd.underlying23 hj.out hy0.out hy1.out hy2.out (by simp [Value.cells]) (by omega) (by rfl) _ _ (by rfl) w.heap.size C' k cc vs _ 1 1 [.slice (some ⟨wo.heap.size, 0, none⟩) 2 2] (by rfl) (by rfl) ?_ ?_ ?_ ?_ ?_ ?_ ?_ ?_; (refine oV.out.ext ?_; (repeat (first | assumption | exact Ext.rf _ | apply Ext.drew | apply Ext.drewN | apply Ext.alloc))); (exact (RdV.blk (by (first | exact .new (by simp) | exact .drew (.new (by simp)) | exact .alloc (.new (by simp)) _ | exact .drew (.alloc (.new (by simp)) _) | exact .alloc (.alloc (.new (by simp)) _) _ | exact .drew (.alloc (.alloc (.new (by simp)) _) _) | (repeat (first | assumption | (refine Blk.new ?_; (focus (simp; done))) | apply Blk.drew | apply Blk.drewN | apply Blk.alloc))))).rdC); (simp); (simp [Value.oneCell']); (simp only [maxLen]; omega); omega; (simp; omega); rintro A9 c9 w9 o9 g9 _; have x9 : Ext wo ((wo.alloc (.cells #[.int .i64 x, .int .i64 y] 3)).alloc (.cells #[.slice (some ⟨wo.heap.size, 0, none⟩) 2 2] 22)).drew := (((Ext.rf _).alloc _).alloc _).drew; have r9 : OwI ((wo.alloc (.cells #[.int .i64 x, .int .i64 y] 3)).alloc (.cells #[.slice (some ⟨wo.heap.size, 0, none⟩) 2 2] 22)).drew w.heap.size (some ⟨wo.heap.size, 0, none⟩) 2 [x, y] := own2 zw x y _; have M9 := (oV.out.ext x9).grownT g9; have X9 : Ext w w9 := (Y.out.tr x9).modT M9 (Nat.le_refl _); have b9 : Blk w9 w.heap.size 25 #[.int .i64 1, .int .i64 N, .int .i64 cap, .slice (some ⟨pb, po, none⟩) xw.length a, .slice (some ⟨qb, qo, none⟩) xv.length b, .slice D co.length d] := (BB.out.ext x9).modT M9 (by decide); have s1 : w9.cell? ⟨w.heap.size, 3, none⟩ = some (.slice (some ⟨pb, po, none⟩) xw.length a) := b9.cell 3; have s2 : w9.cell? ⟨w.heap.size, 4, none⟩ = some (.slice (some ⟨qb, qo, none⟩) xv.length b) := b9.cell 4; have s3 := keepEL X9 zx cx; have s4 := keepEL X9 zy cy))
        have RO9 : Hid (Ro 1 (RowsO w9 w.heap.size (vs ++ [.slice (some ⟨wo.heap.size, 0, none⟩) 2 2]) (L.take (k + 1)))) := fun _ => by
          rw [PE.out]
          exact ((RO1.out.ext x9).modT M9 (by decide)).snoc (r9.modT M9 (by decide))
        have RS9 : Hid (Rn 1 (RowsR w (vs ++ [.slice (some ⟨wo.heap.size, 0, none⟩) 2 2]) (L.take (k + 1)))) := fun h => absurd rfl h
        replace o9 := Lib.hid o9
        replace b9 := Lib.hid b9
        replace X9 := Lib.hid X9
        clear r9 M9 x9 RO1 RS s1 s2 s3 s4 t0 t1 t3 t4 g9
        go_wp2_with (fail)
        go_roundw
        case rel => exact ⟨k + 1, A9, c9, _, by go_num, rfl, by omega, o9, RO9, RS9, b9, X9⟩
        case measure => simp [intOf]; omega
      · have RS1 := Lib.hid (RS.out hk1)
        have eLc := KS.out hk1
        have e0 : (kind == 1) = false := by simpa using hk1
        obtain ⟨db, dof, cs, row, rfl, zd, ⟨R, rc, rfl, rR, -, lR, mR⟩, -, hcell, er⟩ := rD.out.at (i := k) (by rw [← eLc, hN.out]; exact hlt)
        have q2 : (k : Int) < (co.length : Int) := by rw [← eLc, hN.out]; omega
        have hcl : w.cell? ⟨db, dof + k, none⟩ = some (.slice R row.length rc) := by have := hcell 0 _ rfl; simpa using this
        have hcl' := keepEL Y.out zd hcl
        have PE : Hid (L.take (k + 1) = L.take k ++ [row]) := by
          have h : L.take (k + 1) = L.take k ++ [row] := by rw [List.take_add_one, eLc, er.out]; rfl
          exact h
        have t5 : wo.cell? ⟨w.heap.size, 5, none⟩ = some (.slice (some ⟨db, dof, none⟩) co.length d) := BB.out.cell 5
        replace rR := Lib.hid rR
        replace eLc := Lib.hid eLc
        clear er hcell lR mR hcl RO RS
        go_wp2_with (at_builtin; refine wpl_app_v _ (e := 22) Tryd.underlying23 hj.out hy0.out hy1.out hy2.out (by simp [Value.cells]) (by omega) rfl _ _ rfl w.heap.size C' k cc vs (some ⟨wo.heap.size, 0, none⟩) 1 1 [.slice R row.length rc] rfl rfl (oV.out.ext ((Ext.rf _).alloc _)) (RdV.blk (.new (by simp))).rdC (by simp) (by simp [Value.oneCell']) (by simp only [maxLen]; omega) (by omega) (by simp; omega) ?_; rintro C6 c6 w6 o6 g6 _)
        have x36 : Ext wo (wo.alloc (.cells #[.slice R row.length rc] 22)) := (Ext.rf _).alloc _
        have M6 := (oV.out.ext x36).grownT g6
        have RS6 : Hid (Rn kind (RowsR w (vs ++ [.slice R row.length rc]) (L.take (k + 1)))) := fun _ => by
          rw [PE.out]
          exact RS1.out.snoc rR.out
        have RO6 : Hid (Ro kind (RowsO w6 w.heap.size (vs ++ [.slice R row.length rc]) (L.take (k + 1)))) := fun h => absurd h hk1
        have B6 : Hid (Blk w6 w.heap.size 25 #[.int .i64 kind, .int .i64 N, .int .i64 cap, .slice A xw.length a, .slice B xv.length b, .slice (some ⟨db, dof, none⟩) co.length d]) := (BB.out.ext x36).modT M6 (by decide)
        have Y6 : Hid (Ext w w6) := (Y.out.tr x36).modT M6 (Nat.le_refl _)
        replace o6 := Lib.hid o6
        clear M6 g6 x36 t0 t1 t5 RS1
        go_wp2_with (fail)
        go_roundw
        case rel => exact ⟨k + 1, C6, c6, _, by go_num, rfl, by omega, o6, RO6, RS6, B6, Y6⟩
        case measure => simp [intOf]; omega
    · obtain rfl : k = N := by omega
      have LT : Hid (L.take k = L) := by
        have h : L.take k = L := List.take_of_length_le (by rw [hN.out]; exact Nat.le_refl _)
        exact h
      have RR : Hid (RowsR wo vs L) := by
        have h : RowsR wo vs L := by
          by_cases hk1 : kind = 1
          · have := RowsR.of (RO.out hk1); rw [LT.out] at this; exact this
          · have := (RS.out hk1).ext Y.out; rw [LT.out] at this; exact this
        exact h
      have RV := Lib.hid oV.out.read
      have lvs : vs.length = k := by rw [RR.out.1, hN.out]
      have LS : Hid (∀ (q : Nat) (r : List Int), L[q]? = some r → linesT (wideL L) (L.take (q + 1)) = linesT (wideL L) (L.take q) ++ lineE (wideL L) r r.length ++ [10]) := fun q r h => by
        rw [linesT_succ _ h, List.append_assoc, lineT_E]
      have LB : Hid (∀ q, q ≤ k → (linesT (wideL L) (L.take q)).length ≤ 70000) := fun q hq => by have := RI.out.lines q; omega
      have LJ : Hid (∀ r ∈ L, ∀ b, b ≤ r.length → (lineE (wideL L) r b).length ≤ 1000) := fun r hr b hb => by
        rw [lineE_len (wideL L) r (fun x hx => wideL_mem hr hx) b hb]
        have h1 := RI.out.le
        have h2 := RI.out.m2
        have h3 := RI.out.row r hr
        have : b * wideL L ≤ 24 * 21 := Nat.mul_le_mul (by omega) h1
        omega
      have W21 : wideL L ≤ 21 := RI.out.le
      have WM : Hid (∀ r ∈ L, ∀ x ∈ r, (Lib.itoa x).length ≤ wideL L) := fun r hr x hx => wideL_mem hr hx
      have NM : Hid (∀ r ∈ L, ∀ x ∈ r, 0 ≤ x ∧ x ≤ 2147483647) := RI.out.num
      have R24 : Hid (∀ r ∈ L, r.length ≤ 24) := fun r hr => by rw [RI.out.row r hr]; exact RI.out.m2
      clear RO RS oV BB t0 KN KS RI rA rB rD hlt hk
      go_wp2_with (fail)
      clear t1
      go_loopw [7, 8] (fun v7 v8 wr => ∃ (q : Nat), v8 = .int .i64 q ∧ v7 = .int .i64 ((wideL (L.take q) : Nat) : Int) ∧ q ≤ k ∧ Hid (Ext wo wr)) (fun _ v _ => k - (intOf v).toNat)
      case atStart => exact ⟨0, rfl, rfl, by omega, by (repeat (first | assumption | exact Ext.rf _ | apply Ext.drew | apply Ext.drewN | apply Ext.alloc))⟩
      case round =>
        obtain ⟨wp, rfl⟩ : ∃ wp : World, wp = wr := ⟨_, rfl⟩
        obtain ⟨q, rfl, rfl, hq, Y2⟩ := hrel
        by_cases hlt : q < k
        · obtain ⟨r, er⟩ : ∃ r, L[q]? = some r := ⟨_, List.getElem?_eq_getElem (by have := hN.out; omega)⟩
          obtain ⟨R, rc, eu, rR⟩ := RR.out.2 q r er
          obtain ⟨ob, oo, v, rfl, zo, cO, ev⟩ := (RV.out.ext Y2.out).at (j := q) (by omega)
          obtain rfl : v = .slice R r.length rc := Option.some.inj (ev.out.symm.trans eu)
          have q1 : (q : Int) < (k : Int) := by omega
          have WS : Hid (wideL (L.take (q + 1)) = wideR (wideL (L.take q)) (r.take r.length)) := by
            have h : wideL (L.take (q + 1)) = wideR (wideL (L.take q)) (r.take r.length) := by rw [wideL_succ er, List.take_length]
            exact h
          have l24 : r.length ≤ 24 := R24.out r (List.mem_of_getElem? er)
          have rn := Lib.hid (NM.out r (List.mem_of_getElem? er))
          generalize hW0 : wideL (L.take q) = W0 at *
          replace hW0 := Lib.hid hW0
          replace rR := Lib.hid (rR.ext Y2.out)
          clear eu ev er
          go_wp2_with (fail)
          go_loopw [7, 9] (fun v7 v9 wx => ∃ (m : Nat), v9 = .int .i64 m ∧ v7 = .int .i64 ((wideR W0 (r.take m) : Nat) : Int) ∧ m ≤ r.length ∧ Hid (Ext wp wx)) (fun _ v _ => r.length - (intOf v).toNat)
          case atStart => exact ⟨0, rfl, rfl, by omega, by (repeat (first | assumption | exact Ext.rf _ | apply Ext.drew | apply Ext.drewN | apply Ext.alloc))⟩
          case round =>
            obtain ⟨wi, rfl⟩ : ∃ wi : World, wi = wr := ⟨_, rfl⟩
            obtain ⟨m, rfl, rfl, hm, Yi⟩ := hrel
            have cO' := keepEL Yi.out zo cO
            by_cases hmt : m < r.length
            · obtain ⟨pb, po, y, rfl, zp, cp, ey, _⟩ := (rR.out.ext Yi.out).at (k := m) hmt
              have r1 : (m : Int) < (r.length : Int) := by omega
              have WM2 : Hid (wideR W0 (r.take (m + 1)) = max (wideR W0 (r.take m)) (Lib.itoa y).length) := by
                have h : wideR W0 (r.take (m + 1)) = max (wideR W0 (r.take m)) (Lib.itoa y).length := wideR_succ W0 ey.out
                exact h
              have RY := Lib.hid (RW.out y (rn.out y (List.mem_of_getElem? ey.out)))
              generalize Lib.itoa y = ty at *
              generalize wideR W0 (r.take m) = W1 at *
              have em1 : max (W1 : Int) (ty.length : Int) = ((max W1 ty.length : Nat) : Int) := by omega
              have em2 : (if (ty.length : Int) < (W1 : Int) then (W1 : Int) else (ty.length : Int)) = ((max W1 ty.length : Nat) : Int) := by split <;> omega
              have em3 : (if (W1 : Int) < (ty.length : Int) then (ty.length : Int) else (W1 : Int)) = ((max W1 ty.length : Nat) : Int) := by split <;> omega
              have em4 : (if ty.length < W1 then (W1 : Int) else (ty.length : Int)) = ((max W1 ty.length : Nat) : Int) := by split <;> omega
              have em5 : (if W1 < ty.length then (ty.length : Int) else (W1 : Int)) = ((max W1 ty.length : Nat) : Int) := by split <;> omega
              clear ey
              go_wp2_with (fail)
              refine (RY.out _).mono ?_
              rintro e w5 ⟨rfl, x5⟩
              have x5' := Lib.hid (Yi.out.tr (Ext.tr (a := wi) (by (repeat (first | assumption | exact Ext.rf _ | apply Ext.drew | apply Ext.drewN | apply Ext.alloc))) x5))
              clear x5 RY
              go_wp2_with (fail)
              go_roundw
              case rel => exact ⟨m + 1, by go_num, by rw [WM2.out], by omega, x5'⟩
              case measure => simp [intOf]; omega
            · obtain rfl : m = r.length := by omega
              go_wp2_with (fail)
              go_roundw
              case rel => exact ⟨q + 1, by go_num, by rw [WS.out], by omega, Y2.out.tr (Yi.out.tr (by (repeat (first | assumption | exact Ext.rf _ | apply Ext.drew | apply Ext.drewN | apply Ext.alloc))))⟩
              case measure => simp [intOf]; omega
        · obtain rfl : q = k := by omega
          have Y9 := Lib.hid (Y.out.tr Y2.out)
          replace RR := Lib.hid (RR.out.ext Y2.out)
          replace RV := Lib.hid (RV.out.ext Y2.out)
          rw [LT.out]
          generalize hWW : wideL L = W at *
          replace hWW := Lib.hid hWW
          clear Y Y2
          have A0 : Hid (linesT W (L.take 0) = []) := rfl
          go_wp2_with (fail)
          go_loopw [10, 11] (fun v10 v11 wr => ∃ (a : Nat) (acc : Txt), v11 = .int .i64 a ∧ v10 = .string ⟨acc.toArray⟩ ∧ a ≤ q ∧ Hid (linesT W (L.take a) = acc) ∧ Hid (Ext wp wr)) (fun _ v _ => q - (intOf v).toNat)
          case atStart => exact ⟨0, [], rfl, rfl, by omega, A0, by (repeat (first | assumption | exact Ext.rf _ | apply Ext.drew | apply Ext.drewN | apply Ext.alloc))⟩
          case round =>
            clear A0
            obtain ⟨wo2, rfl⟩ : ∃ wo2 : World, wo2 = wr := ⟨_, rfl⟩
            obtain ⟨a2, acc, rfl, rfl, ha, HA, Y2⟩ := hrel
            have LA := LB.out a2 (by omega)
            rw [HA.out] at LA
            by_cases hlt : a2 < q
            · obtain ⟨r, er⟩ : ∃ r, L[a2]? = some r := ⟨_, List.getElem?_eq_getElem (by have := hN.out; omega)⟩
              obtain ⟨R, rc, eu, rR⟩ := RR.out.2 a2 r er
              obtain ⟨ob, oo, v, rfl, zo, cO, ev⟩ := (RV.out.ext Y2.out).at (j := a2) (by omega)
              obtain rfl : v = .slice R r.length rc := Option.some.inj (ev.out.symm.trans eu)
              have q1 : (a2 : Int) < (q : Int) := by omega
              have rmem := List.mem_of_getElem? er
              have rn := Lib.hid (NM.out r rmem)
              have rw_ := Lib.hid (WM.out r rmem)
              have rl := Lib.hid (LJ.out r rmem)
              have l24 : r.length ≤ 24 := R24.out r rmem
              have LE1 : Hid (linesT W (L.take (a2 + 1)) = acc ++ lineE W r r.length ++ [10]) := by
                have h : linesT W (L.take (a2 + 1)) = acc ++ lineE W r r.length ++ [10] := by rw [LS.out a2 r er, HA.out]
                exact h
              have E0 : Hid (lineE W r 0 = []) := rfl
              replace rR := Lib.hid (rR.ext Y2.out)
              clear eu ev er rmem
              go_wp2_with (fail)
              go_loopw [10, 12] (fun v10 v12 wx => ∃ (b2 : Nat) (l : Txt), v12 = .int .i64 b2 ∧ v10 = .string ⟨(acc ++ l).toArray⟩ ∧ b2 ≤ r.length ∧ Hid (lineE W r b2 = l) ∧ Hid (Ext wo2 wx)) (fun _ v _ => r.length - (intOf v).toNat)
              case atStart => exact ⟨0, [], rfl, by simp, by omega, E0, by (repeat (first | assumption | exact Ext.rf _ | apply Ext.drew | apply Ext.drewN | apply Ext.alloc))⟩
              case round =>
                clear E0
                obtain ⟨wi, rfl⟩ : ∃ wi : World, wi = wr := ⟨_, rfl⟩
                obtain ⟨b2, l, rfl, rfl, hb, HL, Yi⟩ := hrel
                have cO' := keepEL Yi.out zo cO
                have LL := rl.out b2 hb
                rw [HL.out] at LL
                by_cases hmt : b2 < r.length
                · obtain ⟨pb, po, y, rfl, zp, cp, ey, _⟩ := (rR.out.ext Yi.out).at (k := b2) hmt
                  have r1 : (b2 : Int) < (r.length : Int) := by omega
                  have HY : Hid (lineE W r (b2 + 1) = l ++ ((if 0 < b2 then [32] else []) ++ (List.replicate (W - (Lib.itoa y).length) 32 ++ Lib.itoa y))) := by
                    have h : lineE W r (b2 + 1) = l ++ ((if 0 < b2 then [32] else []) ++ (List.replicate (W - (Lib.itoa y).length) 32 ++ Lib.itoa y)) := by
                      unfold lineE
                      rw [HL.out, getD_some ey.out]
                      rfl
                    exact h
                  have yW := rw_.out y (List.mem_of_getElem? ey.out)
                  have RY := Lib.hid (RW.out y (rn.out y (List.mem_of_getElem? ey.out)))
                  generalize Lib.itoa y = ty at *
                  have P0 : Hid (ty = List.replicate 0 32 ++ ty) := rfl
                  clear ey
                  go_wp2_with (fail)
                  refine (RY.out _).mono ?_
                  rintro e w5 ⟨rfl, x5⟩
                  have x5' := Lib.hid (Yi.out.tr (Ext.tr (a := wi) (by (repeat (first | assumption | exact Ext.rf _ | apply Ext.drew | apply Ext.drewN | apply Ext.alloc))) x5))
                  clear x5 RY cp cO'
                  go_wp2_with (fail)
                  go_loopw [13] (fun v13 wy => ∃ (j2 : Nat) (t : Txt), v13 = .string ⟨t.toArray⟩ ∧ Hid (t = List.replicate j2 32 ++ ty) ∧ t.length ≤ W ∧ Hid (Ext wo2 wy)) (fun v _ => W - strOf v)
                  case atStart => exact ⟨0, ty, rfl, P0, yW, x5'⟩
                  case round =>
                    clear P0 x5'
                    obtain ⟨wj, rfl⟩ : ∃ wj : World, wj = wr := ⟨_, rfl⟩
                    obtain ⟨j2, t, rfl, ht, lt, Yj⟩ := hrel
                    by_cases hj2 : t.length < W
                    · have s1 : (t.length : Int) < (W : Int) := by omega
                      have l1 : ¬ 9223372036854775807 < 1 + t.length := by omega
                      have ES : Hid ((⟨#[32]⟩ : ByteArray) ++ ⟨t.toArray⟩ = ⟨(32 :: t).toArray⟩) := by
                        have h : (⟨#[32]⟩ : ByteArray) ++ ⟨t.toArray⟩ = ⟨(32 :: t).toArray⟩ := by
                          rw [show (⟨#[32]⟩ : ByteArray) = ⟨([32] : Txt).toArray⟩ from rfl, bytes_app]
                          rfl
                        exact h
                      have HT : Hid (32 :: t = List.replicate (j2 + 1) 32 ++ ty) := by
                        have h : 32 :: t = List.replicate (j2 + 1) 32 ++ ty := by rw [ht.out]; rfl
                        exact h
                      go_wp2_with (fail)
                      go_roundw
                      case rel => exact ⟨j2 + 1, 32 :: t, by rw [← ES.out], HT, by simp; omega, Yj.out.tr (by (repeat (first | assumption | exact Ext.rf _ | apply Ext.drew | apply Ext.drewN | apply Ext.alloc)))⟩
                      case measure => simp [strOf, ES.out, ByteArray.size]; omega
                    · have s1 : ¬ (t.length : Int) < (W : Int) := by omega
                      have jW : j2 = W - ty.length := by
                        have e1 : t.length = j2 + ty.length := (congrArg List.length ht.out).trans (by rw [List.length_append, List.length_replicate])
                        clear HY
                        omega
                      have HT : Hid (lineE W r (b2 + 1) = l ++ ((if 0 < b2 then [32] else []) ++ t)) := by
                        have h : lineE W r (b2 + 1) = l ++ ((if 0 < b2 then [32] else []) ++ t) := by rw [HY.out, ← jW, ← ht.out]
                        exact h
                      clear HY ht jW
                      by_cases hb0 : 0 < b2
                      · have s2 : (0 : Int) < (b2 : Int) := by omega
                        rw [if_pos hb0] at HT
                        have l1 : ¬ 9223372036854775807 < 1 + t.length := by omega
                        have l2 : ¬ 9223372036854775807 < (acc ++ l).length + (1 + t.length) := by rw [List.length_append]; omega
                        have l3 : ¬ 9223372036854775807 < acc.length + l.length + (1 + t.length) := by omega
                        have ES : Hid ((⟨(acc ++ l).toArray⟩ : ByteArray) ++ (⟨#[32]⟩ ++ ⟨t.toArray⟩) = ⟨(acc ++ (l ++ ([32] ++ t))).toArray⟩) := by
                          have h : (⟨(acc ++ l).toArray⟩ : ByteArray) ++ (⟨#[32]⟩ ++ ⟨t.toArray⟩) = ⟨(acc ++ (l ++ ([32] ++ t))).toArray⟩ := by
                            rw [show (⟨#[32]⟩ : ByteArray) = ⟨([32] : Txt).toArray⟩ from rfl, bytes_app, bytes_app, List.append_assoc]
                          exact h
                        go_wp2_with (fail)
                        go_roundw
                        case rel => exact ⟨b2 + 1, l ++ ([32] ++ t), by go_num, by rw [← ES.out], by omega, HT, Yj.out.tr (by (repeat (first | assumption | exact Ext.rf _ | apply Ext.drew | apply Ext.drewN | apply Ext.alloc)))⟩
                        case measure => simp [intOf]; omega
                      · have s2 : ¬ (0 : Int) < (b2 : Int) := by omega
                        rw [if_neg hb0] at HT
                        have l2 : ¬ 9223372036854775807 < (acc ++ l).length + t.length := by rw [List.length_append]; omega
                        have l3 : ¬ 9223372036854775807 < acc.length + l.length + t.length := by omega
                        have ES : Hid ((⟨(acc ++ l).toArray⟩ : ByteArray) ++ ⟨t.toArray⟩ = ⟨(acc ++ (l ++ ([] ++ t))).toArray⟩) := by
                          have h : (⟨(acc ++ l).toArray⟩ : ByteArray) ++ ⟨t.toArray⟩ = ⟨(acc ++ (l ++ ([] ++ t))).toArray⟩ := by
                            rw [bytes_app, List.append_assoc]
                            rfl
                          exact h
                        go_wp2_with (fail)
                        go_roundw
                        case rel => exact ⟨b2 + 1, l ++ ([] ++ t), by go_num, by rw [← ES.out], by omega, HT, Yj.out.tr (by (repeat (first | assumption | exact Ext.rf _ | apply Ext.drew | apply Ext.drewN | apply Ext.alloc)))⟩
                        case measure => simp [intOf]; omega
                · obtain rfl : b2 = r.length := by omega
                  rw [HL.out] at LE1
                  have l2 : ¬ 9223372036854775807 < (acc ++ l).length + 1 := by rw [List.length_append]; omega
                  have l3 : ¬ 9223372036854775807 < acc.length + l.length + 1 := by omega
                  have ES : Hid ((⟨(acc ++ l).toArray⟩ : ByteArray) ++ ⟨#[10]⟩ = ⟨(acc ++ l ++ [10]).toArray⟩) := by
                    have h : (⟨(acc ++ l).toArray⟩ : ByteArray) ++ ⟨#[10]⟩ = ⟨(acc ++ l ++ [10]).toArray⟩ := by
                      rw [show (⟨#[10]⟩ : ByteArray) = ⟨([10] : Txt).toArray⟩ from rfl, bytes_app]
                    exact h
                  go_wp2_with (fail)
                  go_roundw
                  case rel => exact ⟨a2 + 1, acc ++ l ++ [10], by go_num, by rw [← ES.out], by omega, LE1, Y2.out.tr (Yi.out.tr (by (repeat (first | assumption | exact Ext.rf _ | apply Ext.drew | apply Ext.drewN | apply Ext.alloc))))⟩
                  case measure => simp [intOf]; omega
            · obtain rfl : a2 = q := by omega
              rw [LT.out] at HA
              go_wp2_with (fail)
              go_ret2
              exact ⟨by rw [hWW.out, HA.out]; rfl, Y9.out.tr Y2.out⟩
end Go.Proofs.YtleckhbmciiooaaDoor
namespace Go.Proofs.YtleckhbmciiooaaDoor

theorem wordsR_len (kind : Int) (x : List Int) (hl : x.length ≤ 64) (hx : ∀ y ∈ x, 0 ≤ y ∧ y ≤ 1000) : ∀ k, k ≤ x.length → (wordsR kind x k).length ≤ 48 * k + 4
  | 0, _ => by
    unfold wordsR
    split <;> simp [tTake]
  | k + 1, h => by
    have ih := wordsR_len kind x hl hx k (by omega)
    have e : x.getD k 0 = x[k] := getD_some (List.getElem?_eq_getElem (by omega))
    have b := hx (x[k]'(by omega)) (List.getElem_mem _)
    have h1 := itoa_le (x[k]'(by omega)) (by omega)
    have h2 := itoa_le (k : Int) (by omega)
    rw [← e] at h1
    unfold wordsR
    split
    · split
      · simp only [List.length_append, List.length_cons, List.length_nil]; omega
      · omega
    · split
      · split <;> (simp only [List.length_append, tTo, tSemi, List.length_cons, List.length_nil]; omega)
      · simp only [List.length_append, tWay, List.length_cons, List.length_nil]; omega
theorem wordsP_len {kind : Int} (hk : kind = 1 ∨ kind = 2 ∨ kind = 3) {x : List Int} (hl : x.length ≤ 64) (hx : ∀ y ∈ x, 0 ≤ y ∧ y ≤ 1000) : (wordsP kind x).length ≤ 10000 := by
  rw [← words_eq hk]
  have h := wordsR_len kind x hl hx x.length (Nat.le_refl _)
  unfold wordsE
  split
  · simp only [List.length_append, List.length_cons, List.length_nil]; omega
  · omega
end Go.Proofs.YtleckhbmciiooaaDoor
namespace Go.Proofs.YtleckhbmciiooaaDoor
open Go.RowKit Go.ChangeShapes Go.WideShapes Go.ChangeAt Go.Deep

set_option maxRecDepth 100000 in
set_option maxHeartbeats 2000000 in
theorem words1_any (i : InstP) (us : List Value) (P : Option Addr) (c : Nat) (x : List Int) (w : World) (H : RInst w us i) (hP : RdI w P x) (hT : Ten w) (hk : i.kind = 1) (hl : x.length ≤ 64) (hx : ∀ y ∈ x, 0 ≤ y ∧ y ≤ 1000) (hJ : (wordsP 1 x).length ≤ 10000) :
    Calls Tryd.prog 45 #[.agg (List.toArray us), .slice P x.length c] w fun e w' => e = .returned (txS (wordsP 1 x)) ∧ Ext w w' := by
  obtain ⟨i0, hi, hz0, hz1, hz2⟩ := info_parts str_info
  have WE : Hid (wordsP 1 x = Lib.join (tTake :: piecesK x x.length) [32]) := by
    have h : wordsP 1 x = Lib.join (tTake :: piecesK x x.length) [32] := by unfold wordsP; rw [if_pos rfl]
    exact h
  have WD := fun (W : World) (y : Ext w W) (n : Int) (h : 0 ≤ n ∧ n ≤ 1000) => write_any n (by omega) (by omega) W (hT.ext y)
  have PS : Hid (∀ k, x.getD k 0 = 1 → tTake :: piecesK x (k + 1) = (tTake :: piecesK x k) ++ [Lib.itoa (k : Int)]) := fun k h => by rw [piecesK_succ, if_pos h]; rfl
  have PN : Hid (∀ k, x.getD k 0 ≠ 1 → piecesK x (k + 1) = piecesK x k) := fun k h => by rw [piecesK_succ, if_neg h]
  have PZ : Hid (tTake :: piecesK x 0 = [tTake]) := by
    have h : tTake :: piecesK x 0 = [tTake] := rfl
    exact h
  obtain ⟨kind, nn, cap, xw, xv, co⟩ := i
  obtain ⟨A, a, B, b, D, d, rfl, -, -, -⟩ := H
  simp only at *
  subst hk
  replace hi := Lib.hid hi
  replace hz0 := Lib.hid hz0
  replace hz1 := Lib.hid hz1
  replace hz2 := Lib.hid hz2
  replace WD := Lib.hid WD
  replace hP := Lib.hid hP
  replace hx := Lib.hid hx
  replace hJ := Lib.hid hJ
  clear hT
  unfold txS at *
  go_enter Tryd.func45, Tryd.ntmps45
  go_wp2_with (at_builtin; refine wpl_app_v _ (e := 9) Tryd.underlying63 hi.out hz0.out hz1.out hz2.out (by simp [Value.cells]) (by omega) rfl _ _ rfl w.heap.size none 0 0 [] (some ⟨w.heap.size + 1, 0, none⟩) 1 1 [txS tTake] rfl rfl (OwV.nil _ _ _ _) (RdV.blk (.new (by simp))).rdC (by simp) (by simp [Value.oneCell', txS]) (by simp only [maxLen]; omega) (by omega) (by simp; omega) ?_; rintro C0 c0 w0 o0 g0 _)
  have M0 := (OwV.nil _ w.heap.size 9 1).grownT g0
  have START : Hid (OwV w0 w.heap.size 9 1 C0 1 c0 (txV (tTake :: piecesK x 0))) := by
    have h : OwV w0 w.heap.size 9 1 C0 1 c0 (txV (tTake :: piecesK x 0)) := by rw [PZ.out]; exact o0
    exact h
  have XS : Hid (Ext w w0) := Ext.modT (by (repeat (first | assumption | exact Ext.rf _ | apply Ext.drew | apply Ext.drewN | apply Ext.alloc))) M0 (Nat.le_refl _)
  clear o0 g0 M0
  go_wp2_with (fail)
  go_loopw [5, 21] (fun v5 v21 wr => ∃ (k n : Nat) (C' : Option Addr) (cc : Nat), v21 = .int .i64 k ∧ v5 = .slice C' n cc ∧ k ≤ x.length ∧ n ≤ k + 1 ∧ Hid ((tTake :: piecesK x k).length = n) ∧ Hid (OwV wr w.heap.size 9 1 C' n cc (txV (tTake :: piecesK x k))) ∧ Hid (Ext w wr)) (fun _ v _ => x.length - (intOf v).toNat)
  case atStart => exact ⟨0, 1, C0, c0, rfl, rfl, by omega, by omega, rfl, START, XS.out⟩
  case round =>
    obtain ⟨wo, rfl⟩ : ∃ wo : World, wo = wr := ⟨_, rfl⟩
    clear START
    obtain ⟨k, n, C', cc, rfl, rfl, hk, hn, LN, oV, Y⟩ := hrel
    have hk64 : k ≤ 64 := by omega
    have zw := Y.out.size
    by_cases hlt : k < x.length
    · obtain ⟨pb, po, y, rfl, zy, cy, ey, _⟩ := (hP.out.ext Y.out).at (k := k) hlt
      have q1 : (k : Int) < (x.length : Int) := by omega
      by_cases hy : y = 1
      · subst hy
        have PE : Hid (tTake :: piecesK x (k + 1) = (tTake :: piecesK x k) ++ [Lib.itoa (k : Int)]) := by
          have h : tTake :: piecesK x (k + 1) = (tTake :: piecesK x k) ++ [Lib.itoa (k : Int)] := PS.out k (getD_some ey.out)
          exact h
        clear ey
        go_wp2_with (fail)
        refine (WD.out _ (Y.out.tr (by (repeat (first | assumption | exact Ext.rf _ | apply Ext.drew | apply Ext.drewN | apply Ext.alloc)))) (k : Int) (by omega)).mono ?_
        rintro e w5 ⟨rfl, x5⟩
        have oV5 := oV.out.ext (Ext.tr (a := wo) (by (repeat (first | assumption | exact Ext.rf _ | apply Ext.drew | apply Ext.drewN | apply Ext.alloc))) x5)
        have x5' := Ext.tr (a := wo) (by (repeat (first | assumption | exact Ext.rf _ | apply Ext.drew | apply Ext.drewN | apply Ext.alloc))) x5
        have zw5 := x5'.size
        go_wp2_with (at_builtin; refine wpl_app_v _ (e := 9) Tryd.underlying63 hi.out hz0.out hz1.out hz2.out (by simp [Value.cells]) (by omega) rfl _ _ rfl w.heap.size C' n cc (txV (tTake :: piecesK x k)) (some ⟨w5.heap.size, 0, none⟩) 1 1 [txS (Lib.itoa (k : Int))] rfl rfl (oV5.ext ((Ext.rf _).alloc _)) (RdV.blk (.new (by simp))).rdC (by simp) (by simp [Value.oneCell', txS]) (by simp only [maxLen]; omega) (by omega) (by simp; omega) ?_; rintro C6 c6 w6 o6 g6 _)
        have M6 := (oV5.ext ((Ext.rf w5).alloc (.cells #[txS (Lib.itoa (k : Int))] 9))).grownT g6
        have X6 : Ext wo (w5.alloc (.cells #[txS (Lib.itoa (k : Int))] 9)) := x5'.tr ((Ext.rf _).alloc _)
        have NEW : Hid (OwV w6 w.heap.size 9 1 C6 (n + 1) c6 (txV (tTake :: piecesK x (k + 1)))) := by
          have h : OwV w6 w.heap.size 9 1 C6 (n + 1) c6 (txV (tTake :: piecesK x (k + 1))) := by rw [PE.out, txV_snoc]; exact o6
          exact h
        have NL : Hid ((tTake :: piecesK x (k + 1)).length = n + 1) := by
          have h : (tTake :: piecesK x (k + 1)).length = n + 1 := by rw [PE.out, List.length_append, LN.out]; rfl
          exact h
        have XN : Hid (Ext w w6) := (Y.out.tr X6).modT M6 (Nat.le_refl _)
        clear oV5 x5 x5' o6 g6 M6 X6
        go_wp2_with (fail)
        go_roundw
        case rel => exact ⟨k + 1, n + 1, C6, c6, by go_num, rfl, by omega, by omega, NL, NEW, XN⟩
        case measure => simp [intOf]; omega
      · have PE : Hid (piecesK x (k + 1) = piecesK x k) := by
          have h : piecesK x (k + 1) = piecesK x k := PN.out k (by rw [getD_some ey.out]; exact hy)
          exact h
        have e2 : (y == 1) = false := by simpa using hy
        clear ey
        go_wp2_with (fail)
        go_roundw
        case rel => exact ⟨k + 1, n, C', cc, by go_num, rfl, by omega, by omega, by rw [PE.out]; exact LN, by rw [PE.out]; exact oV, Y⟩
        case measure => simp [intOf]; omega
    · obtain rfl : k = x.length := by omega
      have J := join_own w.heap.size C' cc (tTake :: piecesK x x.length) [32] wo (by rw [LN.out]; exact oV.out) (by simp) (by rw [LN.out]; omega) (by rw [← WE.out]; have := hJ.out; omega)
      rw [LN.out, ← WE.out] at J
      replace J := Lib.hid J
      go_wp2_with (fail)
      refine J.out.mono ?_
      rintro e w7 ⟨rfl, x7⟩
      have X7 := Lib.hid (Y.out.tr x7)
      clear x7 J
      go_wp2_with (fail)
      go_ret
      exact ⟨rfl, X7.out⟩
end Go.Proofs.YtleckhbmciiooaaDoor
namespace Go.Proofs.YtleckhbmciiooaaDoor
open Go.RowKit Go.ChangeShapes Go.WideShapes Go.ChangeAt Go.Deep

set_option maxRecDepth 100000 in
set_option maxHeartbeats 2000000 in
theorem words2_any (i : InstP) (us : List Value) (P : Option Addr) (c : Nat) (x : List Int) (w : World) (H : RInst w us i) (hP : RdI w P x) (hT : Ten w) (hk : i.kind = 2) (hl : x.length ≤ 64) (h0 : x ≠ []) (hx : ∀ y ∈ x, 0 ≤ y ∧ y ≤ 1000) (hJ : (wordsP 2 x).length ≤ 10000) :
    Calls Tryd.prog 45 #[.agg (List.toArray us), .slice P x.length c] w fun e w' => e = .returned (txS (wordsP 2 x)) ∧ Ext w w' := by
  obtain ⟨i0, hi, hz0, hz1, hz2⟩ := info_parts str_info
  have WE : Hid (wordsP 2 x = Lib.join (piecesA x x.length) tSemi) := by
    have h : wordsP 2 x = Lib.join (piecesA x x.length) tSemi := by unfold wordsP; rw [if_neg (by decide), if_pos rfl]
    exact h
  have WD := fun (W : World) (y : Ext w W) (n : Int) (h : 0 ≤ n ∧ n ≤ 1000) => write_any n (by omega) (by omega) W (hT.ext y)
  have PS : Hid (∀ k, piecesA x (k + 1) = piecesA x k ++ [Lib.itoa (k : Int) ++ tTo ++ Lib.itoa (x.getD k 0)]) := fun k => piecesA_succ x k
  have PL : Hid (∀ k, (piecesA x k).length = k) := fun k => by unfold piecesA; rw [List.length_map, List.length_range]
  obtain ⟨kind, nn, cap, xw, xv, co⟩ := i
  obtain ⟨A, a, B, b, D, d, rfl, -, -, -⟩ := H
  simp only at *
  subst hk
  replace hi := Lib.hid hi
  replace hz0 := Lib.hid hz0
  replace hz1 := Lib.hid hz1
  replace hz2 := Lib.hid hz2
  replace WD := Lib.hid WD
  replace hP := Lib.hid hP
  replace hx := Lib.hid hx
  replace hJ := Lib.hid hJ
  clear hT
  have START : Hid (OwV (w.alloc (.cells #[.int .i64 2, .int .i64 nn, .int .i64 cap, .slice A xw.length a, .slice B xv.length b, .slice D co.length d] 25)) w.heap.size 9 1 none 0 0 (txV (piecesA x 0))) := OwV.nil _ _ _ _
  unfold txS at *
  go_enter Tryd.func45, Tryd.ntmps45
  go_wp2_with (fail)
  go_loopw [5, 40] (fun v5 v59 wr => ∃ (k : Nat) (C' : Option Addr) (cc : Nat), v59 = .int .i64 k ∧ v5 = .slice C' k cc ∧ k ≤ x.length ∧ Hid (OwV wr w.heap.size 9 1 C' k cc (txV (piecesA x k))) ∧ Hid (Ext w wr)) (fun _ v _ => x.length - (intOf v).toNat)
  case atStart => exact ⟨0, none, 0, rfl, rfl, by omega, START, by (repeat (first | assumption | exact Ext.rf _ | apply Ext.drew | apply Ext.drewN | apply Ext.alloc))⟩
  case round =>
    obtain ⟨wo, rfl⟩ : ∃ wo : World, wo = wr := ⟨_, rfl⟩
    clear START
    obtain ⟨k, C', cc, rfl, rfl, hk, oV, Y⟩ := hrel
    have hk64 : k ≤ 64 := by omega
    have zw := Y.out.size
    by_cases hlt : k < x.length
    · obtain ⟨pb, po, y, rfl, zy, cy, ey, _⟩ := (hP.out.ext Y.out).at (k := k) hlt
      have q1 : (k : Int) < (x.length : Int) := by omega
      have yb := hx.out y (List.mem_of_getElem? ey.out)
      have li := itoa_le y (by omega)
      have lj := itoa_le (k : Int) (by omega)
      have RK := Lib.hid (fun (W : World) (z : Ext w W) => WD.out W z (k : Int) (by omega))
      have RY := Lib.hid (fun (W : World) (z : Ext w W) => WD.out W z y yb)
      obtain ⟨tk, hek⟩ : ∃ tk, Hid (Lib.itoa (k : Int) = tk) := ⟨_, rfl⟩
      obtain ⟨ty, hey⟩ : ∃ ty, Hid (Lib.itoa y = ty) := ⟨_, rfl⟩
      have PE : Hid (txV (piecesA x (k + 1)) = txV (piecesA x k) ++ [txS (tk ++ tTo ++ ty)]) := by
        have h : txV (piecesA x (k + 1)) = txV (piecesA x k) ++ [txS (tk ++ tTo ++ ty)] := by rw [PS.out, getD_some ey.out, txV_snoc, hek.out, hey.out]
        exact h
      rw [hek.out] at lj RK
      rw [hey.out] at li RY
      have ll4 : ¬ 9223372036854775807 < tk.length + 4 := by omega
      have ll5 : ¬ 9223372036854775807 < tk.length + 4 + ty.length := by omega
      have ES : (⟨tk.toArray⟩ : ByteArray) ++ ⟨#[32, 116, 111, 32]⟩ ++ ⟨ty.toArray⟩ = ⟨(tk ++ tTo ++ ty).toArray⟩ := by
        rw [show (⟨#[32, 116, 111, 32]⟩ : ByteArray) = ⟨(tTo : Txt).toArray⟩ from rfl, bytes_app, bytes_app]
      clear ey yb li lj hek hey
      replace ES := Lib.hid ES
      go_wp2_with (fail)
      refine (RK.out _ (Y.out.tr (by (repeat (first | assumption | exact Ext.rf _ | apply Ext.drew | apply Ext.drewN | apply Ext.alloc))))).mono ?_
      rintro e w4 ⟨rfl, x4⟩
      have x4' := Ext.tr (a := wo) (by (repeat (first | assumption | exact Ext.rf _ | apply Ext.drew | apply Ext.drewN | apply Ext.alloc))) x4
      go_wp2_with (fail)
      refine (RY.out _ (Y.out.tr (x4'.tr (by (repeat (first | assumption | exact Ext.rf _ | apply Ext.drew | apply Ext.drewN | apply Ext.alloc)))))).mono ?_
      rintro e w5 ⟨rfl, x5⟩
      replace x5 := x4'.tr (Ext.tr (by (repeat (first | assumption | exact Ext.rf _ | apply Ext.drew | apply Ext.drewN | apply Ext.alloc))) x5)
      clear x4 x4'
      have oV5 := oV.out.ext x5
      have x5' := x5
      have zw5 := x5'.size
      go_wp2_with (at_builtin; refine wpl_app_v _ (e := 9) Tryd.underlying63 hi.out hz0.out hz1.out hz2.out (by simp [Value.cells]) (by omega) rfl _ _ rfl w.heap.size C' k cc (txV (piecesA x k)) (some ⟨w5.heap.size, 0, none⟩) 1 1 [.string ((⟨tk.toArray⟩ : ByteArray) ++ ⟨#[32, 116, 111, 32]⟩ ++ ⟨ty.toArray⟩)] rfl rfl (oV5.ext ((Ext.rf _).alloc _)) (RdV.blk (.new (by simp))).rdC (by simp) (by simp [Value.oneCell', txS]) (by simp only [maxLen]; omega) (by omega) (by simp; omega) ?_; rintro C6 c6 w6 o6 g6 _)
      have M6 := (oV5.ext ((Ext.rf w5).alloc (.cells #[.string ((⟨tk.toArray⟩ : ByteArray) ++ ⟨#[32, 116, 111, 32]⟩ ++ ⟨ty.toArray⟩)] 9))).grownT g6
      have X6 : Ext wo (w5.alloc (.cells #[.string ((⟨tk.toArray⟩ : ByteArray) ++ ⟨#[32, 116, 111, 32]⟩ ++ ⟨ty.toArray⟩)] 9)) := x5'.tr ((Ext.rf _).alloc _)
      have NEW : Hid (OwV w6 w.heap.size 9 1 C6 (k + 1) c6 (txV (piecesA x (k + 1)))) := by
        have h : OwV w6 w.heap.size 9 1 C6 (k + 1) c6 (txV (piecesA x (k + 1))) := by rw [PE.out, txS, ← ES.out]; exact o6
        exact h
      have XN : Hid (Ext w w6) := (Y.out.tr X6).modT M6 (Nat.le_refl _)
      clear oV5 x5 x5' o6 g6 M6 X6
      go_wp2_with (fail)
      go_roundw
      case rel => exact ⟨k + 1, C6, c6, by go_num, rfl, by omega, NEW, XN⟩
      case measure => simp [intOf]; omega
    · obtain rfl : k = x.length := by omega
      have J := join_own w.heap.size C' cc (piecesA x x.length) tSemi wo (by rw [PL.out]; exact oV.out) (by
        intro e
        have h := PL.out x.length
        rw [e] at h
        exact h0 (List.eq_nil_of_length_eq_zero h.symm)) (by rw [PL.out]; omega) (by rw [← WE.out]; have := hJ.out; omega)
      rw [PL.out, ← WE.out] at J
      replace J := Lib.hid J
      go_wp2_with (fail)
      refine J.out.mono ?_
      rintro e w7 ⟨rfl, x7⟩
      have X7 := Lib.hid (Y.out.tr x7)
      clear x7 J
      go_wp2_with (fail)
      go_ret
      exact ⟨rfl, X7.out⟩
end Go.Proofs.YtleckhbmciiooaaDoor
namespace Go.Proofs.YtleckhbmciiooaaDoor
open Go.RowKit Go.ChangeShapes Go.WideShapes Go.ChangeAt Go.Deep

theorem shown_any (i : InstP) (us : List Value) (P : Option Addr) (c : Nat) (x : List Int) (w : World) (H : RInst w us i) (hP : RdI w P x) (hT : Ten w) (hx : x.length ≤ 1000) (hlw : i.weight.length ≤ maxLen) (hlv : i.value.length ≤ maxLen) (hls : i.weight.length + i.value.length ≤ maxLen) :
    Calls Tryd.prog 15 #[.agg (List.toArray us), .slice P x.length c] w fun e w' => e = .returned (.tuple #[txS (ansG i x).1, .int .i64 (ansG i x).2]) ∧ Ext w w' := by
  have WL : (costG i x).2 = 0 → (wordsP i.kind x).length ≤ 10000 := fun h => by
    have A := ans_is h
    exact wordsP_len (check_kind A.chk) A.n64 A.rng
  refine show_any i us P c x w H hP hT hx hlw hlv hls (fun h W y => ?_) WL
  have A := ans_is h
  have L := WL h
  rcases check_kind A.chk with hk | hk | hk
  · rw [hk] at L ⊢
    exact words1_any i us P c x W (H.ext y) (hP.ext y) (hT.ext y) hk A.n64 A.rng L
  · rw [hk] at L ⊢
    refine words2_any i us P c x W (H.ext y) (hP.ext y) (hT.ext y) hk A.n64 ?_ A.rng L
    intro h0
    have h1 := A.len
    have h2 := (square_ok A.chk (by omega : i.kind ≠ 1)).n1
    rw [h0] at h1
    simp at h1
    omega
  · rw [hk] at L ⊢
    exact words3_any i us P c x W (H.ext y) (hP.ext y) (hT.ext y) hk A.n64 A.rng L
end Go.Proofs.YtleckhbmciiooaaDoor
namespace Go.Proofs.YtleckhbmciiooaaDoor
open Go.RowKit Go.ChangeShapes Go.WideShapes Go.ChangeAt Go.Deep

def exS : InstP := ⟨3, 3, 0, [], [], [[0, 1, 2], [3, 0, 4], [5, 2, 0]]⟩
theorem exS_ans : ansG exS [0, 2, 1] = ([48, 32, 62, 32, 50, 32, 62, 32, 49, 32, 62, 32, 48, 58, 32, 55, 10], 0) := by
  have hd : ∀ k : Nat, k < 10 → Lib.itoa (k : Int) = [UInt8.ofNat (48 + k)] := fun k hk => by
    unfold Lib.itoa
    rw [if_neg (by omega), Lib.decDigits, dif_pos (by omega)]
    rfl
  have h0 : Lib.itoa (0 : Int) = [48] := hd 0 (by omega)
  have h1 : Lib.itoa (1 : Int) = [49] := hd 1 (by omega)
  have h2 : Lib.itoa (2 : Int) = [50] := hd 2 (by omega)
  have h7 : Lib.itoa (7 : Int) = [55] := hd 7 (by omega)
  have hc : costG exS [0, 2, 1] = (7, 0) := by decide +kernel
  unfold ansG
  rw [hc]
  rw [if_pos rfl]
  have ho : ofG exS 7 = 7 := by decide
  simp only [ho]
  unfold wordsE
  rw [if_pos (show exS.kind = 3 from rfl)]
  simp only [wordsR, List.length_cons, List.length_nil, exS, List.getD, Nat.reduceAdd]
  simp [wordsR, List.getD, tWay, tAt, h0, h1, h2, h7]
theorem row_blk3' {w : World} {b : Nat} {x y v : Int} {c : Nat} (h : Blk w b 3 #[.int .i64 x, .int .i64 y, .int .i64 v]) (hb : ∀ z ∈ [x, y, v], -9223372036854775808 ≤ z ∧ z ≤ 9223372036854775807) (hc : 3 ≤ c) (hm : c ≤ maxLen) : RInts w [.slice (some ⟨b, 0, none⟩) 3 c] [x, y, v] :=
  ⟨some ⟨b, 0, none⟩, c, rfl, .blk h rfl, hb, hc, hm⟩
set_option maxRecDepth 100000 in
theorem exS_rinst (w w1 : World) (b0 : Blk w1 w.heap.size 3 #[.int .i64 0, .int .i64 1, .int .i64 2]) (b1 : Blk w1 (w.heap.size + 1) 3 #[.int .i64 3, .int .i64 0, .int .i64 4]) (b2 : Blk w1 (w.heap.size + 1 + 1) 3 #[.int .i64 5, .int .i64 2, .int .i64 0])
    (b3 : Blk w1 (w.heap.size + 1 + 1 + 1) 22 #[.slice (some ⟨w.heap.size, 0, none⟩) 3 3, .slice (some ⟨w.heap.size + 1, 0, none⟩) 3 3, .slice (some ⟨w.heap.size + 1 + 1, 0, none⟩) 3 3]) :
    RInst w1 [.int .i64 3, .int .i64 3, .int .i64 0, .slice none 0 0, .slice none 0 0, .slice (some ⟨w.heap.size + 1 + 1 + 1, 0, none⟩) 3 3] exS := by
  have hz : 3 ≤ maxLen := by simp [maxLen]
  refine ⟨none, 0, none, 0, some ⟨w.heap.size + 1 + 1 + 1, 0, none⟩, 3, rfl, ⟨.inl rfl, Ints.nil, by simp [exS], zero_le_maxLen⟩, ⟨.inl rfl, Ints.nil, by simp [exS], zero_le_maxLen⟩, ⟨.inr ⟨_, 0, rfl, b3.lt, ?_⟩, by simp [exS], hz⟩⟩
  intro i x hi
  match i, hi with
  | 0, hi =>
    simp [exS] at hi
    subst hi
    refine ⟨_, row_blk3' b0 (by intro z hz; simp at hz; omega) (Nat.le_refl 3) hz, rfl, fun j v hj => ?_⟩
    match j, hj with
    | 0, hj => rw [b3.cell]; simp at hj; subst hj; rfl
  | 1, hi =>
    simp [exS] at hi
    subst hi
    refine ⟨_, row_blk3' b1 (by intro z hz; simp at hz; omega) (Nat.le_refl 3) hz, rfl, fun j v hj => ?_⟩
    match j, hj with
    | 0, hj => rw [b3.cell]; simp at hj; subst hj; rfl
  | 2, hi =>
    simp [exS] at hi
    subst hi
    refine ⟨_, row_blk3' b2 (by intro z hz; simp at hz; omega) (Nat.le_refl 3) hz, rfl, fun j v hj => ?_⟩
    match j, hj with
    | 0, hj => rw [b3.cell]; simp at hj; subst hj; rfl
  | i + 3, hi => simp [exS] at hi
set_option maxRecDepth 100000 in
set_option maxHeartbeats 2000000 in
theorem shows_any (w : World) (hT : Ten w) : Calls Tryd.prog 17 #[] w fun e w' => e = .returned (.bool true) ∧ Ext w w' := by
  have AN := fun (us : List Value) (P : Option Addr) (c : Nat) (W : World) (x : Ext w W) (H : RInst W us exS) (hP : RdI W P [0, 2, 1]) => shown_any exS us P c [0, 2, 1] W H hP (hT.ext x) (by decide) (by decide) (by decide) (by decide)
  rw [exS_ans] at AN
  unfold txS at AN
  simp only [List.length_cons, List.length_nil, Nat.reduceAdd] at AN
  replace AN := Lib.hid AN
  clear hT
  go_enter Tryd.func17, Tryd.ntmps17
  have b0 : Blk (((((w.alloc (.cells #[.int .i64 0, .int .i64 1, .int .i64 2] 3)).alloc (.cells #[.int .i64 3, .int .i64 0, .int .i64 4] 3)).alloc (.cells #[.int .i64 5, .int .i64 2, .int .i64 0] 3)).alloc (.cells #[.slice (some ⟨w.heap.size, 0, none⟩) 3 3, .slice (some ⟨w.heap.size + 1, 0, none⟩) 3 3, .slice (some ⟨w.heap.size + 1 + 1, 0, none⟩) 3 3] 22)).alloc (.cells #[.int .i64 3, .int .i64 3, .int .i64 0, .slice none 0 0, .slice none 0 0, .slice (some ⟨w.heap.size + 1 + 1 + 1, 0, none⟩) 3 3] 25)) w.heap.size 3 #[.int .i64 0, .int .i64 1, .int .i64 2] := .alloc (.alloc (.alloc (.alloc (.new rfl) _) _) _) _
  have b1 : Blk (((((w.alloc (.cells #[.int .i64 0, .int .i64 1, .int .i64 2] 3)).alloc (.cells #[.int .i64 3, .int .i64 0, .int .i64 4] 3)).alloc (.cells #[.int .i64 5, .int .i64 2, .int .i64 0] 3)).alloc (.cells #[.slice (some ⟨w.heap.size, 0, none⟩) 3 3, .slice (some ⟨w.heap.size + 1, 0, none⟩) 3 3, .slice (some ⟨w.heap.size + 1 + 1, 0, none⟩) 3 3] 22)).alloc (.cells #[.int .i64 3, .int .i64 3, .int .i64 0, .slice none 0 0, .slice none 0 0, .slice (some ⟨w.heap.size + 1 + 1 + 1, 0, none⟩) 3 3] 25)) (w.heap.size + 1) 3 #[.int .i64 3, .int .i64 0, .int .i64 4] := .alloc (.alloc (.alloc (.new (by simp)) _) _) _
  have b2 : Blk (((((w.alloc (.cells #[.int .i64 0, .int .i64 1, .int .i64 2] 3)).alloc (.cells #[.int .i64 3, .int .i64 0, .int .i64 4] 3)).alloc (.cells #[.int .i64 5, .int .i64 2, .int .i64 0] 3)).alloc (.cells #[.slice (some ⟨w.heap.size, 0, none⟩) 3 3, .slice (some ⟨w.heap.size + 1, 0, none⟩) 3 3, .slice (some ⟨w.heap.size + 1 + 1, 0, none⟩) 3 3] 22)).alloc (.cells #[.int .i64 3, .int .i64 3, .int .i64 0, .slice none 0 0, .slice none 0 0, .slice (some ⟨w.heap.size + 1 + 1 + 1, 0, none⟩) 3 3] 25)) (w.heap.size + 1 + 1) 3 #[.int .i64 5, .int .i64 2, .int .i64 0] := .alloc (.alloc (.new (by simp)) _) _
  have b3 : Blk (((((w.alloc (.cells #[.int .i64 0, .int .i64 1, .int .i64 2] 3)).alloc (.cells #[.int .i64 3, .int .i64 0, .int .i64 4] 3)).alloc (.cells #[.int .i64 5, .int .i64 2, .int .i64 0] 3)).alloc (.cells #[.slice (some ⟨w.heap.size, 0, none⟩) 3 3, .slice (some ⟨w.heap.size + 1, 0, none⟩) 3 3, .slice (some ⟨w.heap.size + 1 + 1, 0, none⟩) 3 3] 22)).alloc (.cells #[.int .i64 3, .int .i64 3, .int .i64 0, .slice none 0 0, .slice none 0 0, .slice (some ⟨w.heap.size + 1 + 1 + 1, 0, none⟩) 3 3] 25)) (w.heap.size + 1 + 1 + 1) 22 #[.slice (some ⟨w.heap.size, 0, none⟩) 3 3, .slice (some ⟨w.heap.size + 1, 0, none⟩) 3 3, .slice (some ⟨w.heap.size + 1 + 1, 0, none⟩) 3 3] := .alloc (.new (by simp)) _
  have b4 : Hid (Blk (((((w.alloc (.cells #[.int .i64 0, .int .i64 1, .int .i64 2] 3)).alloc (.cells #[.int .i64 3, .int .i64 0, .int .i64 4] 3)).alloc (.cells #[.int .i64 5, .int .i64 2, .int .i64 0] 3)).alloc (.cells #[.slice (some ⟨w.heap.size, 0, none⟩) 3 3, .slice (some ⟨w.heap.size + 1, 0, none⟩) 3 3, .slice (some ⟨w.heap.size + 1 + 1, 0, none⟩) 3 3] 22)).alloc (.cells #[.int .i64 3, .int .i64 3, .int .i64 0, .slice none 0 0, .slice none 0 0, .slice (some ⟨w.heap.size + 1 + 1 + 1, 0, none⟩) 3 3] 25)) (w.heap.size + 1 + 1 + 1 + 1) 25 #[.int .i64 3, .int .i64 3, .int .i64 0, .slice none 0 0, .slice none 0 0, .slice (some ⟨w.heap.size + 1 + 1 + 1, 0, none⟩) 3 3]) := .new (by simp)
  have R := Lib.hid (exS_rinst w _ b0 b1 b2 b3)
  have X : Hid (Ext w (((((w.alloc (.cells #[.int .i64 0, .int .i64 1, .int .i64 2] 3)).alloc (.cells #[.int .i64 3, .int .i64 0, .int .i64 4] 3)).alloc (.cells #[.int .i64 5, .int .i64 2, .int .i64 0] 3)).alloc (.cells #[.slice (some ⟨w.heap.size, 0, none⟩) 3 3, .slice (some ⟨w.heap.size + 1, 0, none⟩) 3 3, .slice (some ⟨w.heap.size + 1 + 1, 0, none⟩) 3 3] 22)).alloc (.cells #[.int .i64 3, .int .i64 3, .int .i64 0, .slice none 0 0, .slice none 0 0, .slice (some ⟨w.heap.size + 1 + 1 + 1, 0, none⟩) 3 3] 25))) := by (repeat (first | assumption | exact Ext.rf _ | apply Ext.drew | apply Ext.drewN | apply Ext.alloc))
  clear b0 b1 b2 b3
  go_upto_region 2 with (fail)
  generalize (((((w.alloc (.cells #[.int .i64 0, .int .i64 1, .int .i64 2] 3)).alloc (.cells #[.int .i64 3, .int .i64 0, .int .i64 4] 3)).alloc (.cells #[.int .i64 5, .int .i64 2, .int .i64 0] 3)).alloc (.cells #[.slice (some ⟨w.heap.size, 0, none⟩) 3 3, .slice (some ⟨w.heap.size + 1, 0, none⟩) 3 3, .slice (some ⟨w.heap.size + 1 + 1, 0, none⟩) 3 3] 22)).alloc (.cells #[.int .i64 3, .int .i64 3, .int .i64 0, .slice none 0 0, .slice none 0 0, .slice (some ⟨w.heap.size + 1 + 1 + 1, 0, none⟩) 3 3] 25)) = w1 at *
  have t0 : w1.cell? ⟨w.heap.size + 1 + 1 + 1 + 1, 0, none⟩ = some (.int .i64 3) := b4.out.cell 0
  have t1 : w1.cell? ⟨w.heap.size + 1 + 1 + 1 + 1, 1, none⟩ = some (.int .i64 3) := b4.out.cell 1
  have t2 : w1.cell? ⟨w.heap.size + 1 + 1 + 1 + 1, 2, none⟩ = some (.int .i64 0) := b4.out.cell 2
  have t3 : w1.cell? ⟨w.heap.size + 1 + 1 + 1 + 1, 3, none⟩ = some (.slice none 0 0) := b4.out.cell 3
  have t4 : w1.cell? ⟨w.heap.size + 1 + 1 + 1 + 1, 4, none⟩ = some (.slice none 0 0) := b4.out.cell 4
  have t5 : w1.cell? ⟨w.heap.size + 1 + 1 + 1 + 1, 5, none⟩ = some (.slice (some ⟨w.heap.size + 1 + 1 + 1, 0, none⟩) 3 3) := b4.out.cell 5
  go_wp2_with (fail)
  have y := Ext.alloc (Ext.rf w1) (.cells #[.int .i64 0, .int .i64 2, .int .i64 1] 3)
  refine (AN.out _ _ _ _ (X.out.tr y) (R.out.ext y) (.blk (.new rfl) rfl)).mono ?_
  rintro e w2 ⟨rfl, x2⟩
  have X2 := Lib.hid ((X.out.tr y).tr x2)
  clear x2 y t0 t1 t2 t3 t4 t5 b4 R X AN
  go_wp2_with (fail)
  go_ret
  exact ⟨rfl, X2.out⟩
end Go.Proofs.YtleckhbmciiooaaDoor
namespace Go.Proofs.YtleckhbmciiooaaDoor
open Go.RowKit Go.ChangeShapes Go.WideShapes Go.ChangeAt

/-- the variables that the row lists -/
def tabM : List (String × DataW Unit) := [("math/bits.deBruijn32tab", Rows.laid_math_bits_deBruijn32tab), ("math/bits.deBruijn64tab", Rows.laid_math_bits_deBruijn64tab), ("internal/strconv.uint64pow10", Rows.laid_internal_strconv_uint64pow10)]
theorem tabDataM : (Rows.laid_math_bits_deBruijn64tab : DataW Unit) = Lib.tabData .u8 (Lib.deBruijn64tab.map fun n : Nat => (n : Int)) := by kernel_rfl
theorem tenData : (Rows.laid_internal_strconv_uint64pow10 : DataW Unit) = Lib.tabData .u64 Lib.pow10Tab := by kernel_rfl
theorem tab_of_tabIs {W : World} (h : Lib.TabIs Tryd.prog W "math/bits.deBruijn64tab" .u8 (Lib.deBruijn64tab.map fun n : Nat => (n : Int))) : Tab W := by
  have hlen : Lib.deBruijn64tab.length = 64 := by kernel_rfl
  intro r hr
  rw [hlen] at hr
  have := h.cell (g := 1) (by kernel_rfl) r (by rw [List.length_map]; omega)
  rw [this]
  congr 2
  simp [List.getD, hlen, hr]
theorem tabs_of_laid {W : World} (h : laidMetH Tryd.prog tabM W) : Tab W ∧ Ten W := by
  rw [MakeChecks.laidMetH_plain _ _ _ (by kernel_rfl)] at h
  unfold tabM at h
  have h1 := laidMet.tail h
  have h2 := laidMet.tail h1
  rw [tabDataM] at h1
  rw [tenData] at h2
  refine ⟨tab_of_tabIs ?_, ?_⟩
  · exact Lib.tabIs_of_head (g := 1) (t := 171) (e := 5) (n := 64) (by kernel_rfl) (by kernel_rfl) Tryd.underlying171 Tryd.underlying5 (by kernel_rfl) (by kernel_rfl) h1
  · exact Lib.tabIs_of_head (g := 2) (t := 187) (e := 28) (n := 20) (by kernel_rfl) (by kernel_rfl) Tryd.underlying187 Tryd.underlying28 (by kernel_rfl) (by kernel_rfl) h2
end Go.Proofs.YtleckhbmciiooaaDoor
