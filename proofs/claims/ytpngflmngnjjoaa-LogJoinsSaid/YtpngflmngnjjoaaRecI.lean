/-
  The document's Sorted: records, each put behind all that are not behind it.
-/
import Derived.Test.YtpngflmngnjjoaaRecG
namespace Go.Proofs.Ytpngflmngnjjoaa
open Go.RowKit Go.ChangeShapes Go.WideShapes Go.ChangeAt Go.Deep

/-- the document's records at block g, its own -/
def OwM (w : World) (base : RB) (g c : Nat) (l : List Nat) : Prop := OwV w base.b 38 2 (some ⟨g, 0, none⟩) l.length c (flatR base l)
theorem OwM.cell {w : World} {base : RB} {g c : Nat} {l : List Nat} (h : OwM w base g c l) {k n : Nat} (hk : l[k]? = some n) :
    CellR w base g k n ∧ FrzR w g k ∧ Hid (∀ m : Nat, OwM (setR w base g k m) base g c (l.set k m)) := by
  have hl := (List.getElem?_eq_some_iff.1 hk).1
  obtain ⟨e1, e2⟩ := flatR_get base hk
  have l1 : k * 2 < (flatR base l).length := by rw [flatR_len]; omega
  have l2 : k * 2 + 1 < (flatR base l).length := by rw [flatR_len]; omega
  have hs := fun (u : Value) => h.set l1 u
  have hs2 := fun (u v : Value) => (hs u).2.2.2.set (j := k * 2 + 1) (by rw [List.length_set]; exact l2) v
  refine ⟨⟨(hs undef).1.trans e1, (h.set l2 undef).1.trans e2⟩, ⟨(hs undef).2.1, (h.set l2 undef).2.1⟩, fun m => ?_⟩
  have := (hs2 (.int .i64 (base.kd m)) (.slice (base.ad m) (base.ln m) (base.cp m))).2.2.2
  rw [flatR_set] at this
  unfold OwM
  rw [List.length_set]
  exact this
theorem OwM.ext {w w' : World} {base : RB} {g c : Nat} {l : List Nat} (h : OwM w base g c l) (x : Ext w w') : OwM w' base g c l := OwV.ext h x
theorem OwM.lt {w : World} {base : RB} {g c : Nat} {l : List Nat} (h : OwM w base g c l) : base.b ≤ g ∧ g < w.heap.size := OwV.lt h g rfl
theorem flatR_app (B : RB) : ∀ (l m : List Nat), flatR B (l ++ m) = flatR B l ++ flatR B m
  | [], _ => rfl
  | n :: l, m => by simp [flatR, flatR_app B l m]
/-- what is asked: where x goes, L being sorted -/
def CutR (lt : Nat → Nat → Bool) (L : List Nat) (x p : Nat) : Prop := ∃ B1 B2, L = B1 ++ B2 ∧ B1.length = p ∧ ∀ y ∈ B2, lt x y = true
/-- all behind the hole has come one place up -/
def ShR (B1 B2 : List Nat) (p j : Nat) (X : List Nat) : Prop := ∃ C D h, B2 = C ++ D ∧ p + C.length = j ∧ X = B1 ++ (C ++ (h :: D))
theorem ShR.step {B1 B2 : List Nat} {p j : Nat} {X : List Nat} (h : ShR B1 B2 p (j + 1) X) (hp : B1.length = p) (hj : p ≤ j) : ∃ y z, X[j]? = some y ∧ X[j + 1]? = some z ∧ ShR B1 B2 p j (X.set (j + 1) y) := by
  obtain ⟨C, D, e, rfl, hc, rfl⟩ := h
  obtain ⟨C', C2, rfl, hl⟩ := split_last C 1 (by omega)
  obtain ⟨y, rfl⟩ : ∃ y, C2 = [y] := by
    match C2, hl with
    | [y], _ => exact ⟨y, rfl⟩
  rw [List.length_append] at hc
  simp only [List.length_singleton] at hc
  have e1 : B1 ++ (C' ++ [y] ++ (e :: D)) = (B1 ++ C') ++ (y :: (e :: D)) := by simp
  have hl2 : (B1 ++ C').length = j := by rw [List.length_append]; omega
  rw [e1]
  obtain ⟨g1, g2⟩ := at_pair (B1 ++ C') D y e
  rw [hl2] at g1 g2
  refine ⟨y, e, g1, g2, C', y :: D, y, by simp, by omega, ?_⟩
  rw [List.set_append_right _ _ (by omega), show j + 1 - (B1 ++ C').length = 1 by omega]
  simp
theorem ShR.start {B1 B2 : List Nat} (h : Nat) : ShR B1 B2 B1.length (B1 ++ B2).length (B1 ++ B2 ++ [h]) := ⟨B2, [], h, by simp, by simp, by simp⟩
theorem ShR.fin {B1 B2 : List Nat} {p : Nat} {X : List Nat} (h : ShR B1 B2 p p X) (hp : B1.length = p) (x : Nat) : ∃ z, X[p]? = some z ∧ X.set p x = B1 ++ (x :: B2) := by
  obtain ⟨C, D, e, rfl, hc, rfl⟩ := h
  obtain rfl := List.eq_nil_of_length_eq_zero (show C.length = 0 by omega)
  subst hp
  refine ⟨e, ?_, ?_⟩
  · rw [List.nil_append, List.getElem?_append_right (by omega), Nat.sub_self]; rfl
  · rw [List.nil_append, List.set_append_right _ _ (by omega), Nat.sub_self]; rfl
theorem CutR.is {lt : Nat → Nat → Bool} {L : List Nat} {k p : Nat} (hw : Weak lt) (hL : Is lt (List.range k) L) (h : CutR lt L k p) (hstop : p = 0 ∨ ∃ (q y : Nat), p = q + 1 ∧ L[q]? = some y ∧ lt k y = false) : ∃ B1 B2, L = B1 ++ B2 ∧ B1.length = p ∧ Is lt (List.range (k + 1)) (B1 ++ (k :: B2)) := by
  obtain ⟨B1, B2, rfl, hp, hB⟩ := h
  refine ⟨B1, B2, rfl, hp, ?_, ?_⟩
  · rw [List.range_succ]
    refine List.perm_middle.trans ?_
    exact (List.perm_append_comm (l₁ := [k]) (l₂ := B1 ++ B2)).trans (hL.1.append (List.Perm.refl _))
  · refine sunk_is hw hL.2 ?_ hB ?_
    · intro z hz z' hz'
      obtain rfl := List.mem_singleton.1 hz'
      have := hL.mem.1 hz
      simpa using this
    · intro y hy
      rcases hstop with rfl | ⟨q, y', rfl, h1, h2⟩
      · rw [List.eq_nil_of_length_eq_zero hp] at hy; cases hy
      · rw [List.getLast?_eq_getElem?, hp, Nat.add_sub_cancel] at hy
        rw [List.getElem?_append_left (by omega), hy] at h1
        rw [Option.some.inj h1]
        exact h2
theorem CutR.down {lt : Nat → Nat → Bool} {L : List Nat} {x p y : Nat} (h : CutR lt L x (p + 1)) (hy : L[p]? = some y) (hlt : lt x y = true) : CutR lt L x p := by
  obtain ⟨B1, B2, rfl, hp, hB⟩ := h
  obtain ⟨B, B', rfl, hb⟩ := split_last B1 1 (by omega)
  obtain ⟨z, rfl⟩ : ∃ z, B' = [z] := by
    match B', hb with
    | [z], _ => exact ⟨z, rfl⟩
  rw [List.length_append] at hp
  simp only [List.length_singleton] at hp
  have hBp : B.length = p := by omega
  rw [List.append_assoc, List.getElem?_append_right (by omega), hBp, Nat.sub_self] at hy
  simp at hy
  subst hy
  refine ⟨B, z :: B2, by simp, hBp, fun w hw => ?_⟩
  rcases List.mem_cons.1 hw with rfl | hw
  · exact hlt
  · exact hB w hw
def SortedPost25 (rs : List Rec) (w : World) (e : Ending) (w' : World) : Prop := ∃ A c, e = .returned (.slice A rs.length c) ∧ RdR w' 38 A (sortedR rs) ∧ Ext w w'
set_option maxRecDepth 100000 in
set_option maxHeartbeats 1000000 in
theorem refsorted_any (B0 : Option Addr) (c0 : Nat) (rs : List Rec) (w : World) (hx : RdR w 38 B0 rs) (hl : rs.length ≤ 1000) (hp : ∀ r ∈ rs, r.path.length ≤ 1000) :
    Calls Try.prog 9 #[.slice B0 rs.length c0] w (SortedPost25 rs w) := by
  obtain ⟨vs, hv, hr⟩ := hx
  obtain ⟨i0, hi, hz0, hz1, hz2⟩ := info_parts rrec_info
  replace hi := Lib.hid hi
  replace hz0 := Lib.hid hz0
  replace hz1 := Lib.hid hz1
  replace hz2 := Lib.hid hz2
  have hwk := Lib.hid (weakR rs)
  have hlt2 := Lib.hid (ltR_eq rs)
  obtain ⟨R, hR⟩ : ∃ R, Hid (R = rbOf w.heap.size rs vs) := ⟨_, rfl⟩
  have hRb : Hid (R.b = w.heap.size) := by rw [hR.out]; exact rfl
  have hz : Hid (flatR R [rs.length] = [.int .i64 0, .slice none 0 0]) := by
    rw [hR.out]
    simp only [flatR, rbOf, recAt]
    have : vs[rs.length * 2 + 1]? = none := List.getElem?_eq_none (by rw [hr.1]; omega)
    exact Lib.hid (by simp [this])
  have hone : Hid (∀ i, i < rs.length → R.kd i = (recAt rs i).kind ∧ R.ln i = (recAt rs i).path.length) := by rw [hR.out]; exact fun i _ => ⟨rfl, rfl⟩
  have hat : Hid (∀ i, i < rs.length → ∃ b off, B0 = some ⟨b, off, none⟩ ∧ b < w.heap.size ∧ w.cell? ⟨b, off + i * 2, none⟩ = some (.int .i64 (R.kd i)) ∧ w.cell? ⟨b, off + i * 2 + 1, none⟩ = some (.slice (R.ad i) (R.ln i) (R.cp i))) := by
    rw [hR.out]
    intro i hi
    obtain ⟨h1, h2, -⟩ := rb_at (b := w.heap.size) hr hi
    obtain ⟨b, off, e, hb, hc⟩ := hv.form (fun e => by have := hr.1; rw [e] at this; simp at this; omega)
    exact ⟨b, off, e, hb, hc _ _ h1, by rw [Nat.add_assoc]; exact hc _ _ h2⟩
  have hpath : Hid (∀ i, i < rs.length → RdI w (R.ad i) (recAt rs i).path ∧ (recAt rs i).path.length ≤ 1000) := by
    rw [hR.out]
    exact fun i hi => ⟨(rb_at (b := w.heap.size) hr hi).2.2.read, hp _ (recAt_mem hi)⟩
  have hend : Hid (∀ W, Ext w W → RecsO W 0 (flatR R (sortI rs)) (sortedR rs)) := by
    rw [hR.out]
    exact fun W hW => recs_map (hr.ext hW) fun x hx => sortI_mem hx
  have hone1 : Hid (∀ l, ∀ u ∈ flatR R l, u.oneCell' = true) := by
    intro l
    induction l with
    | nil => intro u hu; simp [flatR] at hu
    | cons n l ih =>
      intro u hu
      simp only [flatR, List.mem_cons] at hu
      rcases hu with rfl | rfl | hu
      · rfl
      · rfl
      · exact ih u hu
  clear hv hr hp hR
  go_enter Try.func9, Try.ntmps9
  go_wp2_with (fail)
  go_loopw [3, 4] (fun v i wr => ∃ (k : Nat) (A : Option Addr) (c : Nat) (L : List Nat), i = .int .i64 k ∧ v = .slice A k c ∧ k ≤ rs.length ∧ Hid (OwV wr R.b 38 2 A k c (flatR R L)) ∧ Hid (Is (ltC (cfR rs)) (List.range k) L) ∧ Ext w wr) (fun _ i _ => rs.length - (intOf i).toNat)
  case atStart => exact ⟨0, some ⟨w.heap.size, 0, none⟩, 0, [], rfl, rfl, by omega, OwV.full (cs := #[]) (.new (by simp)) (by rw [hRb.out]; exact Nat.le_refl _) rfl (by simp [maxLen]), ⟨by simp, List.Pairwise.nil⟩, by (repeat (first | assumption | exact Ext.rf _ | apply Ext.drew | apply Ext.drewN | apply Ext.alloc))⟩
  case round =>
    obtain ⟨wo, rfl⟩ : ∃ wo : World, wo = wr := ⟨_, rfl⟩
    obtain ⟨k, A, c, L, rfl, rfl, hk, ho, hI, X⟩ := hrel
    have hIl : Hid (L.length = k) := by
      have := hI.out.len
      rw [List.length_range] at this
      exact this
    by_cases hlt : k < rs.length
    · obtain ⟨lb, lo, rfl, hlb, cl0, cl1⟩ := hat.out k hlt
      obtain ⟨hpk, hpl⟩ := hpath.out k hlt
      have hln := Lib.hid (hone.out k hlt).2
      go_wp2_with (fail)
      go_loopw [5] (fun v wr => ∃ p : Nat, v = .int .i64 p ∧ p ≤ k ∧ Hid (CutR (ltC (cfR rs)) L k p) ∧ Ext wo wr) (fun v _ => (intOf v).toNat)
      case atStart => exact ⟨k, rfl, by omega, ⟨L, [], by simp, hIl.out, by simp⟩, Ext.rf _⟩
      case round =>
        obtain ⟨wi, rfl⟩ : ∃ wi : World, wi = wr := ⟨_, rfl⟩
        obtain ⟨p, rfl, hpk2, hC, Y⟩ := hrel
        obtain ⟨A', hA'⟩ : ∃ A' : Option Addr, A' = A := ⟨_, rfl⟩
        have hgE : Hid (0 < p → ∃ g, A = some ⟨g, 0, none⟩) := by
          intro h0
          rcases ho.out.cases with ⟨_, _, h1, _⟩ | ⟨g, _, h1, _⟩
          · omega
          · exact ⟨g, h1⟩
        have hout : Hid (∀ (q y g : Nat), A = some ⟨g, 0, none⟩ → L[q]? = some y → g < wi.heap.size ∧ CellR wi R g q y) := by
          rintro q y g rfl hy
          have HO : OwM wi R g c L := by
            unfold OwM
            rw [hIl.out]
            exact ho.out.ext Y
          exact ⟨HO.lt.2, (HO.cell hy).1⟩
        have hyk : Hid (∀ (q y : Nat), L[q]? = some y → y < rs.length) := by
          intro q y hy
          have := hI.out.mem.1 (List.mem_of_getElem? hy)
          simp at this
          omega
        have CMP : Hid (∀ (y : Nat) (b : Bool), y < rs.length → ltC (cfR rs) k y = b → ∀ W, Ext wi W → Calls Try.prog 17 #[.slice (R.ad k) (R.ln k) (R.cp k), .slice (R.ad y) (R.ln y) (R.cp y)] W fun e W' => e = .returned (.bool b) ∧ Ext W W') := by
          intro y b hy hb W hW
          have XW := (X.tr Y).tr hW
          obtain ⟨hpy, hpyl⟩ := hpath.out y hy
          rw [hlt2.out] at hb
          subst hb
          rw [hln.out, (hone.out y hy).2]
          exact refAhead _ _ _ _ _ _ _ (hpk.ext XW) (hpy.ext XW) (by simp only [maxLen]; omega) (by simp only [maxLen]; omega)
        have clb := (X.tr Y).size
        have cl0' := keepEL (X.tr Y) hlb cl0
        have cl1' := keepEL (X.tr Y) hlb cl1
        have hlb' : lb < wi.heap.size := by omega
        by_cases hgo : ∃ (q y : Nat), p = q + 1 ∧ L[q]? = some y ∧ ltC (cfR rs) k y = true
        · obtain ⟨q, y, hq, hy, hly⟩ := hgo
          subst hq
          have hC2 := Lib.hid (hC.out.down hy hly)
          obtain ⟨g, hg⟩ := hgE.out (by omega)
          obtain ⟨hgs, cy, cy'⟩ := hout.out q y g hg hy
          replace CMP := Lib.hid (CMP.out y true (hyk.out q y hy) hly)
          subst hg
          have hwq : IntKind.i64.wrap (q : Int) = (q : Int) := IntWalk.i64_in _ (by omega)
          have q0 : (0 : Int) ≤ (q : Int) := by omega
          have qk : (q : Int) < (k : Int) := by omega
          have q1 : (0 : Int) < (q : Int) + 1 := by omega
          have k0 : (0 : Int) ≤ (k : Int) := by omega
          have kn : (k : Int) < (rs.length : Int) := by omega
          clear hgE hout hyk hC hy hly hA'
          go_wp2_with (fail)
          go_region_held3 (fun W => W.cell? ⟨lb, lo + k * 2 + 1, none⟩ = some (.slice (R.ad k) (R.ln k) (R.cp k)) ∧ W.cell? ⟨g, q * 2 + 1, none⟩ = some (.slice (R.ad y) (R.ln y) (R.cp y))) (go_keep)
            (first | (go_at_call 17; refine (CMP.out _ (by (repeat (first | assumption | exact Ext.rf _ | apply Ext.drew | apply Ext.drewN | apply Ext.alloc)))).mono ?_; rintro e w2 ⟨rfl, x2⟩; have y2 := Ext.tr (a := wi) (by (repeat (first | assumption | exact Ext.rf _ | apply Ext.drew | apply Ext.drewN | apply Ext.alloc))) x2; have s1 := keepEL y2 hlb' cl1'; have s2 := keepEL y2 hgs cy'))
          go_wp2_with (fail)
          go_roundw
          case rel => exact ⟨q, by first | rfl | go_num, by omega, hC2, Y.tr (by assumption)⟩
          case measure => simp [intOf]
        · have hstop : p = 0 ∨ ∃ (q y : Nat), p = q + 1 ∧ L[q]? = some y ∧ ltC (cfR rs) k y = false := by
            rcases Nat.eq_zero_or_pos p with h0 | h0
            · exact .inl h0
            · have hql : p - 1 < L.length := by rw [hIl.out]; omega
              refine .inr ⟨p - 1, L[p - 1], by omega, List.getElem?_eq_getElem hql, ?_⟩
              cases hb : ltC (cfR rs) k L[p - 1] with
              | false => rfl
              | true => exact absurd ⟨p - 1, L[p - 1], by omega, List.getElem?_eq_getElem hql, hb⟩ hgo
          obtain ⟨B1, B2, hLB, hB1, hI2⟩ := hC.out.is hwk.out hI.out hstop
          replace hLB := Lib.hid hLB
          replace hB1 := Lib.hid hB1
          replace hI2 := Lib.hid hI2
          have pk : (p : Int) ≤ (k : Int) := by omega
          clear hgo hC
          rcases hstop with h0 | ⟨q, y, hq, hy, hly⟩
          case inl =>
            subst h0
            have Y2 : Ext wo (wi.drew) := Y.drew
            clear hgE hout hyk CMP hA'
            go_wp2_with (fail)
            go_quiet (fail)
            replace Y2 : Ext wo (wi.drewN nq) := Y.drewN _
            clear Y
            obtain ⟨wj, hwj⟩ : ∃ wj, Hid (wj = wi.drewN nq) := ⟨_, rfl⟩
            rw [← hwj.out] at Y2 ⊢
            clear cl0' cl1' hlb' clb
            have hRle : R.b ≤ wj.heap.size := by rw [hRb.out]; exact (X.tr Y2).size
            have kk : k ≤ 1000 := by omega
            go_wp2_with (at_builtin; refine wpl_app_v _ (e := 38) Try.underlying22 hi.out hz0.out hz1.out hz2.out (by simp [Value.cells]) (by omega) rfl _ _ rfl R.b A k c (flatR R L) (some ⟨wj.heap.size, 0, none⟩) 1 1 [.int .i64 0, .slice none 0 0] rfl rfl ?_ ?_ ?_ ?_ ?_ ?_ ?_ ?_; (exact (ho.out.ext Y2).ext (by (repeat (first | assumption | exact Ext.rf _ | apply Ext.drew | apply Ext.drewN | apply Ext.alloc)))); (exact (RdV.blk (.new (by simp))).rdC); (simp); (simp [Value.oneCell']); (simp only [maxLen]; omega); omega; (simp; omega); rintro A5 c5 w5 o5 g5 _)
            have M5 : ModT R.b [38] wj w5 := (ModT.of_ext (by (repeat (first | assumption | exact Ext.rf _ | apply Ext.drew | apply Ext.drewN | apply Ext.alloc)))).tr (((ho.out.ext Y2).ext (by (repeat (first | assumption | exact Ext.rf _ | apply Ext.drew | apply Ext.drewN | apply Ext.alloc)))).grownT g5)
            have X5 : Ext w w5 := (X.tr Y2).modT M5 (by rw [hRb.out]; exact Nat.le_refl _)
            obtain ⟨g, hg5⟩ : ∃ g, A5 = some ⟨g, 0, none⟩ := by
              rcases o5.cases with ⟨_, _, h1, _⟩ | ⟨g, _, h1, _⟩
              · omega
              · exact ⟨g, h1⟩
            subst hg5
            have hlen2 : Hid (B1.length + B2.length = k) := by
              have := hIl.out
              rw [hLB.out, List.length_append] at this
              exact this
            have O0 : Hid (OwM w5 R g c5 (B1 ++ B2 ++ [rs.length])) := by
              unfold OwM
              have e1 : (B1 ++ B2 ++ [rs.length]).length = k + 1 := by rw [List.length_append, List.length_append, hlen2.out]; rfl
              rw [e1, flatR_app, hz.out, ← hLB.out]
              exact o5
            have SH0 : Hid (ShR B1 B2 0 k (B1 ++ B2 ++ [rs.length])) := by
              have := ShR.start (B1 := B1) (B2 := B2) rs.length
              rw [hB1.out, List.length_append, hlen2.out] at this
              exact this
            have pk2 : (0 : Int) ≤ (k : Int) := by omega
            clear ho hI hIl o5 M5 g5 hLB hRle Y2
            go_loopw [6] (fun v wr => ∃ (j : Nat) (Z : List Nat), v = .int .i64 j ∧ 0 ≤ j ∧ j ≤ k ∧ Hid (ShR B1 B2 0 j Z) ∧ Hid (OwM wr R g c5 Z) ∧ Ext w wr) (fun v _ => (intOf v).toNat)
            case atStart => exact ⟨k, B1 ++ B2 ++ [rs.length], by first | rfl | go_num, by omega, by omega, SH0, O0, X5⟩
            case round =>
              clear SH0 O0 X5
              obtain ⟨ws, rfl⟩ : ∃ ws : World, ws = wr := ⟨_, rfl⟩
              obtain ⟨j, Z, rfl, hj1, hj2, SH, OM, XS⟩ := hrel
              have hgs := OM.out.lt
              by_cases hj : 0 < j
              · obtain ⟨i, rfl⟩ : ∃ i, j = i + 1 := ⟨j - 1, by omega⟩
                obtain ⟨y, z, hy, hz', SH2⟩ := SH.out.step hB1.out (by omega)
                obtain ⟨⟨c1, c1'⟩, ⟨f1, f1'⟩, -⟩ := OM.out.cell hy
                obtain ⟨⟨c2, c2'⟩, ⟨f2, f2'⟩, st⟩ := OM.out.cell hz'
                have OM2 := Lib.hid (st.out y)
                replace SH2 := Lib.hid SH2
                have t0 : (0 : Int) < (i : Int) + 1 := by omega
                have wi1 : IntKind.i64.wrap (i : Int) = (i : Int) := IntWalk.i64_in _ (by omega)
                have i0 : (0 : Int) ≤ (i : Int) := by omega
                have i1 : (i : Int) < (k : Int) + 1 := by omega
                have i2 : (i : Int) + 1 < (k : Int) + 1 := by omega
                have i3 : (0 : Int) ≤ (i : Int) + 1 := by omega
                have e0 : ((i : Int) + 1).toNat = i + 1 := by omega
                have XF : Ext w (setR ws R g (i + 1) y) := (XS.setNew (p := ⟨g, (i + 1) * 2, none⟩) (by have := hgs.1; rw [hRb.out] at this; exact this) _).setNew (p := ⟨g, (i + 1) * 2 + 1, none⟩) (by have := hgs.1; rw [hRb.out] at this; exact this) _
                clear SH OM st hy hz' hgs
                go_wp2_with (fail)
                go_roundw
                case rel => exact ⟨i, _, by first | rfl | go_num, by omega, by omega, SH2, OM2, XF⟩
                case measure => simp [intOf]
              · obtain rfl : j = 0 := by omega
                obtain ⟨z, hzz, ez⟩ := SH.out.fin hB1.out k
                obtain ⟨⟨c1, c1'⟩, ⟨f1, f1'⟩, st⟩ := OM.out.cell hzz
                have OM2 := st.out k
                rw [ez] at OM2
                have XF : Ext w (setR ws R g (0) k) := (XS.setNew (p := ⟨g, (0) * 2, none⟩) (by have := hgs.1; rw [hRb.out] at this; exact this) _).setNew (p := ⟨g, (0) * 2 + 1, none⟩) (by have := hgs.1; rw [hRb.out] at this; exact this) _
                have OM3 : Hid (OwV (setR ws R g (0) k) R.b 38 2 (some ⟨g, 0, none⟩) (k + 1) c5 (flatR R (B1 ++ (k :: B2)))) := by
                  have e1 : (B1 ++ (k :: B2)).length = k + 1 := by rw [List.length_append, List.length_cons]; have := hlen2.out; omega
                  have h1 := OM2
                  unfold OwM at h1
                  rw [e1] at h1
                  exact h1
                have d0 := keepEL XS hlb cl0
                have d1 := keepEL XS hlb cl1
                have t0 : ¬ (0 : Int) < (0 : Int) := by omega
                have p3 : (0 : Int) < (k : Int) + 1 := by omega
                have p4 : (0 : Int) ≤ (0 : Int) := by omega
                clear SH OM st OM2 hzz ez hgs
                go_wp2_with (fail)
                go_roundw
                case rel => exact ⟨k + 1, some ⟨g, 0, none⟩, c5, B1 ++ (k :: B2), by go_num, rfl, by omega, OM3, hI2, XF⟩
                case measure => simp [intOf]; omega
          case inr =>
            subst hq
            obtain ⟨g0, hg0⟩ := hgE.out (by omega)
            obtain ⟨hgs, cy, cy'⟩ := hout.out q y g0 hg0 hy
            replace CMP := Lib.hid (CMP.out y false (hyk.out q y hy) hly)
            subst hg0
            have hwq : IntKind.i64.wrap (q : Int) = (q : Int) := IntWalk.i64_in _ (by omega)
            have q0 : (0 : Int) ≤ (q : Int) := by omega
            have qk : (q : Int) < (k : Int) := by omega
            have q1 : (0 : Int) < (q : Int) + 1 := by omega
            have k0 : (0 : Int) ≤ (k : Int) := by omega
            have kn : (k : Int) < (rs.length : Int) := by omega
            clear hgE hout hyk hy hly hA'
            go_wp2_with (fail)
            go_region_held3 (fun W => W.cell? ⟨lb, lo + k * 2 + 1, none⟩ = some (.slice (R.ad k) (R.ln k) (R.cp k)) ∧ W.cell? ⟨g0, q * 2 + 1, none⟩ = some (.slice (R.ad y) (R.ln y) (R.cp y))) (go_keep)
              (first | (go_at_call 17; refine (CMP.out _ (by (repeat (first | assumption | exact Ext.rf _ | apply Ext.drew | apply Ext.drewN | apply Ext.alloc)))).mono ?_; rintro e w2 ⟨rfl, x2⟩; have y2 := Ext.tr (a := wi) (by (repeat (first | assumption | exact Ext.rf _ | apply Ext.drew | apply Ext.drewN | apply Ext.alloc))) x2; have s1 := keepEL y2 hlb' cl1'; have s2 := keepEL y2 hgs cy'))
            have Y2 : Ext wo w2 := Y.tr y2
            clear Y s1 s2 x2 y2 cy cy' hgs CMP
            obtain ⟨wj, rfl⟩ : ∃ wj, wj = w2 := ⟨_, rfl⟩
            clear cl0' cl1' hlb' clb
            have hRle : R.b ≤ wj.heap.size := by rw [hRb.out]; exact (X.tr Y2).size
            have kk : k ≤ 1000 := by omega
            go_wp2_with (at_builtin; refine wpl_app_v _ (e := 38) Try.underlying22 hi.out hz0.out hz1.out hz2.out (by simp [Value.cells]) (by omega) rfl _ _ rfl R.b (some ⟨g0, 0, none⟩) k c (flatR R L) (some ⟨wj.heap.size, 0, none⟩) 1 1 [.int .i64 0, .slice none 0 0] rfl rfl ?_ ?_ ?_ ?_ ?_ ?_ ?_ ?_; (exact (ho.out.ext Y2).ext (by (repeat (first | assumption | exact Ext.rf _ | apply Ext.drew | apply Ext.drewN | apply Ext.alloc)))); (exact (RdV.blk (.new (by simp))).rdC); (simp); (simp [Value.oneCell']); (simp only [maxLen]; omega); omega; (simp; omega); rintro A5 c5 w5 o5 g5 _)
            have M5 : ModT R.b [38] wj w5 := (ModT.of_ext (by (repeat (first | assumption | exact Ext.rf _ | apply Ext.drew | apply Ext.drewN | apply Ext.alloc)))).tr (((ho.out.ext Y2).ext (by (repeat (first | assumption | exact Ext.rf _ | apply Ext.drew | apply Ext.drewN | apply Ext.alloc)))).grownT g5)
            have X5 : Ext w w5 := (X.tr Y2).modT M5 (by rw [hRb.out]; exact Nat.le_refl _)
            obtain ⟨g, hg5⟩ : ∃ g, A5 = some ⟨g, 0, none⟩ := by
              rcases o5.cases with ⟨_, _, h1, _⟩ | ⟨g, _, h1, _⟩
              · omega
              · exact ⟨g, h1⟩
            subst hg5
            have hlen2 : Hid (B1.length + B2.length = k) := by
              have := hIl.out
              rw [hLB.out, List.length_append] at this
              exact this
            have O0 : Hid (OwM w5 R g c5 (B1 ++ B2 ++ [rs.length])) := by
              unfold OwM
              have e1 : (B1 ++ B2 ++ [rs.length]).length = k + 1 := by rw [List.length_append, List.length_append, hlen2.out]; rfl
              rw [e1, flatR_app, hz.out, ← hLB.out]
              exact o5
            have SH0 : Hid (ShR B1 B2 (q + 1) k (B1 ++ B2 ++ [rs.length])) := by
              have := ShR.start (B1 := B1) (B2 := B2) rs.length
              rw [hB1.out, List.length_append, hlen2.out] at this
              exact this
            have pk2 : ((q : Int) + 1) ≤ (k : Int) := by omega
            clear ho hI hIl o5 M5 g5 hLB hRle Y2
            go_loopw [6] (fun v wr => ∃ (j : Nat) (Z : List Nat), v = .int .i64 j ∧ (q + 1) ≤ j ∧ j ≤ k ∧ Hid (ShR B1 B2 (q + 1) j Z) ∧ Hid (OwM wr R g c5 Z) ∧ Ext w wr) (fun v _ => (intOf v).toNat)
            case atStart => exact ⟨k, B1 ++ B2 ++ [rs.length], by first | rfl | go_num, by omega, by omega, SH0, O0, X5⟩
            case round =>
              clear SH0 O0 X5
              obtain ⟨ws, rfl⟩ : ∃ ws : World, ws = wr := ⟨_, rfl⟩
              obtain ⟨j, Z, rfl, hj1, hj2, SH, OM, XS⟩ := hrel
              have hgs := OM.out.lt
              by_cases hj : (q + 1) < j
              · obtain ⟨i, rfl⟩ : ∃ i, j = i + 1 := ⟨j - 1, by omega⟩
                obtain ⟨y, z, hy, hz', SH2⟩ := SH.out.step hB1.out (by omega)
                obtain ⟨⟨c1, c1'⟩, ⟨f1, f1'⟩, -⟩ := OM.out.cell hy
                obtain ⟨⟨c2, c2'⟩, ⟨f2, f2'⟩, st⟩ := OM.out.cell hz'
                have OM2 := Lib.hid (st.out y)
                replace SH2 := Lib.hid SH2
                have t0 : ((q : Int) + 1) < (i : Int) + 1 := by omega
                have wi1 : IntKind.i64.wrap (i : Int) = (i : Int) := IntWalk.i64_in _ (by omega)
                have i0 : (0 : Int) ≤ (i : Int) := by omega
                have i1 : (i : Int) < (k : Int) + 1 := by omega
                have i2 : (i : Int) + 1 < (k : Int) + 1 := by omega
                have i3 : (0 : Int) ≤ (i : Int) + 1 := by omega
                have e0 : ((i : Int) + 1).toNat = i + 1 := by omega
                have XF : Ext w (setR ws R g (i + 1) y) := (XS.setNew (p := ⟨g, (i + 1) * 2, none⟩) (by have := hgs.1; rw [hRb.out] at this; exact this) _).setNew (p := ⟨g, (i + 1) * 2 + 1, none⟩) (by have := hgs.1; rw [hRb.out] at this; exact this) _
                clear SH OM st hy hz' hgs
                go_wp2_with (fail)
                go_roundw
                case rel => exact ⟨i, _, by first | rfl | go_num, by omega, by omega, SH2, OM2, XF⟩
                case measure => simp [intOf]
              · obtain rfl : j = (q + 1) := by omega
                obtain ⟨z, hzz, ez⟩ := SH.out.fin hB1.out k
                obtain ⟨⟨c1, c1'⟩, ⟨f1, f1'⟩, st⟩ := OM.out.cell hzz
                have OM2 := st.out k
                rw [ez] at OM2
                have XF : Ext w (setR ws R g ((q + 1)) k) := (XS.setNew (p := ⟨g, ((q + 1)) * 2, none⟩) (by have := hgs.1; rw [hRb.out] at this; exact this) _).setNew (p := ⟨g, ((q + 1)) * 2 + 1, none⟩) (by have := hgs.1; rw [hRb.out] at this; exact this) _
                have OM3 : Hid (OwV (setR ws R g ((q + 1)) k) R.b 38 2 (some ⟨g, 0, none⟩) (k + 1) c5 (flatR R (B1 ++ (k :: B2)))) := by
                  have e1 : (B1 ++ (k :: B2)).length = k + 1 := by rw [List.length_append, List.length_cons]; have := hlen2.out; omega
                  have h1 := OM2
                  unfold OwM at h1
                  rw [e1] at h1
                  exact h1
                have d0 := keepEL XS hlb cl0
                have d1 := keepEL XS hlb cl1
                have t0 : ¬ ((q : Int) + 1) < ((q : Int) + 1) := by omega
                have p3 : ((q : Int) + 1) < (k : Int) + 1 := by omega
                have p4 : (0 : Int) ≤ ((q : Int) + 1) := by omega
                clear SH OM st OM2 hzz ez hgs
                go_wp2_with (fail)
                go_roundw
                case rel => exact ⟨k + 1, some ⟨g, 0, none⟩, c5, B1 ++ (k :: B2), by go_num, rfl, by omega, OM3, hI2, XF⟩
                case measure => simp [intOf]; omega
    · obtain rfl : k = rs.length := by omega
      have FIN : Hid (RdR wo 38 A (sortedR rs)) := by
        have e := sortP_of hwk.out (range_rise _) hI.out
        refine ⟨_, ho.out.read, ?_⟩
        rw [e]
        exact hend.out _ X
      clear ho hI hIl
      go_wp2_with (fail)
      go_ret
      exact ⟨A, c, rfl, FIN.out, X⟩
end Go.Proofs.Ytpngflmngnjjoaa
