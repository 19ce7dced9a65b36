/-
  The library's stable sort of records: a merge in place, by halves.
-/
import Derived.Test.YtpngflmngnjjoaaRecD
namespace Go.Proofs.Ytpngflmngnjjoaa
open Go.RowKit Go.ChangeShapes Go.WideShapes Go.ChangeAt Go.Deep

def SymT1 (base : RB) (g c : Nat) (P L1 R1 L2 R2 Q : List Nat) (w W : World) : Prop := OwN W base g c (P ++ (L1 ++ (R1 ++ (L2 ++ (R2 ++ Q))))) ∧ Mod (fun k => k = g) w W
def SymT2 (base : RB) (g c : Nat) (lt : Nat → Nat → Bool) (P L1 R1 L2 R2 Q : List Nat) (w W : World) : Prop := ∃ M1, Is lt (L1 ++ R1) M1 ∧ OwN W base g c (P ++ (M1 ++ (L2 ++ (R2 ++ Q)))) ∧ Mod (fun k => k = g) w W
def DoneT (T : World → Prop) (e : Ending) (w' : World) : Prop := e = .returned (.tuple #[]) ∧ T w'
/-- what is known of a merge of smaller ones -/
def SymIH (base : RB) (g c f : Nat) (lb : Array Value) (cf : Nat → Nat → Int) (nn N d : Nat) (w : World) : Prop :=
  ∀ (a m b : Nat) (P L R Q : List Nat) (W : World), b - a < d → Mod (fun k => k = g) w W → OwN W base g c (P ++ (L ++ (R ++ Q))) → (P ++ (L ++ (R ++ Q))).length = N → P.length = a → a + L.length = m → m + R.length = b → 0 < L.length → 0 < R.length →
    Srt (ltC cf) L → Srt (ltC cf) R → Apart (· < ·) L R → (∀ x ∈ L ++ R, x < nn) → Calls Try.prog 23 #[.slice (some ⟨g, 0, none⟩) N c, .int .i64 a, .int .i64 m, .int .i64 b, .func (.func f) #[] lb] W (SortedPost base g c (ltC cf) P (L ++ R) Q W)
def SymCase (a m b mid lo hi : Nat) : Prop := (m ≤ mid ∧ lo = a ∧ hi = m) ∨ (mid < m ∧ lo + b = mid + m ∧ hi = mid)
theorem either_srt {lt : Nat → Nat → Bool} {A B : List Nat} (ha : Srt lt A) (hb : Srt lt B) (h : A.length = 0 ∨ B.length = 0) : Srt lt (A ++ B) := by
  rcases h with h | h
  · rw [List.eq_nil_of_length_eq_zero h]; exact hb
  · rw [List.eq_nil_of_length_eq_zero h, List.append_nil]; exact ha
theorem either_swap {A B T : List Nat} (h : A.length = 0 ∨ B.length = 0) : A ++ (B ++ T) = B ++ (A ++ T) := by
  rcases h with h | h
  · rw [List.eq_nil_of_length_eq_zero h]; rfl
  · rw [List.eq_nil_of_length_eq_zero h]; rfl
section
variable {base : RB} {g c f N nn a m b s mid en d : Nat} {lb : Array Value} {cf : Nat → Nat → Int} {P L1 L2 R1 R2 Q : List Nat} {w : World}
theorem SymIH.first (IH : SymIH base g c f lb cf nn N d w) (hd : mid - a < d) (hN : (P ++ (L1 ++ (L2 ++ (R1 ++ (R2 ++ Q))))).length = N) (ha : P.length = a) (h1 : a + L1.length = s) (h2 : s + R1.length = mid) (sl : Srt (ltC cf) L1) (sr : Srt (ltC cf) R1) (hlt : Apart (· < ·) L1 R1) (hn : ∀ x ∈ L1 ++ R1, x < nn) :
    (∀ W, SymT1 base g c P L1 R1 L2 R2 Q w W → 0 < L1.length → 0 < R1.length → Calls Try.prog 23 #[.slice (some ⟨g, 0, none⟩) N c, .int .i64 a, .int .i64 s, .int .i64 mid, .func (.func f) #[] lb] W (DoneT (SymT2 base g c (ltC cf) P L1 R1 L2 R2 Q w))) ∧
    (∀ W, SymT1 base g c P L1 R1 L2 R2 Q w W → (L1.length = 0 ∨ R1.length = 0) → SymT2 base g c (ltC cf) P L1 R1 L2 R2 Q w W) := by
  refine ⟨fun W hT h3 h4 => ?_, fun W hT h3 => ⟨_, Is.rf (either_srt sl sr h3), by simpa only [List.append_assoc] using hT.1, hT.2⟩⟩
  refine (IH a s mid P L1 R1 (L2 ++ (R2 ++ Q)) W hd hT.2 hT.1 (by simp only [List.length_append] at hN ⊢; omega) ha h1 h2 h3 h4 sl sr hlt hn).mono ?_
  rintro e w' ⟨M, h5, rfl, h6, h7⟩
  exact ⟨rfl, M, h5, h6, hT.2.tr h7⟩
theorem SymIH.second (IH : SymIH base g c f lb cf nn N d w) (hd : b - mid < d) (hN : (P ++ (L1 ++ (L2 ++ (R1 ++ (R2 ++ Q))))).length = N) (ha : P.length = a) (h1 : a + L1.length + R1.length = mid) (h2 : mid + L2.length = en) (h3 : en + R2.length = b) (sl : Srt (ltC cf) L2) (sr : Srt (ltC cf) R2) (hlt : Apart (· < ·) L2 R2) (hn : ∀ x ∈ L2 ++ R2, x < nn)
    (hA : Apart (strictly (ltC cf)) (L1 ++ R1) (L2 ++ R2)) {L R : List Nat} (hL : L = L1 ++ L2) (hR : R = R1 ++ R2) :
    (∀ W, SymT2 base g c (ltC cf) P L1 R1 L2 R2 Q w W → 0 < L2.length → 0 < R2.length → Calls Try.prog 23 #[.slice (some ⟨g, 0, none⟩) N c, .int .i64 mid, .int .i64 en, .int .i64 b, .func (.func f) #[] lb] W (SortedPost base g c (ltC cf) P (L ++ R) Q w)) ∧
    (∀ W, SymT2 base g c (ltC cf) P L1 R1 L2 R2 Q w W → (L2.length = 0 ∨ R2.length = 0) → SortedPost base g c (ltC cf) P (L ++ R) Q w (.returned (.tuple #[])) W) := by
  subst hL hR
  have hp := four_perm L1 L2 R1 R2
  refine ⟨?_, ?_⟩
  · rintro W ⟨M1, i1, hO, hM⟩ h4 h5
    have hl1 := i1.len
    rw [List.length_append] at hl1
    refine (IH mid en b (P ++ M1) L2 R2 Q W hd hM (by rw [List.append_assoc]; exact hO) (by simp only [List.length_append] at hN ⊢; omega) (by rw [List.length_append]; omega) h2 h3 h4 h5 sl sr hlt hn).mono ?_
    rintro e w' ⟨M, h6, rfl, h7, h8⟩
    exact ⟨M1 ++ M, (i1.join h6 hA).perm hp, rfl, by simpa only [List.append_assoc] using h7, hM.tr h8⟩
  · rintro W ⟨M1, i1, hO, hM⟩ h4
    exact ⟨M1 ++ (L2 ++ R2), (i1.join (Is.rf (either_srt sl sr h4)) hA).perm hp, rfl, by simpa only [List.append_assoc] using hO, hM⟩
end
theorem rotate_t1 {base : RB} {g c N a m en s : Nat} (fv : Value) {P L1 L2 R1 R2 Q : List Nat} {w wo : World} (hO : OwN wo base g c (P ++ (L1 ++ (L2 ++ (R1 ++ (R2 ++ Q)))))) (hM : Mod (fun k => k = g) w wo) (hN : (P ++ (L1 ++ (L2 ++ (R1 ++ (R2 ++ Q))))).length = N) (ha : P.length = a) (h1 : a + L1.length = s) (h2 : s + L2.length = m) (h3 : m + R1.length = en) (hl : N ≤ 1000000000) :
    (0 < L2.length → 0 < R1.length → Calls Try.prog 25 #[.slice (some ⟨g, 0, none⟩) N c, .int .i64 s, .int .i64 m, .int .i64 en, fv] wo (DoneT (SymT1 base g c P L1 R1 L2 R2 Q w))) ∧
    ((L2.length = 0 ∨ R1.length = 0) → SymT1 base g c P L1 R1 L2 R2 Q w wo) := by
  constructor
  · intro h4 h5
    refine (rotate_any base g c fv s m en N (P ++ L1) L2 R1 (R2 ++ Q) wo (by simpa only [List.append_assoc] using hO) (by simpa only [List.append_assoc] using hN) (by rw [List.length_append]; omega) h2 h3 h4 h5 hl).mono ?_
    rintro e w' ⟨rfl, h6, h7⟩
    exact ⟨rfl, by simpa only [List.append_assoc] using h6, hM.tr h7⟩
  · intro h4
    refine ⟨?_, hM⟩
    rw [either_swap (T := R2 ++ Q) h4] at hO
    exact hO

set_option maxRecDepth 100000 in
set_option maxHeartbeats 8000000 in
theorem sym_mid (base : RB) (g c : Nat) (f : Nat) (lb : Array Value) (cf : Nat → Nat → Int) (nn a m b N mid lo hi : Nat) (P L R Q : List Nat) (w : World) (hw : Weak (ltC cf)) (eg : ∀ args w, (callFunc f args).run Try.prog w = .ok (.enter f args) w) (hcmp : CmpOk base f lb cf nn g w) (IH : SymIH base g c f lb cf nn N (b - a) w)
    (h : OwN w base g c (P ++ (L ++ (R ++ Q)))) (hN : (P ++ (L ++ (R ++ Q))).length = N) (ha : P.length = a) (hL : a + L.length = m) (hR : m + R.length = b) (h1 : 2 ≤ L.length) (h2 : 2 ≤ R.length) (sl : Srt (ltC cf) L) (sr : Srt (ltC cf) R) (hlt : Apart (· < ·) L R) (hn : ∀ x ∈ L ++ R, x < nn) (hl : N ≤ 1000000000)
    (hmid : mid = (a + b) / 2) (hcase : (m ≤ mid ∧ lo = a ∧ hi = m) ∨ (mid < m ∧ lo + b = mid + m ∧ hi = mid)) :
    Calls Try.prog 23 #[.slice (some ⟨g, 0, none⟩) N c, .int .i64 a, .int .i64 m, .int .i64 b, .func (.func f) #[] lb] w (SortedPost base g c (ltC cf) P (L ++ R) Q w) := by
  have hbN : b ≤ N := by simp only [List.length_append] at hN; omega
  have d0 : ((m : Int) - (a : Int) == 1) = false := by rw [beq_eq_false_iff_ne]; omega
  have d1 : ((b : Int) - (m : Int) == 1) = false := by rw [beq_eq_false_iff_ne]; omega
  have k1 : a + 2 ≤ m := by omega
  have k2 : m + 2 ≤ b := by omega
  have k3 : a < mid ∧ mid < b ∧ 2 * mid ≤ a + b ∧ a + b ≤ 2 * mid + 1 := by omega
  have k4 : a ≤ lo ∧ lo ≤ hi ∧ hi ≤ m ∧ hi ≤ mid := by omega
  have HLR : Hid (a + L.length = m ∧ m + R.length = b) := ⟨hL, hR⟩
  have HC : SymCase a m b mid lo hi := hcase
  have HS0 : Hid (SymR (ltC cf) L R a mid lo hi lo hi) := SymR.start _ _ _ _ _ k4.2.1
  have mvm : ((a : Int) + (b : Int)) / 2 = (mid : Int) := by rw [hmid]; omega
  obtain ⟨p1, hp1⟩ : ∃ p1, Hid (p1 + 1 = mid + m) := ⟨mid + m - 1, by show mid + m - 1 + 1 = mid + m; omega⟩
  have hp1' := hp1.out
  have env : (mid : Int) + (m : Int) = (p1 : Int) + 1 := by omega
  have hwp1 : IntKind.i64.wrap (p1 : Int) = (p1 : Int) := IntWalk.i64_in _ (by omega)
  clear hL hR h1 h2 hmid
  replace hN := Lib.hid hN
  replace hcmp := Lib.hid hcmp
  replace hw := Lib.hid hw
  replace ha := Lib.hid ha
  replace hn := Lib.hid hn
  replace h := Lib.hid h
  replace sl := Lib.hid sl
  replace sr := Lib.hid sr
  replace hlt := Lib.hid hlt
  replace IH := Lib.hid IH
  rcases hcase with ⟨q1, q2, q3⟩ | ⟨q1, q2, q3⟩
  · have t0 : ¬ (mid : Int) < (m : Int) := by omega
    have q2' := q2.symm
    have q3' := q3.symm
    clear q2 q3
    subst q2' q3'
    clear q1 hp1'
    go_enter Try.func23, Try.ntmps23
    go_wp2_with (fail)
    clear t0
    go_loopw [20, 21] (fun iv jv wr => ∃ (s r : Nat), iv = .int .i64 s ∧ jv = .int .i64 r ∧ Hid (SymR (ltC cf) L R a mid a m s r) ∧ Hid (Ext w wr)) (fun iv jv _ => (intOf jv).toNat - (intOf iv).toNat)
    case atStart => exact ⟨_, _, rfl, rfl, HS0, Ext.rf _⟩
    case round =>
      obtain ⟨wo, rfl⟩ : ∃ wo : World, wo = wr := ⟨_, rfl⟩
      obtain ⟨s, r, rfl, rfl, HB, Y⟩ := hrel
      clear HS0 mvm env
      obtain ⟨g1, g2, g3, _, _⟩ := HB.out
      by_cases hsr : s < r
      · obtain ⟨cc, hcc⟩ : ∃ cc, Hid (cc = (s + r) / 2) := ⟨_, rfl⟩
        have c1 : s ≤ cc := by rw [hcc.out]; omega
        have c2 : cc < r := by rw [hcc.out]; omega
        have mvc : ((s : Int) + (r : Int)) / 2 = (cc : Int) := by rw [hcc.out]; omega
        obtain ⟨hL, hR⟩ := HLR.out
        obtain ⟨pc, hpc⟩ : ∃ pc, Hid (pc = m + (mid - 1 - cc)) := ⟨_, rfl⟩
        have hpc' := hpc.out
        have hp1' := hp1.out
        have hcs := HC
        unfold SymCase at hcs
        have epc : (p1 : Int) - (cc : Int) = (pc : Int) := by omega
        have pcb : pc < N := by omega
        have ccN : cc < N := by omega
        have ex : L[cc - a]? = some (L[cc - a]'(by omega)) := List.getElem?_eq_getElem _
        have ey : R[mid - 1 - cc]? = some (R[mid - 1 - cc]'(by omega)) := List.getElem?_eq_getElem _
        generalize L[cc - a]'(by omega) = x at ex
        generalize R[mid - 1 - cc]'(by omega) = y at ey
        have hxn := hn.out x (List.mem_append_left _ (List.mem_of_getElem? ex))
        have hyn := hn.out y (List.mem_append_right _ (List.mem_of_getElem? ey))
        have cx : CellR wo base g (cc) x := (h.out.ext Y.out).at (P := P) (j := cc - a) (by rw [List.getElem?_append_left (by omega)]; exact ex) (by have := ha.out; omega)
        have cy : CellR wo base g (pc) y := (h.out.ext Y.out).at (P := P) (j := L.length + (mid - 1 - cc)) (by rw [List.getElem?_append_right (by omega), Nat.add_sub_cancel_left, List.getElem?_append_left (by omega)]; exact ey) (by have := ha.out; omega)
        have st1 := Lib.hid (HB.out.left c1 c2 ex ey)
        have st2 := Lib.hid (HB.out.right c1 c2 ex ey)
        have hg : g < wo.heap.size := (h.out.ext Y.out).lt.2
        have cc0 : (0 : Int) ≤ (cc : Int) := by omega
        have ccN2 : (cc : Int) < (N : Int) := by omega
        have pc0 : (0 : Int) ≤ (pc : Int) := by omega
        have pcN2 : (pc : Int) < (N : Int) := by omega
        have wpc : IntKind.i64.wrap ((p1 : Int) - (cc : Int)) = (pc : Int) := by rw [epc]; exact IntWalk.i64_in _ (by omega)
        have wpc2 : IntKind.i64.wrap (pc : Int) = (pc : Int) := IntWalk.i64_in _ (by omega)
        obtain ⟨cx, cx'⟩ := cx
        obtain ⟨cy, cy'⟩ := cy
        have hM := Lib.hid (Mod.of_ext (S := fun k => k = g) Y.out)
        have hc : ∀ W, Ext wo W → Calls Try.prog f (#[base.v y, base.v x] ++ lb) W fun e W' => e = .returned (.int .i64 (cf y x)) ∧ Ext W W' := fun W hW => hcmp.out _ y x hyn hxn (hM.out.ext hW)
        clear ex ey hpc' hp1' hL hR hcs
        by_cases hlv : cf y x < 0
        · replace st2 := Lib.hid (st2.out (decide_eq_true hlv))
          have hlb : decide (cf y x < 0) = true := decide_eq_true hlv
          clear st1
          go_wp2_with (fail)
          go_region_held3 (fun W => W.cell? ⟨g, cc * 2, none⟩ = some (.int .i64 (base.kd x)) ∧ W.cell? ⟨g, cc * 2 + 1, none⟩ = some (.slice (base.ad x) (base.ln x) (base.cp x)) ∧ W.cell? ⟨g, pc * 2, none⟩ = some (.int .i64 (base.kd y)) ∧ W.cell? ⟨g, pc * 2 + 1, none⟩ = some (.slice (base.ad y) (base.ln y) (base.cp y))) (go_keep)
            (first | (go_at_fn f; refine (hc _ (by (repeat (first | assumption | exact Ext.rf _ | apply Ext.drew | apply Ext.drewN | apply Ext.alloc)))).mono ?_; rintro e w2 ⟨rfl, x2⟩; have y2 := Ext.tr (a := wo) (by (repeat (first | assumption | exact Ext.rf _ | apply Ext.drew | apply Ext.drewN | apply Ext.alloc))) x2; have s1 := keepEL y2 hg cx; have s2 := keepEL y2 hg cx'; have s3 := keepEL y2 hg cy; have s4 := keepEL y2 hg cy'))
          go_wp2_with (fail)
          go_roundw
          case rel => exact ⟨s, cc, rfl, rfl, st2.out, Y.out.tr (by assumption)⟩
          case measure => simp [intOf] <;> omega
        · replace st1 := Lib.hid (st1.out (decide_eq_false hlv))
          have hlb : decide (cf y x < 0) = false := decide_eq_false hlv
          clear st2
          go_wp2_with (fail)
          go_region_held3 (fun W => W.cell? ⟨g, cc * 2, none⟩ = some (.int .i64 (base.kd x)) ∧ W.cell? ⟨g, cc * 2 + 1, none⟩ = some (.slice (base.ad x) (base.ln x) (base.cp x)) ∧ W.cell? ⟨g, pc * 2, none⟩ = some (.int .i64 (base.kd y)) ∧ W.cell? ⟨g, pc * 2 + 1, none⟩ = some (.slice (base.ad y) (base.ln y) (base.cp y))) (go_keep)
            (first | (go_at_fn f; refine (hc _ (by (repeat (first | assumption | exact Ext.rf _ | apply Ext.drew | apply Ext.drewN | apply Ext.alloc)))).mono ?_; rintro e w2 ⟨rfl, x2⟩; have y2 := Ext.tr (a := wo) (by (repeat (first | assumption | exact Ext.rf _ | apply Ext.drew | apply Ext.drewN | apply Ext.alloc))) x2; have s1 := keepEL y2 hg cx; have s2 := keepEL y2 hg cx'; have s3 := keepEL y2 hg cy; have s4 := keepEL y2 hg cy'))
          go_wp2_with (fail)
          go_roundw
          case rel => exact ⟨cc + 1, r, by go_num, rfl, st1.out, Y.out.tr (by assumption)⟩
          case measure => simp [intOf] <;> omega
      · obtain rfl : s = r := by omega
        obtain ⟨hL, hR⟩ := HLR.out
        have hN' := hN.out
        have hA := sym_cut hw.out sl.out sr.out hlt.out hL hR HB.out HC k3.2.2.1 k4.1
        obtain ⟨en, hen⟩ : ∃ en, Hid (en = m + (mid - s)) := ⟨_, rfl⟩
        have hen' := hen.out
        have hp1' := hp1.out
        have een : (p1 : Int) + 1 - (s : Int) = (en : Int) := by omega
        have eL : L = L.take (s - a) ++ L.drop (s - a) := (List.take_append_drop _ _).symm
        have hcs := HC
        unfold SymCase at hcs
        have hmr : mid - s ≤ R.length := by omega
        have eR : R = R.take (mid - s) ++ R.drop (mid - s) := (List.take_append_drop _ _).symm
        have l1 : (L.take (s - a)).length = s - a := by rw [List.length_take]; omega
        have l2 : (L.drop (s - a)).length = m - s := by rw [List.length_drop]; omega
        have l3 : (R.take (mid - s)).length = mid - s := by rw [List.length_take]; omega
        have l4 : (R.drop (mid - s)).length = b - en := by rw [List.length_drop]; omega
        generalize L.take (s - a) = L1 at *
        generalize L.drop (s - a) = L2 at *
        generalize R.take (mid - s) = R1 at *
        generalize R.drop (mid - s) = R2 at *
        have hO := h.out.ext Y.out
        have sl' := sl.out
        have sr' := sr.out
        have hlt' := hlt.out
        have hn' := hn.out
        rw [eL] at sl' hlt' hO hN' hn'
        rw [eR] at sr' hlt' hO hN' hn'
        simp only [List.append_assoc] at hO hN'
        have sl1 := pairwise_app.1 sl'
        have sr1 := pairwise_app.1 sr'
        have ap1 := Apart.app_left.1 hlt'
        have ROT := rotate_t1 (m := m) (en := en) (s := s) (.func (.func f) #[] lb) hO (Mod.of_ext Y.out) hN' ha.out (by omega) (by omega) (by omega) hl
        have FI := IH.out.first (s := s) (mid := mid) (by omega) hN' ha.out (by omega) (by omega) sl1.1 sr1.1 (Apart.app_right.1 ap1.1).1 (fun x hx => hn' x (by rcases List.mem_append.1 hx with h9 | h9 <;> simp [h9]))
        have SE := IH.out.second (b := b) (mid := mid) (en := en) (by omega) hN' ha.out (by omega) (by omega) (by omega) sl1.2.1 sr1.2.1 (Apart.app_right.1 ap1.2).2 (fun x hx => hn' x (by rcases List.mem_append.1 hx with h9 | h9 <;> simp [h9])) hA eL eR
        replace ROT := Lib.hid ROT
        replace FI := Lib.hid FI
        replace SE := Lib.hid SE
        have f1 : s ≤ m := by omega
        have f2 : s ≤ mid := by omega
        have f3 : a ≤ s := by omega
        have f4 : en ≤ b := by omega
        have e1 : L1.length = s - a := l1
        clear hO hN' sl' sr' hlt' hn' sl1 sr1 ap1 hA eL eR hL hR hp1' hcs hmr HB e1
        have hen2 : en + s = m + mid := by omega
        clear hen' hsr
        replace l1 := Lib.hid l1
        replace l2 := Lib.hid l2
        replace l3 := Lib.hid l3
        replace l4 := Lib.hid l4
        by_cases cA : s < m <;> by_cases cB : s < mid <;> by_cases cC : a < s <;> by_cases cD : en < b
        · -- 1111
          first
          | (exfalso; clear ROT FI SE; omega)
          | (have y1 : (s : Int) < (m : Int) := by omega
             have y2 : (m : Int) < (en : Int) := by omega
             have y3 : (a : Int) < (s : Int) := by omega
             have y4 : (s : Int) < (mid : Int) := by omega
             have y5 : (mid : Int) < (en : Int) := by omega
             have y6 : (en : Int) < (b : Int) := by omega
             clear cA cB cC cD hen2 hen
             replace ROT := Lib.hid (ROT.out.1 (by rw [l2.out]; omega) (by rw [l3.out]; omega))
             replace FI := Lib.hid (fun (W : World) hT => FI.out.1 W hT (by rw [l1.out]; omega) (by rw [l3.out]; omega))
             replace SE := Lib.hid (fun (W : World) hT => SE.out.1 W hT (by rw [l2.out]; omega) (by rw [l4.out]; omega))
             go_wp2_with (fail)
             refine ROT.out.mono ?_
             rintro e w1 ⟨rfl, T1⟩
             replace T1 := Lib.hid T1
             go_wp2_with (fail)
             refine (FI.out w1 T1.out).mono ?_
             rintro e w2 ⟨rfl, T2⟩
             replace T2 := Lib.hid T2
             go_wp2_with (fail)
             refine (SE.out w2 T2.out).mono ?_
             rintro e w3 HS3
             obtain ⟨M3, i3, rfl, o3, m3⟩ := HS3
             have T3 : Hid (SortedPost base g c (ltC cf) P (L ++ R) Q w (.returned (.tuple #[])) w3) := ⟨M3, i3, rfl, o3, m3⟩
             clear i3 o3 m3
             go_wp2_with (fail)
             go_end0
             exact T3.out)
        · -- 1110
          first
          | (exfalso; clear ROT FI SE; omega)
          | (have y1 : (s : Int) < (m : Int) := by omega
             have y2 : (m : Int) < (en : Int) := by omega
             have y3 : (a : Int) < (s : Int) := by omega
             have y4 : (s : Int) < (mid : Int) := by omega
             have y5 : (mid : Int) < (en : Int) := by omega
             have y6 : ¬ (en : Int) < (b : Int) := by omega
             clear cA cB cC cD hen2 hen
             replace ROT := Lib.hid (ROT.out.1 (by rw [l2.out]; omega) (by rw [l3.out]; omega))
             replace FI := Lib.hid (fun (W : World) hT => FI.out.1 W hT (by rw [l1.out]; omega) (by rw [l3.out]; omega))
             replace SE := Lib.hid (fun (W : World) hT => SE.out.2 W hT (by rw [l2.out, l4.out]; omega))
             go_wp2_with (fail)
             refine ROT.out.mono ?_
             rintro e w1 ⟨rfl, T1⟩
             replace T1 := Lib.hid T1
             go_wp2_with (fail)
             refine (FI.out w1 T1.out).mono ?_
             rintro e w2 ⟨rfl, T2⟩
             replace T2 := Lib.hid T2
             go_wp2_with (fail)
             have T3 := Lib.hid (SE.out w2 T2.out)
             go_end0
             exact T3.out)
        · -- 1101
          first
          | (exfalso; clear ROT FI SE; omega)
          | (have y1 : (s : Int) < (m : Int) := by omega
             have y2 : (m : Int) < (en : Int) := by omega
             have y3 : ¬ (a : Int) < (s : Int) := by omega
             have y4 : (s : Int) < (mid : Int) := by omega
             have y5 : (mid : Int) < (en : Int) := by omega
             have y6 : (en : Int) < (b : Int) := by omega
             clear cA cB cC cD hen2 hen
             replace ROT := Lib.hid (ROT.out.1 (by rw [l2.out]; omega) (by rw [l3.out]; omega))
             replace FI := Lib.hid (fun (W : World) hT => FI.out.2 W hT (by rw [l1.out, l3.out]; omega))
             replace SE := Lib.hid (fun (W : World) hT => SE.out.1 W hT (by rw [l2.out]; omega) (by rw [l4.out]; omega))
             go_wp2_with (fail)
             refine ROT.out.mono ?_
             rintro e w1 ⟨rfl, T1⟩
             replace T1 := Lib.hid T1
             go_wp2_with (fail)
             have T2 := Lib.hid (FI.out w1 T1.out)
             refine (SE.out w1 T2.out).mono ?_
             rintro e w3 HS3
             obtain ⟨M3, i3, rfl, o3, m3⟩ := HS3
             have T3 : Hid (SortedPost base g c (ltC cf) P (L ++ R) Q w (.returned (.tuple #[])) w3) := ⟨M3, i3, rfl, o3, m3⟩
             clear i3 o3 m3
             go_wp2_with (fail)
             go_end0
             exact T3.out)
        · -- 1100
          first
          | (exfalso; clear ROT FI SE; omega)
          | (have y1 : (s : Int) < (m : Int) := by omega
             have y2 : (m : Int) < (en : Int) := by omega
             have y3 : ¬ (a : Int) < (s : Int) := by omega
             have y4 : (s : Int) < (mid : Int) := by omega
             have y5 : (mid : Int) < (en : Int) := by omega
             have y6 : ¬ (en : Int) < (b : Int) := by omega
             clear cA cB cC cD hen2 hen
             replace ROT := Lib.hid (ROT.out.1 (by rw [l2.out]; omega) (by rw [l3.out]; omega))
             replace FI := Lib.hid (fun (W : World) hT => FI.out.2 W hT (by rw [l1.out, l3.out]; omega))
             replace SE := Lib.hid (fun (W : World) hT => SE.out.2 W hT (by rw [l2.out, l4.out]; omega))
             go_wp2_with (fail)
             refine ROT.out.mono ?_
             rintro e w1 ⟨rfl, T1⟩
             replace T1 := Lib.hid T1
             go_wp2_with (fail)
             have T2 := Lib.hid (FI.out w1 T1.out)
             have T3 := Lib.hid (SE.out w1 T2.out)
             go_end0
             exact T3.out)
        · -- 1011
          first
          | (exfalso; clear ROT FI SE; omega)
          | (have y1 : (s : Int) < (m : Int) := by omega
             have y2 : ¬ (m : Int) < (en : Int) := by omega
             have y3 : (a : Int) < (s : Int) := by omega
             have y4 : ¬ (s : Int) < (mid : Int) := by omega
             have y5 : (mid : Int) < (en : Int) := by omega
             have y6 : (en : Int) < (b : Int) := by omega
             clear cA cB cC cD hen2 hen
             have T1 := Lib.hid (ROT.out.2 (by rw [l2.out, l3.out]; omega))
             replace FI := Lib.hid (fun (W : World) hT => FI.out.2 W hT (by rw [l1.out, l3.out]; omega))
             replace SE := Lib.hid (fun (W : World) hT => SE.out.1 W hT (by rw [l2.out]; omega) (by rw [l4.out]; omega))
             go_wp2_with (fail)
             have T2 := Lib.hid (FI.out wo T1.out)
             refine (SE.out wo T2.out).mono ?_
             rintro e w3 HS3
             obtain ⟨M3, i3, rfl, o3, m3⟩ := HS3
             have T3 : Hid (SortedPost base g c (ltC cf) P (L ++ R) Q w (.returned (.tuple #[])) w3) := ⟨M3, i3, rfl, o3, m3⟩
             clear i3 o3 m3
             go_wp2_with (fail)
             go_end0
             exact T3.out)
        · -- 1010
          first
          | (exfalso; clear ROT FI SE; omega)
          | (have y1 : (s : Int) < (m : Int) := by omega
             have y2 : ¬ (m : Int) < (en : Int) := by omega
             have y3 : (a : Int) < (s : Int) := by omega
             have y4 : ¬ (s : Int) < (mid : Int) := by omega
             have y5 : (mid : Int) < (en : Int) := by omega
             have y6 : ¬ (en : Int) < (b : Int) := by omega
             clear cA cB cC cD hen2 hen
             have T1 := Lib.hid (ROT.out.2 (by rw [l2.out, l3.out]; omega))
             replace FI := Lib.hid (fun (W : World) hT => FI.out.2 W hT (by rw [l1.out, l3.out]; omega))
             replace SE := Lib.hid (fun (W : World) hT => SE.out.2 W hT (by rw [l2.out, l4.out]; omega))
             go_wp2_with (fail)
             have T2 := Lib.hid (FI.out wo T1.out)
             have T3 := Lib.hid (SE.out wo T2.out)
             go_end0
             exact T3.out)
        · -- 1001
          first
          | (exfalso; clear ROT FI SE; omega)
          | (have y1 : (s : Int) < (m : Int) := by omega
             have y2 : ¬ (m : Int) < (en : Int) := by omega
             have y3 : ¬ (a : Int) < (s : Int) := by omega
             have y4 : ¬ (s : Int) < (mid : Int) := by omega
             have y5 : (mid : Int) < (en : Int) := by omega
             have y6 : (en : Int) < (b : Int) := by omega
             clear cA cB cC cD hen2 hen
             have T1 := Lib.hid (ROT.out.2 (by rw [l2.out, l3.out]; omega))
             replace FI := Lib.hid (fun (W : World) hT => FI.out.2 W hT (by rw [l1.out, l3.out]; omega))
             replace SE := Lib.hid (fun (W : World) hT => SE.out.1 W hT (by rw [l2.out]; omega) (by rw [l4.out]; omega))
             go_wp2_with (fail)
             have T2 := Lib.hid (FI.out wo T1.out)
             refine (SE.out wo T2.out).mono ?_
             rintro e w3 HS3
             obtain ⟨M3, i3, rfl, o3, m3⟩ := HS3
             have T3 : Hid (SortedPost base g c (ltC cf) P (L ++ R) Q w (.returned (.tuple #[])) w3) := ⟨M3, i3, rfl, o3, m3⟩
             clear i3 o3 m3
             go_wp2_with (fail)
             go_end0
             exact T3.out)
        · -- 1000
          first
          | (exfalso; clear ROT FI SE; omega)
          | (have y1 : (s : Int) < (m : Int) := by omega
             have y2 : ¬ (m : Int) < (en : Int) := by omega
             have y3 : ¬ (a : Int) < (s : Int) := by omega
             have y4 : ¬ (s : Int) < (mid : Int) := by omega
             have y5 : (mid : Int) < (en : Int) := by omega
             have y6 : ¬ (en : Int) < (b : Int) := by omega
             clear cA cB cC cD hen2 hen
             have T1 := Lib.hid (ROT.out.2 (by rw [l2.out, l3.out]; omega))
             replace FI := Lib.hid (fun (W : World) hT => FI.out.2 W hT (by rw [l1.out, l3.out]; omega))
             replace SE := Lib.hid (fun (W : World) hT => SE.out.2 W hT (by rw [l2.out, l4.out]; omega))
             go_wp2_with (fail)
             have T2 := Lib.hid (FI.out wo T1.out)
             have T3 := Lib.hid (SE.out wo T2.out)
             go_end0
             exact T3.out)
        · -- 0111
          first
          | (exfalso; clear ROT FI SE; omega)
          | (have y1 : ¬ (s : Int) < (m : Int) := by omega
             have y2 : (m : Int) < (en : Int) := by omega
             have y3 : (a : Int) < (s : Int) := by omega
             have y4 : (s : Int) < (mid : Int) := by omega
             have y5 : ¬ (mid : Int) < (en : Int) := by omega
             have y6 : (en : Int) < (b : Int) := by omega
             clear cA cB cC cD hen2 hen
             have T1 := Lib.hid (ROT.out.2 (by rw [l2.out, l3.out]; omega))
             replace FI := Lib.hid (fun (W : World) hT => FI.out.1 W hT (by rw [l1.out]; omega) (by rw [l3.out]; omega))
             replace SE := Lib.hid (fun (W : World) hT => SE.out.2 W hT (by rw [l2.out, l4.out]; omega))
             go_wp2_with (fail)
             refine (FI.out wo T1.out).mono ?_
             rintro e w2 ⟨rfl, T2⟩
             replace T2 := Lib.hid T2
             go_wp2_with (fail)
             have T3 := Lib.hid (SE.out w2 T2.out)
             go_end0
             exact T3.out)
        · -- 0110
          first
          | (exfalso; clear ROT FI SE; omega)
          | (have y1 : ¬ (s : Int) < (m : Int) := by omega
             have y2 : (m : Int) < (en : Int) := by omega
             have y3 : (a : Int) < (s : Int) := by omega
             have y4 : (s : Int) < (mid : Int) := by omega
             have y5 : ¬ (mid : Int) < (en : Int) := by omega
             have y6 : ¬ (en : Int) < (b : Int) := by omega
             clear cA cB cC cD hen2 hen
             have T1 := Lib.hid (ROT.out.2 (by rw [l2.out, l3.out]; omega))
             replace FI := Lib.hid (fun (W : World) hT => FI.out.1 W hT (by rw [l1.out]; omega) (by rw [l3.out]; omega))
             replace SE := Lib.hid (fun (W : World) hT => SE.out.2 W hT (by rw [l2.out, l4.out]; omega))
             go_wp2_with (fail)
             refine (FI.out wo T1.out).mono ?_
             rintro e w2 ⟨rfl, T2⟩
             replace T2 := Lib.hid T2
             go_wp2_with (fail)
             have T3 := Lib.hid (SE.out w2 T2.out)
             go_end0
             exact T3.out)
        · -- 0101
          first
          | (exfalso; clear ROT FI SE; omega)
          | (have y1 : ¬ (s : Int) < (m : Int) := by omega
             have y2 : (m : Int) < (en : Int) := by omega
             have y3 : ¬ (a : Int) < (s : Int) := by omega
             have y4 : (s : Int) < (mid : Int) := by omega
             have y5 : ¬ (mid : Int) < (en : Int) := by omega
             have y6 : (en : Int) < (b : Int) := by omega
             clear cA cB cC cD hen2 hen
             have T1 := Lib.hid (ROT.out.2 (by rw [l2.out, l3.out]; omega))
             replace FI := Lib.hid (fun (W : World) hT => FI.out.2 W hT (by rw [l1.out, l3.out]; omega))
             replace SE := Lib.hid (fun (W : World) hT => SE.out.2 W hT (by rw [l2.out, l4.out]; omega))
             go_wp2_with (fail)
             have T2 := Lib.hid (FI.out wo T1.out)
             have T3 := Lib.hid (SE.out wo T2.out)
             go_end0
             exact T3.out)
        · -- 0100
          first
          | (exfalso; clear ROT FI SE; omega)
          | (have y1 : ¬ (s : Int) < (m : Int) := by omega
             have y2 : (m : Int) < (en : Int) := by omega
             have y3 : ¬ (a : Int) < (s : Int) := by omega
             have y4 : (s : Int) < (mid : Int) := by omega
             have y5 : ¬ (mid : Int) < (en : Int) := by omega
             have y6 : ¬ (en : Int) < (b : Int) := by omega
             clear cA cB cC cD hen2 hen
             have T1 := Lib.hid (ROT.out.2 (by rw [l2.out, l3.out]; omega))
             replace FI := Lib.hid (fun (W : World) hT => FI.out.2 W hT (by rw [l1.out, l3.out]; omega))
             replace SE := Lib.hid (fun (W : World) hT => SE.out.2 W hT (by rw [l2.out, l4.out]; omega))
             go_wp2_with (fail)
             have T2 := Lib.hid (FI.out wo T1.out)
             have T3 := Lib.hid (SE.out wo T2.out)
             go_end0
             exact T3.out)
        · -- 0011
          first
          | (exfalso; clear ROT FI SE; omega)
          | (have y1 : ¬ (s : Int) < (m : Int) := by omega
             have y2 : ¬ (m : Int) < (en : Int) := by omega
             have y3 : (a : Int) < (s : Int) := by omega
             have y4 : ¬ (s : Int) < (mid : Int) := by omega
             have y5 : ¬ (mid : Int) < (en : Int) := by omega
             have y6 : (en : Int) < (b : Int) := by omega
             clear cA cB cC cD hen2 hen
             have T1 := Lib.hid (ROT.out.2 (by rw [l2.out, l3.out]; omega))
             replace FI := Lib.hid (fun (W : World) hT => FI.out.2 W hT (by rw [l1.out, l3.out]; omega))
             replace SE := Lib.hid (fun (W : World) hT => SE.out.2 W hT (by rw [l2.out, l4.out]; omega))
             go_wp2_with (fail)
             have T2 := Lib.hid (FI.out wo T1.out)
             have T3 := Lib.hid (SE.out wo T2.out)
             go_end0
             exact T3.out)
        · -- 0010
          first
          | (exfalso; clear ROT FI SE; omega)
          | (have y1 : ¬ (s : Int) < (m : Int) := by omega
             have y2 : ¬ (m : Int) < (en : Int) := by omega
             have y3 : (a : Int) < (s : Int) := by omega
             have y4 : ¬ (s : Int) < (mid : Int) := by omega
             have y5 : ¬ (mid : Int) < (en : Int) := by omega
             have y6 : ¬ (en : Int) < (b : Int) := by omega
             clear cA cB cC cD hen2 hen
             have T1 := Lib.hid (ROT.out.2 (by rw [l2.out, l3.out]; omega))
             replace FI := Lib.hid (fun (W : World) hT => FI.out.2 W hT (by rw [l1.out, l3.out]; omega))
             replace SE := Lib.hid (fun (W : World) hT => SE.out.2 W hT (by rw [l2.out, l4.out]; omega))
             go_wp2_with (fail)
             have T2 := Lib.hid (FI.out wo T1.out)
             have T3 := Lib.hid (SE.out wo T2.out)
             go_end0
             exact T3.out)
        · -- 0001
          first
          | (exfalso; clear ROT FI SE; omega)
          | (have y1 : ¬ (s : Int) < (m : Int) := by omega
             have y2 : ¬ (m : Int) < (en : Int) := by omega
             have y3 : ¬ (a : Int) < (s : Int) := by omega
             have y4 : ¬ (s : Int) < (mid : Int) := by omega
             have y5 : ¬ (mid : Int) < (en : Int) := by omega
             have y6 : (en : Int) < (b : Int) := by omega
             clear cA cB cC cD hen2 hen
             have T1 := Lib.hid (ROT.out.2 (by rw [l2.out, l3.out]; omega))
             replace FI := Lib.hid (fun (W : World) hT => FI.out.2 W hT (by rw [l1.out, l3.out]; omega))
             replace SE := Lib.hid (fun (W : World) hT => SE.out.2 W hT (by rw [l2.out, l4.out]; omega))
             go_wp2_with (fail)
             have T2 := Lib.hid (FI.out wo T1.out)
             have T3 := Lib.hid (SE.out wo T2.out)
             go_end0
             exact T3.out)
        · -- 0000
          first
          | (exfalso; clear ROT FI SE; omega)
          | (have y1 : ¬ (s : Int) < (m : Int) := by omega
             have y2 : ¬ (m : Int) < (en : Int) := by omega
             have y3 : ¬ (a : Int) < (s : Int) := by omega
             have y4 : ¬ (s : Int) < (mid : Int) := by omega
             have y5 : ¬ (mid : Int) < (en : Int) := by omega
             have y6 : ¬ (en : Int) < (b : Int) := by omega
             clear cA cB cC cD hen2 hen
             have T1 := Lib.hid (ROT.out.2 (by rw [l2.out, l3.out]; omega))
             replace FI := Lib.hid (fun (W : World) hT => FI.out.2 W hT (by rw [l1.out, l3.out]; omega))
             replace SE := Lib.hid (fun (W : World) hT => SE.out.2 W hT (by rw [l2.out, l4.out]; omega))
             go_wp2_with (fail)
             have T2 := Lib.hid (FI.out wo T1.out)
             have T3 := Lib.hid (SE.out wo T2.out)
             go_end0
             exact T3.out)
  · have t0 : (mid : Int) < (m : Int) := by omega
    have elo : (p1 : Int) + 1 - (b : Int) = (lo : Int) := by omega
    have q3' := q3.symm
    clear q3
    subst q3'
    clear q1 q2 hp1'
    go_enter Try.func23, Try.ntmps23
    go_wp2_with (fail)
    clear t0 elo
    go_loopw [20, 21] (fun iv jv wr => ∃ (s r : Nat), iv = .int .i64 s ∧ jv = .int .i64 r ∧ Hid (SymR (ltC cf) L R a mid lo mid s r) ∧ Hid (Ext w wr)) (fun iv jv _ => (intOf jv).toNat - (intOf iv).toNat)
    case atStart => exact ⟨_, _, rfl, rfl, HS0, Ext.rf _⟩
    case round =>
      obtain ⟨wo, rfl⟩ : ∃ wo : World, wo = wr := ⟨_, rfl⟩
      obtain ⟨s, r, rfl, rfl, HB, Y⟩ := hrel
      clear HS0 mvm env
      obtain ⟨g1, g2, g3, _, _⟩ := HB.out
      by_cases hsr : s < r
      · obtain ⟨cc, hcc⟩ : ∃ cc, Hid (cc = (s + r) / 2) := ⟨_, rfl⟩
        have c1 : s ≤ cc := by rw [hcc.out]; omega
        have c2 : cc < r := by rw [hcc.out]; omega
        have mvc : ((s : Int) + (r : Int)) / 2 = (cc : Int) := by rw [hcc.out]; omega
        obtain ⟨hL, hR⟩ := HLR.out
        obtain ⟨pc, hpc⟩ : ∃ pc, Hid (pc = m + (mid - 1 - cc)) := ⟨_, rfl⟩
        have hpc' := hpc.out
        have hp1' := hp1.out
        have hcs := HC
        unfold SymCase at hcs
        have epc : (p1 : Int) - (cc : Int) = (pc : Int) := by omega
        have pcb : pc < N := by omega
        have ccN : cc < N := by omega
        have ex : L[cc - a]? = some (L[cc - a]'(by omega)) := List.getElem?_eq_getElem _
        have ey : R[mid - 1 - cc]? = some (R[mid - 1 - cc]'(by omega)) := List.getElem?_eq_getElem _
        generalize L[cc - a]'(by omega) = x at ex
        generalize R[mid - 1 - cc]'(by omega) = y at ey
        have hxn := hn.out x (List.mem_append_left _ (List.mem_of_getElem? ex))
        have hyn := hn.out y (List.mem_append_right _ (List.mem_of_getElem? ey))
        have cx : CellR wo base g (cc) x := (h.out.ext Y.out).at (P := P) (j := cc - a) (by rw [List.getElem?_append_left (by omega)]; exact ex) (by have := ha.out; omega)
        have cy : CellR wo base g (pc) y := (h.out.ext Y.out).at (P := P) (j := L.length + (mid - 1 - cc)) (by rw [List.getElem?_append_right (by omega), Nat.add_sub_cancel_left, List.getElem?_append_left (by omega)]; exact ey) (by have := ha.out; omega)
        have st1 := Lib.hid (HB.out.left c1 c2 ex ey)
        have st2 := Lib.hid (HB.out.right c1 c2 ex ey)
        have hg : g < wo.heap.size := (h.out.ext Y.out).lt.2
        have cc0 : (0 : Int) ≤ (cc : Int) := by omega
        have ccN2 : (cc : Int) < (N : Int) := by omega
        have pc0 : (0 : Int) ≤ (pc : Int) := by omega
        have pcN2 : (pc : Int) < (N : Int) := by omega
        have wpc : IntKind.i64.wrap ((p1 : Int) - (cc : Int)) = (pc : Int) := by rw [epc]; exact IntWalk.i64_in _ (by omega)
        have wpc2 : IntKind.i64.wrap (pc : Int) = (pc : Int) := IntWalk.i64_in _ (by omega)
        obtain ⟨cx, cx'⟩ := cx
        obtain ⟨cy, cy'⟩ := cy
        have hM := Lib.hid (Mod.of_ext (S := fun k => k = g) Y.out)
        have hc : ∀ W, Ext wo W → Calls Try.prog f (#[base.v y, base.v x] ++ lb) W fun e W' => e = .returned (.int .i64 (cf y x)) ∧ Ext W W' := fun W hW => hcmp.out _ y x hyn hxn (hM.out.ext hW)
        clear ex ey hpc' hp1' hL hR hcs
        by_cases hlv : cf y x < 0
        · replace st2 := Lib.hid (st2.out (decide_eq_true hlv))
          have hlb : decide (cf y x < 0) = true := decide_eq_true hlv
          clear st1
          go_wp2_with (fail)
          go_region_held3 (fun W => W.cell? ⟨g, cc * 2, none⟩ = some (.int .i64 (base.kd x)) ∧ W.cell? ⟨g, cc * 2 + 1, none⟩ = some (.slice (base.ad x) (base.ln x) (base.cp x)) ∧ W.cell? ⟨g, pc * 2, none⟩ = some (.int .i64 (base.kd y)) ∧ W.cell? ⟨g, pc * 2 + 1, none⟩ = some (.slice (base.ad y) (base.ln y) (base.cp y))) (go_keep)
            (first | (go_at_fn f; refine (hc _ (by (repeat (first | assumption | exact Ext.rf _ | apply Ext.drew | apply Ext.drewN | apply Ext.alloc)))).mono ?_; rintro e w2 ⟨rfl, x2⟩; have y2 := Ext.tr (a := wo) (by (repeat (first | assumption | exact Ext.rf _ | apply Ext.drew | apply Ext.drewN | apply Ext.alloc))) x2; have s1 := keepEL y2 hg cx; have s2 := keepEL y2 hg cx'; have s3 := keepEL y2 hg cy; have s4 := keepEL y2 hg cy'))
          go_wp2_with (fail)
          go_roundw
          case rel => exact ⟨s, cc, rfl, rfl, st2.out, Y.out.tr (by assumption)⟩
          case measure => simp [intOf] <;> omega
        · replace st1 := Lib.hid (st1.out (decide_eq_false hlv))
          have hlb : decide (cf y x < 0) = false := decide_eq_false hlv
          clear st2
          go_wp2_with (fail)
          go_region_held3 (fun W => W.cell? ⟨g, cc * 2, none⟩ = some (.int .i64 (base.kd x)) ∧ W.cell? ⟨g, cc * 2 + 1, none⟩ = some (.slice (base.ad x) (base.ln x) (base.cp x)) ∧ W.cell? ⟨g, pc * 2, none⟩ = some (.int .i64 (base.kd y)) ∧ W.cell? ⟨g, pc * 2 + 1, none⟩ = some (.slice (base.ad y) (base.ln y) (base.cp y))) (go_keep)
            (first | (go_at_fn f; refine (hc _ (by (repeat (first | assumption | exact Ext.rf _ | apply Ext.drew | apply Ext.drewN | apply Ext.alloc)))).mono ?_; rintro e w2 ⟨rfl, x2⟩; have y2 := Ext.tr (a := wo) (by (repeat (first | assumption | exact Ext.rf _ | apply Ext.drew | apply Ext.drewN | apply Ext.alloc))) x2; have s1 := keepEL y2 hg cx; have s2 := keepEL y2 hg cx'; have s3 := keepEL y2 hg cy; have s4 := keepEL y2 hg cy'))
          go_wp2_with (fail)
          go_roundw
          case rel => exact ⟨cc + 1, r, by go_num, rfl, st1.out, Y.out.tr (by assumption)⟩
          case measure => simp [intOf] <;> omega
      · obtain rfl : s = r := by omega
        obtain ⟨hL, hR⟩ := HLR.out
        have hN' := hN.out
        have hA := sym_cut hw.out sl.out sr.out hlt.out hL hR HB.out HC k3.2.2.1 k4.1
        obtain ⟨en, hen⟩ : ∃ en, Hid (en = m + (mid - s)) := ⟨_, rfl⟩
        have hen' := hen.out
        have hp1' := hp1.out
        have een : (p1 : Int) + 1 - (s : Int) = (en : Int) := by omega
        have eL : L = L.take (s - a) ++ L.drop (s - a) := (List.take_append_drop _ _).symm
        have hcs := HC
        unfold SymCase at hcs
        have hmr : mid - s ≤ R.length := by omega
        have eR : R = R.take (mid - s) ++ R.drop (mid - s) := (List.take_append_drop _ _).symm
        have l1 : (L.take (s - a)).length = s - a := by rw [List.length_take]; omega
        have l2 : (L.drop (s - a)).length = m - s := by rw [List.length_drop]; omega
        have l3 : (R.take (mid - s)).length = mid - s := by rw [List.length_take]; omega
        have l4 : (R.drop (mid - s)).length = b - en := by rw [List.length_drop]; omega
        generalize L.take (s - a) = L1 at *
        generalize L.drop (s - a) = L2 at *
        generalize R.take (mid - s) = R1 at *
        generalize R.drop (mid - s) = R2 at *
        have hO := h.out.ext Y.out
        have sl' := sl.out
        have sr' := sr.out
        have hlt' := hlt.out
        have hn' := hn.out
        rw [eL] at sl' hlt' hO hN' hn'
        rw [eR] at sr' hlt' hO hN' hn'
        simp only [List.append_assoc] at hO hN'
        have sl1 := pairwise_app.1 sl'
        have sr1 := pairwise_app.1 sr'
        have ap1 := Apart.app_left.1 hlt'
        have ROT := rotate_t1 (m := m) (en := en) (s := s) (.func (.func f) #[] lb) hO (Mod.of_ext Y.out) hN' ha.out (by omega) (by omega) (by omega) hl
        have FI := IH.out.first (s := s) (mid := mid) (by omega) hN' ha.out (by omega) (by omega) sl1.1 sr1.1 (Apart.app_right.1 ap1.1).1 (fun x hx => hn' x (by rcases List.mem_append.1 hx with h9 | h9 <;> simp [h9]))
        have SE := IH.out.second (b := b) (mid := mid) (en := en) (by omega) hN' ha.out (by omega) (by omega) (by omega) sl1.2.1 sr1.2.1 (Apart.app_right.1 ap1.2).2 (fun x hx => hn' x (by rcases List.mem_append.1 hx with h9 | h9 <;> simp [h9])) hA eL eR
        replace ROT := Lib.hid ROT
        replace FI := Lib.hid FI
        replace SE := Lib.hid SE
        have f1 : s ≤ m := by omega
        have f2 : s ≤ mid := by omega
        have f3 : a ≤ s := by omega
        have f4 : en ≤ b := by omega
        have e1 : L1.length = s - a := l1
        clear hO hN' sl' sr' hlt' hn' sl1 sr1 ap1 hA eL eR hL hR hp1' hcs hmr HB e1
        have hen2 : en + s = m + mid := by omega
        clear hen' hsr
        replace l1 := Lib.hid l1
        replace l2 := Lib.hid l2
        replace l3 := Lib.hid l3
        replace l4 := Lib.hid l4
        by_cases cA : s < m <;> by_cases cB : s < mid <;> by_cases cC : a < s <;> by_cases cD : en < b
        · -- 1111
          first
          | (exfalso; clear ROT FI SE; omega)
          | (have y1 : (s : Int) < (m : Int) := by omega
             have y2 : (m : Int) < (en : Int) := by omega
             have y3 : (a : Int) < (s : Int) := by omega
             have y4 : (s : Int) < (mid : Int) := by omega
             have y5 : (mid : Int) < (en : Int) := by omega
             have y6 : (en : Int) < (b : Int) := by omega
             clear cA cB cC cD hen2 hen
             replace ROT := Lib.hid (ROT.out.1 (by rw [l2.out]; omega) (by rw [l3.out]; omega))
             replace FI := Lib.hid (fun (W : World) hT => FI.out.1 W hT (by rw [l1.out]; omega) (by rw [l3.out]; omega))
             replace SE := Lib.hid (fun (W : World) hT => SE.out.1 W hT (by rw [l2.out]; omega) (by rw [l4.out]; omega))
             go_wp2_with (fail)
             refine ROT.out.mono ?_
             rintro e w1 ⟨rfl, T1⟩
             replace T1 := Lib.hid T1
             go_wp2_with (fail)
             refine (FI.out w1 T1.out).mono ?_
             rintro e w2 ⟨rfl, T2⟩
             replace T2 := Lib.hid T2
             go_wp2_with (fail)
             refine (SE.out w2 T2.out).mono ?_
             rintro e w3 HS3
             obtain ⟨M3, i3, rfl, o3, m3⟩ := HS3
             have T3 : Hid (SortedPost base g c (ltC cf) P (L ++ R) Q w (.returned (.tuple #[])) w3) := ⟨M3, i3, rfl, o3, m3⟩
             clear i3 o3 m3
             go_wp2_with (fail)
             go_end0
             exact T3.out)
        · -- 1110
          first
          | (exfalso; clear ROT FI SE; omega)
          | (have y1 : (s : Int) < (m : Int) := by omega
             have y2 : (m : Int) < (en : Int) := by omega
             have y3 : (a : Int) < (s : Int) := by omega
             have y4 : (s : Int) < (mid : Int) := by omega
             have y5 : (mid : Int) < (en : Int) := by omega
             have y6 : ¬ (en : Int) < (b : Int) := by omega
             clear cA cB cC cD hen2 hen
             replace ROT := Lib.hid (ROT.out.1 (by rw [l2.out]; omega) (by rw [l3.out]; omega))
             replace FI := Lib.hid (fun (W : World) hT => FI.out.1 W hT (by rw [l1.out]; omega) (by rw [l3.out]; omega))
             replace SE := Lib.hid (fun (W : World) hT => SE.out.2 W hT (by rw [l2.out, l4.out]; omega))
             go_wp2_with (fail)
             refine ROT.out.mono ?_
             rintro e w1 ⟨rfl, T1⟩
             replace T1 := Lib.hid T1
             go_wp2_with (fail)
             refine (FI.out w1 T1.out).mono ?_
             rintro e w2 ⟨rfl, T2⟩
             replace T2 := Lib.hid T2
             go_wp2_with (fail)
             have T3 := Lib.hid (SE.out w2 T2.out)
             go_end0
             exact T3.out)
        · -- 1101
          first
          | (exfalso; clear ROT FI SE; omega)
          | (have y1 : (s : Int) < (m : Int) := by omega
             have y2 : (m : Int) < (en : Int) := by omega
             have y3 : ¬ (a : Int) < (s : Int) := by omega
             have y4 : (s : Int) < (mid : Int) := by omega
             have y5 : (mid : Int) < (en : Int) := by omega
             have y6 : (en : Int) < (b : Int) := by omega
             clear cA cB cC cD hen2 hen
             replace ROT := Lib.hid (ROT.out.1 (by rw [l2.out]; omega) (by rw [l3.out]; omega))
             replace FI := Lib.hid (fun (W : World) hT => FI.out.2 W hT (by rw [l1.out, l3.out]; omega))
             replace SE := Lib.hid (fun (W : World) hT => SE.out.1 W hT (by rw [l2.out]; omega) (by rw [l4.out]; omega))
             go_wp2_with (fail)
             refine ROT.out.mono ?_
             rintro e w1 ⟨rfl, T1⟩
             replace T1 := Lib.hid T1
             go_wp2_with (fail)
             have T2 := Lib.hid (FI.out w1 T1.out)
             refine (SE.out w1 T2.out).mono ?_
             rintro e w3 HS3
             obtain ⟨M3, i3, rfl, o3, m3⟩ := HS3
             have T3 : Hid (SortedPost base g c (ltC cf) P (L ++ R) Q w (.returned (.tuple #[])) w3) := ⟨M3, i3, rfl, o3, m3⟩
             clear i3 o3 m3
             go_wp2_with (fail)
             go_end0
             exact T3.out)
        · -- 1100
          first
          | (exfalso; clear ROT FI SE; omega)
          | (have y1 : (s : Int) < (m : Int) := by omega
             have y2 : (m : Int) < (en : Int) := by omega
             have y3 : ¬ (a : Int) < (s : Int) := by omega
             have y4 : (s : Int) < (mid : Int) := by omega
             have y5 : (mid : Int) < (en : Int) := by omega
             have y6 : ¬ (en : Int) < (b : Int) := by omega
             clear cA cB cC cD hen2 hen
             replace ROT := Lib.hid (ROT.out.1 (by rw [l2.out]; omega) (by rw [l3.out]; omega))
             replace FI := Lib.hid (fun (W : World) hT => FI.out.2 W hT (by rw [l1.out, l3.out]; omega))
             replace SE := Lib.hid (fun (W : World) hT => SE.out.2 W hT (by rw [l2.out, l4.out]; omega))
             go_wp2_with (fail)
             refine ROT.out.mono ?_
             rintro e w1 ⟨rfl, T1⟩
             replace T1 := Lib.hid T1
             go_wp2_with (fail)
             have T2 := Lib.hid (FI.out w1 T1.out)
             have T3 := Lib.hid (SE.out w1 T2.out)
             go_end0
             exact T3.out)
        · -- 1011
          first
          | (exfalso; clear ROT FI SE; omega)
          | (have y1 : (s : Int) < (m : Int) := by omega
             have y2 : ¬ (m : Int) < (en : Int) := by omega
             have y3 : (a : Int) < (s : Int) := by omega
             have y4 : ¬ (s : Int) < (mid : Int) := by omega
             have y5 : (mid : Int) < (en : Int) := by omega
             have y6 : (en : Int) < (b : Int) := by omega
             clear cA cB cC cD hen2 hen
             have T1 := Lib.hid (ROT.out.2 (by rw [l2.out, l3.out]; omega))
             replace FI := Lib.hid (fun (W : World) hT => FI.out.2 W hT (by rw [l1.out, l3.out]; omega))
             replace SE := Lib.hid (fun (W : World) hT => SE.out.1 W hT (by rw [l2.out]; omega) (by rw [l4.out]; omega))
             go_wp2_with (fail)
             have T2 := Lib.hid (FI.out wo T1.out)
             refine (SE.out wo T2.out).mono ?_
             rintro e w3 HS3
             obtain ⟨M3, i3, rfl, o3, m3⟩ := HS3
             have T3 : Hid (SortedPost base g c (ltC cf) P (L ++ R) Q w (.returned (.tuple #[])) w3) := ⟨M3, i3, rfl, o3, m3⟩
             clear i3 o3 m3
             go_wp2_with (fail)
             go_end0
             exact T3.out)
        · -- 1010
          first
          | (exfalso; clear ROT FI SE; omega)
          | (have y1 : (s : Int) < (m : Int) := by omega
             have y2 : ¬ (m : Int) < (en : Int) := by omega
             have y3 : (a : Int) < (s : Int) := by omega
             have y4 : ¬ (s : Int) < (mid : Int) := by omega
             have y5 : (mid : Int) < (en : Int) := by omega
             have y6 : ¬ (en : Int) < (b : Int) := by omega
             clear cA cB cC cD hen2 hen
             have T1 := Lib.hid (ROT.out.2 (by rw [l2.out, l3.out]; omega))
             replace FI := Lib.hid (fun (W : World) hT => FI.out.2 W hT (by rw [l1.out, l3.out]; omega))
             replace SE := Lib.hid (fun (W : World) hT => SE.out.2 W hT (by rw [l2.out, l4.out]; omega))
             go_wp2_with (fail)
             have T2 := Lib.hid (FI.out wo T1.out)
             have T3 := Lib.hid (SE.out wo T2.out)
             go_end0
             exact T3.out)
        · -- 1001
          first
          | (exfalso; clear ROT FI SE; omega)
          | (have y1 : (s : Int) < (m : Int) := by omega
             have y2 : ¬ (m : Int) < (en : Int) := by omega
             have y3 : ¬ (a : Int) < (s : Int) := by omega
             have y4 : ¬ (s : Int) < (mid : Int) := by omega
             have y5 : (mid : Int) < (en : Int) := by omega
             have y6 : (en : Int) < (b : Int) := by omega
             clear cA cB cC cD hen2 hen
             have T1 := Lib.hid (ROT.out.2 (by rw [l2.out, l3.out]; omega))
             replace FI := Lib.hid (fun (W : World) hT => FI.out.2 W hT (by rw [l1.out, l3.out]; omega))
             replace SE := Lib.hid (fun (W : World) hT => SE.out.1 W hT (by rw [l2.out]; omega) (by rw [l4.out]; omega))
             go_wp2_with (fail)
             have T2 := Lib.hid (FI.out wo T1.out)
             refine (SE.out wo T2.out).mono ?_
             rintro e w3 HS3
             obtain ⟨M3, i3, rfl, o3, m3⟩ := HS3
             have T3 : Hid (SortedPost base g c (ltC cf) P (L ++ R) Q w (.returned (.tuple #[])) w3) := ⟨M3, i3, rfl, o3, m3⟩
             clear i3 o3 m3
             go_wp2_with (fail)
             go_end0
             exact T3.out)
        · -- 1000
          first
          | (exfalso; clear ROT FI SE; omega)
          | (have y1 : (s : Int) < (m : Int) := by omega
             have y2 : ¬ (m : Int) < (en : Int) := by omega
             have y3 : ¬ (a : Int) < (s : Int) := by omega
             have y4 : ¬ (s : Int) < (mid : Int) := by omega
             have y5 : (mid : Int) < (en : Int) := by omega
             have y6 : ¬ (en : Int) < (b : Int) := by omega
             clear cA cB cC cD hen2 hen
             have T1 := Lib.hid (ROT.out.2 (by rw [l2.out, l3.out]; omega))
             replace FI := Lib.hid (fun (W : World) hT => FI.out.2 W hT (by rw [l1.out, l3.out]; omega))
             replace SE := Lib.hid (fun (W : World) hT => SE.out.2 W hT (by rw [l2.out, l4.out]; omega))
             go_wp2_with (fail)
             have T2 := Lib.hid (FI.out wo T1.out)
             have T3 := Lib.hid (SE.out wo T2.out)
             go_end0
             exact T3.out)
        · -- 0111
          first
          | (exfalso; clear ROT FI SE; omega)
          | (have y1 : ¬ (s : Int) < (m : Int) := by omega
             have y2 : (m : Int) < (en : Int) := by omega
             have y3 : (a : Int) < (s : Int) := by omega
             have y4 : (s : Int) < (mid : Int) := by omega
             have y5 : ¬ (mid : Int) < (en : Int) := by omega
             have y6 : (en : Int) < (b : Int) := by omega
             clear cA cB cC cD hen2 hen
             have T1 := Lib.hid (ROT.out.2 (by rw [l2.out, l3.out]; omega))
             replace FI := Lib.hid (fun (W : World) hT => FI.out.1 W hT (by rw [l1.out]; omega) (by rw [l3.out]; omega))
             replace SE := Lib.hid (fun (W : World) hT => SE.out.2 W hT (by rw [l2.out, l4.out]; omega))
             go_wp2_with (fail)
             refine (FI.out wo T1.out).mono ?_
             rintro e w2 ⟨rfl, T2⟩
             replace T2 := Lib.hid T2
             go_wp2_with (fail)
             have T3 := Lib.hid (SE.out w2 T2.out)
             go_end0
             exact T3.out)
        · -- 0110
          first
          | (exfalso; clear ROT FI SE; omega)
          | (have y1 : ¬ (s : Int) < (m : Int) := by omega
             have y2 : (m : Int) < (en : Int) := by omega
             have y3 : (a : Int) < (s : Int) := by omega
             have y4 : (s : Int) < (mid : Int) := by omega
             have y5 : ¬ (mid : Int) < (en : Int) := by omega
             have y6 : ¬ (en : Int) < (b : Int) := by omega
             clear cA cB cC cD hen2 hen
             have T1 := Lib.hid (ROT.out.2 (by rw [l2.out, l3.out]; omega))
             replace FI := Lib.hid (fun (W : World) hT => FI.out.1 W hT (by rw [l1.out]; omega) (by rw [l3.out]; omega))
             replace SE := Lib.hid (fun (W : World) hT => SE.out.2 W hT (by rw [l2.out, l4.out]; omega))
             go_wp2_with (fail)
             refine (FI.out wo T1.out).mono ?_
             rintro e w2 ⟨rfl, T2⟩
             replace T2 := Lib.hid T2
             go_wp2_with (fail)
             have T3 := Lib.hid (SE.out w2 T2.out)
             go_end0
             exact T3.out)
        · -- 0101
          first
          | (exfalso; clear ROT FI SE; omega)
          | (have y1 : ¬ (s : Int) < (m : Int) := by omega
             have y2 : (m : Int) < (en : Int) := by omega
             have y3 : ¬ (a : Int) < (s : Int) := by omega
             have y4 : (s : Int) < (mid : Int) := by omega
             have y5 : ¬ (mid : Int) < (en : Int) := by omega
             have y6 : (en : Int) < (b : Int) := by omega
             clear cA cB cC cD hen2 hen
             have T1 := Lib.hid (ROT.out.2 (by rw [l2.out, l3.out]; omega))
             replace FI := Lib.hid (fun (W : World) hT => FI.out.2 W hT (by rw [l1.out, l3.out]; omega))
             replace SE := Lib.hid (fun (W : World) hT => SE.out.2 W hT (by rw [l2.out, l4.out]; omega))
             go_wp2_with (fail)
             have T2 := Lib.hid (FI.out wo T1.out)
             have T3 := Lib.hid (SE.out wo T2.out)
             go_end0
             exact T3.out)
        · -- 0100
          first
          | (exfalso; clear ROT FI SE; omega)
          | (have y1 : ¬ (s : Int) < (m : Int) := by omega
             have y2 : (m : Int) < (en : Int) := by omega
             have y3 : ¬ (a : Int) < (s : Int) := by omega
             have y4 : (s : Int) < (mid : Int) := by omega
             have y5 : ¬ (mid : Int) < (en : Int) := by omega
             have y6 : ¬ (en : Int) < (b : Int) := by omega
             clear cA cB cC cD hen2 hen
             have T1 := Lib.hid (ROT.out.2 (by rw [l2.out, l3.out]; omega))
             replace FI := Lib.hid (fun (W : World) hT => FI.out.2 W hT (by rw [l1.out, l3.out]; omega))
             replace SE := Lib.hid (fun (W : World) hT => SE.out.2 W hT (by rw [l2.out, l4.out]; omega))
             go_wp2_with (fail)
             have T2 := Lib.hid (FI.out wo T1.out)
             have T3 := Lib.hid (SE.out wo T2.out)
             go_end0
             exact T3.out)
        · -- 0011
          first
          | (exfalso; clear ROT FI SE; omega)
          | (have y1 : ¬ (s : Int) < (m : Int) := by omega
             have y2 : ¬ (m : Int) < (en : Int) := by omega
             have y3 : (a : Int) < (s : Int) := by omega
             have y4 : ¬ (s : Int) < (mid : Int) := by omega
             have y5 : ¬ (mid : Int) < (en : Int) := by omega
             have y6 : (en : Int) < (b : Int) := by omega
             clear cA cB cC cD hen2 hen
             have T1 := Lib.hid (ROT.out.2 (by rw [l2.out, l3.out]; omega))
             replace FI := Lib.hid (fun (W : World) hT => FI.out.2 W hT (by rw [l1.out, l3.out]; omega))
             replace SE := Lib.hid (fun (W : World) hT => SE.out.2 W hT (by rw [l2.out, l4.out]; omega))
             go_wp2_with (fail)
             have T2 := Lib.hid (FI.out wo T1.out)
             have T3 := Lib.hid (SE.out wo T2.out)
             go_end0
             exact T3.out)
        · -- 0010
          first
          | (exfalso; clear ROT FI SE; omega)
          | (have y1 : ¬ (s : Int) < (m : Int) := by omega
             have y2 : ¬ (m : Int) < (en : Int) := by omega
             have y3 : (a : Int) < (s : Int) := by omega
             have y4 : ¬ (s : Int) < (mid : Int) := by omega
             have y5 : ¬ (mid : Int) < (en : Int) := by omega
             have y6 : ¬ (en : Int) < (b : Int) := by omega
             clear cA cB cC cD hen2 hen
             have T1 := Lib.hid (ROT.out.2 (by rw [l2.out, l3.out]; omega))
             replace FI := Lib.hid (fun (W : World) hT => FI.out.2 W hT (by rw [l1.out, l3.out]; omega))
             replace SE := Lib.hid (fun (W : World) hT => SE.out.2 W hT (by rw [l2.out, l4.out]; omega))
             go_wp2_with (fail)
             have T2 := Lib.hid (FI.out wo T1.out)
             have T3 := Lib.hid (SE.out wo T2.out)
             go_end0
             exact T3.out)
        · -- 0001
          first
          | (exfalso; clear ROT FI SE; omega)
          | (have y1 : ¬ (s : Int) < (m : Int) := by omega
             have y2 : ¬ (m : Int) < (en : Int) := by omega
             have y3 : ¬ (a : Int) < (s : Int) := by omega
             have y4 : ¬ (s : Int) < (mid : Int) := by omega
             have y5 : ¬ (mid : Int) < (en : Int) := by omega
             have y6 : (en : Int) < (b : Int) := by omega
             clear cA cB cC cD hen2 hen
             have T1 := Lib.hid (ROT.out.2 (by rw [l2.out, l3.out]; omega))
             replace FI := Lib.hid (fun (W : World) hT => FI.out.2 W hT (by rw [l1.out, l3.out]; omega))
             replace SE := Lib.hid (fun (W : World) hT => SE.out.2 W hT (by rw [l2.out, l4.out]; omega))
             go_wp2_with (fail)
             have T2 := Lib.hid (FI.out wo T1.out)
             have T3 := Lib.hid (SE.out wo T2.out)
             go_end0
             exact T3.out)
        · -- 0000
          first
          | (exfalso; clear ROT FI SE; omega)
          | (have y1 : ¬ (s : Int) < (m : Int) := by omega
             have y2 : ¬ (m : Int) < (en : Int) := by omega
             have y3 : ¬ (a : Int) < (s : Int) := by omega
             have y4 : ¬ (s : Int) < (mid : Int) := by omega
             have y5 : ¬ (mid : Int) < (en : Int) := by omega
             have y6 : ¬ (en : Int) < (b : Int) := by omega
             clear cA cB cC cD hen2 hen
             have T1 := Lib.hid (ROT.out.2 (by rw [l2.out, l3.out]; omega))
             replace FI := Lib.hid (fun (W : World) hT => FI.out.2 W hT (by rw [l1.out, l3.out]; omega))
             replace SE := Lib.hid (fun (W : World) hT => SE.out.2 W hT (by rw [l2.out, l4.out]; omega))
             go_wp2_with (fail)
             have T2 := Lib.hid (FI.out wo T1.out)
             have T3 := Lib.hid (SE.out wo T2.out)
             go_end0
             exact T3.out)
end Go.Proofs.Ytpngflmngnjjoaa
