/-
  The library's stable sort of records, whole.
-/
import Derived.Test.YtpngflmngnjjoaaRecE
import Derived.Test.YtpngflmngnjjoaaSortP1
namespace Go.Proofs.Ytpngflmngnjjoaa
open Go.RowKit Go.ChangeShapes Go.WideShapes Go.ChangeAt Go.Deep

theorem sym_any (base : RB) (g c : Nat) (f : Nat) (lb : Array Value) (cf : Nat → Nat → Int) (nn N : Nat) (hw : Weak (ltC cf)) (eg : ∀ args w, (callFunc f args).run Try.prog w = .ok (.enter f args) w) (hl : N ≤ 1000000000) : ∀ (d a m b : Nat) (P L R Q : List Nat) (w : World), b - a ≤ d → CmpOk base f lb cf nn g w →
    OwN w base g c (P ++ (L ++ (R ++ Q))) → (P ++ (L ++ (R ++ Q))).length = N → P.length = a → a + L.length = m → m + R.length = b → 0 < L.length → 0 < R.length → Srt (ltC cf) L → Srt (ltC cf) R → Apart (· < ·) L R → (∀ x ∈ L ++ R, x < nn) →
    Calls Try.prog 23 #[.slice (some ⟨g, 0, none⟩) N c, .int .i64 a, .int .i64 m, .int .i64 b, .func (.func f) #[] lb] w (SortedPost base g c (ltC cf) P (L ++ R) Q w)
  | 0, a, m, b, P, L, R, Q, w => fun hd _ _ _ _ h1 h2 h3 h4 _ _ _ _ => by exfalso; omega
  | d + 1, a, m, b, P, L, R, Q, w => fun hd hcmp h hN ha hL hR h1 h2 sl sr hlt hn => by
    by_cases c1 : L.length = 1
    · obtain ⟨x, rfl⟩ := List.length_eq_one_iff.1 c1
      exact sym_left base g c f lb cf nn a m b N x P R Q w hw eg hcmp h hN ha (by simpa using hL) hR sr hlt (hn x (by simp)) (fun y hy => hn y (by simp [hy])) hl
    · by_cases c2 : R.length = 1
      · obtain ⟨y, rfl⟩ := List.length_eq_one_iff.1 c2
        exact sym_right base g c f lb cf nn a m b N y P L Q w hw eg hcmp h hN ha hL (by simpa using hR) (by omega) sl hlt (hn y (by simp)) (fun x hx => hn x (by simp [hx])) hl
      · have IH : SymIH base g c f lb cf nn N (b - a) w := fun a' m' b' P' L' R' Q' W hd' hM h' hN' ha' hL' hR' h1' h2' sl' sr' hlt' hn' =>
          sym_any base g c f lb cf nn N hw eg hl d a' m' b' P' L' R' Q' W (by omega) (hcmp.mod hM) h' hN' ha' hL' hR' h1' h2' sl' sr' hlt' hn'
        by_cases hm : m ≤ (a + b) / 2
        · exact sym_mid base g c f lb cf nn a m b N _ a m P L R Q w hw eg hcmp IH h hN ha hL hR (by omega) (by omega) sl sr hlt hn hl rfl (.inl ⟨hm, rfl, rfl⟩)
        · exact sym_mid base g c f lb cf nn a m b N _ ((a + b) / 2 + m - b) ((a + b) / 2) P L R Q w hw eg hcmp IH h hN ha hL hR (by omega) (by omega) sl sr hlt hn hl rfl (.inr ⟨by omega, by omega, rfl⟩)
section
variable (base : RB) (g c f : Nat) (lb : Array Value) (cf : Nat → Nat → Int) (nn n : Nat) (l0 : List Nat) (w : World)
/-- the first pass: blocks of 20 up to a -/
def Ph1 (a : Nat) (W : World) : Prop := ∃ ms : List (List Nat), Bls (ltC cf) 20 ms ∧ (∀ x ∈ ms, x.length = 20) ∧ ms.flatten.Perm (l0.take a) ∧ a ≤ l0.length ∧ OwN W base g c (ms.flatten ++ l0.drop a) ∧ Mod (fun k => k = g) w W
/-- all is in blocks -/
def Ph2 (bs : Nat) (W : World) : Prop := ∃ ms : List (List Nat), Bls (ltC cf) bs ms ∧ ms.flatten.Perm l0 ∧ OwN W base g c ms.flatten ∧ Mod (fun k => k = g) w W
/-- up to a in blocks twice as long -/
def Ph3 (bs a : Nat) (W : World) : Prop := ∃ done todo : List (List Nat), Bls (ltC cf) (2 * bs) done ∧ (∀ x ∈ done, x.length = 2 * bs) ∧ Bls (ltC cf) bs todo ∧ done.flatten.length = a ∧ Apart (· < ·) done.flatten todo.flatten ∧ (done.flatten ++ todo.flatten).Perm l0 ∧ OwN W base g c (done.flatten ++ todo.flatten) ∧ Mod (fun k => k = g) w W
end
section
variable {base : RB} {g c f : Nat} {lb : Array Value} {cf : Nat → Nat → Int} {nn n : Nat} {l0 : List Nat} {w : World}
theorem Ph1.ins {a b : Nat} {W : World} (h : Ph1 base g c cf l0 w a W) (hw : Weak (ltC cf)) (eg : ∀ args w, (callFunc f args).run Try.prog w = .ok (.enter f args) w) (hcmp : CmpOk base f lb cf nn g w) (hr : l0.Pairwise (· < ·)) (hn : ∀ x ∈ l0, x < nn) (hN : l0.length = n) (hl : n ≤ 1000000000) (hab : a ≤ b) (hb : b ≤ n) (h20 : b ≤ a + 20) :
    Calls Try.prog 22 #[.slice (some ⟨g, 0, none⟩) n c, .int .i64 a, .int .i64 b, .func (.func f) #[] lb] W (DoneT fun W' => (b = a + 20 → Ph1 base g c cf l0 w b W') ∧ (b = n → Ph2 base g c cf l0 w 20 W')) := by
  obtain ⟨ms, h1, h2, h3, h4, h5, h6⟩ := h
  have e : l0.drop a = (l0.drop a).take (b - a) ++ l0.drop b := by
    have := (List.take_append_drop (b - a) (l0.drop a)).symm
    rwa [List.drop_drop, show a + (b - a) = b by omega] at this
  have hfl : ms.flatten.length = a := by rw [h3.length_eq, List.length_take]; omega
  have hSl : ((l0.drop a).take (b - a)).length = b - a := by rw [List.length_take, List.length_drop]; omega
  have hsub : ∀ x ∈ (l0.drop a).take (b - a), x ∈ l0 := fun x hx => List.mem_of_mem_drop (List.mem_of_mem_take hx)
  have hrise : Apart (· < ·) (l0.take a) ((l0.drop a).take (b - a)) := fun x hx y hy => Apart.rise (by rw [List.take_append_drop]; exact hr) x hx y (List.mem_of_mem_take hy)
  have hO := h5
  rw [e] at hO
  refine (insertion_any base g c f lb cf nn a b n ms.flatten ((l0.drop a).take (b - a)) (l0.drop b) W hw eg (hcmp.mod h6) hO ?_ hfl (by omega) ((hr.sublist (List.drop_sublist _ _)).sublist (List.take_sublist _ _)) (fun x hx => hn x (hsub x hx)) hl).mono ?_
  · simp only [List.length_append, List.length_drop, hfl, hSl]; omega
  rintro e' W' ⟨M, i1, rfl, o1, m1⟩
  have hap : Apart (· < ·) ms.flatten M := hrise.perm h3 i1.1
  have hMl : M.length = b - a := by rw [i1.len, hSl]
  refine ⟨rfl, fun hb20 => ⟨ms ++ [M], Bls.snoc i1.2 (by omega) (by omega) h1 h2 hap, ?_, ?_, by omega, ?_, h6.tr m1⟩, fun hbn => ?_⟩
  · intro x hx
    rcases List.mem_append.1 hx with hx | hx
    · exact h2 x hx
    · obtain rfl := List.mem_singleton.1 hx; omega
  · rw [List.flatten_append]
    have e2 : l0.take b = l0.take a ++ (l0.drop a).take (b - a) := by
      rw [← List.take_add, show a + (b - a) = b by omega]
    rw [e2]
    refine h3.append ?_
    simpa using i1.1
  · rw [List.flatten_append]
    simpa using o1
  · have e0 : l0.drop b = [] := List.drop_of_length_le (by omega)
    have hp : (ms.flatten ++ M).Perm l0 := by
      have := h3.append i1.1
      rw [e0, List.append_nil] at e
      rwa [← e, List.take_append_drop] at this
    rw [e0, List.append_nil] at o1
    by_cases hM0 : M.length = 0
    · have hM : M = [] := List.eq_nil_of_length_eq_zero hM0
      subst hM
      exact ⟨ms, h1, by simpa using hp, by simpa using o1, h6.tr m1⟩
    · exact ⟨ms ++ [M], Bls.snoc i1.2 (by omega) (by omega) h1 h2 hap, by rw [List.flatten_append]; simpa using hp, by rw [List.flatten_append]; simpa using o1, h6.tr m1⟩
theorem Ph2.go {bs : Nat} {W : World} (h : Ph2 base g c cf l0 w bs W) : Ph3 base g c cf l0 w bs 0 W := by
  obtain ⟨ms, h1, h2, h3, h4⟩ := h
  exact ⟨[], ms, trivial, by simp, h1, rfl, Apart.nil_left _, h2, h3, h4⟩
theorem Ph3.len {bs a : Nat} {W : World} (h : Ph3 base g c cf l0 w bs a W) : a ≤ l0.length := by
  obtain ⟨done, todo, h1, h2, h3, h4, h5, h6, h7, h8⟩ := h
  have := h6.length_eq
  rw [List.length_append] at this
  omega
theorem Ph3.two {bs a : Nat} {W : World} (h : Ph3 base g c cf l0 w bs a W) (hw : Weak (ltC cf)) (eg : ∀ args w, (callFunc f args).run Try.prog w = .ok (.enter f args) w) (hcmp : CmpOk base f lb cf nn g w) (hn : ∀ x ∈ l0, x < nn) (hN : l0.length = n) (hl : n ≤ 1000000000) (h0 : 0 < bs) (hb : a + 2 * bs ≤ n) :
    Calls Try.prog 23 #[.slice (some ⟨g, 0, none⟩) n c, .int .i64 a, .int .i64 (a + bs : Nat), .int .i64 (a + 2 * bs : Nat), .func (.func f) #[] lb] W (DoneT fun W' => Ph3 base g c cf l0 w bs (a + 2 * bs) W') := by
  obtain ⟨done, todo, h1, h2, h3, h4, h5, h6, h7, h8⟩ := h
  have hlen := h6.length_eq
  rw [List.length_append] at hlen
  obtain ⟨L, R, ts, rfl, sL, sR, lL, lR, aLR, aT, hts⟩ := h3.two h0 (by omega)
  have hmem : ∀ x ∈ L ++ R, x < nn := fun x hx => hn x (h6.mem_iff.1 (by
    simp only [List.flatten_cons, List.mem_append] at hx ⊢
    rcases hx with hx | hx <;> simp [hx]))
  have hO : OwN W base g c (done.flatten ++ (L ++ (R ++ ts.flatten))) := by simpa using h7
  refine (sym_any base g c f lb cf nn n hw eg hl _ a (a + bs) (a + 2 * bs) done.flatten L R ts.flatten W (Nat.le_refl _) (hcmp.mod h8) hO ?_ h4 (by omega) (by omega) (by omega) (by omega) sL sR aLR hmem).mono ?_
  · simp only [List.flatten_cons, List.length_append] at hlen ⊢; omega
  rintro e' W' ⟨M, i1, rfl, o1, m1⟩
  have ad : Apart (· < ·) done.flatten (L ++ R) ∧ Apart (· < ·) done.flatten ts.flatten := by
    refine Apart.app_right.1 ?_
    simpa using h5
  have lM : M.length = 2 * bs := by rw [i1.len, List.length_append]; omega
  refine ⟨rfl, done ++ [M], ts, Bls.snoc i1.2 (by omega) (by omega) h1 h2 (ad.1.perm (List.Perm.refl _) i1.1), ?_, hts, ?_, ?_, ?_, ?_, h8.tr m1⟩
  · intro x hx
    rcases List.mem_append.1 hx with hx | hx
    · exact h2 x hx
    · obtain rfl := List.mem_singleton.1 hx; omega
  · simp only [List.flatten_append, List.length_append, List.flatten_cons, List.flatten_nil, List.append_nil]; omega
  · rw [List.flatten_append]
    refine Apart.app_left.2 ⟨ad.2, ?_⟩
    simpa using aT.perm i1.1 (List.Perm.refl _)
  · rw [List.flatten_append]
    have hp : (done.flatten ++ (M ++ ts.flatten)).Perm (done.flatten ++ ((L ++ R) ++ ts.flatten)) := List.Perm.append_left _ (i1.1.append (List.Perm.refl _))
    have h6' : (done.flatten ++ ((L ++ R) ++ ts.flatten)).Perm l0 := by simpa using h6
    simpa using hp.trans h6'
  · rw [List.flatten_append]
    simpa using o1
theorem Ph3.last {bs a : Nat} {W : World} (h : Ph3 base g c cf l0 w bs a W) (hw : Weak (ltC cf)) (eg : ∀ args w, (callFunc f args).run Try.prog w = .ok (.enter f args) w) (hcmp : CmpOk base f lb cf nn g w) (hn : ∀ x ∈ l0, x < nn) (hN : l0.length = n) (hl : n ≤ 1000000000) (h0 : 0 < bs) (hb : n < a + 2 * bs) (hm : a + bs < n) :
    Calls Try.prog 23 #[.slice (some ⟨g, 0, none⟩) n c, .int .i64 a, .int .i64 (a + bs : Nat), .int .i64 n, .func (.func f) #[] lb] W (DoneT fun W' => Ph2 base g c cf l0 w (2 * bs) W') := by
  obtain ⟨done, todo, h1, h2, h3, h4, h5, h6, h7, h8⟩ := h
  have hlen := h6.length_eq
  rw [List.length_append] at hlen
  rcases h3.tail (by omega) with rfl | ⟨L, rfl, sL, l1, l2⟩ | ⟨L, R, rfl, sL, sR, lL, lR, aLR⟩
  · simp only [List.flatten_cons, List.flatten_nil, List.append_nil, List.length_append, List.length_nil] at hlen; omega
  · simp only [List.flatten_cons, List.flatten_nil, List.append_nil, List.length_append, List.length_nil] at hlen; omega
  have hmem : ∀ x ∈ L ++ R, x < nn := fun x hx => hn x (h6.mem_iff.1 (by
    simp only [List.flatten_cons, List.mem_append] at hx ⊢
    rcases hx with hx | hx <;> simp [hx]))
  simp only [List.flatten_cons, List.flatten_nil, List.append_nil] at h5 h6 h7 hlen
  have hO : OwN W base g c (done.flatten ++ (L ++ (R ++ []))) := by simpa using h7
  rw [List.length_append] at hlen
  refine (sym_any base g c f lb cf nn n hw eg hl _ a (a + bs) n done.flatten L R [] W (Nat.le_refl _) (hcmp.mod h8) hO ?_ h4 (by omega) (by omega) (by omega) (by omega) sL sR aLR hmem).mono ?_
  · simp only [List.length_append, List.length_nil]; omega
  rintro e' W' ⟨M, i1, rfl, o1, m1⟩
  have lM : M.length = L.length + R.length := by rw [i1.len, List.length_append]
  refine ⟨rfl, done ++ [M], Bls.snoc i1.2 (by omega) (by omega) h1 h2 (h5.perm (List.Perm.refl _) i1.1), ?_, ?_, h8.tr m1⟩
  · rw [List.flatten_append]
    have hp : (done.flatten ++ M).Perm (done.flatten ++ (L ++ R)) := List.Perm.append_left _ i1.1
    simpa using hp.trans h6
  · rw [List.flatten_append]
    simpa using o1
theorem Ph3.none {bs a : Nat} {W : World} (h : Ph3 base g c cf l0 w bs a W) (hN : l0.length = n) (h0 : 0 < bs) (hb : n < a + 2 * bs) (hm : n ≤ a + bs) : Ph2 base g c cf l0 w (2 * bs) W := by
  obtain ⟨done, todo, h1, h2, h3, h4, h5, h6, h7, h8⟩ := h
  have hlen := h6.length_eq
  rw [List.length_append] at hlen
  rcases h3.tail (by omega) with rfl | ⟨L, rfl, sL, l1, l2⟩ | ⟨L, R, rfl, sL, sR, lL, lR, aLR⟩
  · exact ⟨done, h1, by simpa using h6, by simpa using h7, h8⟩
  · exact ⟨done ++ [L], Bls.snoc sL l1 (by omega) h1 h2 (by simpa using h5), by rw [List.flatten_append]; simpa using h6, by rw [List.flatten_append]; simpa using h7, h8⟩
  · simp only [List.flatten_cons, List.flatten_nil, List.append_nil, List.length_append, List.length_nil] at hlen; omega
theorem Ph2.done {bs : Nat} {W : World} (h : Ph2 base g c cf l0 w bs W) (hN : l0.length ≤ bs) : SortedPost base g c (ltC cf) [] l0 [] w (.returned (.tuple #[])) W := by
  obtain ⟨ms, h1, h2, h3, h4⟩ := h
  exact ⟨ms.flatten, ⟨h2, h1.one (by rw [h2.length_eq]; exact hN)⟩, rfl, by simpa using h3, h4⟩
end

set_option maxRecDepth 100000 in
set_option maxHeartbeats 4000000 in
theorem stable_any (base : RB) (g c : Nat) (f : Nat) (lb : Array Value) (cf : Nat → Nat → Int) (nn n : Nat) (l0 : List Nat) (w : World) (hw : Weak (ltC cf)) (eg : ∀ args w, (callFunc f args).run Try.prog w = .ok (.enter f args) w) (hcmp : CmpOk base f lb cf nn g w)
    (h : OwN w base g c l0) (hN : l0.length = n) (hr : l0.Pairwise (· < ·)) (hn : ∀ x ∈ l0, x < nn) (hl : n ≤ 1000000) :
    Calls Try.prog 19 #[.slice (some ⟨g, 0, none⟩) n c, .int .i64 n, .func (.func f) #[] lb] w (SortedPost base g c (ltC cf) [] l0 [] w) := by
  have HS : Hid (Ph1 base g c cf l0 w 0 w) := ⟨[], trivial, by simp, by simp, by omega, by simpa using h, Mod.rf _⟩
  replace hN := Lib.hid hN
  replace hcmp := Lib.hid hcmp
  replace hw := Lib.hid hw
  replace hr := Lib.hid hr
  replace hn := Lib.hid hn
  clear h
  go_enter Try.func19, Try.ntmps19
  go_wp2_with (fail)
  go_loopw [7, 8] (fun av bv wr => ∃ (a b : Nat), av = .int .i64 a ∧ bv = .int .i64 b ∧ Hid (b = a + 20) ∧ a ≤ n ∧ Hid (Ph1 base g c cf l0 w a wr)) (fun av _ _ => n - (intOf av).toNat)
  case atStart => exact ⟨0, 20, rfl, rfl, rfl, by omega, HS⟩
  case round =>
    obtain ⟨wo, rfl⟩ : ∃ wo : World, wo = wr := ⟨_, rfl⟩
    obtain ⟨a, b, rfl, rfl, hab, ha, H1⟩ := hrel
    clear HS
    have hab' := hab.out
    by_cases hb : b ≤ n
    · have t0 : (b : Int) ≤ (n : Int) := by omega
      have IN := Lib.hid (H1.out.ins (b := b) hw.out eg hcmp.out hr.out hn.out hN.out (by omega) (by omega) hb (by omega))
      have b20 : b + 20 ≤ 2000000 := by omega
      clear hab' H1
      go_wp2_with (fail)
      refine IN.out.mono ?_
      rintro e w1 ⟨rfl, i1, -⟩
      have i2 := Lib.hid (i1 hab.out)
      clear i1
      go_wp2_with (fail)
      go_roundw
      case rel => exact ⟨b, b + 20, rfl, by go_num, rfl, hb, i2⟩
      case measure => simp [intOf]; have := hab.out; omega
    · have t0 : ¬ (b : Int) ≤ (n : Int) := by omega
      have IN := Lib.hid (H1.out.ins (b := n) hw.out eg hcmp.out hr.out hn.out hN.out (by omega) ha (by omega) (by omega))
      clear hab' H1 hb
      go_wp2_with (fail)
      refine IN.out.mono ?_
      rintro e w1 ⟨rfl, -, i1⟩
      have i2 : Hid (Ph2 base g c cf l0 w 20 w1) := by first | exact i1 rfl | exact i1 trivial
      clear i1 IN t0
      go_wp2_with (fail)
      go_loopw [6] (fun v wr => ∃ bs : Nat, v = .int .i64 bs ∧ 20 ≤ bs ∧ bs ≤ 2 * n + 20 ∧ Hid (Ph2 base g c cf l0 w bs wr)) (fun v _ => n - (intOf v).toNat)
      case atStart => exact ⟨20, rfl, by omega, by omega, i2⟩
      case round =>
        obtain ⟨wp, rfl⟩ : ∃ wp : World, wp = wr := ⟨_, rfl⟩
        obtain ⟨bs, rfl, hbs0, hbs1, H2⟩ := hrel
        clear i2
        by_cases hbn : bs < n
        · have t1 : (bs : Int) < (n : Int) := by omega
          have H3 := Lib.hid H2.out.go
          obtain ⟨b2, hb2⟩ : ∃ b2, Hid (b2 = 2 * bs) := ⟨_, rfl⟩
          have e2 : 2 * (bs : Int) = (b2 : Int) := by rw [hb2.out]; omega
          have e2' : (bs : Int) * 2 = (b2 : Int) := by rw [hb2.out]; omega
          have b2b : b2 ≤ 2000000 := by rw [hb2.out]; omega
          clear H2
          go_wp2_with (fail)
          go_loopw [7, 8] (fun av bv wr => ∃ (a b : Nat), av = .int .i64 a ∧ bv = .int .i64 b ∧ Hid (b = a + b2) ∧ a ≤ n ∧ Hid (Ph3 base g c cf l0 w bs a wr)) (fun av _ _ => n - (intOf av).toNat)
          case atStart => exact ⟨0, b2, rfl, rfl, by show b2 = 0 + b2; omega, by omega, H3⟩
          case round =>
            obtain ⟨wq, rfl⟩ : ∃ wq : World, wq = wr := ⟨_, rfl⟩
            obtain ⟨a', b', rfl, rfl, hab2, ha2, H4⟩ := hrel
            clear H3
            by_cases hb3 : b' ≤ n
            · have t2 : (b' : Int) ≤ (n : Int) := by omega
              have hb4 : a' + 2 * bs = b' := by rw [hab2.out, hb2.out]
              have TW := H4.out.two hw.out eg hcmp.out hn.out hN.out (by omega) (by omega) (by omega)
              rw [hb4] at TW
              obtain ⟨am, ham⟩ : ∃ am, Hid (am = a' + bs) := ⟨_, rfl⟩
              rw [← ham.out] at TW
              have eam : (a' : Int) + (bs : Int) = (am : Int) := by rw [ham.out]; omega
              replace TW := Lib.hid TW
              clear hb4 H4
              go_wp2_with (fail)
              refine TW.out.mono ?_
              rintro e w3 ⟨rfl, i3⟩
              replace i3 := Lib.hid i3
              go_wp2_with (fail)
              go_roundw
              case rel => exact ⟨b', b' + b2, rfl, by first | rfl | go_num, rfl, hb3, i3⟩
              case measure => simp [intOf]; have := hab2.out; have := hb2.out; omega
            · have t2 : ¬ (b' : Int) ≤ (n : Int) := by omega
              have hb4 : a' + 2 * bs = b' := by rw [hab2.out, hb2.out]
              obtain ⟨am, ham⟩ : ∃ am, Hid (am = a' + bs) := ⟨_, rfl⟩
              have eam : (a' : Int) + (bs : Int) = (am : Int) := by rw [ham.out]; omega
              by_cases hmn : am < n
              · have t3 : (am : Int) < (n : Int) := by omega
                have LA := H4.out.last hw.out eg hcmp.out hn.out hN.out (by omega) (by omega) (by omega) (by rw [← ham.out]; exact hmn)
                rw [← ham.out, ← hb2.out] at LA
                replace LA := Lib.hid LA
                clear hb4 H4
                go_wp2_with (fail)
                refine LA.out.mono ?_
                rintro e w3 ⟨rfl, i3⟩
                replace i3 := Lib.hid i3
                go_wp2_with (fail)
                go_roundw
                case rel => exact ⟨b2, rfl, by rw [hb2.out]; omega, by rw [hb2.out]; omega, i3⟩
                case measure => simp [intOf]; have := hb2.out; omega
              · have t3 : ¬ (am : Int) < (n : Int) := by omega
                have i3 := H4.out.none hN.out (by omega) (by omega) (by rw [← ham.out]; omega)
                rw [← hb2.out] at i3
                replace i3 := Lib.hid i3
                clear hb4 H4
                go_wp2_with (fail)
                go_roundw
                case rel => exact ⟨b2, rfl, by rw [hb2.out]; omega, by rw [hb2.out]; omega, i3⟩
                case measure => simp [intOf]; have := hb2.out; omega
        · have t1 : ¬ (bs : Int) < (n : Int) := by omega
          have FIN := Lib.hid (H2.out.done (by rw [hN.out]; omega))
          clear H2
          go_wp2_with (fail)
          go_end0
          exact FIN.out
set_option maxRecDepth 100000 in
theorem sortstable_any (base : RB) (g c : Nat) (f : Nat) (lb : Array Value) (cf : Nat → Nat → Int) (nn n : Nat) (l0 : List Nat) (w : World) (hw : Weak (ltC cf)) (eg : ∀ args w, (callFunc f args).run Try.prog w = .ok (.enter f args) w) (hcmp : CmpOk base f lb cf nn g w)
    (h : OwN w base g c l0) (hN : l0.length = n) (hr : l0.Pairwise (· < ·)) (hn : ∀ x ∈ l0, x < nn) (hl : n ≤ 1000000) :
    Calls Try.prog 13 #[.slice (some ⟨g, 0, none⟩) n c, .func (.func f) #[] lb] w fun e w' => e = .returned (.tuple #[]) ∧ OwN w' base g c (sortP (ltC cf) l0) ∧ Mod (fun k => k = g) w w' := by
  have ST := Lib.hid (stable_any base g c f lb cf nn n l0 w hw eg hcmp h hN hr hn hl)
  have hr' := Lib.hid hr
  have hw' := Lib.hid hw
  clear hcmp h hN hr hn hw
  go_enter Try.func13, Try.ntmps13
  go_wp2_with (fail)
  refine ST.out.mono ?_
  rintro e w1 ⟨M, i1, rfl, o1, m1⟩
  have e1 := sortP_of hw'.out hr'.out i1
  rw [List.nil_append, List.append_nil, e1] at o1
  have FIN := Lib.hid (And.intro o1 m1)
  clear o1 m1 i1 e1
  go_wp2_with (fail)
  go_end0
  exact ⟨rfl, FIN.out.1, FIN.out.2⟩
end Go.Proofs.Ytpngflmngnjjoaa
