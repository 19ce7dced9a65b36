/-
  The program's ByRatio, of numbers in form.
-/
import Derived.Test.YtleckhbmciiooaaFuncsN
import Derived.Test.YtleckhbmciiooaaOrderC
namespace Go.Proofs.Ytleckhbmciiooaa
open Go.RowKit Go.ChangeShapes Go.WideShapes Go.ChangeAt Go.Deep

theorem none_neg {xs : List Int} (h : Small31 xs) : (xs.any fun n => decide (n < 0)) = false := by
  rw [List.any_eq_false]
  intro x hx
  have := h x hx
  simp; omega
def RatioPost (l : List Nat) (w : World) (e : Ending) (w' : World) : Prop := ∃ A c, e = .returned (.tuple #[.slice A l.length c, .int .i64 0]) ∧ RdI w' A (nl l) ∧ l.length ≤ c ∧ c ≤ 9223372036854775807 ∧ Ext w w' ∧ ∀ k, bl A = some k → w.heap.size ≤ k
set_option maxRecDepth 100000 in
set_option maxHeartbeats 2000000 in
theorem ratio_any (A B : Option Addr) (a b : Nat) (vs ws : List Int) (w : World) (hA : RdI w A vs) (hB : RdI w B ws) (hl : vs.length = ws.length) (h64 : vs.length ≤ 64) (sv : Small31 vs) (sw : Small31 ws) :
    Calls Try.prog 66 #[.slice A vs.length a, .slice B ws.length b] w (RatioPost (ratioP vs ws) w) := by
  have hn1 := none_neg sv
  have hn2 := none_neg sw
  have hne : ((vs.length : Int) != (ws.length : Int)) = false := by simp [hl]
  have h64' : (vs.length : Int) ≤ 64 := by omega
  have X0 : Ext w ((w.alloc (.cells #[.slice A vs.length a] 22)).alloc (.cells #[.slice B ws.length b] 22)) := ((Ext.rf _).alloc _).alloc _
  have bv : BoxI ((w.alloc (.cells #[.slice A vs.length a] 22)).alloc (.cells #[.slice B ws.length b] 22)) w.heap.size vs := ⟨A, a, .alloc (.new rfl) _, hA.ext X0, by omega⟩
  have bw : BoxI ((w.alloc (.cells #[.slice A vs.length a] 22)).alloc (.cells #[.slice B ws.length b] 22)) (w.heap.size + 1) ws := ⟨B, b, .new (by simp), hB.ext X0, by omega⟩
  have Bv : Hid (Blk ((w.alloc (.cells #[.slice A vs.length a] 22)).alloc (.cells #[.slice B ws.length b] 22)) w.heap.size 22 #[.slice A vs.length a]) := .alloc (.new rfl) _
  have Bw : Hid (Blk ((w.alloc (.cells #[.slice A vs.length a] 22)).alloc (.cells #[.slice B ws.length b] 22)) (w.heap.size + 1) 22 #[.slice B ws.length b]) := .new (by simp)
  have N1 := fun (W : World) (x : Ext w W) => neg_ints A a vs W (hA.ext x) (by simp only [maxLen]; omega)
  have N2 := fun (W : World) (x : Ext w W) => neg_ints B b ws W (hB.ext x) (by simp only [maxLen]; omega)
  simp only [hn1] at N1
  simp only [hn2] at N2
  have AH : AheadOf 107 #[.pointer (some ⟨w.heap.size + 1, 0, none⟩), .pointer (some ⟨w.heap.size, 0, none⟩)] (aheadB vs ws) vs.length ((w.alloc (.cells #[.slice A vs.length a] 22)).alloc (.cells #[.slice B ws.length b] 22)) :=
    fun W i j hi hj x => ahead_any vs ws w.heap.size (w.heap.size + 1) i j W (bv.ext x) (bw.ext x) sv sw hi hj (by omega) (by omega)
  have MG := fun (A' : Option Addr) (c' : Nat) (W : World) (hr : RdI W A' (nl (List.range vs.length))) (hc : vs.length ≤ c') (hm : c' ≤ 9223372036854775807) (x : Ext ((w.alloc (.cells #[.slice A vs.length a] 22)).alloc (.cells #[.slice B ws.length b] 22)) W) =>
    merge_any 107 #[.pointer (some ⟨w.heap.size + 1, 0, none⟩), .pointer (some ⟨w.heap.size, 0, none⟩)] (aheadB vs ws) vs.length ahead_enters vs.length (List.range vs.length) vs.length A' c' W (by simp) (by simp) (fun x hx => List.mem_range.1 hx) hr (by simpa using hc) hm (by simp; omega) (AH.ext x)
  have HR : Hid (msortP (aheadB vs ws) vs.length (List.range vs.length) = ratioP vs ws) := rfl
  have PL := fun W : World => plain_any vs.length W (by omega)
  replace hl := Lib.hid hl
  replace X0 := Lib.hid X0
  replace bv := Lib.hid bv
  replace bw := Lib.hid bw
  replace N1 := Lib.hid N1
  replace N2 := Lib.hid N2
  replace MG := Lib.hid MG
  replace PL := Lib.hid PL
  replace hA := Lib.hid hA
  replace hB := Lib.hid hB
  clear hn1 hn2 sv sw AH
  have hmf : ∀ (fn : Fn) (first cap : Array Value) (w : World), (Instr.makeFunc fn first cap).run Try.prog w = .ok (.func fn first cap) w := fun _ _ _ _ => rfl
  go_enter Try.func66, Try.ntmps66
  go_wp2_with (fail)
  refine (N1.out _ X0.out).mono ?_
  rintro e w1 ⟨rfl, x1⟩
  have X1 := Lib.hid (X0.out.tr x1)
  have c1 : w1.cell? ⟨w.heap.size, 0, none⟩ = some (.slice A vs.length a) := (Bv.out.ext x1).cell 0
  have c2 : w1.cell? ⟨w.heap.size + 1, 0, none⟩ = some (.slice B ws.length b) := (Bw.out.ext x1).cell 0
  go_wp2_with (fail)
  refine (N2.out _ X1.out).mono ?_
  rintro e w2 ⟨rfl, x2⟩
  have X2 := Lib.hid (X1.out.tr x2)
  have x12 := Lib.hid (Ext.tr x1 x2)
  have d1 : w2.cell? ⟨w.heap.size, 0, none⟩ = some (.slice A vs.length a) := (Bv.out.ext x12.out).cell 0
  clear c1 c2 x2
  go_wp2_with (fail)
  refine (PL.out _).mono ?_
  rintro e w3 ⟨A3, c3, rfl, o3, x3⟩
  have le3 := o3.le
  have l3 : vs.length ≤ c3 := by have h := le3.1; rw [nl_len, List.length_range] at h; exact h
  have m3 : c3 ≤ 9223372036854775807 := by have h := le3.2; unfold maxLen at h; exact h
  have e3 : (nl (List.range vs.length)).length = vs.length := by rw [nl_len, List.length_range]
  have x13 := Lib.hid (Ext.tr x12.out x3)
  have X3 := Lib.hid (X2.out.tr x3)
  replace o3 := Lib.hid o3
  clear d1 x3 le3
  go_wp2_with (fail)
  refine (MG.out A3 c3 _ o3.out.read l3 m3 x13.out).mono ?_
  rintro e w4 ⟨A4, c4, rfl, r4, l4, m4, x4, b4⟩
  have HB : Hid (∀ k, bl A4 = some k → w.heap.size ≤ k) := fun k hk => by
    rcases b4 k hk with h | h
    · exact Nat.le_trans X2.out.size (o3.out.lt k h).1
    · exact Nat.le_trans X3.out.size h
  clear b4
  rw [HR.out] at r4 l4 ⊢
  have X4 := Lib.hid (X3.out.tr x4)
  replace r4 := Lib.hid r4
  clear x4 e3
  go_wp2
  go_ret2
  exact ⟨A4, c4, rfl, r4.out, l4, m4, X4.out, HB.out⟩
end Go.Proofs.Ytleckhbmciiooaa
