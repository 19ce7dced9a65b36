/-
  mound: a list put at a place, and the count: what the mound is then.
-/
import Derived.Test.YthmjeajfchpdoaaMoundC
import Derived.Test.YthmjeajfchpdoaaModT
namespace Go.Proofs.Ythmjeajfchpdoaa
open Go.RowKit Go.ChangeShapes Go.WideShapes Go.ChangeAt

theorem HeadsAt.modT {w w' : World} {E SE : TypeId} {h base : Nat} {ts : List TypeId} {ls : Ls} (H : HeadsAt w E SE h ls) (k : ModT base ts w w') (h1 : E ∉ ts) (h2 : SE ∉ ts) : HeadsAt w' E SE h ls := by
  obtain ⟨cs, hb, hs, hc⟩ := H
  refine ⟨cs, hb.modT k h2, hs, fun i l hl => ?_⟩
  obtain ⟨A, c, g1, g2, g3⟩ := hc i l hl
  exact ⟨A, c, g1, g2.modT k h1, g3⟩

theorem put_mod {w w3 : World} {base g hh n : Nat} {ls : Ls} {v : Value} (place : Nat) (hb : Blk w3 g 101 #[.slice (some ⟨hh, 0, none⟩) n n, v]) (hbg : base ≤ g) (hbh : base ≤ hh) (hH : HeadsAt w3 61 82 hh ls) (hx : Ext w w3) (V u : Value) :
    ModT base [101, 82] w ((w3.setCell ⟨hh, place, none⟩ V).setCell ⟨g, 1, none⟩ u) := by
  obtain ⟨cs, hb2, hs, hc⟩ := hH
  have hne : ¬ g = hh := Blk.ne hb hb2 (by decide)
  have k1 : ModT base [101, 82] w3 (w3.setCell ⟨hh, place, none⟩ V) := ModT.set w3 hb2 (by simp) hbh place V
  have hb3 := hb.mod (Mod.set (S := fun k => k = hh) (p := ⟨hh, place, none⟩) (Mod.rf w3) (.inl rfl) V) hne
  exact (ModT.of_ext hx).tr (k1.tr (ModT.set _ hb3 (by simp) hbg 1 u))

theorem put_rep {w3 : World} {base g hh n place : Nat} {ls : Ls} {v : Value} {sz : Int} {A : Option Addr} {c : Nat} {l : List It} (hb : Blk w3 g 101 #[.slice (some ⟨hh, 0, none⟩) n n, v]) (hn : n = ls.length) (hbg : base ≤ g) (hbh : base ≤ hh) (hH : HeadsAt w3 61 82 hh ls) (hr : RdV w3 61 A (flat l)) (hl : l.length ≤ c) :
    MoundRep ((w3.setCell ⟨hh, place, none⟩ (.slice A l.length c)).setCell ⟨g, 1, none⟩ (.int .i64 sz)) base g (ls.set place l) sz := by
  subst hn
  have hH' := hH
  obtain ⟨cs, hb2, hs, hc⟩ := hH'
  have hne : ¬ g = hh := Blk.ne hb hb2 (by decide)
  have hb3 := hb.mod (Mod.set (S := fun k => k = hh) (p := ⟨hh, place, none⟩) (Mod.rf w3) (.inl rfl) (.slice A l.length c)) hne
  have hH3 := hH.set (by decide) place hr hl
  refine ⟨hh, ?_, hbg, hbh, ?_⟩
  · have := hb3.set 1 (.int .i64 sz)
    simpa using this
  · refine hH3.mod (S := fun k => k = g) (Mod.set (S := fun k => k = g) (p := ⟨g, 1, none⟩) (Mod.rf _) (.inl rfl) _) (fun h => hne h.symm) ?_
    rintro k cur hk rfl
    exact Blk.ne (show Blk _ k 61 cur from hk) hb3 (by decide) rfl
end Go.Proofs.Ythmjeajfchpdoaa
