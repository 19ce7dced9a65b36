/- KurganQuiet: a problem's text that is wrong is told with its error, whatever the script says; nothing is solved. -/
import Derived.Test.YtabmoalgmdlmnaaGreatDoorKurganQuietP3
import Derived.Test.YtabmoalgmdlmnaaGreatDoorRows
import Derived.Test.YtabmoalgmdlmnaaGreatDoorCards
import Derived.Test.YtabmoalgmdlmnaaGreatDoorTie
import Derived.Test.YtabmoalgmdlmnaaGreatDoorChecked
set_option maxRecDepth 100000
set_option maxHeartbeats 16000000
set_option linter.all false
namespace Go.Proofs.YtabmoalgmdlmnaaGreatDoor.kurganQuiet
section
open Go.RowKit Go.ChangeShapes Go.WideShapes Go.ChangeAt Go.Deep
theorem row : Rows.KurganQuietSaid :=
 OpenClaim.holds_of_wide 3 Tryz.f3 rfl rfl rfl rfl rfl rfl rfl ⟨rfl,rfl,rfl,rfl,rfl⟩ rfl rfl rfl rfl rfl (by as_aux_lemma=>kernel_rfl) Tryz.func3 XD
  (of_decide_eq_true (by as_aux_lemma=>kernel_rfl)) (by unfold Func.isWrapper;first | (rw[if_pos (by decide +kernel)];kernel_rfl) | (rw[if_neg (by decide +kernel)];exact⟨rfl,rfl⟩))
  (fun os started H enc _=>lifted os started H enc)
theorem proved : Rows.KurganQuietCardSaid :=
 Claim7.holds_tied_plain_at .later [] [.data,.data,.data,.data,.pinned] true Rows.kurganQuietCard.stood.harness false row (fun _ h=>by cases h) (by as_aux_lemma=>kernel_rfl) (fun _ h=>by cases h) kurganQuiet_row_tie rfl ⟨rfl,rfl⟩ (by as_aux_lemma=>kernel_rfl) rfl
  (fun f fn hf hfn=>by
   obtain rfl:f=3:=Option.some.inj ((show Tryz.prog.funcNamed "kurgan/kurgantop.KurganQuiet" = some 3 by as_aux_lemma=>kernel_rfl).symm.trans hf) |>.symm
   obtain rfl:fn=Tryz.f3:=(Option.some.inj (Tryz.func3.symm.trans hfn)).symm;exact⟨by as_aux_lemma=>kernel_rfl,fun j t ht=>by
    rw[Tryz.params3] at ht;have hm:t∈[9,9]:=by simpa using Array.mem_of_getElem? ht
    have hall:([9,9].all fun u => !Tryz.prog.wantsStandIn u)=true:=by as_aux_lemma=>kernel_rfl
    exact(show Tryz.prog.wantsStandIn t=false by simpa using List.all_eq_true.1 hall t hm)⟩)
  (by as_aux_lemma=>kernel_rfl)
end
end Go.Proofs.YtabmoalgmdlmnaaGreatDoor.kurganQuiet
