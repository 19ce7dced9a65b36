/- ShellWrites: of all scripts Write tells what the chapter does; a script comes back from its text. -/
import Derived.Test.YtocfmioihaefoaaGreatDoorShellWritesP11
import Derived.Test.YtocfmioihaefoaaGreatDoorShellWritesP12
import Derived.Test.YtocfmioihaefoaaGreatDoorRows
import Derived.Test.YtocfmioihaefoaaGreatDoorCards
import Derived.Test.YtocfmioihaefoaaGreatDoorTie
import Derived.Test.YtocfmioihaefoaaGreatDoorChecked
set_option maxRecDepth 100000
set_option maxHeartbeats 16000000
set_option linter.all false
namespace Go.Proofs.YtocfmioihaefoaaGreatDoor.shellWrites
section
open Go.RowKit Go.ChangeShapes Go.WideShapes Go.ChangeAt Go.Deep
theorem row : Rows.ShellWritesSaid :=
 OpenClaim.holds_of_wide 3 Tryz.f3 rfl rfl rfl rfl rfl rfl rfl ⟨rfl,rfl,rfl,rfl,rfl⟩ rfl rfl rfl rfl rfl (by as_aux_lemma=>kernel_rfl) Tryz.func3 ZgW
  (of_decide_eq_true (by as_aux_lemma=>kernel_rfl)) (by unfold Func.isWrapper;first | (rw[if_pos (by decide +kernel)];kernel_rfl) | (rw[if_neg (by decide +kernel)];exact⟨rfl,rfl⟩))
  (fun os started H enc _=>lifted os started H enc)
theorem proved : Rows.ShellWritesCardSaid :=
 Claim7.holds_tied_plain_at .later [] [.data,.data,.data,.data,.pinned] true Rows.shellWritesCard.stood.harness false row (fun _ h=>by cases h) (by as_aux_lemma=>kernel_rfl) (fun _ h=>by cases h) shellWrites_row_tie rfl ⟨rfl,rfl⟩ (by as_aux_lemma=>kernel_rfl) rfl
  (fun f fn hf hfn=>by
   obtain rfl:f=3:=Option.some.inj ((show Tryz.prog.funcNamed "kurgan/kurganlaw32.ShellWrites" = some 3 by as_aux_lemma=>kernel_rfl).symm.trans hf) |>.symm
   obtain rfl:fn=Tryz.f3:=(Option.some.inj (Tryz.func3.symm.trans hfn)).symm;exact⟨by as_aux_lemma=>kernel_rfl,fun j t ht=>by
    rw[Tryz.params3] at ht;have hm:t∈[25]:=by simpa using Array.mem_of_getElem? ht
    have hall:([25].all fun u => !Tryz.prog.wantsStandIn u)=true:=by as_aux_lemma=>kernel_rfl
    exact(show Tryz.prog.wantsStandIn t=false by simpa using List.all_eq_true.1 hall t hm)⟩)
  (by as_aux_lemma=>kernel_rfl)
end
end Go.Proofs.YtocfmioihaefoaaGreatDoor.shellWrites
