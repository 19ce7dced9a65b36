/- parts, packed by a program -/
import Derived.Test.YtocfmioihaefoaaGreatDoorShellWritesP1
import Derived.Test.YtocfmioihaefoaaGreatDoorRows
import Derived.Test.YtocfmioihaefoaaGreatDoorChecked
import Derived.JoinedOf
set_option maxRecDepth 100000
set_option maxHeartbeats 16000000
set_option linter.all false
namespace Go.Proofs.YtocfmioihaefoaaGreatDoor.shellWrites
section
open Go.RowKit Go.ChangeShapes Go.WideShapes Go.ChangeAt
theorem ZgW : joinedFacts Tryz.pinned.checked.prog 3 Tryz.f3 Rows.shellWritesSpec Rows.shellWritesRow=true:=by
 unfold joinedFacts;simp only[Bool.and_eq_true]
 repeat' apply And.intro
 all_goals (as_aux_lemma=>kernel_rfl)
end
end Go.Proofs.YtocfmioihaefoaaGreatDoor.shellWrites
