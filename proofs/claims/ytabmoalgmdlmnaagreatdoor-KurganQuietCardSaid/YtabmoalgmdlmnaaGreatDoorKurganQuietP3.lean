/- parts, packed by a program -/
import Derived.Test.YtabmoalgmdlmnaaGreatDoorKurganQuietP2
import Derived.Test.YtabmoalgmdlmnaaGreatDoorRows
import Derived.Test.YtabmoalgmdlmnaaGreatDoorChecked
import Derived.JoinedOf
set_option maxRecDepth 100000
set_option maxHeartbeats 16000000
set_option linter.all false
namespace Go.Proofs.YtabmoalgmdlmnaaGreatDoor.kurganQuiet
section
open Go.RowKit Go.ChangeShapes Go.WideShapes Go.ChangeAt
theorem XD : joinedFacts Tryz.pinned.checked.prog 3 Tryz.f3 Rows.kurganQuietSpec Rows.kurganQuietRow=true:=by
 unfold joinedFacts;simp only[Bool.and_eq_true]
 repeat' apply And.intro
 all_goals (as_aux_lemma=>kernel_rfl)
end
end Go.Proofs.YtabmoalgmdlmnaaGreatDoor.kurganQuiet
