/- Joined by a tool of this claim out of smaller texts. Conditions: as stated. -/
import Derived.Test.YtaefcahblmopfaaGreatDoorRows
import Derived.JoinedOf
set_option linter.unusedVariables false
set_option linter.unusedSimpArgs false
set_option maxRecDepth 100000
namespace Go.Proofs.YtaefcahblmopfaaGreatDoor
theorem andTp{a b:Bool}(h1:a=true)(h2:b=true):(a&&b)=true:=by rw[h1,h2];rfl
set_option maxHeartbeats 20000000 in
theorem U3:joinedFacts Tryz.prog 4 Tryz.f4 Rows.drawRightSpec Rows.drawRightUptoRow=true:=by
 unfold joinedFacts
 repeat' (with_reducible refine andTp ?_ ?_)
 all_goals(as_aux_lemma=>kernel_rfl)
end Go.Proofs.YtaefcahblmopfaaGreatDoor
