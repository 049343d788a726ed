/- TermNone, for every input: the row. Condition: the package-level variables that the row lists lie as the program's text lays them. -/
import Derived.Test.YtaefcahblmopfaaGreatDoorTn27
import Derived.Test.YtaefcahblmopfaaGreatDoorTn28
set_option linter.unusedVariables false
set_option linter.unusedSimpArgs false
namespace Go.Proofs.YtaefcahblmopfaaGreatDoor
open Go.ChangeShapes Go.WideShapes Go.ChangeAt Go.RowKit Go.Joins
theorem termNone_holds : Rows.TermNoneSaid :=
  OpenClaim.holds_of_wide 3 Tryz.f3 rfl rfl rfl rfl rfl rfl rfl ⟨rfl, rfl, rfl, rfl, rfl⟩ rfl rfl rfl rfl rfl (by as_aux_lemma => kernel_rfl) Tryz.func3 tn_closed
    (of_decide_eq_true (by as_aux_lemma => kernel_rfl)) (by unfold Func.isWrapper; first | (rw [if_pos (by decide +kernel)]; kernel_rfl) | (rw [if_neg (by decide +kernel)]; exact ⟨rfl, rfl⟩))
    (fun os started H enc _ => termNone_lifted os started H enc)
end Go.Proofs.YtaefcahblmopfaaGreatDoor
