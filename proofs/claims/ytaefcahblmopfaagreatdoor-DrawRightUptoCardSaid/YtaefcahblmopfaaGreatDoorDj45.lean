/- DrawRight, where what it reads is of bulk at most 1048576: the row. Condition: the package-level variables that the row lists lie as the program's text lays them. -/
import Derived.Test.YtaefcahblmopfaaGreatDoorDj43
import Derived.Test.YtaefcahblmopfaaGreatDoorDj44
set_option linter.unusedVariables false
set_option linter.unusedSimpArgs false
set_option maxRecDepth 100000
namespace Go.Proofs.YtaefcahblmopfaaGreatDoor
open Go.ChangeShapes Go.WideShapes Go.ChangeAt Go.RowKit Go.Joins
theorem xU:Rows.DrawRightUptoSaid:=
 OpenClaim.holds_of_cond 4 Tryz.f4 rfl rfl rfl rfl rfl rfl rfl ⟨rfl,rfl,rfl,rfl,rfl⟩ rfl rfl rfl rfl rfl qI Tryz.func4 U3
  (of_decide_eq_true qI) (by unfold Func.isWrapper;first|(rw[if_pos (by decide +kernel)];kernel_rfl)|(rw[if_neg (by decide +kernel)];exact⟨rfl,rfl⟩))
  (fun os started H enc _ F=>by rw[OpenClaim.pre_eq_preRow];exact tI os started H enc F)
end Go.Proofs.YtaefcahblmopfaaGreatDoor
