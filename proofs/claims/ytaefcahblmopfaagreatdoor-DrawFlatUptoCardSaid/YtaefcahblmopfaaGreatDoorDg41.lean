/- DrawFlat, where what it reads is of bulk at most 1048576: the row. Condition: the package-level variables that the row lists lie as the program's text lays them. -/
import Derived.Test.YtaefcahblmopfaaGreatDoorDg39
import Derived.Test.YtaefcahblmopfaaGreatDoorDg40
set_option linter.unusedVariables false
set_option linter.unusedSimpArgs false
set_option maxRecDepth 100000
open Go.Lib renaming hid → Hd
namespace Go.Proofs.YtaefcahblmopfaaGreatDoor
open Go.ChangeShapes Go.WideShapes Go.ChangeAt Go.RowKit Go.Joins
theorem QX:Rows.DrawFlatUptoSaid:=
 OpenClaim.holds_of_cond 6 Tryz.f6 rfl rfl rfl rfl rfl rfl rfl ⟨rfl,rfl,rfl,rfl,rfl⟩ rfl rfl rfl rfl rfl qE Tryz.func6 K8
  (of_decide_eq_true qE) (by unfold Func.isWrapper;first|(rw[if_pos (by decide +kernel)];kernel_rfl)|(rw[if_neg (by decide +kernel)];exact⟨rfl,rfl⟩))
  (fun os started H enc _ F=>by rw[OpenClaim.pre_eq_preRow];exact wS os started H enc F)
end Go.Proofs.YtaefcahblmopfaaGreatDoor
