/- DrawPlain, where what it reads is of bulk at most 1048576: the row. Condition: the package-level variables that the row lists lie as the program's text lays them. -/
import Derived.Test.YtaefcahblmopfaaGreatDoorDp42
import Derived.Test.YtaefcahblmopfaaGreatDoorDp43
set_option linter.unusedVariables false
set_option linter.unusedSimpArgs false
set_option maxRecDepth 100000
open Go.Lib renaming hid → Hd
namespace Go.Proofs.YtaefcahblmopfaaGreatDoor
open Go.ChangeShapes Go.WideShapes Go.ChangeAt Go.RowKit Go.Joins
theorem drawPlain_holds:Rows.DrawPlainUptoSaid :=
 OpenClaim.holds_of_cond 5 Tryz.f5 rfl rfl rfl rfl rfl rfl rfl ⟨rfl,rfl,rfl,rfl,rfl⟩ rfl rfl rfl rfl rfl (by as_aux_lemma => kernel_rfl) Tryz.func5 dp_closed
  (of_decide_eq_true (by as_aux_lemma => kernel_rfl)) (by unfold Func.isWrapper;first | (rw [if_pos (by decide +kernel)];kernel_rfl) | (rw [if_neg (by decide +kernel)];exact ⟨rfl,rfl⟩))
  (fun os started H enc _ F => by rw [OpenClaim.pre_eq_preRow];exact drawPlain_lifted os started H enc F)
end Go.Proofs.YtaefcahblmopfaaGreatDoor
