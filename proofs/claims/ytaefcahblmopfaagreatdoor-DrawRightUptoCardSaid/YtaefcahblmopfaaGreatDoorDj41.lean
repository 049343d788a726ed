/- Joined by a tool of this claim out of smaller texts. Conditions: as stated. -/
import Derived.Test.YtaefcahblmopfaaGreatDoorRows
import Derived.LaidMore
import Derived.Lay
import Derived.Stop.LaidErr
set_option linter.unusedVariables false
set_option linter.unusedSimpArgs false
set_option maxRecDepth 100000
namespace Go.Proofs.YtaefcahblmopfaaGreatDoor
set_option maxHeartbeats 20000000 in
theorem U4(os:Os)(args:Array Value):laidMetH Tryz.prog Rows.drawRightUptoRow.laid ((World.laidAll Tryz.prog os Rows.drawRightUptoRow.laid).forCall (fun _ _=>0) ⟨#[],args,[]⟩).memory:=by
 rw[MakeChecks.laidMetH_plain _ _ _ (by kernel_rfl)];exact laidMet_laidAll _ (by kernel_rfl) (by kernel_rfl)
set_option maxHeartbeats 20000000 in
theorem shapedP(os:Os):(World.laidAll Tryz.prog os Rows.drawRightUptoRow.laid).Shaped Tryz.prog:=World.shaped_of_ZipB (by kernel_rfl) (by kernel_rfl)
end Go.Proofs.YtaefcahblmopfaaGreatDoor
