/- DrawRight, where what it reads is of bulk at most 1048576: the row, and its card. Condition: the package-level variables that the row lists lie as the program's text lays them (tied). -/
import Derived.Test.YtaefcahblmopfaaGreatDoorDj45
import Derived.Test.YtaefcahblmopfaaGreatDoorDj46
import Derived.Test.YtaefcahblmopfaaGreatDoorCards
import Derived.Test.YtaefcahblmopfaaGreatDoorTie
import Derived.SevenTiedAt
set_option linter.unusedVariables false
set_option linter.unusedSimpArgs false
set_option maxRecDepth 100000
open Go.Proofs.Tryz renaming prog → jG
namespace Go.Proofs.YtaefcahblmopfaaGreatDoor
open Go.ChangeShapes Go.WideShapes Go.ChangeAt Go.RowKit Go.Joins
theorem drawRight_card:Rows.DrawRightUptoCardSaid:=
 Claim7.holds_tied_plain_at .later [] _ _ _ _ xU (fun _ h=>by cases h) qI (fun _ h=>by cases h) drawRightUpto_row_tie rfl ⟨rfl,rfl⟩ qI rfl
  (fun f fn hf hfn=>by
    obtain rfl:f=4:=Option.some.inj ((show jG.funcNamed "marquee/marqueelaw28.DrawRight"=some 4 by kernel_rfl).symm.trans hf) |>.symm;obtain rfl:fn=Tryz.f4:=(Option.some.inj (Tryz.func4.symm.trans hfn)).symm;exact⟨by kernel_rfl,fun j t ht=>by
     rw[Tryz.params4]at ht;have hm:t∈[46]:=by simpa using Array.mem_of_getElem? ht
     have hall:([46].all fun u=> !Tryz.prog.wantsStandIn u)=true:=by kernel_rfl
     exact(show jG.wantsStandIn t=false by simpa using List.all_eq_true.1 hall t hm)⟩)
  (qJp _ rfl)
#print axioms drawRight_card
end Go.Proofs.YtaefcahblmopfaaGreatDoor
