/- DrawFlat, where what it reads is of bulk at most 1048576: the row, and its card. Condition: the package-level variables that the row lists lie as the program's text lays them (tied). -/
import Derived.Test.YtaefcahblmopfaaGreatDoorDg41
import Derived.Test.YtaefcahblmopfaaGreatDoorDg42
import Derived.Test.YtaefcahblmopfaaGreatDoorCards
import Derived.Test.YtaefcahblmopfaaGreatDoorTie
import Derived.SevenTiedAt
set_option linter.unusedVariables false
set_option linter.unusedSimpArgs false
set_option maxRecDepth 100000
open Go.Lib renaming hid → Hd
open Go.Proofs.Tryz renaming prog → jG
namespace Go.Proofs.YtaefcahblmopfaaGreatDoor
open Go.ChangeShapes Go.WideShapes Go.ChangeAt Go.RowKit Go.Joins
theorem drawFlat_card:Rows.DrawFlatUptoCardSaid:=
 Claim7.holds_tied_plain_at .later [] _ _ _ _ QX (fun _ h=>by cases h) qE (fun _ h=>by cases h) drawFlatUpto_row_tie rfl ⟨rfl,rfl⟩ qE rfl
  (fun f fn hf hfn=>by
    obtain rfl:f=6:=Option.some.inj ((show jG.funcNamed "marquee/marqueelaw28.DrawFlat"=some 6 by kernel_rfl).symm.trans hf) |>.symm;obtain rfl:fn=Tryz.f6:=(Option.some.inj (Tryz.func6.symm.trans hfn)).symm;exact⟨by kernel_rfl,fun j t ht=>by
     rw[Tryz.params6]at ht;have hm:t∈[46]:=by simpa using Array.mem_of_getElem? ht
     have hall:([46].all fun u=> !Tryz.prog.wantsStandIn u)=true:=by kernel_rfl
     exact(show jG.wantsStandIn t=false by simpa using List.all_eq_true.1 hall t hm)⟩)
  (qQ0 _ rfl)
#print axioms drawFlat_card
end Go.Proofs.YtaefcahblmopfaaGreatDoor
