/- DrawPlain, where what it reads is of bulk at most 1048576: the row, and its card. Condition: the package-level variables that the row lists lie as the program's text lays them (tied). -/
import Derived.Test.YtaefcahblmopfaaGreatDoorDp44
import Derived.Test.YtaefcahblmopfaaGreatDoorDp45
import Derived.Test.YtaefcahblmopfaaGreatDoorCards
import Derived.Test.YtaefcahblmopfaaGreatDoorTie
import Derived.SevenTiedAt
set_option linter.unusedVariables false
set_option linter.unusedSimpArgs false
set_option maxRecDepth 100000
open Go.Lib renaming hid → Hd
namespace Go.Proofs.YtaefcahblmopfaaGreatDoor
open Go.ChangeShapes Go.WideShapes Go.ChangeAt Go.RowKit Go.Joins
theorem drawPlain_card:Rows.DrawPlainUptoCardSaid :=
 Claim7.holds_tied_plain_at .later [] _ _ _ _ drawPlain_holds (fun _ h => by cases h) (by as_aux_lemma => kernel_rfl) (fun _ h => by cases h) drawPlainUpto_row_tie rfl ⟨rfl,rfl⟩ (by as_aux_lemma => kernel_rfl) rfl
  (fun f fn hf hfn => by
    obtain rfl:f = 5:=Option.some.inj ((show Tryz.prog.funcNamed "marquee/marqueelaw28.DrawPlain" = some 5 by kernel_rfl).symm.trans hf) |>.symm
    obtain rfl:fn = Tryz.f5:=(Option.some.inj (Tryz.func5.symm.trans hfn)).symm
    exact ⟨by kernel_rfl,fun j t ht => by
     rw [Tryz.params5] at ht
     have hm:t ∈ [46]:=by simpa using Array.mem_of_getElem? ht
     have hall:([46].all fun u => !Tryz.prog.wantsStandIn u) = true:=by kernel_rfl
     exact (show Tryz.prog.wantsStandIn t = false by simpa using List.all_eq_true.1 hall t hm)⟩)
  (row_goes _ rfl)
#print axioms drawPlain_card
end Go.Proofs.YtaefcahblmopfaaGreatDoor
