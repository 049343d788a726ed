/- The screen laws' rows: the table that is laid, and the world in which it lies. Conditions: as stated. -/
import Derived.Test.YtjcpdcncfjkejaaGreatDoorSx07
import Derived.Test.YtjcpdcncfjkejaaGreatDoorCards
import Derived.Test.YtjcpdcncfjkejaaGreatDoorTie
import Derived.LaidMore
import Derived.Stop.Joined
import Derived.SevenTiedAt
import Derived.Lib.LaidTab
import Derived.Deep.Slices
import Derived.Deep.Fields
import Derived.ChangeSame
import Derived.OpenShut
import Derived.Carry
import Derived.LoopN
import Derived.Deep.OwnRows
set_option linter.unusedVariables false
set_option linter.unusedSimpArgs false
set_option maxRecDepth 100000
open Go.Lib renaming hid → Hd
open Go.Proofs.Tryz renaming prog → jG
open List renaming getElem?_eq_getElem → jD, getD_eq_getElem?_getD → kP, getElem?_map → vQ
namespace Go.Proofs.YtjcpdcncfjkejaaGreatDoor
open Go.ChangeShapes Go.WideShapes Go.ChangeAt Go.RowKit Go.Joins
abbrev fZ:List (String×DataW Unit):=[("math/bits.deBruijn64tab",Rows.laid_math_bits_deBruijn64tab)]
theorem gTab:jG.globalNamed "math/bits.deBruijn64tab"=some 0:=by kernel_rfl
theorem tTab:(jG.globals[0]?).map (·.type)=some 241:=by kernel_rfl
theorem cTab:jG.cellsOf 241=64:=by kernel_rfl
theorem cU8:jG.cellsOf 5=1:=by kernel_rfl
theorem aM:jG.cellsOf 23=3:=by kernel_rfl
theorem Wv:fZ=[("math/bits.deBruijn64tab",Lib.tabData .u8 (Lib.deBruijn64tab.map (fun n:Nat=>(n:Int))))]:=by rfl
theorem sC{W:World}(h:laidMetH jG fZ W):TabZ W:=by
 rw[MakeChecks.laidMetH_plain _ _ _ qQ,Wv]at h;have hT:=Lib.tabIs_of_head gTab tTab Tryz.underlying241 Tryz.underlying5 cU8 cTab h;intro j hj;have :=hT.cell gTab j (by rw[List.length_map];exact(show j<Lib.deBruijn64tab.length from hj));rw[this]
 congr 2
 rw[kP,vQ,kP];have hj':j<Lib.deBruijn64tab.length:=hj;rw[jD hj'];rfl
theorem oF(os:Os)(args:Array Value):laidMetH jG fZ ((World.doorLaid jG 14 os).forCall (fun _ _=>0) ⟨#[],args,[]⟩).memory:=
 laidMetH_of_parts3 (fuel:=8) (laidMet_of_run' 8 qQ qQ) qQ qQ
end Go.Proofs.YtjcpdcncfjkejaaGreatDoor
