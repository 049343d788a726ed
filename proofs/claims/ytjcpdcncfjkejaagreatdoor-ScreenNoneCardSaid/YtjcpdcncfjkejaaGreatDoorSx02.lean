/- Joined by a tool of this claim out of smaller texts. Conditions: as stated. -/
import Derived.Test.YtjcpdcncfjkejaaGreatDoorSx01
import Derived.Laws.Shifts
import Derived.Laws.BytesArg
import Derived.Laws.BitsAllLaws
import Derived.Lib.SmallJoins
import Derived.Deep.LoopGhost
import Derived.OpenShut
import Derived.ChangeSame
import Derived.Carry
set_option linter.unusedVariables false
set_option linter.unusedSimpArgs false
set_option maxRecDepth 100000
open Go.Lib renaming hid → Hd
open Go.Proofs.Tryz renaming prog → jG
open Go.RowKit.Below renaming refl → jU
open List renaming drop_succ_cons → jB, take_succ_cons → jC, drop_zero → jF, take_zero → jL
namespace Go.Proofs.YtjcpdcncfjkejaaGreatDoor
open Go.RowKit
section
variable (a b r:Int)(A:Option Addr)(n c:Nat)(v:Value)(cs:Array Value)(w:World)
def yN(w:World):Ending→World→Prop:=fun e w'=>e=.returned (.tuple #[])∧Below w.heap.size w w'
theorem UW:Calls jG 137 #[.pointer none] w fun e w'=>e=.returned (.bool false)∧Below w.heap.size w w':=by
 go_enter Tryz.func137,Tryz.ntmps137
 go_upto_region 1 with fail
 refine jO 23 (fun w'=>Below w.heap.size w w') qQ qQ ?_ ?_
 · exact(jU _ _).drew
 simp only[jC,jL,jB,jF]
 repeat first|refine zS ?_|refine zV ?_
 refine kU (fun w' hS=>?_);have HB:=Hd hS;clear hS
 go_wp2
 go_ret
 exact⟨rfl,HB.o⟩
theorem KJ:Calls jG 14 #[.pointer none] w fun e w'=>e=.returned (.pointer none)∧w=w':=by
 go_enter Tryz.func14,Tryz.ntmps14
 go_wp2
 go_ret
 exact⟨rfl,rfl⟩
theorem Kx:Calls jG 28 #[.pointer none] w fun e w'=>e=.returned (.pointer none)∧w=w':=by
 go_enter Tryz.func28,Tryz.ntmps28
 go_wp2
 go_ret
 exact⟨rfl,rfl⟩
theorem nPrint:Calls jG 33 #[.pointer none,.int .i32 r] w (yN w):=by
 go_enter Tryz.func33,Tryz.ntmps33
 go_wp2
 go_end0
 exact⟨rfl,jU _ _⟩
theorem nRepeat:Calls jG 37 #[.pointer none,.int .i64 a] w (yN w):=by
 go_enter Tryz.func37,Tryz.ntmps37
 go_wp2
 go_end0
 exact⟨rfl,jU _ _⟩
theorem nTurn:Calls jG 39 #[.pointer none,.slice A n c] w (yN w):=by
 go_enter Tryz.func39,Tryz.ntmps39
 go_wp2
 go_end0
 exact⟨rfl,jU _ _⟩
theorem nBack:Calls jG 41 #[.pointer none] w (yN w):=by
 go_enter Tryz.func41,Tryz.ntmps41
 go_wp2
 go_end0
 exact⟨rfl,jU _ _⟩
theorem nReturn:Calls jG 43 #[.pointer none] w (yN w):=by
 go_enter Tryz.func43,Tryz.ntmps43
 go_wp2
 go_end0
 exact⟨rfl,jU _ _⟩
theorem nFeed:Calls jG 44 #[.pointer none] w (yN w):=by
 go_enter Tryz.func44,Tryz.ntmps44
 go_wp2
 go_end0
 exact⟨rfl,jU _ _⟩
theorem WI:Calls jG 46 #[.pointer none] w (yN w):=by
 go_enter Tryz.func46,Tryz.ntmps46
 go_wp2
 go_end0
 exact⟨rfl,jU _ _⟩
theorem nTab:Calls jG 48 #[.pointer none,.int .i64 a] w (yN w):=by
 go_enter Tryz.func48,Tryz.ntmps48
 go_wp2
 go_end0
 exact⟨rfl,jU _ _⟩
theorem nMove:Calls jG 50 #[.pointer none,.int .i64 a,.int .i64 b] w (yN w):=by
 go_enter Tryz.func50,Tryz.ntmps50
 go_wp2
 go_end0
 exact⟨rfl,jU _ _⟩
theorem nGo:Calls jG 52 #[.pointer none,.int .i64 a,.int .i64 b] w (yN w):=by
 go_enter Tryz.func52,Tryz.ntmps52
 go_wp2
 go_end0
 exact⟨rfl,jU _ _⟩
theorem qQr:Calls jG 54 #[.pointer none,.int .i64 a,.int .i64 b] w (yN w):=by
 go_enter Tryz.func54,Tryz.ntmps54
 go_wp2
 go_end0
 exact⟨rfl,jU _ _⟩
theorem YY:Calls jG 56 #[.pointer none,.int .i64 a] w (yN w):=by
 go_enter Tryz.func56,Tryz.ntmps56
 go_wp2
 go_end0
 exact⟨rfl,jU _ _⟩
theorem YX:Calls jG 58 #[.pointer none,.int .i64 a] w (yN w):=by
 go_enter Tryz.func58,Tryz.ntmps58
 go_wp2
 go_end0
 exact⟨rfl,jU _ _⟩
theorem ZS:Calls jG 60 #[.pointer none,.int .i64 a] w (yN w):=by
 go_enter Tryz.func60,Tryz.ntmps60
 go_wp2
 go_end0
 exact⟨rfl,jU _ _⟩
theorem VQ:Calls jG 62 #[.pointer none,.int .i64 a] w (yN w):=by
 go_enter Tryz.func62,Tryz.ntmps62
 go_wp2
 go_end0
 exact⟨rfl,jU _ _⟩
theorem VK:Calls jG 63 #[.pointer none,.int .i64 a] w (yN w):=by
 go_enter Tryz.func63,Tryz.ntmps63
 go_wp2
 go_end0
 exact⟨rfl,jU _ _⟩
theorem Ka:Calls jG 64 #[.pointer none,.int .i64 a] w (yN w):=by
 have HI:=Hd UW
 go_enter Tryz.func64,Tryz.ntmps64
 go_wp2_with(go_at_call 137;refine(HI.o _).mono ?_;rintro e w1 ⟨rfl,hb⟩;have HB:=Hd hb;clear hb)
 go_end0
 exact⟨rfl,HB.o⟩
theorem VJ:Calls jG 66 #[.pointer none,.int .i64 a] w (yN w):=by
 have HI:=Hd UW
 go_enter Tryz.func66,Tryz.ntmps66
 go_wp2_with(go_at_call 137;refine(HI.o _).mono ?_;rintro e w1 ⟨rfl,hb⟩;have HB:=Hd hb;clear hb)
 go_end0
 exact⟨rfl,HB.o⟩
theorem nScroll:Calls jG 67 #[.pointer none,.int .i64 a] w (yN w):=by
 go_enter Tryz.func67,Tryz.ntmps67
 go_wp2
 go_end0
 exact⟨rfl,jU _ _⟩
theorem nKeep:Calls jG 17 #[.pointer none] w (yN w):=by
 go_enter Tryz.func17,Tryz.ntmps17
 go_wp2
 go_end0
 exact⟨rfl,jU _ _⟩
theorem qQq:Calls jG 18 #[.pointer none] w (yN w):=by
 go_enter Tryz.func18,Tryz.ntmps18
 go_wp2
 go_end0
 exact⟨rfl,jU _ _⟩
theorem nFill:Calls jG 71 #[.pointer none] w (yN w):=by
 go_enter Tryz.func71,Tryz.ntmps71
 go_wp2
 go_end0
 exact⟨rfl,jU _ _⟩
theorem nReset:Calls jG 73 #[.pointer none] w (yN w):=by
 go_enter Tryz.func73,Tryz.ntmps73
 go_wp2
 go_end0
 exact⟨rfl,jU _ _⟩
theorem nSet:Calls jG 90 #[.pointer none,.agg cs] w (yN w):=by
 go_enter Tryz.func90,Tryz.ntmps90
 go_wp2
 go_end0
 exact⟨rfl,jW (jU _ _) _⟩
theorem nChars:Calls jG 91 #[.pointer none,.agg cs] w (yN w):=by
 go_enter Tryz.func91,Tryz.ntmps91
 go_wp2
 go_end0
 exact⟨rfl,jW (jU _ _) _⟩
theorem aW:Calls jG 22 #[.pointer none,v] w (yN w):=by
 go_enter Tryz.func22,Tryz.ntmps22
 go_wp2
 go_end0
 exact⟨rfl,jU _ _⟩
end
end Go.Proofs.YtjcpdcncfjkejaaGreatDoor
