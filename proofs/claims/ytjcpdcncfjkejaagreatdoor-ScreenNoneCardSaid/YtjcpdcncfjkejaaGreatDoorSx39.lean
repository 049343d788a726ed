/- Joined by a tool of this claim out of smaller texts. Conditions: as stated. -/
import Derived.Test.YtjcpdcncfjkejaaGreatDoorSx33
set_option linter.unusedVariables false
set_option linter.unusedSimpArgs false
set_option maxRecDepth 100000
open Go.Lib renaming hid → Hd
open Go.Proofs.Tryz renaming prog → jG
namespace Go.Proofs.YtjcpdcncfjkejaaGreatDoor
open Go.RowKit
theorem Jj(rows cols lines:Int)(w:World):Calls jG 7 #[.int .i64 rows,.int .i64 cols,.int .i64 lines] w (eO w):=by
 by_cases hb:30<rows∧rows≤1000
 · by_cases hf:(2≤cols∧cols≤1000)∧0≤lines∧lines≤100000
   · obtain⟨r,rfl⟩:∃r:Nat,rows=r:=⟨rows.toNat,by omega⟩;obtain⟨c,rfl⟩:∃c:Nat,cols=c:=⟨cols.toNat,by omega⟩;obtain⟨l,rfl⟩:∃l:Nat,lines=l:=⟨lines.toNat,by omega⟩;exact Ub r c l w qJ qJ qJ qJ
   · refine XE rows cols lines w hb ?_;unfold cX;rw[decide_eq_false_iff_not];omega
 · by_cases hf:(1≤rows∧rows≤1000∧2≤cols∧cols≤1000)∧0≤lines∧lines≤100000
   · obtain⟨r,rfl⟩:∃r:Nat,rows=r:=⟨rows.toNat,by omega⟩;obtain⟨c,rfl⟩:∃c:Nat,cols=c:=⟨cols.toNat,by omega⟩;obtain⟨l,rfl⟩:∃l:Nat,lines=l:=⟨lines.toNat,by omega⟩;exact Vj r c l w qJ qJ qJ qJ qJ qJ
   · refine Kp rows cols lines w hb ?_;unfold cX;rw[decide_eq_false_iff_not];omega
end Go.Proofs.YtjcpdcncfjkejaaGreatDoor
