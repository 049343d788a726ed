/- Joined by a tool of this claim out of smaller texts. Conditions: as stated. -/
import Derived.Test.YtjcpdcncfjkejaaGreatDoorSx16
set_option linter.unusedVariables false
set_option linter.unusedSimpArgs false
set_option maxRecDepth 100000
open Go.Lib renaming hid → Hd
open Go.Proofs.Tryz renaming prog → jG
open List renaming length_append → jI
namespace Go.Proofs.YtjcpdcncfjkejaaGreatDoor
open Go.RowKit
theorem info_state19b:(jG.info? 47).map (·.size)=some 19:=by kernel_rfl
section
variable {rows cols room:Nat}{s:Sc}
theorem ScG.dmi(h:ScG rows cols room s)(hr:rows≤1000)(hc2:2≤cols)(hc:cols≤1000)(hm:room≤100000)(ht:s.pg.told.length≤900000):DmI rows cols room s:=⟨h.n,hr,hc2,hc,hm,ht⟩
theorem ScG.few(h:ScG rows cols room s)(hr:rows≤1000)(hm:room≤100000):(s.pg.hist++s.pg.scr).length≤900000:=by
 have h1:=h.n.pg.hhist;have h2:=h.n.pg.hrows;rw[jI];omega
end
end Go.Proofs.YtjcpdcncfjkejaaGreatDoor
