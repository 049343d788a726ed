/- Joined by a tool of this claim out of smaller texts. Conditions: as stated. -/
import Derived.Test.YtaefcahblmopfaaGreatDoorRows
import Derived.SevenTiedAt
set_option linter.unusedVariables false
set_option linter.unusedSimpArgs false
set_option maxRecDepth 100000
namespace Go.Proofs.YtaefcahblmopfaaGreatDoor
theorem Z7{P:Program}(h:P.funcs.toList.any Func.goes=false)(f:FuncId):P.goes f=false:=by
 have hf:∀g:Nat,(P.funcs[g]?).any Func.goes=false:=fun g=>by
  cases hg:P.funcs[g]? with
  |none=>rfl
  |some fn=>
   have hm:fn∈P.funcs.toList:=Array.mem_toList_iff.2 (Array.mem_of_getElem? hg);cases hb:Func.goes fn with
   |false=>exact hb
   |true=>exact absurd (List.any_eq_true.2 ⟨fn,hm,hb⟩) (by rw[h];decide)
 unfold Program.goes;rw[show((P.closure f).any fun g=>(P.funcs[g]?).any Func.goes)=false from List.any_eq_false.2 (fun g _=>by rw[hf g];decide),←Array.any_toList,h];simp
theorem Zb{P:Program}(h:P.funcs.toList.any Func.goes=false)(c:OpenClaim)(hc:c.start=.entering):false=c.goesBy P:=by
 unfold OpenClaim.goesBy Program.goesAt Program.goesFrom;rw[hc];cases P.funcNamed c.func with
 |none=>rfl
 |some f=>
  show false=(P.goes f||false);rw[Z7 h f];rfl
set_option maxHeartbeats 20000000 in
theorem Yq:Tryz.pinned.checked.prog.funcs.toList.any Func.goes=false:=by kernel_rfl
theorem qJp(c:OpenClaim)(hc:c.start=.entering):false=c.goesBy Tryz.pinned.checked.prog:=Zb Yq c hc
end Go.Proofs.YtaefcahblmopfaaGreatDoor
