/- Joined by a tool of this claim out of smaller texts. Conditions: as stated. -/
import Derived.Test.YtjcpdcncfjkejaaGreatDoorSx04
import Derived.Test.YtjcpdcncfjkejaaGreatDoorSx09
set_option linter.unusedVariables false
set_option linter.unusedSimpArgs false
set_option maxRecDepth 100000
open Go.Lib renaming hid → Hd
open Go.Proofs.Tryz renaming prog → jG
open Go.RowKit.Below renaming refl → jU
open Nat renaming zero_add → kB
namespace Go.Proofs.YtjcpdcncfjkejaaGreatDoor
open Go.RowKit
theorem oI(r c:Int)(w:World):Calls jG 25 #[.int .i64 r,.int .i64 c] w fun e w'=>e=.returned (.bool (cX r c))∧w=w':=by
 unfold cX
 by_cases h1:1≤r<;>by_cases h2:r≤1000<;>by_cases h3:2≤c<;>
 · have e1:(0<r)=(1≤r):=by simp only[eq_iff_iff];omega
   have e2:(1<c)=(2≤c):=by simp only[eq_iff_iff];omega
   go_enter Tryz.func25,Tryz.ntmps25
   go_wp2
   go_ret
   refine⟨?_,rfl⟩;simp[h1,h2,h3]
   try omega
theorem tK{P:Program}{fn:Func}{p u u2:Tmp}{ty:TypeId}(h:fn.results=#[.cell p ty,.tmp u,.tmp u2])(tmps:Array Value)(w:World):
 (results fn tmps).run P w=((asAddr (tmps.getD p undef)).run P w).andThen fun a w₁=>((loadVar ty a).run P w₁).andThen fun v w₂=>.ok (.tuple #[v,tmps.getD u undef,tmps.getD u2 undef]) w₂:=by
 simp only[results,h];simp[Sem.run_bind,Result.andThen]
theorem Wb:(jG.info? 36).map (·.size)=some 2:=by kernel_rfl
theorem X8{fn:Func}{p u u2:Tmp}(hr:fn.results=#[.cell p 36,.tmp u,.tmp u2])(tmps:Array Value)(w:World)(b:Nat)(x y z z2:Value)(hp:tmps.getD p undef=.pointer (some ⟨b,0,none⟩))(hu:tmps.getD u undef=z)(hu2:tmps.getD u2 undef=z2)(h0:w.cell? ⟨b,0,none⟩=some x)(h1:w.cell? ⟨b,1,none⟩=some y):
 (results fn tmps).run jG w=.ok (.tuple #[.agg #[x,y],z,z2]) w:=by
 rw[tK hr,hp,hu,hu2];have :=run_loadVar_mid (P:=jG) w b 0 36 [x,y] _ (fun j v hj=>by
  rw[kB]
  match j,hj with
  |0,hj=>simp at hj;subst hj;exact h0
  |1,hj=>simp at hj;subst hj;exact h1) Tryz.underlying36 rfl Wb
 simp only[asAddr,Sem.run_pure,Result.andThen_ok,this]
set_option maxHeartbeats 1600000 in
theorem ZN(r c a b:Int)(v:Value)(w:World):Calls jG 93 #[.pointer none,.int .i64 r,.int .i64 c,.agg #[.int .i64 a,.int .i64 b],v] w fun e w'=>e=.returned (.tuple #[.agg #[.int .i64 0,.int .i64 0],.slice none 0 0,.int .i64 1])∧Below w.heap.size w w':=by
 have HL:=Hd (jW (jW (jU w.heap.size w) (.cells #[.int .i64 a,.int .i64 b] 36)) (.cells #[.int .i64 0,.int .i64 0] 36))
 go_enter Tryz.func93,Tryz.ntmps93
 go_wp2
 have hp:=kZ (W:=w.alloc (.cells #[.int .i64 a,.int .i64 b] 36)) (b:=w.heap.size+1) (o:=.cells #[.int .i64 0,.int .i64 0] 36) qV;exact bodyPost_ret (X8 rfl _ _ (w.heap.size+1) _ _ _ _ rfl rfl rfl (at_ hp 0 _ rfl).1 (at_ hp 1 _ rfl).1) rfl ⟨rfl,HL.o⟩
theorem WR(r c:Int)(w:World):Calls jG 96 #[.pointer none,.int .i64 r,.int .i64 c] w fun e w'=>e=.returned (.int .i64 1)∧w=w':=by
 go_enter Tryz.func96,Tryz.ntmps96
 go_wp2
 go_ret
 exact⟨rfl,rfl⟩
end Go.Proofs.YtjcpdcncfjkejaaGreatDoor
