/- Joined by a tool of this claim out of smaller texts. Conditions: as stated. -/
import Derived.Test.YtjcpdcncfjkejaaGreatDoorSx01
import Derived.Deep.Slices
import Derived.Deep.Fields
import Derived.ChangeSame
import Derived.OpenShut
import Derived.Lib.SmallJoins
import Derived.Carry
set_option linter.unusedVariables false
set_option linter.unusedSimpArgs false
set_option maxRecDepth 100000
open Go.Lib renaming hid → Hd
open Go.Proofs.Tryz renaming prog → jG
open List renaming getElem?_eq_getElem → jD, mem_append → kL, getElem?_eq_none → kI, getElem?_append_right → vU, getElem?_append_left → vE
open Nat renaming le_refl → jS, zero_le → kT
namespace Go.Proofs.YtjcpdcncfjkejaaGreatDoor
open Go.RowKit Go.ChangeShapes Go.WideShapes Go.Deep
section
variable {H:Type}{enc:TypeId×Value→H}{P:Program}{w:World}{base:Nat}{spare:Nat→Bool}{held:Bool}
theorem eT{α:Type}{Q:Nat→α→Prop}:∀(n:Nat),(∀i,i<n→∃s,Q i s)→∃l:List α,l.length=n∧∀i s,l[i]? =some s→Q i s
 |0,_=>⟨[],rfl,fun i s h=>by simp at h⟩
 |n+1,h=>by
  obtain⟨l,hl,hq⟩:=eT n (fun i hi=>h i qJ);obtain⟨s,hs⟩:=h n qJ;refine⟨l++[s],by simp[hl],fun i u hu=>?_⟩
  by_cases hi:i<l.length
  · rw[vE hi]at hu;exact hq i u hu
  · rw[vU qJ]at hu;have :i-l.length=0:=by
     rcases Nat.eq_zero_or_pos (i-l.length)with h0|h0
     · exact h0
     · rw[kI qW]at hu;cases hu
    rw[this]at hu;obtain rfl:s=u:=by simpa using hu
    have e:i=n:=by omega
    rw[e];exact hs
end
section
variable {H:Type}{enc:TypeId×Value→H}{P:Program}{w:World}{base:Nat}{spare:Nat→Bool}{held:Bool}
theorem YZ{b0:Nat}{r:Reach}{t e:TypeId}{v:Value}{d:DataW H}{p:List MemPlace}(ht:P.underlying t=some (.slice e))(hpos:0<P.cellsOf e)
 (hv:Value.okWide P w r b0 t v) (h:DataW.Trod enc P w base spare held t v d p):
 ∃(A:Option Addr) (len cap:Nat),v=.slice A len cap∧len≤cap∧cap≤maxLen∧
  (0<len→∃b off,A=some ⟨b,off,none⟩∧∀i,i<len→∃(cs:List Value) (y:DataW H×List MemPlace) (n:Nat),cs.length=P.cellsOf e∧(∀j,j<P.cellsOf e→w.cell? ⟨b,off+i*P.cellsOf e+j,none⟩=cs[j]?)∧DataW.trod enc P w base spare held n e cs=some y):=by
 obtain⟨a0,len,cap,rfl⟩:=okWide_slice ht hv;obtain⟨fuel,hf⟩:=h;rcases open_slice ht hf with⟨hcs,hx⟩|⟨a,len',cap',m,n,D,Pl,hcs,_,hl,hm,hmm,hx,hi⟩
 · simp only[Value.cells,List.cons.injEq,and_true,Value.slice.injEq]at hcs;obtain⟨rfl,rfl,rfl⟩:=hcs;exact⟨none,0,0,rfl,jS _,kT _,fun h=>absurd h qJ⟩
 · simp only[Value.cells,List.cons.injEq,and_true,Value.slice.injEq]at hcs;obtain⟨rfl,rfl,rfl⟩:=hcs;refine⟨some a,len,cap,rfl,hl,hm,fun h0=>?_⟩;have hlm:len≤m:=by rw[hmm];split<;>omega
   have hspot:a.spot=none:=by
    obtain⟨cs',hc,_⟩:=hi 0 qJ;obtain⟨_,hcl,hat⟩:=World.cells?_some hc;have h1:=hat 0 hpos;have h2:cs'[0]? =some (cs'[0]'qJ):=jD qJ;rw[h2]at h1;have h3:=World.cell?_spot h1;simpa[Addr.add]using h3
   obtain⟨b,off,spot⟩:=a;simp only at hspot;subst hspot;refine⟨b,off,rfl,fun i hil=>?_⟩;obtain⟨cs',hc,htr⟩:=hi i qJ;obtain⟨_,hcl,hat⟩:=World.cells?_some hc;refine⟨cs',_,n,hcl,fun j hj=>?_,htr⟩;rw[←hat j hj,Go.Deep.add_add]
   congr 1
   unfold Addr.add
   by_cases hz:i*P.cellsOf e+j=0
   · rw[if_pos hz];have h1:i*P.cellsOf e=0:=by omega
     have h2:j=0:=by omega
     simp
   · rw[if_neg hz];simp[Nat.add_assoc]
end
open Go.ChangeShapes Go.WideShapes Go.ChangeAt Go.RowKit Go.Joins
theorem own:ownKnob jG.godebug=none:=by kernel_rfl
theorem dN:laidOutB jG=true:=by kernel_rfl
section
variable {H:Type}{enc:TypeId×Value→H}{P:Program}
theorem eJ{f:Func}{s:ChangeSpec}{apart fresh handsOn again:Bool}{W W':World}{args:Array Value}{v:Value}{ds gs:List (DataW H)}{before pa pv:List MemPlace}
 (hW:DataW.Whole enc P f.params.toList s.vars apart W args.toList ds gs before)
 (hres:∀(b:Nat) (sp:Nat→Bool) (hd:Bool),DataW.TrodAll enc P W' b sp hd f.resultTypes.toList (v.resultList f.resultTypes.size) (s.fn H (ds++gs)).results [])
 (hargs:∀sp:Nat→Bool,(∀p∈before,sp p.block=true)→DataW.TrodAll enc P W' 0 sp true f.params.toList args.toList (s.fn H (ds++gs)).args pa)
 (hvars:∀sp:Nat→Bool,(∀p∈before,sp p.block=true)→DataW.TrodVars enc P W' sp s.vars (s.fn H (ds++gs)).vars pv)
 (hps:before=pa++pv) (hb:Below W.heap.size W W')
 (hok:∀(j:Nat) (t:TypeId) (r:Value),f.resultTypes[j]? =some t→(v.resultList f.resultTypes.size)[j]? =some r→Value.okWide P W' .any 0 t r):
 s.post enc P f apart fresh handsOn again W args v W':=by
 have hlt:∀p∈before,p.block<W.heap.size:=fun p hp=>hW.lt p hp;have bQ:∀p∈before,(fun b=>decide (b<W.heap.size)) p.block=true:=fun p hp=>by simpa using hlt p hp
 refine⟨ds,gs,before,[],pa,pv,hW,hres _ _ _,hargs _ bQ,hvars _ bQ,World.keptBut_mono (fun p hp=>⟨hp,?_⟩) (hb.frame (· ∈before)),fun _=>?_⟩
 · rw[hps,kL]at hp;exact Or.inr hp
 · obtain⟨_,_,_,_,_,hz,hn⟩:=hW;refine⟨hok,_,_,([]++pa)++pv,⟨[]++pa,pv,trodAll_append (hargs _ (fun _ _=>rfl)) (hres _ _ _),hvars _ (fun _ _=>rfl),rfl,?_,?_⟩,?_⟩
   · intro b off hp;have hin:MemPlace.cell b off∈before:=by rw[hps];simpa using hp
     rw[hb.frozen (hlt _ hin)];exact hz b off hin
   · intro ha;have :=hn ha;rw[hps]at this;simpa using this
   · intro p hp _;rw[hps];simpa using hp
theorem fJ{t:TypeId}(hl:laidOutB P=true)(hr:P.readableRec t=true)(hrow:t<P.types.size){W W':World}{v:Value}{d:DataW H}{ps before:List MemPlace}{sp:Nat→Bool}
 (h:DataW.Trod enc P W 0 (fun _=>true) true t v d ps) (hb:Below W.heap.size W W') (hlt:∀x∈before,x.block<W.heap.size) (hin:∀x∈ps,x∈before) (hsp:∀x∈before,sp x.block=true):
 DataW.Trod enc P W' 0 sp true t v d ps:=
 WideElems.Trod_stays hl hr hrow h (fun x hx=>hb.same (hlt x (hin x hx))) (fun x hx=>hsp x (hin x hx))
end
def okI(x:Int):Prop:= -9223372036854775808≤x∧x≤9223372036854775807
theorem Ja{x:Int}(h:(Lit.int .i64 x).wf=true):okI x:=by
 unfold okI;simp[Lit.wf,IntKind.min,IntKind.max,IntKind.signed,IntKind.bits]at h;omega
theorem cN{x:Int}(h:(Lit.int .u8 x).wf=true):0≤x∧x≤255:=by
 simp[Lit.wf,IntKind.min,IntKind.max,IntKind.signed,IntKind.bits]at h;omega
end Go.Proofs.YtjcpdcncfjkejaaGreatDoor
