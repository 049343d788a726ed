/- Joined by a tool of this claim out of smaller texts. Conditions: as stated. -/
import Derived.Test.YtjcpdcncfjkejaaGreatDoorSx04
import Derived.Test.YtjcpdcncfjkejaaGreatDoorSx25
set_option linter.unusedVariables false
set_option linter.unusedSimpArgs false
set_option maxRecDepth 100000
open Go.Lib renaming hid → Hd
open Go.Proofs.Tryz renaming prog → jG
open List renaming getElem?_eq_getElem → jD, getElem?_eq_some_iff → jE
open Nat renaming le_refl → jS, zero_le → kT
namespace Go.Proofs.YtjcpdcncfjkejaaGreatDoor
open Go.RowKit Go.ChangeShapes Go.WideShapes Go.Deep
theorem JQ:jG.cellsOf 3=1:=by kernel_rfl
theorem qJg:jG.cellsOf 21=1:=by kernel_rfl
theorem KS:jG.cellsOf 92=1:=by kernel_rfl
theorem coOp_gs:jG.cellsOf 32=1:=by kernel_rfl
theorem coOp:jG.cellsOf 34=5:=by kernel_rfl
section
variable {H:Type}{enc:TypeId×Value→H}{P:Program}{w:World}{base:Nat}{spare:Nat→Bool}{held:Bool}
theorem rD{t e:TypeId}{n:Nat}{v:Value}{x:DataW H×List MemPlace}(ht:P.underlying t=some (.slice e))(hpos:0<P.cellsOf e)
 (h:DataW.trod enc P w base spare held n t [v]=some x):
 ∃(A:Option Addr) (len cap:Nat),v=.slice A len cap∧len≤cap∧cap≤maxLen∧
  (0<len→∃b off,A=some ⟨b,off,none⟩∧∀i,i<len→∃(cs:List Value) (y:DataW H×List MemPlace) (n:Nat),cs.length=P.cellsOf e∧(∀j,j<P.cellsOf e→w.cell? ⟨b,off+i*P.cellsOf e+j,none⟩=cs[j]?)∧DataW.trod enc P w base spare held n e cs=some y):=by
 rcases open_slice ht h with⟨hcs,hx⟩|⟨a,len,cap,m,n,D,Pl,hcs,_,hl,hm,hmm,hx,hi⟩
 · simp only[List.cons.injEq,and_true]at hcs;exact⟨none,0,0,hcs,jS _,kT _,fun h=>absurd h qJ⟩
 · simp only[List.cons.injEq,and_true]at hcs;subst hcs;refine⟨some a,len,cap,rfl,hl,hm,fun h0=>?_⟩;have hlm:len≤m:=by rw[hmm];split<;>omega
   have hspot:a.spot=none:=by
    obtain⟨cs',hc,_⟩:=hi 0 qJ;obtain⟨_,hcl,hat⟩:=World.cells?_some hc;have h1:=hat 0 hpos;have h2:cs'[0]? =some (cs'[0]'qJ):=jD qJ;rw[h2]at h1;have h3:=World.cell?_spot h1;simpa[Addr.add]using h3
   obtain⟨b,off,spot⟩:=a;simp only at hspot;subst hspot;refine⟨b,off,rfl,fun i hil=>?_⟩;obtain⟨cs',hc,htr⟩:=hi i qJ;obtain⟨_,hcl,hat⟩:=World.cells?_some hc;refine⟨cs',_,n,hcl,fun j hj=>?_,htr⟩;rw[←hat j hj,Go.Deep.add_add]
   congr 1
   unfold Addr.add
   by_cases hz:i*P.cellsOf e+j=0
   · rw[if_pos hz];simp
   · rw[if_neg hz];simp[Nat.add_assoc]
end
section
variable {H:Type}{enc:TypeId×Value→H}{w:World}{base:Nat}{spare:Nat→Bool}{held:Bool}
theorem ZD{n:Nat}{cs:List Value}{x:DataW H×List MemPlace}(hl:cs.length=1)(h:DataW.trod enc jG w base spare held n 3 cs=some x):∃z:Int,cs=zQ z∧okI z:=by
 match cs,hl with
 |[v0],_=>
  obtain⟨z0,e0,-,hw0⟩:=DataW.trod_int Tryz.underlying3 h;exact⟨z0,e0,Ja hw0⟩
theorem Kw{n:Nat}{v:Value}{x:DataW H×List MemPlace}(h:DataW.trod enc jG w base spare held n 92 [v]=some x):
 ∃(A:Option Addr) (g:List Int) (cap:Nat),v=.slice A g.length cap∧pA zQ 1 w A g∧g.length≤cap:=by
 obtain⟨A,len,cap,rfl,hl,hm,hc⟩:=rD Tryz.underlying92 (by rw[JQ];decide) h;rw[JQ]at hc;rcases Nat.eq_zero_or_pos len with h0|h0
 · subst h0;exact⟨A,[],cap,rfl,fun h=>absurd h qV,hl⟩
 · obtain⟨b,off,rfl,hc2⟩:=hc h0;obtain⟨l,hll,hq⟩:=eT (Q:=fun i (c:Int)=>∀j v,(zQ c)[j]? =some v→w.cell? ⟨b,off+i*1+j,none⟩=some v) len (fun i hi=>by
    obtain⟨cs,y,n,hcl,hat,htr⟩:=hc2 i hi;obtain⟨c,rfl,-⟩:=ZD hcl htr;refine⟨c,fun j v hj=>?_⟩;have hj':=(jE.1 hj).1;rw[hat j hj'];exact hj)
   subst hll;exact⟨_,l,cap,rfl,fun _=>⟨b,off,rfl,fun i x hx=>hq i x hx⟩,hl⟩
theorem Qz{n:Nat}{v:Value}{x:DataW H×List MemPlace}(h:DataW.trod enc jG w base spare held n 32 [v]=some x):
 ∃(A:Option Addr) (L:List Gh) (cap:Nat),v=.slice A L.length cap∧eR w A L∧L.length≤cap:=by
 obtain⟨A,len,cap,rfl,hl,hm,hc⟩:=rD Tryz.underlying32 (by rw[KS];decide) h;rw[KS]at hc;rcases Nat.eq_zero_or_pos len with h0|h0
 · subst h0;exact⟨A,[],cap,rfl,⟨fun h=>absurd h qV,fun h hh=>(by cases hh)⟩,hl⟩
 · obtain⟨b,off,rfl,hc2⟩:=hc h0;obtain⟨l,hll,hq⟩:=eT (Q:=fun i (c:Gh)=>(∀j v,(nC c)[j]? =some v→w.cell? ⟨b,off+i*1+j,none⟩=some v)∧pA zQ 1 w c.A c.g∧c.g.length≤c.cap) len (fun i hi=>by
    obtain⟨cs,y,n,hcl,hat,htr⟩:=hc2 i hi
    match cs,hcl with
    |[v0],_=>
     obtain⟨A2,g,cap2,rfl,hg,hlc⟩:=Kw htr;refine⟨⟨A2,g,cap2⟩,fun j v hj=>?_,hg,hlc⟩;have hj':=(jE.1 hj).1;rw[hat j hj'];exact hj)
   subst hll;refine⟨_,l,cap,rfl,⟨fun _=>⟨b,off,rfl,fun i x hx=>(hq i x hx).1⟩,fun h hh=>?_⟩,hl⟩;obtain⟨i,hi⟩:=List.mem_iff_getElem?.1 hh;exact(hq i h hi).2
def qQm(w:World)(o:Sop):Prop:=eR w o.A o.H∧o.H.length≤o.cap∧okI o.a
theorem XV{n:Nat}{cs:List Value}{x:DataW H×List MemPlace}(h:DataW.trod enc jG w base spare held n 34 cs=some x):∃c:Sop,cs=bY c∧qQm w c:=by
 obtain⟨xs,m,_,_,hl,hlen,hf⟩:=DataW.trod_struct Tryz.underlying34 h;rw[coOp]at hl
 match cs,hl with
 |[v0,v1,v2,v3,v4],_=>
  match xs,hlen with
  |[y0,y1,y2,y3,y4],_=>
   have h0:=hf 0 _ rfl;have h1:=hf 1 _ rfl;have h2:=hf 2 _ rfl;have h3:=hf 3 _ rfl;have h4:=hf 4 _ rfl;simp[JQ,qJg,coOp_gs]at h0 h1 h2 h3 h4;obtain⟨z0,e0,-,hw0⟩:=DataW.trod_int Tryz.underlying3 h0;simp at e0;subst e0;obtain⟨z1,e1,-,hw1⟩:=DataW.trod_int Tryz.underlying3 h1;simp at e1;subst e1;obtain⟨z2,e2,-,hw2⟩:=DataW.trod_int Tryz.underlying3 h2;simp at e2;subst e2;obtain⟨z3,e3,-,-⟩:=DataW.trod_int Tryz.underlying21 h3;simp at e3;subst e3;obtain⟨A,L,cap,rfl,hg,hlc⟩:=Qz h4;exact⟨⟨z0,z1,z2,z3,A,L,cap⟩,rfl,hg,hlc,Ja hw1⟩
theorem iN{b0:Nat}{r:Reach}{v:Value}{d:DataW H}{p:List MemPlace}(hv:Value.okWide jG w r b0 24 v)(h:DataW.Trod enc jG w base spare held 24 v d p):
 ∃(A:Option Addr) (l:List Sop) (cap:Nat),v=.slice A l.length cap∧l.length≤9223372036854775807∧OpsAt w A l:=by
 obtain⟨A,len,cap,rfl,hl,hm,hc⟩:=YZ Tryz.underlying24 (by rw[coOp];decide) hv h;unfold maxLen at hm;rw[coOp]at hc;rcases Nat.eq_zero_or_pos len with h0|h0
 · subst h0;exact⟨A,[],cap,rfl,kT _,fun h=>absurd h qV,fun c hc=>(by cases hc),fun c hc=>(by cases hc),fun c hc=>(by cases hc)⟩
 · obtain⟨b,off,rfl,hc2⟩:=hc h0;obtain⟨l,hll,hq⟩:=eT (Q:=fun i (c:Sop)=>(∀j v,(bY c)[j]? =some v→w.cell? ⟨b,off+i*5+j,none⟩=some v)∧qQm w c) len (fun i hi=>by
    obtain⟨cs,y,n,hcl,hat,htr⟩:=hc2 i hi;obtain⟨c,rfl,hk⟩:=XV htr;refine⟨c,fun j v hj=>?_,hk⟩;have hj':=(jE.1 hj).1;rw[Yq]at hj';rw[hat j hj'];exact hj)
   subst hll;have hall:∀c∈l,qQm w c:=fun c hc=>by
    obtain⟨i,hi⟩:=List.mem_iff_getElem?.1 hc;exact(hq i c hi).2
   refine⟨_,l,cap,rfl,by omega,fun _=>⟨b,off,rfl,fun i x hx=>(hq i x hx).1⟩,fun c hc=>(hall c hc).1,fun c hc=>(hall c hc).2.1,fun c hc=>?_⟩;have :=(hall c hc).2.2;unfold okI at this;omega
end
end Go.Proofs.YtjcpdcncfjkejaaGreatDoor
