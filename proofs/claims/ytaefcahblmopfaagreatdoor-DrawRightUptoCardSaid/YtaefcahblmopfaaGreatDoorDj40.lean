/- Joined by a tool of this claim out of smaller texts. Conditions: as stated. -/
import Derived.Test.YtaefcahblmopfaaGreatDoorDj18
import Derived.Test.YtaefcahblmopfaaGreatDoorRows
set_option linter.unusedVariables false
set_option linter.unusedSimpArgs false
set_option maxRecDepth 100000
open Go.Proofs.Tryz renaming prog → jG
open List renaming getElem?_eq_getElem → jN, mem_cons → kJ
open Nat renaming le_refl → jD, le_trans → jI, zero_le → kM
open Go.IntKind renaming i64 → jE
namespace Go.Proofs.YtaefcahblmopfaaGreatDoor
open Go.RowKit Go.ChangeShapes Go.WideShapes Go.Deep
section
variable {H:Type}{enc:TypeId×Value→H}{P:Program}{w:World}{base:Nat}{spare:Nat→Bool}{held:Bool}
theorem UB{d:DataW H}{l:List (DataW H)}(h:d∈l):Rows.uptoBulk d≤Rows.uptoBulkAll l:=by
 induction l with
 |nil=>cases h
 |cons x r ih=>
  simp only[Rows.uptoBulkAll];rcases kJ.1 h with e|e
  · subst e;omega
  · have :=ih e;omega
theorem xQ{n:Nat}{D:Nat→DataW H}{rest:List (DataW H)}{i:Nat}(hi:i<n):Rows.uptoBulk (D i)≤Rows.uptoBulk (.slice ((List.range n).map D) rest):=by
 have h1:=UB (List.mem_map.2 ⟨i,List.mem_range.2 hi,rfl⟩:D i∈(List.range n).map D);simp only[Rows.uptoBulk];omega
theorem qVn(d:DataW H):1≤Rows.uptoBulk d:=by
 cases d with
 |lit l=>cases l<;>simp[Rows.uptoBulk]
 |_=>simp[Rows.uptoBulk]
theorem XZ:∀l:List (DataW H),l.length≤Rows.uptoBulkAll l
 |[]=>kM _
 |d::r=>by
  have h1:=qVn d;have h2:=XZ r;simp only[Rows.uptoBulkAll,List.length_cons];omega
theorem KD(n:Nat)(D:Nat→DataW H)(rest:List (DataW H)):n≤Rows.uptoBulk (.slice ((List.range n).map D) rest):=by
 have h1:=XZ ((List.range n).map D);rw[List.length_map,List.length_range]at h1;simp only[Rows.uptoBulk];omega
theorem ZN{b0:Nat}{r:Reach}{t e:TypeId}{v:Value}{d:DataW H}{p:List MemPlace}(ht:P.underlying t=some (.slice e))(hpos:0<P.cellsOf e)
 (hv:Value.okWide P w r b0 t v) (h:DataW.Trod enc P w base spare held t v d p):
 ∃(A:Option Addr) (len cap:Nat),v=.slice A len cap∧len≤cap∧cap≤maxLen∧len≤Rows.uptoBulk d∧
  (0<len→∃b off,A=some ⟨b,off,none⟩∧∀i,i<len→∃(cs:List Value) (y:DataW H×List MemPlace) (n:Nat),cs.length=P.cellsOf e∧(∀j,j<P.cellsOf e→w.cell? ⟨b,off+i*P.cellsOf e+j,none⟩=cs[j]?)∧DataW.trod enc P w base spare held n e cs=some y∧Rows.uptoBulk y.1≤Rows.uptoBulk d):=by
 obtain⟨a0,len,cap,rfl⟩:=okWide_slice ht hv;obtain⟨fuel,hf⟩:=h;rcases open_slice ht hf with⟨hcs,hx⟩|⟨a,len',cap',m,n,D,Pl,hcs,_,hl,hm,hmm,hx,hi⟩
 · simp only[Value.cells,List.cons.injEq,and_true,Value.slice.injEq]at hcs;obtain⟨rfl,rfl,rfl⟩:=hcs;exact⟨none,0,0,rfl,jD _,kM _,kM _,fun h=>absurd h qJ⟩
 · simp only[Value.cells,List.cons.injEq,and_true,Value.slice.injEq]at hcs;obtain⟨rfl,rfl,rfl⟩:=hcs;refine⟨some a,len,cap,rfl,hl,hm,by rw[(Prod.mk.inj hx).1];exact KD _ _ _,fun h0=>?_⟩;have hlm:len≤m:=by rw[hmm];split<;>omega
   have hspot:a.spot=none:=by
    obtain⟨cs',hc,_⟩:=hi 0 qJ;obtain⟨_,hcl,hat⟩:=World.cells?_some hc;have h1:=hat 0 hpos;have h2:cs'[0]? =some (cs'[0]'qJ):=jN qJ;rw[h2]at h1;have h3:=World.cell?_spot h1;simpa[Addr.add]using h3
   obtain⟨b,off,spot⟩:=a;simp only at hspot;subst hspot;refine⟨b,off,rfl,fun i hil=>?_⟩;obtain⟨cs',hc,htr⟩:=hi i qJ;obtain⟨_,hcl,hat⟩:=World.cells?_some hc;refine⟨cs',_,n,hcl,fun j hj=>?_,htr,?_⟩
   · rw[←hat j hj,Go.Deep.add_add]
     congr 1
     unfold Addr.add
     by_cases hz:i*P.cellsOf e+j=0
     · rw[if_pos hz];have h1:i*P.cellsOf e=0:=by omega
       have h2:j=0:=by omega
       simp
     · rw[if_neg hz];simp[Nat.add_assoc]
   · rw[(Prod.mk.inj hx).1];exact xQ hil
end
section
variable {H:Type}{enc:TypeId×Value→H}{P:Program}{w:World}{base:Nat}{spare:Nat→Bool}{held:Bool}
theorem Kx{n:Nat}{a b c d e:Int}{x:DataW H×List MemPlace}(h:DataW.trod enc jG w base spare held n 63 [.int .i64 a,.int .i64 b,.int .i64 c,.int .i64 d,.int .i64 e]=some x):JM e:=by
 obtain⟨xs,m,_,_,hl,hlen,hf⟩:=DataW.trod_struct Tryz.underlying63 h
 match xs,hlen with
 |[y0,y1,y2],_=>
  have h2:=hf 2 _ rfl;simp[VV,Zt]at h2;obtain⟨z,e2,-,hw⟩:=DataW.trod_int Tryz.underlying3 h2;simp only[List.cons.injEq,Value.int.injEq,true_and,and_true]at e2;subst e2;have hw2:(decide (jE.min≤e)&&decide (e≤jE.max))=true:=hw;simp only[Bool.and_eq_true,decide_eq_true_eq]at hw2;exact hw2
theorem JH{n:Nat}{cs:List Value}{x:DataW H×List MemPlace}(h:DataW.trod enc jG w base spare held n 65 cs=some x):∃c:Cl,cs=Qv c∧c.more.size≤Rows.uptoBulk x.1∧JM c.fl:=by
 obtain⟨c,hc⟩:=VX h;refine⟨c,hc,?_⟩;obtain⟨xs,m,_,hx,hl,hlen,hf⟩:=DataW.trod_struct Tryz.underlying65 h;subst hc
 match xs,hlen with
 |[y0,y1,y2,y3],_=>
  have h1:=hf 1 _ rfl;simp[KW,Qv]at h1;obtain⟨s,e1,e2,-⟩:=DataW.trod_string Tryz.underlying9 h1;simp at e1;subst e1;subst e2;subst hx;simp only[List.map_cons,List.map_nil,Rows.uptoBulk,Rows.uptoBulkAll];have hsz:c.more.data.toList.length=c.more.size:=by rw[Array.length_toList];rfl
  have h3:=hf 3 _ rfl;simp[Ua,Qv]at h3;exact⟨by omega,Kx h3⟩
theorem Qp{n:Nat}{v:Value}{x:DataW H×List MemPlace}(h:DataW.trod enc jG w base spare held n 50 [v]=some x):
 ∃(A:Option Addr) (l:List Cl) (cap:Nat),v=.slice A l.length cap∧l.length≤9223372036854775807∧zL w A l∧(∀c∈l,c.more.size≤Rows.uptoBulk x.1∧JM c.fl)∧l.length≤cap∧l.length≤Rows.uptoBulk x.1:=by
 rcases open_slice Tryz.underlying50 h with⟨hcs,hx⟩|⟨a,len,cap,m,n',D,Pl,hcs,_,hl,hm,hmm,hx,hi⟩
 · simp only[List.cons.injEq,and_true]at hcs;exact⟨none,[],0,hcs,kM _,fun h=>absurd h qV,fun c hc=>(by cases hc),kM _,kM _⟩
 · simp only[List.cons.injEq,and_true]at hcs;subst hcs;rw[Ux]at hi;unfold maxLen at hm;have hlm:len≤m:=by rw[hmm];split<;>omega
   rcases Nat.eq_zero_or_pos len with h0|h0
   · subst h0;exact⟨some a,[],cap,rfl,kM _,fun h=>absurd h qV,fun c hc=>(by cases hc),kM _,kM _⟩
   · have hspot:a.spot=none:=by
      obtain⟨cs',hc,_⟩:=hi 0 qJ;obtain⟨_,hcl,hat⟩:=World.cells?_some hc;have h1:=hat 0 qJ;have h2:cs'[0]? =some (cs'[0]'qJ):=jN qJ;rw[h2]at h1;have h3:=World.cell?_spot h1;simpa[Addr.add]using h3
     obtain⟨b,off,spot⟩:=a;simp only at hspot;subst hspot;have hadd:∀i j:Nat,((⟨b,off,none⟩:Addr).add (i*8)).add j=⟨b,off+i*8+j,none⟩:=by
      intro i j;rw[Go.Deep.add_add];unfold Addr.add
      by_cases hz:i*8+j=0
      · rw[if_pos hz];simp
      · rw[if_neg hz];simp[Nat.add_assoc]
     obtain⟨l,hll,hq⟩:=eT (Q:=fun i (c:Cl)=>Qs w b (off+i*8) c∧c.more.size≤Rows.uptoBulk x.1∧JM c.fl) len (fun i hi2=>by
      obtain⟨cs',hc,htr⟩:=hi i qJ;obtain⟨_,hcl,hat⟩:=World.cells?_some hc;obtain⟨c,rfl,hcb,hcf⟩:=JH htr;have hat':∀j,j<8→w.cell? ⟨b,off+i*8+j,none⟩=(Qv c)[j]? :=fun j hj=>by rw[←hadd];exact hat j hj
      refine⟨c,⟨hat' 0 qJ,hat' 1 qJ,hat' 2 qJ,hat' 3 qJ,hat' 4 qJ,hat' 5 qJ,hat' 6 qJ,hat' 7 qJ⟩,?_⟩;rw[hx];exact⟨jI hcb (xQ hi2),hcf⟩)
     subst hll;refine⟨_,l,cap,rfl,by omega,fun _=>⟨b,off,rfl,fun i c hc=>(hq i c hc).1⟩,fun c hc=>?_,hl,by rw[hx];exact KD _ _ _⟩;obtain⟨i,hi⟩:=List.mem_iff_getElem?.1 hc;exact(hq i c hi).2
theorem Ky{n:Nat}{cs:List Value}{x:DataW H×List MemPlace}(h:DataW.trod enc jG w base spare held n 52 cs=some x):
 ∃r:Rw,cs=[.slice r.A r.cs.length r.cap,.bool r.cont]∧zL w r.A r.cs∧r.cs.length≤9223372036854775807∧(∀c∈r.cs,c.more.size≤Rows.uptoBulk x.1∧JM c.fl)∧r.cs.length≤r.cap∧r.cs.length≤Rows.uptoBulk x.1:=by
 obtain⟨xs,m,_,hx,hl,hlen,hf⟩:=DataW.trod_struct Tryz.underlying52 h;rw[UJ]at hl
 match cs,hl with
 |[v0,v1],_=>
  match xs,hlen with
  |[y0,y1],_=>
   have h0:=hf 0 _ rfl;have h1:=hf 1 _ rfl;simp[qVf,co_bool]at h0 h1;obtain⟨A,l,cap,rfl,hz,hc,hb,hcap,hln⟩:=Qp h0;obtain⟨b,e1,-,-⟩:=DataW.trod_bool Tryz.underlying4 h1;simp at e1;subst e1;refine⟨⟨A,l,cap,b⟩,rfl,hc,hz,fun c hcm=>?_,hcap,?_⟩
   · have :=hb c hcm;subst hx;simp only[List.map_cons,List.map_nil,Rows.uptoBulk,Rows.uptoBulkAll];exact⟨by omega,this.2⟩
   · subst hx;simp only[List.map_cons,List.map_nil,Rows.uptoBulk,Rows.uptoBulkAll];show l.length≤_;omega
theorem K4{b0:Nat}{r:Reach}{v:Value}{d:DataW H}{p:List MemPlace}(hv:Value.okWide jG w r b0 46 v)(h:DataW.Trod enc jG w base spare held 46 v d p):
 ∃(A:Option Addr) (l:List Rw) (cap:Nat),v=.slice A l.length cap∧l.length≤9223372036854775807∧bG w A l∧l.length≤Rows.uptoBulk d∧∀r∈l,(∀c∈r.cs,c.more.size≤Rows.uptoBulk d∧JM c.fl)∧r.cs.length≤r.cap∧r.cs.length≤Rows.uptoBulk d:=by
 obtain⟨A,len,cap,rfl,hl,hm,hbk,hc⟩:=ZN Tryz.underlying46 (by rw[UJ];decide) hv h;unfold maxLen at hm;rw[UJ]at hc;rcases Nat.eq_zero_or_pos len with h0|h0
 · subst h0;exact⟨A,[],cap,rfl,kM _,fun h=>absurd h qV,kM _,fun c hc=>by cases hc⟩
 · obtain⟨b,off,rfl,hc2⟩:=hc h0;obtain⟨l,hll,hq⟩:=eT (Q:=fun i (c:Rw)=>qQt w b (off+i*2) c∧(∀x∈c.cs,x.more.size≤Rows.uptoBulk d∧JM x.fl)∧c.cs.length≤c.cap∧c.cs.length≤Rows.uptoBulk d) len (fun i hi=>by
    obtain⟨cs,y,n,hcl,hat,htr,hby⟩:=hc2 i hi;obtain⟨c,rfl,hcc,hz,hcb,hcp,hcl2⟩:=Ky htr;exact⟨c,⟨⟨hat 0 qJ,hat 1 qJ⟩,hcc,hz⟩,fun x hx=>⟨jI (hcb x hx).1 hby,(hcb x hx).2⟩,hcp,jI hcl2 hby⟩)
   subst hll;refine⟨_,l,cap,rfl,by omega,fun _=>⟨b,off,rfl,fun i c hc=>(hq i c hc).1⟩,hbk,fun r hr=>?_⟩;obtain⟨i,hi⟩:=List.mem_iff_getElem?.1 hr;exact(hq i r hi).2
end
end Go.Proofs.YtaefcahblmopfaaGreatDoor
