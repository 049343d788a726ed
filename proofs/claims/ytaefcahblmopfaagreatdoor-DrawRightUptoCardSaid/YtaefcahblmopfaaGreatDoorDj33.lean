/- Joined by a tool of this claim out of smaller texts. Conditions: as stated. -/
import Derived.Test.YtaefcahblmopfaaGreatDoorDj32
import Derived.Lib.Builder
import Derived.Lib.AppendStr
import Derived.Lib.UnsafeStr
import Derived.Lib.FrozenHead
import Derived.Shelf.RegionOpenPlain
set_option linter.unusedVariables false
set_option linter.unusedSimpArgs false
set_option maxRecDepth 100000
open Go.Lib renaming hid → Hd
open List renaming setIfInBounds_toArray → jZ, mem_singleton → jM, getElem?_eq_getElem → jN, getElem?_eq_some_iff → jP, length_append → jC, drop_zero → jO, append_assoc → kG, length_take → kC, mem_of_getElem? → uB, drop_eq_nil_of_le → gU, getElem?_drop → gN
open Go.Proofs.Tryz renaming prog → jG
open Go.RowKit.Below renaming refl → jU
open Nat renaming le_refl → jD, le_trans → jI, zero_le → kM
open Go.IntWalk renaming i64_in → jF
open Go.IntKind renaming i64 → jE
open And renaming intro → kY
open Go.World renaming ownsRow_nil → kS
namespace Go.Proofs.YtaefcahblmopfaaGreatDoor
open Go.RowKit
abbrev B8(xs:List Int):List UInt8:=u8 xs
def Kk(y x n:Nat)(on:Atr)(c:Cl)(cs:List Cl):List Int:=if c.r=0 then dN y x n on (vC c)else cV y x++(vW on cs).1
def Wd(n:Nat)(on:Atr)(c:Cl)(cs:List Cl):Atr:=if c.r=0 then mO on (vC c)else(vW on cs).2
theorem qJi{cs:List Cl}{x:Nat}{c:Cl}(y:Nat)(on:Atr)(h:cs[x]? =some c):tG y x on (cs.drop x)=(Kk y x (zY (cs.drop x)) on c ((cs.drop x).take (zY (cs.drop x))),Wd (zY (cs.drop x)) on c ((cs.drop x).take (zY (cs.drop x)))):=by
 obtain⟨hx,rfl⟩:=jP.1 h;obtain⟨r,hr⟩:∃r,cs.drop x=cs[x]::r:=⟨_,List.drop_eq_getElem_cons hx⟩;rw[hr];unfold Kk Wd dN mO;show(if _ then(if _ then _ else _)else _)=_
 split
 · split<;>rfl
 · rfl
theorem Ku{cs:List Cl}{x:Nat}(hx:x<cs.length):1≤zY (cs.drop x)∧x+zY (cs.drop x)≤cs.length:=by
 rw[Vc (jN hx)];have h1:((cs.drop (x+1)).takeWhile (zH cs[x])).length≤(cs.drop (x+1)).length:=(List.takeWhile_sublist _).length_le;rw[List.length_drop]at h1;omega
theorem Jk{cs:List Cl}{x:Nat}(k y:Nat)(on:Atr)(hx:x<cs.length):zI (k+1) y x on (cs.drop x)=((tG y x on (cs.drop x)).1++(zI k y (x+zY (cs.drop x)) (tG y x on (cs.drop x)).2 (cs.drop (x+zY (cs.drop x)))).1,(zI k y (x+zY (cs.drop x)) (tG y x on (cs.drop x)).2 (cs.drop (x+zY (cs.drop x)))).2):=by
 rw[zI,if_neg qR,List.drop_drop]
theorem Vi(k y x:Nat)(on:Atr):zI k y x on []=([],on):=by
 cases k with
 |zero=>rfl
 |succ k=>rfl
theorem UP(y x n:Nat)(on:Atr){a:Atr}(hy:y≤1000)(hx:x≤1000)(hn:n≤1000)(ha:vO a):(dN y x n on a).length≤154:=by
 unfold dN;have h1:=iG y x hy hx;have h2:=eF on ha;have h3:=Zm n hn
 split
 · exact kM _
 · simp only[jC];omega
theorem Vy{y x n:Nat}{on:Atr}{c:Cl}{cs:List Cl}(hy:y≤1000)(hx:x≤1000)(hn:n≤1000)(h1:1≤n)(hc:gF c)(hcs:∀c∈cs,gF c)(hl:cs.length≤n):(Kk y x n on c cs).length≤181*n:=by
 have h1:=iG y x hy hx;have h2:=lU cs on hcs;have h3:=UP y x n on hy hx hn hc.at_;unfold Kk
 split
 · omega
 · rw[jC];omega
theorem Vh:∀(k y x:Nat) (on:Atr) (cs:List Cl),y≤1000→cs.length≤1000→x≤cs.length→(∀c∈cs,gF c)→(zI k y x on (cs.drop x)).1.length≤181*(cs.length-x)
 |0,_,_,_,_,_,_,_,_=>kM _
 |k+1,y,x,on,cs,hy,hz,hx,hok=>by
  by_cases hlt:x<cs.length
  · have hn:=Ku hlt;rw[Jk k y on hlt,qJi y on (jN hlt)];have h1:=Vh k y (x+zY (cs.drop x)) (Wd (zY (cs.drop x)) on cs[x] ((cs.drop x).take (zY (cs.drop x)))) cs hy hz hn.2 hok;have h2:(Kk y x (zY (cs.drop x)) on cs[x] ((cs.drop x).take (zY (cs.drop x)))).length≤181*zY (cs.drop x):=Vy hy qJ qJ hn.1 (hok _ (List.getElem_mem hlt)) (fun c hc=>hok c (List.mem_of_mem_drop (List.mem_of_mem_take hc))) qN;simp only[jC];omega
  · rw[gU qJ,Vi];exact kM _
def oU(y:Nat)(on:Atr)(cs:List Cl)(x:Nat)(pre:List Int)(on1:Atr):Prop:=∃k,cs.length≤x+k∧zI cs.length y 0 on cs=(pre++(zI k y x on1 (cs.drop x)).1,(zI k y x on1 (cs.drop x)).2)∧pre.length≤181*x
theorem oU.start(y:Nat)(on:Atr)(cs:List Cl):oU y on cs 0 [] on:=⟨cs.length,by omega,by rw[jO];rfl,kM _⟩
theorem oU.next{y:Nat}{on:Atr}{cs:List Cl}{x:Nat}{pre:List Int}{on1:Atr}{c:Cl}(h:oU y on cs x pre on1)(hc:cs[x]? =some c)(hy:y≤1000)(hz:cs.length≤1000)(hok:∀c∈cs,gF c):
 oU y on cs (x+zY (cs.drop x)) (pre++Kk y x (zY (cs.drop x)) on1 c ((cs.drop x).take (zY (cs.drop x)))) (Wd (zY (cs.drop x)) on1 c ((cs.drop x).take (zY (cs.drop x)))):=by
 obtain⟨k,hk,he,hp⟩:=h;have hx:=(jP.1 hc).1;have hn:=Ku hx;obtain⟨k,rfl⟩:∃j,k=j+1:=⟨k-1,by omega⟩;refine⟨k,by omega,?_,?_⟩
 · rw[he,Jk k y on1 hx,qJi y on1 hc,kG]
 · have h2:(Kk y x (zY (cs.drop x)) on1 c ((cs.drop x).take (zY (cs.drop x)))).length≤181*zY (cs.drop x):=Vy hy qJ qJ hn.1 (hok _ (uB hc)) (fun c hc=>hok c (List.mem_of_mem_drop (List.mem_of_mem_take hc))) qN;rw[jC];omega
theorem oU.end_{y:Nat}{on:Atr}{cs:List Cl}{x:Nat}{pre:List Int}{on1:Atr}(h:oU y on cs x pre on1)(hx:cs.length≤x):zI cs.length y 0 on cs=(pre,on1):=by
 obtain⟨k,-,he,-⟩:=h;rw[he,gU hx,Vi,List.append_nil]
theorem zL.part{w:World}{b off:Nat}{cs:List Cl}(h:zL w (some ⟨b,off,none⟩) cs)(x n:Nat):zL w (some ⟨b,off+x*8,none⟩) ((cs.drop x).take n):=fun h0=>⟨b,off+x*8,rfl,fun i c hc=>by
 have hi:i<n:=by
  have :=(jP.1 hc).1;rw[kC]at this;omega
 rw[List.getElem?_take_of_lt hi,gN]at hc;have :=h.cell hc;rw[show off+x*8+i*8=off+(x+i)*8 by omega];exact this⟩
section
variable {base:Nat}{w:World}{v:Pn}{on:Atr}{l:List UInt8}
set_option maxHeartbeats 3200000 in
theorem qJ3(h:PnO base w v on l)(hbw:base≤w.heap.size)(ht:TB base w)(y:Nat)(hy:y≤1000)(A:Option Addr)(cs:List Cl)(ca:Nat)(hc:CB base w A cs)(hok:∀c∈cs,gF c)(hz:cs.length≤1000)(hca:cs.length≤ca)(hl:l.length≤79000000):
 Calls jG 156 #[.pointer (some ⟨v.P,0,none⟩),.int .i64 y,.slice A cs.length ca] w (nK base w v (zI cs.length y 0 on cs).2 (l++u8 (zI cs.length y 0 on cs).1)):=by
 have HO:=Hd h;have HT:=Hd ht;have HBW:=Hd hbw;have HC:=Hd hc;have HOK:=Hd hok;have HL:=Hd (kY hl (kY hy hz));have HCAP:=Hd hca;have HEND:Hid (∀on1 pre x,oU y on cs x pre on1→cs.length≤x→(zI cs.length y 0 on cs).2=on1∧(zI cs.length y 0 on cs).1=pre):=Hd (fun on1 pre x h1 h2=>by rw[h1.end_ h2];exact⟨rfl,rfl⟩);obtain⟨RA,hRA⟩:∃RA,(zI cs.length y 0 on cs).2=RA:=⟨_,rfl⟩;obtain⟨RB,hRB⟩:∃RB,(zI cs.length y 0 on cs).1=RB:=⟨_,rfl⟩;rw[hRA,hRB]at HEND;rw[hRA,hRB];clear h hbw ht hc hok hl hRA hRB hca hy
 go_enter Tryz.func156,Tryz.ntmps156
 go_wp2_with fail
 go_loopw [6] (fun i wr=>∃(x:Nat) (pre:List Int) (on1:Atr),x≤cs.length∧i=.int .i64 x∧oU y on cs x pre on1∧gY base w v on1 (l++B8 pre) wr) (fun i _=>cs.length-(intOf i).toNat)
 case atStart=>exact⟨0,[],on,kM _,rfl,oU.start _ _ _,by rw[show l++B8 []=l from List.append_nil l];exact HO.o.res⟩
 case round=>
  obtain⟨x,pre,on1,hx,rfl,hst,hR⟩:=hrel
  by_cases hlt:x<cs.length
  · have hB:Below base w wr:=gY.below HO.o HBW.o hR;have hsz:base≤wr.heap.size:=jI HBW.o hB.size;have hCB:=HC.o.on hB;obtain⟨b,off,c,rfl,hcg,-⟩:=(HC.o wr hB).at_ hlt;have HCB:=Hd hCB;have hT:=HT.o.on hB;have hD:=HOK.o c (uB hcg);have hn:=Ku hlt;have hnx:=hst.next hcg HL.o.2.1 HL.o.2.2 HOK.o;have hpl:=hst.choose_spec.2.2;have hsub:∀c∈(cs.drop x).take (zY (cs.drop x)),gF c:=fun c hc=>HOK.o c (List.mem_of_mem_drop (List.mem_of_mem_take hc));have hsl:((cs.drop x).take (zY (cs.drop x))).length=zY (cs.drop x):=by rw[kC,List.length_drop];omega
    have HRUN:=Hd (qK3 (some ⟨b,off,none⟩) cs ca x wr (hCB wr (jU _ _)) hlt HL.o.2.2);have HPT:Hid (∀w',Below base wr w'→CB base w' (some ⟨b,off+x*8,none⟩) ((cs.drop x).take (zY (cs.drop x)))):=Hd (fun w' hb w2 hb2=>(hCB w2 (hb.trans hb2)).part x _);generalize zY (cs.drop x)=n at hn hnx hsub hsl HRUN HPT;generalize (cs.drop x).take n=sub at hnx hsub hsl HPT;obtain⟨q,hq⟩:∃q:Nat,(x:Int)+n=q:=⟨x+n,by omega⟩;have hqx:q=x+n:=by omega
    have hwq:jE.wrap (q:Int)=q:=jF _ qJ;have HNX:=Hd hnx;have HSUB:=Hd hsub;have HSL:=Hd hsl;have HN:=Hd hn;have HQX:=Hd hqx;have hll:(l++B8 pre).length≤79181000:=by rw[jC,eD];have :=HL.o.1;have :=HL.o.2.2;omega
    have HLL:=Hd hll;have HD:=Hd hD;have HS:=Hd hsz;have HTT:=Hd hT;have HRR:=Hd hR;have HCG:=Hd hcg;have hq1:(q:Int)≤ca:=by have :=HCAP.o;omega
    clear hB hsz hCB hT hD hn hnx hpl hsub hsl hqx hll hcg hst hR
    go_upto_region 3 with(go_at_call 245;(with_reducible refine HRUN.o.mono ?_);rintro e w2 ⟨rfl,hb2⟩)
    have hB2:Below base wr w2:=hb2.mono HS.o;have hs2:base≤w2.heap.size:=jI HS.o hb2.size;have hca2:=(HCB.o w2 hB2).cell HCG.o;obtain⟨v1,a1,a2,a3,a4,a5⟩:=HRR.o.post hb2;obtain⟨cr,cm,chf,c3,c4,c5,c6,c7⟩:=c;obtain⟨r0,-,-,r3,r4,r5,r6,r7⟩:=hca2;have hat:vO ⟨c3,c4,c5,c6,c7⟩:=HD.o.at_;simp only at r0 r3 r4 r5 r6 r7;have H1:=Hd (kY a1 (kY a2 (kY a4 a5)))
    by_cases h0:cr=0
    · subst h0;have HBl:=Hd (ZY a3 hs2 (HTT.o.on hB2) y x n HL.o.2.1 (by have :=HL.o.2.2;omega) (by have :=HN.o;have :=HL.o.2.2;omega) ⟨c3,c4,c5,c6,c7⟩ hat (by have :=HLL.o;omega));rw[a1]at HBl;clear hB2 hs2 a1 a2 a3 a4 a5 hat hb2
      go_wp2_with(go_at_call 246;(with_reducible refine HBl.o.mono ?_);rintro e w3 ⟨rfl,hr⟩;have HR3:=Hd hr;clear hr)
      go_roundw
      case rel=>
       obtain⟨a1,a2,a4,a5⟩:=H1.o;have hqx:=HQX.o;refine⟨q,_,_,by have :=HN.o;omega,by go_num,by rw[hqx];exact HNX.o,gY.trans a1 a2 a5 a4 ?_⟩;have :=HR3.o;rw[show Kk y x n on1 ⟨0,cm,chf,c3,c4,c5,c6,c7⟩ sub=dN y x n on1 ⟨c3,c4,c5,c6,c7⟩from if_pos rfl,show Wd n on1 ⟨0,cm,chf,c3,c4,c5,c6,c7⟩ sub=mO on1 ⟨c3,c4,c5,c6,c7⟩from if_pos rfl,show B8 (pre++dN y x n on1 ⟨c3,c4,c5,c6,c7⟩)=B8 pre++B8 (dN y x n on1 ⟨c3,c4,c5,c6,c7⟩)from bU _ _,←kG];exact this
      case measure=>simp[intOf];have :=HQX.o;have :=HN.o;omega
    · have hb0:(cr==0)=false:=by simpa using h0
      have HW:=Hd (Kc a3 hs2 (HTT.o.on hB2) y x HL.o.2.1 (by have :=HL.o.2.2;omega) (some ⟨b,off+x*8,none⟩) sub (ca-x) (HPT.o w2 hB2) HSUB.o (by have :=HN.o;have :=HL.o.2.2;have :=HSL.o;omega) (by have :=HLL.o;omega));rw[a1,HSL.o,show n=q-x by have :=HQX.o;omega]at HW;clear hB2 hs2 a1 a2 a3 a4 a5 hat hb2;have hxq:(x:Int)≤q:=by have :=HQX.o;omega
      have hcx:¬ca=x:=by have :=HCAP.o;omega
      go_wp2_with(go_at_call 247;(with_reducible refine HW.o.mono ?_);rintro e w3 ⟨rfl,hr⟩;have HR3:=Hd hr;clear hr)
      go_roundw
      case rel=>
       obtain⟨a1,a2,a4,a5⟩:=H1.o;have hqx:=HQX.o;refine⟨q,_,_,by have :=HN.o;omega,by go_num,by rw[hqx];exact HNX.o,gY.trans a1 a2 a5 a4 ?_⟩;have :=HR3.o;rw[show Kk y x n on1 ⟨cr,cm,chf,c3,c4,c5,c6,c7⟩ sub=cV y x++(vW on1 sub).1 from if_neg h0,show Wd n on1 ⟨cr,cm,chf,c3,c4,c5,c6,c7⟩ sub=(vW on1 sub).2 from if_neg h0,show B8 (pre++(cV y x++(vW on1 sub).1))=B8 pre++B8 (cV y x++(vW on1 sub).1)from bU _ _,←kG];exact this
      case measure=>simp[intOf];have :=HQX.o;have :=HN.o;omega
  · obtain rfl:x=cs.length:=by omega
    obtain⟨e1,e2⟩:=HEND.o _ _ _ hst (jD _);have HE:=Hd (kY e1 e2);have HRR:=Hd hR;clear e1 e2 hst hR
    go_wp2
    go_end0
    obtain⟨e1,e2⟩:=HE.o;exact⟨rfl,by rw[e1,e2];exact HRR.o⟩
end
def vL(rows:List Rw):List (List Cl):=rows.map (·.cs)
def RB(base:Nat)(w:World)(A:Option Addr)(rows:List Rw):Prop:=∀w',Below base w w'→bG w' A rows
theorem RB.on{base:Nat}{w w':World}{A:Option Addr}{rows:List Rw}(h:RB base w A rows)(hb:Below base w w'):RB base w' A rows:=fun w2 h2=>h w2 (hb.trans h2)
def qV7(rows:List Rw):Prop:=∀r∈rows,r.cs.length≤1000∧r.cs.length≤r.cap∧∀c∈r.cs,gF c
theorem Xt(y:Nat)(on:Atr){rows:List Rw}{k:Nat}{r:Rw}(h:rows[k]? =some r):yX y on (vL (rows.drop k))=((zI r.cs.length y 0 on r.cs).1++(yX (y+1) (zI r.cs.length y 0 on r.cs).2 (vL (rows.drop (k+1)))).1,(yX (y+1) (zI r.cs.length y 0 on r.cs).2 (vL (rows.drop (k+1)))).2):=by
 obtain⟨hk,rfl⟩:=jP.1 h;rw[List.drop_eq_getElem_cons hk];rfl
def dB(on:Atr)(rows:List Rw)(k:Nat)(pre:List Int)(on1:Atr):Prop:=yX 0 on (vL rows)=(pre++(yX k on1 (vL (rows.drop k))).1,(yX k on1 (vL (rows.drop k))).2)∧pre.length≤181000*k
theorem dB.start(on:Atr)(rows:List Rw):dB on rows 0 [] on:=⟨rfl,kM _⟩
theorem dB.next{on:Atr}{rows:List Rw}{k:Nat}{pre:List Int}{on1:Atr}{r:Rw}(h:dB on rows k pre on1)(hr:rows[k]? =some r)(hk:k≤1000)(hok:r.cs.length≤1000∧r.cs.length≤r.cap∧∀c∈r.cs,gF c):
 dB on rows (k+1) (pre++(zI r.cs.length k 0 on1 r.cs).1) (zI r.cs.length k 0 on1 r.cs).2:=by
 obtain⟨he,hp⟩:=h;refine⟨?_,?_⟩
 · rw[he,Xt k on1 hr,kG]
 · have :=Vh r.cs.length k 0 on1 r.cs hk hok.1 (kM _) hok.2.2;rw[jO]at this;rw[jC];omega
theorem dB.end_{on:Atr}{rows:List Rw}{pre:List Int}{on1:Atr}(h:dB on rows rows.length pre on1):(yX 0 on (vL rows)).2=on1∧(yX 0 on (vL rows)).1=pre:=by
 obtain⟨he,-⟩:=h;rw[he,List.drop_length];exact⟨rfl,by rw[show(yX rows.length on1 (vL [])).1=[]from rfl,List.append_nil]⟩
section
variable {base:Nat}{w:World}{v:Pn}{on:Atr}{l:List UInt8}
set_option maxHeartbeats 3200000 in
theorem U7(h:PnO base w v on l)(hbw:base≤w.heap.size)(ht:TB base w)(A:Option Addr)(rows:List Rw)(ca:Nat)(hr:RB base w A rows)(hok:qV7 rows)(hz:rows.length≤400)(hl:l.length≤1000):
 Calls jG 155 #[.slice A rows.length ca,.func (.func 156) #[.pointer (some ⟨v.P,0,none⟩)] #[]] w (nK base w v (yX 0 on (vL rows)).2 (l++u8 (yX 0 on (vL rows)).1)):=by
 have HO:=Hd h;have HT:=Hd ht;have HBW:=Hd hbw;have HR:=Hd hr;have HOK:=Hd hok;have HL:=Hd (kY hl hz);have HEND:Hid (∀on1 pre,dB on rows rows.length pre on1→(yX 0 on (vL rows)).2=on1∧(yX 0 on (vL rows)).1=pre):=Hd (fun on1 pre h1=>h1.end_);obtain⟨RA,hRA⟩:∃RA,(yX 0 on (vL rows)).2=RA:=⟨_,rfl⟩;obtain⟨RX,hRX⟩:∃RX,(yX 0 on (vL rows)).1=RX:=⟨_,rfl⟩;rw[hRA,hRX]at HEND;rw[hRA,hRX];clear h hbw ht hr hok hl hRA hRX
 go_enter Tryz.func155,Tryz.ntmps155
 go_wp2_with fail
 go_loopw [8] (fun i wr=>∃(k:Nat) (pre:List Int) (on1:Atr),k≤rows.length∧i=.int .i64 k∧dB on rows k pre on1∧gY base w v on1 (l++B8 pre) wr) (fun i _=>rows.length-(intOf i).toNat)
 case atStart=>exact⟨0,[],on,kM _,rfl,dB.start _ _,by rw[show l++B8 []=l from List.append_nil l];exact HO.o.res⟩
 case round=>
  obtain⟨k,pre,on1,hk,rfl,hst,hR⟩:=hrel
  by_cases hlt:k<rows.length
  · have hB:Below base w wr:=gY.below HO.o HBW.o hR;have hsz:base≤wr.heap.size:=jI HBW.o hB.size;have hRB:=HR.o.on hB;obtain⟨b,off,rfl,hrr⟩:=(HR.o wr hB) qJ;have hget:=jN hlt;have hcb:CB base wr rows[k].A rows[k].cs:=fun w' hb=>by
     obtain⟨b',off',-,hq⟩:=hRB w' hb qJ;exact(hq k _ hget).2.1
    obtain⟨⟨c0,c1⟩,-,-⟩:=hrr k _ hget;have hD:=HOK.o _ (List.getElem_mem hlt);have hnx:=hst.next hget (by have :=HL.o.2;omega) hD;have hpl:=hst.2;have hll:(l++B8 pre).length≤79000000:=by rw[jC,eD];have :=HL.o.1;have :=HL.o.2;omega
    generalize rows[k]=r at c0 c1 hD hnx hcb;obtain⟨rA,cs,cap,cont⟩:=r;simp only at c0 c1 hD hnx hcb;have hbn:=jH (jU wr.heap.size wr) (.cells #[.slice rA cs.length cap,.bool cont] 52);have HBN:=Hd hbn;have hT:=HT.o.on hB;obtain⟨v1,a1,a2,a3,a4,a5⟩:=hR;have HRow:=Hd (qJ3 (a3.below hbn) (jI hsz hbn.size) (hT.on (hbn.mono hsz)) k (by have :=HL.o.2;omega) rA cs cap (hcb.on (hbn.mono hsz)) hD.2.2 hD.1 hD.2.1 hll);rw[a1]at HRow;have H1:=Hd (kY a1 (kY a2 (kY a4 (kY a5 hnx))));clear hB hsz hRB hrr hget hcb hD hnx hpl hll hbn hT a1 a2 a3 a4 a5 hst
    go_wp2_with((with_reducible refine HRow.o.mono ?_);rintro e w3 ⟨rfl,hr⟩;have HR3:=Hd hr;clear hr)
    go_roundw
    case rel=>
     obtain⟨a1,a2,a4,a5,hnx⟩:=H1.o;refine⟨k+1,_,_,by omega,by go_num,hnx,gY.trans a1 a2 a5 a4 (gY.pre HBN.o ?_)⟩;have :=HR3.o;rw[show B8 (pre++(zI cs.length k 0 on1 cs).1)=B8 pre++B8 (zI cs.length k 0 on1 cs).1 from bU _ _,←kG];exact this
    case measure=>simp[intOf];omega
  · obtain rfl:k=rows.length:=by omega
    obtain⟨e1,e2⟩:=HEND.o _ _ hst;have HE:=Hd (kY e1 e2);have HRR:=Hd hR;clear e1 e2 hst hR
    go_wp2
    go_end0
    obtain⟨e1,e2⟩:=HE.o;exact⟨rfl,by rw[e1,e2];exact HRR.o⟩
end
theorem qQf:jG.cellsOf 5=1:=by kernel_rfl
set_option maxHeartbeats 1600000 in
theorem qVo(b g cap B:Nat)(p:Value)(l:List UInt8)(w:World)(h:w.heap[b]? =some (.cells #[p,.slice (some ⟨g,0,none⟩) l.length cap] 76 (0,0)))(hown:w.ownsRow B 5 1 (.slice (some ⟨g,0,none⟩) l.length cap) l.length (Lib.byteCells l))(h0:l≠[]):
 Calls jG 42 #[.pointer (some ⟨b,0,none⟩)] w fun e w'=>e=.returned (.string ⟨l.toArray⟩)∧Below B w w':=by
 have hl0:l.length≠0:=by simpa using h0
 obtain⟨hbg,cur,fz,hg,hnc,hcm,hcs,htake⟩:B≤g∧∃cur fz,w.heap[g]? =some (.cells cur 5 fz)∧l.length≤cap∧cap≤maxLen∧cur.size=cap*1∧cur.toList.take (l.length*1)=Lib.byteCells l:=by
  rcases hown.2 with⟨_,hz⟩|⟨g',cap',cur,hv,hb,hg,h1,h2,h3,h4⟩
  · exact absurd hz hl0
  · simp only[Value.slice.injEq,Option.some.injEq,Addr.mk.injEq]at hv;obtain⟨⟨rfl,-⟩,-,rfl⟩:=hv;exact⟨hb,cur,_,hg,h1,h2,h3,h4⟩
 have c1:w.drew.cell? ⟨b,1,none⟩=some (.slice (some ⟨g,0,none⟩) l.length cap):=(at_ (show w.drew.heap[b]? =_ from h) 1 _ rfl).1;have hSD:(Builtin.unsafeSliceData_ #[23] 146 #[.slice (some ⟨g,0,none⟩) l.length cap]).run jG w.drew=.ok (.pointer (some ⟨g,0,none⟩)) w.drew:=
  Lib.run_unsafeSliceData_row _ _ _ _ _ _ qJ
 have hUS:(Builtin.unsafeString_ #[146,3] 9 #[.pointer (some ⟨g,0,none⟩),.int .i64 l.length]).run jG w.drew=.ok (.string ⟨l.toArray⟩) (w.drew.freeze ⟨g,0,none⟩ l.length):=by
  refine Lib.run_unsafeString_row w.drew 146 3 9 5 Tryz.underlying146 qQf g cur.size (by have hg':w.drew.heap[g]? =some (.cells cur 5 fz):=hg;simp[World.shape?,hg']) l h0 qJ (by unfold maxLen at hcm;omega) ?_;intro j x hx;have :=hown.cells (g:=g) rfl j (.int .u8 x.toNat) (by simp[Lib.byteCells,hx]);exact this
 have mixed:jG.follows .mixedOrders=true:=by kernel_rfl
 go_enter Tryz.func42,Tryz.ntmps42
 go_wp2
 go_region_o
 all_goals(go_wp2;go_ret;exact⟨rfl,Lib.below_freeze (Below.drew (jU B w)) (p:=⟨g,0,none⟩) hbg _⟩)
theorem Y8(rows:List (List Cl))(ay ax:Nat):dR rows ay ax≠[]:=by
 unfold dR cV;intro h;simp at h
theorem KZ{rows:List Rw}(hok:qV7 rows)(hz:rows.length≤400)(ay ax:Nat):(yX 0 vI (vL rows)).1.length≤181000*rows.length:=by
 have :∀k,k≤rows.length→∃pre on1,dB vI rows k pre on1:=by
  intro k
  induction k with
  |zero=>exact fun _=>⟨_,_,dB.start _ _⟩
  |succ k ih=>
   intro hk;obtain⟨pre,on1,h⟩:=ih qJ;exact⟨_,_,h.next (jN qJ) qJ (hok _ (List.getElem_mem qJ))⟩
 obtain⟨pre,on1,h⟩:=this rows.length (jD _);rw[h.end_.2];exact h.2
theorem u8_str(xs:List Int):(⟨(u8 xs).toArray⟩:ByteArray)=strOfNums xs:=by
 unfold u8;rfl
theorem PnO.new{base:Nat}{w:World}{P B:Nat}(hp:w.heap[P]? =some (.cells #[.pointer (some ⟨B,0,none⟩),.int .i64 0,.int .i64 0,.int .i64 0,.int .i64 0,.int .i64 0] 212 (0,0)))(hb:w.heap[B]? =some (.cells #[.pointer none,.slice none 0 0] 76 (0,0)))(h1:base≤P)(h2:base≤B):PnO base w ⟨P,B,.pointer none,.slice none 0 0⟩ vI []:=
 ⟨hp,hb,.inl rfl,kS w base 5 1,h1,h2⟩
set_option maxHeartbeats 3200000 in
theorem qK4(A:Option Addr)(rows:List Rw)(ca cols ay ax:Nat)(w:World)(hl:bG w A rows)(hok:dP rows cols)(hcap:∀r∈rows,r.cs.length≤r.cap)(hay:ay<rows.length)(hax:ax<cols)(ht:fO w):
 Calls jG 87 #[.slice A rows.length ca,.agg #[.int .i64 ay,.int .i64 ax]] w fun e w'=>e=.returned (.tuple #[.string (strOfNums (dR (vL rows) ay ax)),.int .i64 0])∧Below w.heap.size w w':=by
 have hcs:qV7 rows:=fun r hr=>⟨by rw[(hok.2.2.2.2 r hr).1];exact hok.2.2.2.1,hcap r hr,(hok.2.2.2.2 r hr).2.2⟩;have HSZ:Hid (∀w',Below w.heap.size w w'→Calls jG 23 #[.slice A rows.length ca] w' fun e w2=>e=.returned (.tuple #[.int .i64 rows.length,.int .i64 cols])∧Below w'.heap.size w' w2):=Hd (fun w' hb=>KV A rows ca cols w' (hl.below hb) hok);have HRT:Hid (∀w',Below w.heap.size w w'→Calls jG 24 #[.slice A rows.length ca] w' fun e w2=>e=.returned (.bool true)∧Below w'.heap.size w' w2):=Hd (fun w' hb=>QO A rows ca cols w' (hl.below hb) hok);have HL:=Hd hl;have HT:=Hd ht;have HCS:=Hd hcs;have HZ:=Hd (kY hok.2.1 hok.2.2.2.1);have g1:¬(ay:Int)<0:=by omega
 have g2:¬(rows.length:Int)≤ay:=by omega
 have g3:¬(ax:Int)<0:=by omega
 have g4:¬(cols:Int)≤ax:=by omega
 clear hl hok hcap ht hcs;have x0:(w.alloc (.cells #[.int .i64 ay,.int .i64 ax] 34)).heap[w.heap.size]? =some (.cells #[.int .i64 ay,.int .i64 ax] 34 (0,0)):=jT rfl;obtain⟨W,hW⟩:∃W,w.alloc (.cells #[.int .i64 ay,.int .i64 ax] 34)=W:=⟨_,rfl⟩;have hb0:Below w.heap.size w W:=by rw[←hW];exact jH (jU _ _) _
 rw[hW]at x0;have HB0:=Hd hb0;have HX0:=Hd x0;clear x0 hb0
 go_enter Tryz.func87,Tryz.ntmps87
 go_upto_region 2 with(go_at_call 23;(with_reducible refine(HSZ.o _ HB0.o).mono ?_);rintro e w1 ⟨rfl,hb1⟩)
 have HB1:=Hd (jW HB0.o hb1);have HX1:=Hd ((hb1.block _ (jR HX0.o)).trans HX0.o);clear hb1 hW
 go_upto_region 5 with(go_at_call 24;(with_reducible refine(HRT.o _ HB1.o).mono ?_);rintro e w2 ⟨rfl,hb2⟩;have y0:w2.cell? ⟨w.heap.size,0,none⟩=some (.int .i64 ay):=(at_ ((hb2.block _ (jR HX1.o)).trans HX1.o) 0 _ rfl).1;have y1:w2.cell? ⟨w.heap.size,1,none⟩=some (.int .i64 ax):=(at_ ((hb2.block _ (jR HX1.o)).trans HX1.o) 1 _ rfl).1;have HB2:=Hd (jW HB1.o hb2);have HX2:=Hd ((hb2.block _ (jR HX1.o)).trans HX1.o);clear hb2)
 have hbp:((w2.alloc (.cells #[.pointer none,.slice none 0 0] 76)).alloc (.cells #[.pointer (some ⟨w2.heap.size,0,none⟩),.int .i64 0,.int .i64 0,.int .i64 0,.int .i64 0,.int .i64 0] 212)).heap[w2.heap.size+1]? =some (.cells #[.pointer (some ⟨w2.heap.size,0,none⟩),.int .i64 0,.int .i64 0,.int .i64 0,.int .i64 0,.int .i64 0] 212 (0,0)):=jT (by rw[World.size_alloc]);have hbb:((w2.alloc (.cells #[.pointer none,.slice none 0 0] 76)).alloc (.cells #[.pointer (some ⟨w2.heap.size,0,none⟩),.int .i64 0,.int .i64 0,.int .i64 0,.int .i64 0,.int .i64 0] 212)).heap[w2.heap.size]? =some (.cells #[.pointer none,.slice none 0 0] 76 (0,0)):=by
  refine((jH (jU _ _) _).block _ qZ7).trans (jT rfl)
 have hb3:Below w2.heap.size w2 ((w2.alloc (.cells #[.pointer none,.slice none 0 0] 76)).alloc (.cells #[.pointer (some ⟨w2.heap.size,0,none⟩),.int .i64 0,.int .i64 0,.int .i64 0,.int .i64 0,.int .i64 0] 212)):=jH (jH (jU _ _) _) _;generalize (w2.alloc (.cells #[.pointer none,.slice none 0 0] 76)).alloc (.cells #[.pointer (some ⟨w2.heap.size,0,none⟩),.int .i64 0,.int .i64 0,.int .i64 0,.int .i64 0,.int .i64 0] 212)=w3 at hbp hbb hb3;have hs2:w.heap.size≤w2.heap.size:=HB2.o.size;have hPO:PnO w2.heap.size w3 ⟨w2.heap.size+1,w2.heap.size,.pointer none,.slice none 0 0⟩ vI []:=PnO.new hbp hbb qJ (jD _);have hx3:=(hb3.block _ (jR HX2.o)).trans HX2.o;have hT3:TB w2.heap.size w3:=(TB.of (HT.o.below HB2.o)).on hb3;have hw3:w2.heap.size≤w3.heap.size:=hb3.size;have HEA:=Hd (U7 hPO hw3 hT3 A rows ca (fun w' hb=>HL.o.below (HB2.o.trans ((hb3.trans hb).mono hs2))) HCS.o HZ.o.1 (by show 0≤1000;omega));simp only at HEA;have H3:=Hd (kY hPO (kY hb3 (kY hx3 (kY hT3 hw3))));have HX2L:=Hd (jR HX2.o);obtain⟨PP,hPP⟩:∃PP,w2.heap.size+1=PP:=⟨_,rfl⟩;obtain⟨B2,hB2⟩:∃B2,w2.heap.size=B2:=⟨_,rfl⟩;rw[hPP]at H3 HEA ⊢;rw[hB2]at H3 HEA HX2L ⊢;clear hbp hbb hb3 hPO hx3 hT3 hw3 hs2 y0 y1 hPP;have HB2E:=Hd hB2
 clear hB2
 go_upto_region 6 with(go_at_call 155;(with_reducible refine HEA.o.mono ?_);rintro e w4 ⟨rfl,hr⟩;have HR4:=Hd hr;clear hr)
 obtain⟨v4,a1,a2,a3,a4,a5⟩:=HR4.o;obtain⟨hPO,hB3,hx3,hT3,hw3⟩:=H3.o;have hw4:B2≤w4.heap.size:=jI hw3 a4.size;have hB4:Below B2 w3 w4:=gY.below hPO hw3 HR4.o;have hln:=KZ HCS.o HZ.o.1 ay ax;have hlen4:([]++u8 (yX 0 vI (vL rows)).1).length≤72400000:=by rw[List.nil_append,eD];have :=HZ.o.1;omega
 have hT4:=hT3.on hB4;have hx4:=(hB4.block _ HX2L.o).trans hx3;have HTU:Hid (Calls jG 157 #[.pointer (some ⟨v4.P,0,none⟩),.agg #[.int .i64 0,.int .i64 0,.int .i64 0,.int .i64 0,.int .i64 0]] w4 (nK B2 w4 v4 vI ([]++u8 (yX 0 vI (vL rows)).1++u8 (pF (yX 0 vI (vL rows)).2 vI)))):=Hd (tN a3 hw4 hT4.tab vI vO.zero qJ);rw[a1]at HTU;have H4:=Hd (kY a1 (kY a2 (kY a3 (kY a4 (kY a5 (kY hw4 (kY hT4 (kY hx4 hlen4))))))));clear a1 a2 a3 a4 a5 hPO hB3 hx3 hT3 hw3 hw4 hB4 hln hlen4 hT4 hx4 HEA
 go_upto_region 7 with(go_at_call 157;(with_reducible refine HTU.o.mono ?_);rintro e w5 ⟨rfl,hr⟩;have HR5:=Hd hr;clear hr)
 obtain⟨a1,a2,a3,a4,a5,hw4,hT4,hx4,hlen4⟩:=H4.o;obtain⟨v5,b1,b2,b3,b4,b5⟩:=HR5.o;have hw5:B2≤w5.heap.size:=jI hw4 b4.size;have hB5:Below B2 w4 w5:=gY.below a3 hw4 HR5.o;have hx5:=(hB5.block _ HX2L.o).trans hx4;have hlen5:([]++u8 (yX 0 vI (vL rows)).1++u8 (pF (yX 0 vI (vL rows)).2 vI)).length≤72400200:=by
  have :=eF (yX 0 vI (vL rows)).2 vO.zero;rw[jC,eD (pF _ _)];omega
 have HMO:Hid (Calls jG 158 #[.pointer (some ⟨v5.P,0,none⟩),.int .i64 ay,.int .i64 ax] w5 (nK B2 w5 v5 vI ([]++u8 (yX 0 vI (vL rows)).1++u8 (pF (yX 0 vI (vL rows)).2 vI)++u8 (cV ay ax)))):=Hd (tB b3 hw5 (hT4.on hB5).tab ay ax (by have :=HZ.o.1;omega) (by have :=HZ.o.2;omega) qJ);rw[b1,a1]at HMO;have y0:w5.cell? ⟨w.heap.size,0,none⟩=some (.int .i64 ay):=(at_ hx5 0 _ rfl).1;have y1:w5.cell? ⟨w.heap.size,1,none⟩=some (.int .i64 ax):=(at_ hx5 1 _ rfl).1;have H5:=Hd (kY b1 (kY b2 (kY b3 (kY b4 (kY b5 hw5)))));clear a1 a2 a3 a4 a5 hw4 hT4 hx4 hlen4 b1 b2 b3 b4 b5 hw5 hB5 hx5 hlen5 HTU
 go_upto_region 8 with(go_at_call 158;(with_reducible refine HMO.o.mono ?_);rintro e w6 ⟨rfl,hr⟩;have HR6:=Hd hr;clear hr)
 obtain⟨a1,a2,a3,a4,a5,hw4,hT4,hx4,hlen4⟩:=H4.o;obtain⟨b1,b2,b3,b4,b5,hw5⟩:=H5.o;obtain⟨hPO,hB3,hx3,hT3,hw3⟩:=H3.o;have hB6:Below B2 w3 w6:=(gY.below hPO hw3 HR4.o).trans ((gY.below a3 hw4 HR5.o).trans (gY.below b3 hw5 HR6.o));obtain⟨v6,d1,d2,d3,d4,d5⟩:=HR6.o;have hl6:[]++u8 (yX 0 vI (vL rows)).1++u8 (pF (yX 0 vI (vL rows)).2 vI)++u8 (cV ay ax)=u8 (dR (vL rows) ay ax):=by
  unfold dR;rw[bU,bU,List.nil_append,kG]
 rw[hl6]at d3;have h0:u8 (dR (vL rows) ay ax)≠[]:=fun h=>Y8 (vL rows) ay ax (List.length_eq_zero_iff.1 (by rw[←eD,h];rfl));obtain⟨⟨c0,-⟩,-⟩:=d3.facts;rw[d1,b1,a1,d2,b2,a2]at c0;have hfin:Below w.heap.size w w6:=by
  have e1:=HB2E.o;refine HB2.o.trans ((hB3.trans hB6).mono ?_);rw[←e1];exact HB2.o.size
 have HST:Hid (Calls jG 42 #[.pointer (some ⟨B2,0,none⟩)] w6 fun e w'=>e=.returned (.string (strOfNums (dR (vL rows) ay ax)))∧Below B2 w6 w'):=by
  have hown:=d3.own;obtain⟨g,c,hbf,-,-⟩:=eX hown (List.length_pos_iff.2 h0);have hb:=d3.b;rw[hbf]at hown hb;have :=qVo v6.B g c B2 v6.ba (u8 (dR (vL rows) ay ax)) w6 hb hown h0;rw[u8_str,d2,b2,a2]at this;exact Hd this
 have HF:=Hd hfin;clear a1 a2 a3 a4 a5 hw4 hT4 hx4 hlen4 b1 b2 b3 b4 b5 hw5 d1 d2 d3 d4 d5 hB6 hPO hB3 hx3 hT3 hw3 hl6 h0 hfin HMO y0 y1
 go_wp2_with(go_at_call 42;(with_reducible refine HST.o.mono ?_);rintro e w7 ⟨rfl,hb7⟩;have HB7:=Hd hb7;clear hb7)
 go_ret2
 refine⟨rfl,HF.o.trans (HB7.o.mono ?_)⟩;rw[←HB2E.o];exact HB2.o.size
section
variable {base:Nat}{w:World}{v:Tv}{t:Tm}
def zW(base:Nat)(w:World)(v:Tv)(t':Tm)(w':World):Prop:=∃v',v'.a.q.P=v.a.q.P∧TmV w v v'∧TmO base w' v' t'∧Mod (tmX v) w w'
def TmPq(base:Nat)(w:World)(v:Tv)(t':Tm)(e:Ending)(w':World):Prop:=e=.returned (.tuple #[])∧zW base w v t' w'
theorem TmO.resq(h:TmO base w v t):zW base w v t w:=⟨v,rfl,⟨rfl,rfl,rfl,rfl,fun _ hb=>.inl hb⟩,h,Mod.refl _ _⟩
theorem zW.trans{w1 w2:World}{v1:Tv}{t2:Tm}(hq:v1.a.q.P=v.a.q.P)(h1:TmV w v v1)(hm:Mod (tmX v) w w1)(h2:zW base w1 v1 t2 w2):zW base w v t2 w2:=by
 obtain⟨v2,q,k,a4,a5⟩:=h2;refine⟨v2,q.trans hq,⟨k.M.trans h1.M,k.z.trans h1.z,k.a.trans h1.a,k.b.trans h1.b,fun x hx=>?_⟩,a4,hm.trans a5 h1.x⟩;rcases k.x x hx with h|h
 · exact h1.x x h
 · exact qXj
theorem zW.pre{w1 w2:World}{t2:Tm}(hb:Below w.heap.size w w1)(h2:zW base w1 v t2 w2):zW base w v t2 w2:=zW.trans rfl ⟨rfl,rfl,rfl,rfl,fun _ hb=>.inl hb⟩ (Mod.of_below hb) h2
theorem zW.post{w1 w2:World}{t':Tm}(h:zW base w v t' w1)(hb:Below w1.heap.size w1 w2):zW base w v t' w2:=by
 obtain⟨v',q,k,a4,a5⟩:=h;exact⟨v',q,k,a4.below hb,a5.then_below hb⟩
theorem TmO.withAq{s':Sc}{w':World}(h:TmO base w v t)(hp:pU base w v.a s' w'):zW base w v {t with s0:=s'} w':=by
 obtain⟨a',e1,e2,e3,hO,hm,hx⟩:=hp;have hc:yI w (scX v.a):=sU h.a.ty qZ;refine⟨{v with a:=a'},e3,⟨rfl,rfl,e1,rfl,fun x hx2=>?_⟩,⟨?_,h.hb,h.z.mod hm h.za,hO,h.b.mod hm hc (fun b hb hz=>h.ab b hz hb),h.ad,kD h.bu hm h.fa,kD h.ch hm h.ca,fun x h1 h2=>?_,h.bz⟩,hm.mono (fun b hb=>gQ.2 (.inr (.inr (.inl hb))))⟩
 · rcases gQ.1 hx2 with h1|h1|h1|h1
   · exact .inl (gQ.2 (.inl h1))
   · exact .inl (gQ.2 (.inr (.inl h1)))
   · exact(hx x h1).imp (fun h=>gQ.2 (.inr (.inr (.inl h)))) id
   · exact .inl (gQ.2 (.inr (.inr (.inr h1))))
 · have :=(hm.block v.M h.ltM h.ma).trans h.blk;rw[this];unfold Jx;rw[e1]
 · rcases hx x h1 with h3|h3
   · exact h.ab x h3 h2
   · have :=(h.b.lt x h2).2;omega
theorem TmO.putq{t':Tm}{v':Tv}{w':World}(h:TmO base w v t)(hM:v'.M=v.M)(hz:v'.z=v.z)(ha:v'.a=v.a)(hb:v'.b=v.b)(had:v'.ba=.pointer none∨v'.ba=.pointer (some ⟨v.M,6,none⟩))(hf:(v'.bf=v.bf∧t'.rep=t.rep)∨(v'.bf=.slice none 0 0∧t'.rep=[]))(hc:(v'.vc=v.vc∧t'.ch=t.ch)∨(v'.vc=.slice none 0 0∧t'.ch=[]))
 (ez:t'.pz=t.pz) (ea:t'.s0=t.s0) (eb:t'.s1=t.s1) (hm:Mod [v.M] w w') (hw:w'.heap[v.M]? =some (.cells (Jx t' v').toArray 78 (0,0))):zW base w v t' w':=by
 have hX:yI w [v.M]:=sU (l:=[78]) (fun b hb=>by rw[jM.1 hb];exact h.tyM) qZ;have hf2:∀x,v'.bf.ownBlock=some x→v.bf.ownBlock=some x:=fun x hx=>by
  rcases hf with⟨e,-⟩|⟨e,-⟩
  · rw[←e];exact hx
  · rw[e]at hx;cases hx
 have hc2:∀x,v'.vc.ownBlock=some x→v.vc.ownBlock=some x:=fun x hx=>by
  rcases hc with⟨e,-⟩|⟨e,-⟩
  · rw[←e];exact hx
  · rw[e]at hx;cases hx
 refine⟨v',by rw[ha],⟨hM,by rw[hz],by rw[ha],by rw[hb],fun x hx=>.inl ?_⟩,⟨by rw[hM];exact hw,by rw[hM];exact h.hb,?_,?_,?_,by rw[hM];exact had,?_,?_,by rw[ha,hb];exact h.ab,fun x hx=>by rw[hz];exact h.bz x (hf2 x hx)⟩,hm.mono (fun b hb=>gQ.2 (.inl (jM.1 hb)))⟩
 · rcases gQ.1 hx with h1|h1|h1|h1|h1|h1
   · exact gQ.2 (.inl (h1.trans hM))
   · exact gQ.2 (.inr (.inl (by rw[←hz];exact h1)))
   · exact gQ.2 (.inr (.inr (.inl (by rw[←ha];exact h1))))
   · exact gQ.2 (.inr (.inr (.inr (.inl (by rw[←hb];exact h1)))))
   · exact gQ.2 (.inr (.inr (.inr (.inr (.inl (hf2 x h1))))))
   · exact gQ.2 (.inr (.inr (.inr (.inr (.inr (hc2 x h1))))))
 · rw[hz,ez];exact h.z.mod hm (fun b hb hx=>h.mz qT)
 · rw[ha,ea];exact h.a.mod hm hX (fun b hb hx=>h.ma qT)
 · rw[hb,eb];exact h.b.mod hm hX (fun b hb hx=>h.mb qT)
 · rcases hf with⟨e1,e2⟩|⟨e1,e2⟩
   · rw[e1,e2];exact kD h.bu hm (fun g hg hx=>h.mf qZ0)
   · rw[e1,e2];exact kS w' base 5 1
 · rcases hc with⟨e1,e2⟩|⟨e1,e2⟩
   · rw[e1,e2];exact kD h.ch hm (fun g hg hx=>h.mc qZ0)
   · rw[e1,e2];exact kS w' base 96 10
set_option maxHeartbeats 1600000 in
theorem Vk(h:TmO base w v t)(ht:t.s0.pg.told=[]):Calls jG 44 #[.pointer (some ⟨v.M,0,none⟩)] w (TmPq base w v t):=by
 have HP:=Hd (iX h.a);have HS:=Hd (ZW h.a.page);obtain⟨-,c1,-⟩:=h.facts;have HO:=Hd h;have HT:=Hd ht;clear h ht
 go_enter Tryz.func44,Tryz.ntmps44
 go_wp2_with(first
  |(go_at_call 78;(with_reducible refine HP.o.mono ?_);rintro e w1 ⟨rfl,rfl⟩)
  |(go_at_call 84;(with_reducible refine HS.o.mono ?_);rintro e w1 ⟨sv,rfl,ho,hr⟩;rw[HT.o]at ho;obtain⟨A,c,rfl⟩:=uT ho;have HR:=Hd hr;clear ho hr))
 go_loopw [12] (fun s12 wr=>s12=.int .i64 0∧wr=w1) (fun _ _=>0)
 case atStart=>exact⟨rfl,rfl⟩
 case round=>
  obtain⟨rfl,rfl⟩:=hrel
  go_wp2
  go_end0
  have h1:=HO.o.withAq (HO.o.a.paged HR.o);have e:{t with s0:={t.s0 with pg:={t.s0.pg with told:=[]}}}=t:=by rw[←HT.o]
  rw[e]at h1;exact⟨rfl,h1⟩
def ChPq(base:Nat)(w:World)(v:Tv)(t:Tm)(e:Ending)(w':World):Prop:=∃A c,e=.returned (.slice A t.ch.length c)∧w'.ownsRow base 96 10 (.slice A t.ch.length c) t.ch.length (uM Us t.ch)∧zW base w v {t with ch:=[]} w'
set_option maxHeartbeats 1600000 in
theorem Qx(h:TmO base w v t)(ht:t.s0.pg.told=[]):Calls jG 18 #[.pointer (some ⟨v.M,0,none⟩)] w (ChPq base w v t):=by
 have HD:=Hd (Vk h ht);clear h ht
 go_enter Tryz.func18,Tryz.ntmps18
 go_upto_region 4 with(go_at_call 44;(with_reducible refine HD.o.mono ?_);rintro e w1 ⟨rfl,hr⟩;obtain⟨v1,hQ,hV,hO,hm⟩:=hr;have HQ:=Hd hQ;have HV:=Hd hV;have HO:=Hd hO;have HM:=Hd hm;clear hQ hV hO hm)
 obtain⟨-,-,-,-,-,-,-,-,⟨c8,f8⟩⟩:=HO.o.facts;rw[HV.o.M]at c8 f8;obtain⟨A,c,hvc⟩:=uT HO.o.ch;rw[hvc]at c8;have HC:=Hd (show w1.ownsRow base 96 10 (.slice A t.ch.length c) t.ch.length (uM Us t.ch)from by rw[←hvc];exact HO.o.ch);have HR:Hid (zW base w v {t with ch:=[]} (w1.setCell ⟨v.M,8,none⟩ (.slice none 0 0))):=Hd (by
  refine zW.trans HQ.o HV.o HM.o (HO.o.putq (t':={t with ch:=[]}) (v':={v1 with vc:=.slice none 0 0}) rfl rfl rfl rfl HO.o.ad (.inl ⟨rfl,rfl⟩) (.inr ⟨rfl,rfl⟩) rfl rfl rfl (by rw[HV.o.M];exact(Mod.refl _ _).setCell (a:=⟨v.M,8,none⟩) (.inl qV) _) ?_);have :=vR (o:=8) (v:=.slice none 0 0) HO.o.blk;rw[jZ]at this;rw[HV.o.M]at this ⊢;exact this)
 have HC2:Hid ((w1.setCell ⟨v.M,8,none⟩ (.slice none 0 0)).ownsRow base 96 10 (.slice A t.ch.length c) t.ch.length (uM Us t.ch)):=Hd (kD HC.o ((Mod.refl [v.M] _).setCell (a:=⟨v.M,8,none⟩) (.inl qV) _) (fun g hg hx=>HO.o.mc (by rw[HV.o.M,hvc,←jM.1 hx];exact hg)));clear hvc
 go_wp2
 go_ret
 exact⟨A,c,rfl,HC2.o,HR.o⟩
theorem Xb(h:TmO base w v t):Calls jG 16 #[.pointer (some ⟨v.M,0,none⟩)] w fun e w'=>e=.returned (.string t.title)∧w=w':=by
 obtain⟨-,-,-,-,-,⟨c5,-⟩,-⟩:=h.facts;clear h
 go_enter Tryz.func16,Tryz.ntmps16
 go_wp2
 go_ret
 exact⟨rfl,rfl⟩
theorem Xd(h:TmO base w v t):Calls jG 14 #[.pointer (some ⟨v.M,0,none⟩)] w fun e w'=>e=.returned (.agg #[.int .u32 t.modes])∧Below w.heap.size w w':=by
 obtain⟨-,-,-,-,⟨c4,-⟩,-⟩:=h.facts;obtain⟨W,hW⟩:∃W,w.alloc (.cells #[.int .u32 0] 40)=W:=⟨_,rfl⟩;have HB0:Hid (Below w.heap.size w W):=Hd (by rw[←hW];exact jH (jU _ _) _);have HN0:Hid (W.heap[w.heap.size]? =some (.cells #[.int .u32 0] 40 (0,0))):=Hd (by rw[←hW];exact jT rfl);have c4w:W.cell? ⟨v.M,4,none⟩=some (.int .u32 t.modes):=kZ HB0.o c4;obtain⟨r0,rf0⟩:=at_ HN0.o 0 (.int .u32 0) rfl;generalize t.modes=m at c4 c4w ⊢;clear h c4
 go_enter Tryz.func14,Tryz.ntmps14
 go_wp2
 exact bodyPost_ret (bW rfl _ _ w.heap.size [.int .u32 m] rfl (uH (kA (cs:=[.int .u32 0]) HN0.o 0 (.int .u32 m) rfl)) Tryz.underlying40 rfl QU) rfl ⟨rfl,uK HB0.o (jD _) _⟩
set_option maxHeartbeats 1600000 in
theorem bstr0(b o c:Nat)(A:Option Addr)(w:World)(h:w.cell? ⟨b,o+1,none⟩=some (.slice A 0 c))(hA:∀a,A=some a→∃sh,w.shape? a.block=some sh):
 Calls jG 42 #[.pointer (some ⟨b,o,none⟩)] w fun e w'=>e=.returned (.string ⟨#[]⟩)∧Below w.heap.size w w':=by
 have mixed:jG.follows .mixedOrders=true:=by kernel_rfl
 have hUS:∀(p:Option Addr) (W:World),(Builtin.unsafeString_ #[146,3] 9 #[.pointer p,.int .i64 0]).run jG W=.ok (.string .empty) W:=fun p W=>Lib.run_unsafeString_none W _ _ _ p;have c1:w.drew.cell? ⟨b,o+1,none⟩=some (.slice A 0 c):=h;cases A with
 |none=>
  have hSD:∀W:World,(Builtin.unsafeSliceData_ #[23] 146 #[.slice none 0 c]).run jG W=.ok (.pointer none) W:=fun W=>Lib.run_unsafeSliceData_nil W _ _ _ _;clear hA h
  go_enter Tryz.func42,Tryz.ntmps42
  go_wp2
  go_region_o
  all_goals(go_wp2;go_ret;exact⟨rfl,Below.drew (jU _ w)⟩)
 |some a=>
  by_cases hc:c=0
  · subst hc;obtain⟨sh,hsh⟩:=hA a rfl;have hSD:(Builtin.unsafeSliceData_ #[23] 146 #[.slice (some a) 0 0]).run jG w.drew=.ok (.pointer (some ⟨w.heap.size,0,none⟩)) (w.drew.alloc (.view a 5)):=Lib.run_unsafeSliceData_zero w.drew _ _ _ Tryz.underlying146 a 0 sh hsh;have c2:(w.alloc (.view a 5)).cell? ⟨b,o+1,none⟩=some (.slice (some a) 0 0):=kZ ((jU _ _).alloc (jD _) _) h;clear hA h
    go_enter Tryz.func42,Tryz.ntmps42
    go_wp2
    go_region_o
    all_goals(go_wp2;go_ret;exact⟨rfl,Below.alloc (Below.drew (jU _ w)) (jD _) _⟩)
  · have hSD:∀W:World,(Builtin.unsafeSliceData_ #[23] 146 #[.slice (some a) 0 c]).run jG W=.ok (.pointer (some a)) W:=fun W=>Lib.run_unsafeSliceData_row W _ _ _ _ _ hc;clear hA h
    go_enter Tryz.func42,Tryz.ntmps42
    go_wp2
    go_region_o
    all_goals(go_wp2;go_ret;exact⟨rfl,Below.drew (jU _ w)⟩)
set_option maxHeartbeats 1600000 in
theorem Vu(h:TmO base w v t)(hr:t.rep=[]):Calls jG 17 #[.pointer (some ⟨v.M,0,none⟩)] w fun e w'=>e=.returned (.string ⟨#[]⟩)∧zW base w v t w':=by
 obtain⟨-,-,-,-,-,-,-,⟨c7,-⟩,-⟩:=h.facts;have hbu:=h.bu;rw[hr]at hbu;obtain⟨A,c,hA,hsh⟩:∃A c,v.bf=.slice A 0 c∧∀a,A=some a→∃sh,w.shape? a.block=some sh:=by
  rcases hbu.2 with⟨e,-⟩|⟨g,cap,cur,e,-,hg,-⟩
  · exact⟨none,0,e,fun a ha=>by cases ha⟩
  · exact⟨_,cap,e,fun a ha=>by cases ha;exact⟨(5,cur.size),by simp[World.shape?,hg]⟩⟩
 rw[hA]at c7;have HST:=Hd (bstr0 v.M 6 c A w c7 hsh);have HO:=Hd h;have HREP:=Hd hr;clear h hr hbu hA hsh c7
 go_enter Tryz.func17,Tryz.ntmps17
 go_upto_region 4 with(go_at_call 42;(with_reducible refine HST.o.mono ?_);rintro e w1 ⟨rfl,hb⟩;have HB:=Hd hb;clear hb)
 have HO1:=Hd (HO.o.below HB.o);have HRS:Hid (Calls jG 43 #[.pointer (some ⟨v.M,6,none⟩)] w1 fun e w'=>e=.returned (.tuple #[])∧w'=(w1.setCell ⟨v.M,6,none⟩ (.pointer none)).setCell ⟨v.M,7,none⟩ (.slice none 0 0)):=Hd (by
  obtain⟨-,-,-,-,-,-,⟨c6,f6⟩,⟨c7,f7⟩,-⟩:=HO1.o.facts;have d7:=pK (b':=v.M) (i':=6) (u:=.pointer none) ⟨c7,f7⟩ (.inr qZ);clear HO HO1 HST HB
  go_enter Tryz.func43,Tryz.ntmps43
  go_wp2
  go_end0
  exact⟨rfl,rfl⟩)
 have HF:Hid (zW base w v t ((w1.setCell ⟨v.M,6,none⟩ (.pointer none)).setCell ⟨v.M,7,none⟩ (.slice none 0 0))):=Hd (by
  refine zW.pre HB.o ?_;refine HO1.o.putq (t':=t) (v':={v with ba:=.pointer none,bf:=.slice none 0 0}) rfl rfl rfl rfl (.inl rfl) (.inr ⟨rfl,HREP.o⟩) (.inl ⟨rfl,rfl⟩) rfl rfl rfl (((Mod.refl _ _).setCell (a:=⟨v.M,6,none⟩) (.inl qV) _).setCell (a:=⟨v.M,7,none⟩) (.inl qV) _) ?_;have h1:=vR (o:=6) (v:=.pointer none) HO1.o.blk;have h2:=vR (o:=7) (v:=.slice none 0 0) h1;exact h2)
 clear HST
 go_wp2_with(go_at_call 43;(with_reducible refine HRS.o.mono ?_);rintro e w2 ⟨rfl,rfl⟩)
 go_ret
 exact⟨rfl,HF.o⟩
end
end Go.Proofs.YtaefcahblmopfaaGreatDoor
