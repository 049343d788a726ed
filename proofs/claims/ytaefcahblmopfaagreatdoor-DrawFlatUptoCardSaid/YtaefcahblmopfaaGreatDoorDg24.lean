/- Joined by a tool of this claim out of smaller texts. Conditions: as stated. -/
import Derived.Test.YtaefcahblmopfaaGreatDoorDg23
import Derived.Maps.AppendAt
set_option linter.unusedVariables false
set_option linter.unusedSimpArgs false
set_option maxRecDepth 100000
open Go.Lib renaming hid → Hd
open List renaming setIfInBounds_toArray → jZ, set_cons_zero → jX, set_cons_succ → jY, mem_singleton → jW, getElem?_eq_getElem → jN, getElem?_eq_some_iff → jP, length_append → jC, drop_succ_cons → jR, take_succ_cons → jS, drop_zero → jO, mem_cons → kJ, take_zero → kK, getD_eq_getElem?_getD → kV, take_succ_eq_append_getElem → kY, replicate → kW, mem_append → kM, length_take → kS, length_set → kI, getElem?_map → uV, length_replicate → uX
open Go.Proofs.Tryz renaming prog → jG
open Go.RowKit.Below renaming refl → jU
open Nat renaming le_refl → jD, le_trans → jI, zero_le → kB, zero_add → kP, add_zero → uS
open Option renaming mem_toList → jT
open Int renaming toNat_natCast → vQ
namespace Go.Proofs.YtaefcahblmopfaaGreatDoor
open Go.RowKit
theorem yS(a b:List Int):strOfNums a++strOfNums b=strOfNums (a++b):=by
 unfold strOfNums;refine ByteArray.ext ?_;rw[ByteArray.data_append];simp
theorem X7(r:Int):(vK r).length≤4:=by
 unfold vK
 repeat' split
 all_goals simp
theorem Qc(L:List Int):(L.flatMap vK).length≤4*L.length:=by
 induction L with
 |nil=>simp
 |cons r L ih=>rw[List.flatMap_cons,jC,List.length_cons];have :=X7 r;omega
def zT(s:ByteArray):List Int:=s.data.toList.map fun b=>(b.toNat:Int)
theorem bI(s:ByteArray):(zT s).length=s.size:=by
 unfold zT;rw[List.length_map,Array.length_toList];rfl
theorem KT(s:ByteArray):∀x∈zT s,0≤x∧x<256:=fun x hx=>by
 obtain⟨b,_,rfl⟩:=List.mem_map.1 hx;have :=b.toNat_lt;omega
theorem X6(w:World)(e:TypeId)(s:ByteArray):BsS (Lib.bytesWorld w e s) w.heap.size 0 (zT s):=fun i x hi=>by
 have hl:=(jP.1 hi).1;rw[bI]at hl;rw[kP,Lib.bytesWorld_cell w e s i hl];unfold zT at hi;rw[uV]at hi;obtain⟨b,hb,rfl⟩:=Option.map_eq_some_iff.1 hi;rw[kV,hb];rfl
theorem cap_le(w:World)(e:TypeId)(n:Nat):n≤grownCap w n 0 e:=grownCap_ge w n 0 e
def U5(s:ByteArray)(w:World)(e:Ending)(w':World):Prop:=∃t:Bool,e=.returned (.bool t)∧(t=true→xJ s)∧Below w.heap.size w w'
set_option maxHeartbeats 3200000 in
theorem VS(s:ByteArray)(hz:s.size≤1048576)(w:World):Calls jG 59 #[.string s] w (U5 s w):=by
 have hcv:=QU s w;have HBI:=Hd (X6 w 5 s);have HBB:=Hd (mA w 5 s);have hcap:=cap_le w 5 s.size;have HA:Hid (∀(w1:World),BsS w1 w.heap.size 0 (zT s)→Calls jG 109 #[.slice (some ⟨w.heap.size,0,none⟩) s.size (grownCap w s.size 0 5)] w1 (Ja s.size w1)):=Hd (fun w1 hb=>by
  have :=WA w.heap.size 0 (grownCap w s.size 0 5) (zT s) w1 (KT s) (by rw[bI];exact hcap) (by rw[bI];omega) hb
  rwa[bI]at this)
 clear hcap;generalize Lib.bytesWorld w 5 s=wb at hcv HBI HBB
 go_enter Tryz.func59,Tryz.ntmps59
 go_wp2_with(go_at_call 109;(with_reducible refine(HA.o _ HBI.o).mono ?_);rintro e w1 ⟨v,L,rfl,ho,hsc,hLn,hb1⟩;obtain⟨A,c,rfl,hA⟩:=UD ho;have HB1:=Hd (jM HBB.o hb1);clear hb1 ho)
 have hAA:=Hd hA;have HSC:=Hd hsc;clear hA hsc
 go_loopw [4,5] (fun b i wr=>∃k:Nat,k≤L.length∧i=.int .i64 k∧b=.string (strOfNums ((L.take k).flatMap vK))∧(∀r∈L.take k,gZ r=0)∧Below w.heap.size w wr∧Below w1.heap.size w1 wr) (fun _ i _=>L.length-(intOf i).toNat)
 case atStart=>exact⟨0,kB _,rfl,rfl,by simp,HB1.o,jU _ _⟩
 case round=>
  obtain⟨k,hk,rfl,rfl,hw0,hB,hb⟩:=hrel;have HW0:=Hd hw0;have hfl:=Qc (L.take k);have hlk:(L.take k).length≤k:=by rw[kS];omega
  have hsz:(strOfNums ((L.take k).flatMap vK)).size≤4*k:=by rw[gE];omega
  clear hw0 hfl hlk
  by_cases hlt:k<L.length
  · obtain⟨g,rfl,hc0⟩:=hAA.o k _ (jN hlt);have hc:=kZ hb hc0;have hr:=HSC.o _ (List.getElem_mem hlt);have HT:Hid (L.take (k+1)=L.take k++[L[k]]):=Hd (kY hlt);clear hc0;generalize L[k]=r at hc hr HT;obtain⟨X,hX⟩:∃X,X=(L.take k).flatMap vK:=⟨_,rfl⟩;rw[←hX]at hsz ⊢;have HW:=Hd (fun w=>UB r w);have HU:=Hd (fun w=>JY r w);have hp32:=tQ r;have HPB:=Hd (lG r hr);have HXX:=Hd hX;clear hX hr;have hss:¬9223372036854775807<(strOfNums X).size+(vO r).size:=by omega
    by_cases h0:gZ r=0
    · rw[h0]at HW;have hw00:=Hd h0;clear h0
      go_wp2_with(first|(go_at_call 58;(with_reducible refine(HW.o _).mono ?_);rintro e w2 ⟨rfl,hb2⟩;have hc2:=kZ hb2 hc)|(go_at_call 52;(with_reducible refine(HU.o _).mono ?_);rintro e w3 ⟨u,ys,rfl,hu,hy,hb3⟩;have hcu:=QH hu;rw[hy]at hcu;clear hu hy))
      go_roundw
      case rel=>exact⟨k+1,by omega,by go_num,by rw[HT.o,List.flatMap_append,←HXX.o,←yS,HPB.o];simp,fun x hx=>by
       rw[HT.o]at hx;rcases kM.1 hx with h|h
       · exact HW0.o x h
       · rw[jW.1 h];exact hw00.o,jM (jM hB hb2) hb3,jM (jM hb hb2) hb3⟩
      case measure=>simp[intOf];omega
    · go_wp2_with(go_at_call 58;(with_reducible refine(HW.o _).mono ?_);rintro e w2 ⟨rfl,hb2⟩)
      go_ret
      exact⟨_,rfl,fun h=>by simp at h,jM hB hb2⟩
  · obtain rfl:k=L.length:=by omega
    rw[List.take_length]at hsz HW0 ⊢;have HFIN:Hid (strOfNums (L.flatMap vK)=s→s.size≤32→xJ s):=Hd (fun h h2=>⟨L,fun r hr=>⟨HSC.o r hr,HW0.o r hr⟩,h.symm,h2⟩);generalize strOfNums (L.flatMap vK)=S at hsz HFIN ⊢
    go_wp2
    all_goals
     go_ret
     first
     |exact⟨_,rfl,fun h=>HFIN.o (WideShapes.bytes_inj (by rw[←ByteArray.toList_eq,←ByteArray.toList_eq];assumption)) (by have h2:((s.size:Nat):Int)≤32:=of_decide_eq_true h;omega),hB⟩
     |exact⟨_,rfl,fun h=>by simp at h,hB⟩
def eqA(a b:Atr):Bool:=decide (a.fk=b.fk)&&decide (a.fn=b.fn)&&decide (a.bk=b.bk)&&decide (a.bn=b.bn)&&decide (a.fl=b.fl)
theorem sH{a b:Atr}:eqA a b=true↔a=b:=by
 obtain⟨a1,a2,a3,a4,a5⟩:=a;obtain⟨b1,b2,b3,b4,b5⟩:=b;unfold eqA;simp only[Bool.and_eq_true,decide_eq_true_eq,Atr.mk.injEq,and_assoc]
def cQ(y x:Nat):List Int:=27::91::(yV [y+1,x+1]++[72])
def pP(on a:Atr):List Int:=if eqA on a then[]else 27::91::(yV (pY a)++[109])
def Qf(n:Nat):List Int:=27::91::(yV [n]++[88])
def fP(c:Cl):List Int:=zT (vO c.r)++zT c.more
def vH:Atr→List Cl→List Int×Atr
 |on,[]=>([],on)
 |on,c::l=>if c.half=2 then vH on l else(pP on (vB c)++(fP c++(vH (vB c) l).1),(vH (vB c) l).2)
def zK(a b:Cl):Bool:=(decide (a.r=0)==decide (b.r=0))&& !(decide (a.r=0)&& !eqA (vB a) (vB b))
def zJ:List Cl→Nat
 |[]=>0
 |c::l=>(l.takeWhile (zK c)).length+1
def sA(y x:Nat)(on:Atr)(l:List Cl):List Int×Atr:=
 match l with
 |[]=>([],on)
 |c::_=>
  if c.r=0 then(if eqA (vB c) vI then([],on)else(cQ y x++(pP on (vB c)++Qf (zJ l)),vB c))
  else(cQ y x++(vH on (l.take (zJ l))).1,(vH on (l.take (zJ l))).2)
def zS:Nat→Nat→Nat→Atr→List Cl→List Int×Atr
 |0,_,_,on,_=>([],on)
 |k+1,y,x,on,l=>if l.length=0 then([],on)else((sA y x on l).1++(zS k y (x+zJ l) (sA y x on l).2 (l.drop (zJ l))).1,(zS k y (x+zJ l) (sA y x on l).2 (l.drop (zJ l))).2)
def yK:Nat→Atr→List (List Cl)→List Int×Atr
 |_,on,[]=>([],on)
 |y,on,l::r=>((zS l.length y 0 on l).1++(yK (y+1) (zS l.length y 0 on l).2 r).1,(yK (y+1) (zS l.length y 0 on l).2 r).2)
def dB(rows:List (List Cl))(ay ax:Nat):List Int:=(yK 0 vI rows).1++(pP (yK 0 vI rows).2 vI++cQ ay ax)
def mkR(l:List Cl):Ro:=⟨l,false⟩
def dS(st:List Bool)(cols:Nat)(scr:List (List Cl))(a:Atr)(y x:Nat)(la:Int):Sc:=⟨⟨5,[],0,scr.map mkR,cols,[]⟩,st,⟨a,gS,false,true,false⟩,y,x,0,(scr.length:Int)-1,XQ,0,0,false,la⟩
def zeC:Cl:=vE ⟨0,0⟩
def gC(k:Nat):List Cl:=kW k zeC
theorem newS_dS(n cols:Nat)(st:List Bool):oR n cols 5 st=dS st cols (kW n (gC cols)) vI 0 0 0:=by
 unfold oR dS;simp only[List.map_replicate,uX];rfl
theorem aU{f:List Cl→List Cl}:∀{scr:List (List Cl)} {y:Nat} {l:List Cl},scr[y]? =some l→(scr.map mkR).modify y (fun r=>{r with cs:=f r.cs})=(scr.set y (f l)).map mkR
 |[],_,_,h=>by simp at h
 |r::scr,0,l,h=>by
  obtain rfl:r=l:=by simpa using h
  rfl
 |r::scr,y+1,l,h=>by
  have :=aU (f:=f) (scr:=scr) (y:=y) (l:=l) qT;simp only[List.map_cons,List.modify_succ_cons,jY];rw[this]
theorem Vx:∀{scr:List (List Cl)} {y:Nat},(scr.map mkR).modify y (fun r=>{r with cont:=false})=scr.map mkR
 |[],y=>by simp
 |r::scr,0=>rfl
 |r::scr,y+1=>by
  simp only[List.map_cons,List.modify_succ_cons];rw[Vx]
section
variable {st:List Bool}{cols:Nat}{scr:List (List Cl)}{a:Atr}{y x:Nat}{la:Int}
theorem dS_sci(hy:y<scr.length)(hx:x≤cols):ScI (dS st cols scr a y x la):=by
 refine⟨?_,?_,?_,?_,?_,?_,?_⟩<;>simp[dS]<;>omega
theorem ZI(hy:y<scr.length)(hx:x≤cols)(ha:gQ a){e:Ev}(h:e.kind=0∨(e.kind=3∧e.pre=0∧e.inter=[]∧(e.byte=72∨e.byte=109∨e.byte=88))):OkS (dS st cols scr a y x la) e:=⟨h,dS_sci hy hx,kB _,ha.fl⟩
theorem mR{l:List Nat}{i v:Nat}(h0:l≠[])(h1:l.length≤32)(h2:∀n∈l,n≤65535)(hv:l[i]? =some v)(h3:1≤v):gF (dW l) i=v:=by
 have hi:=(jP.1 hv).1;unfold gF rQ;rw[sN l h0 h1 h2,if_pos (by unfold dW;simpa using hi)];have e:(dW l).getD i []=[(v:Int)]:=by
  rw[kV];unfold dW;rw[uV,hv];rfl
 rw[e];show max 1 (if(v:Int)= -1 then 1 else(v:Int))=v;rw[if_neg qJ];omega
theorem tM{y' x':Nat}(hr:scr.length≤1000)(hc:cols≤1000)(hy:y<scr.length)(hx:x≤cols)(ha:gQ a)(hy':y'<scr.length)(hx':x'<cols):pB (dS st cols scr a y x la) (cQ y' x') (dS st cols scr a y' x' la):=by
 have h:=pB.one (s:=dS st cols scr a y x la) (e:=Qv [y'+1,x'+1] 72) (.inr ⟨_,_,rfl,by simp,by simp,fun n hn=>by simp at hn;omega,by decide,by decide⟩) (ZI hy hx ha (.inr ⟨rfl,rfl,rfl,.inl rfl⟩));have e:evS (dS st cols scr a y x la) (Qv [y'+1,x'+1] 72)=dS st cols scr a y' x' la:=by
  have hn:∀n∈[y'+1,x'+1],n≤65535:=fun n hn=>by simp at hn;omega
  rw[show evS (dS st cols scr a y x la) (Qv [y'+1,x'+1] 72)=sJ (dS st cols scr a y x la) (gF (dW [y'+1,x'+1]) 0-1) (gF (dW [y'+1,x'+1]) 1-1)from rfl];rw[mR (v:=y'+1) qV qV hn rfl qJ,mR (v:=x'+1) qV qV hn rfl qJ];unfold sJ;rw[if_neg (by show ¬(false=true);decide)];have e1:pN (((y'+1:Nat):Int)-1) 0 (JZ (dS st cols scr a y x la)-1)=y':=by
   unfold pN JZ dS;simp only[List.length_map];omega
  have e2:pN (((x'+1:Nat):Int)-1) 0 (fB (dS st cols scr a y x la)-1)=x':=by
   show pN (((x'+1:Nat):Int)-1) 0 ((cols:Int)-1)=x';unfold pN;omega
  rw[e1,e2];rfl
 rw[e,dV]at h;exact h
theorem nH{b:Atr}(hy:y<scr.length)(hx:x≤cols)(ha:gQ a)(hb:gQ b):pB (dS st cols scr a y x la) (pP a b) (dS st cols scr b y x la):=by
 unfold pP
 by_cases h:eqA a b=true
 · rw[if_pos h,sH.1 h];exact pB.refl _
 · rw[if_neg h];obtain⟨c1,c2,c3⟩:=nB hb;have h:=pB.one (s:=dS st cols scr a y x la) (e:=Qv (pY b) 109) (.inr ⟨_,_,rfl,c1,c2,c3,by decide,by decide⟩) (ZI hy hx ha (.inr ⟨rfl,rfl,rfl,.inr (.inl rfl)⟩));have e:evS (dS st cols scr a y x la) (Qv (pY b) 109)=dS st cols scr b y x la:=by
    show iT _ (dW (pY b))=_;unfold iT;rw[sN _ c1 c2 c3];show{dS st cols scr a y x la with pen:={(dS st cols scr a y x la).pen with at_:=fQ a (dW (pY b))}}=_;rw[VJ hb];rfl
   rw[e,dV]at h;exact h
theorem YE{l:List Cl}(hl:scr[y]? =some l)(f:List Cl→List Cl):zW (dS st cols scr a y x la).pg y f=⟨5,[],0,(scr.set y (f l)).map mkR,cols,[]⟩:=by
 have hy:=(jP.1 hl).1;unfold zW;rw[if_pos (by unfold inP dS;simp;omega),vQ];show Pg.mk 5 [] 0 ((scr.map mkR).modify y _) cols []=_;rw[aU hl]
theorem Uk(l:List Cl):dS st cols (scr.set y l) a y x la={dS st cols scr a y x la with pg:=⟨5,[],0,(scr.set y l).map mkR,cols,[]⟩}:=by
 unfold dS;simp only[kI]
theorem Ky(g:Pg)(hg:g=⟨5,[],0,scr.map mkR,cols,[]⟩)(k:Int):yG g k false=g:=by
 subst hg;unfold yG
 split
 · simp only[Vx]
 · rfl
theorem YB{n:Nat}{l:List Cl}(hl:scr[y]? =some l)(hc:cols≤1000)(hx:x<cols)(ha:gQ a)(h1:1≤n)(h2:x+n≤cols):pB (dS st cols scr a y x la) (Qf n) (dS st cols (scr.set y (zO l x ((x:Int)+n) (rX a))) a y x la):=by
 have hy:=(jP.1 hl).1;have hn:∀m∈[n],m≤65535:=fun m hm=>by simp at hm;omega
 have h:=pB.one (s:=dS st cols scr a y x la) (e:=Qv [n] 88) (.inr ⟨_,_,rfl,by simp,by simp,hn,by decide,by decide⟩) (ZI hy qJ ha (.inr ⟨rfl,rfl,rfl,.inr (.inr rfl)⟩));have e:evS (dS st cols scr a y x la) (Qv [n] 88)=dS st cols (scr.set y (zO l x ((x:Int)+n) (rX a))) a y x la:=by
  show zD _ (gF (dW [n]) 0)=_;rw[mR (v:=n) qV qV hn rfl h1];have e1:inS (dS st cols scr a y x la)=x:=by show min (x:Int) ((cols:Int)-1)=x;omega
  have e2:inX (dS st cols scr a y x la)=dS st cols scr a y x la:=by
   unfold inX;rw[e1];rfl
  have e3:pN (n:Int) 1 1000=n:=by unfold pN;omega
  unfold zD qKb;rw[e1,e2,e3];have e4:fL (dS st cols scr a y x la).pg (y:Int) (x:Int) ((x:Int)+n) (rX a)=⟨5,[],0,(scr.set y (zO l x ((x:Int)+n) (rX a))).map mkR,cols,[]⟩:=by
   unfold fL;rw[if_pos (by unfold inP dS;simp;omega),YE hl];simp only[]
   split
   · split
     · rw[Ky _ rfl,Ky _ rfl]
     · rw[Ky _ rfl]
   · rfl
  show{dS st cols scr a y x la with pg:=fL (dS st cols scr a y x la).pg (y:Int) (x:Int) ((x:Int)+n) (rX a)}=_;rw[e4,Uk]
 rw[e,dV]at h;exact h
theorem rB{r:Int}(h:gZ r≠ -1):gD r=true∧rH r:=by
 have hn:bK r=false:=by
  cases hh:bK r with
  |false=>rfl
  |true=>exact absurd (by unfold gZ;rw[hh,if_pos rfl]) h
 unfold bK at hn;simp only[Bool.or_eq_false_iff,Bool.and_eq_false_iff,decide_eq_false_iff_not]at hn;unfold gD rH;simp only[Bool.and_eq_true,Bool.or_eq_true,decide_eq_true_eq];omega
theorem qKg(r:Int):qJw (dS st cols scr a y x la).pen.ch r=r:=by
 show xR 66 r=r;unfold xR;rw[if_neg qJ,if_neg qJ,if_neg qJ]
theorem ZR{r:Int}{l:List Cl}(hl:scr[y]? =some l)(w:Nat)(hw:gZ r=w)(hw1:1≤w)(hx:x+w≤cols)(ha:gQ a):pB (dS st cols scr a y x la) (vK r) (dS st cols (scr.set y (eI l x r a)) a y (x+w) r):=by
 have hy:=(jP.1 hl).1;obtain⟨g1,g2⟩:=rB (r:=r) qJ;have h:=pB.one (s:=dS st cols scr a y x la) (e:=Xy r) (.inl ⟨r,rfl,g1,g2⟩) (ZI hy qJ ha (.inl rfl));have e:evS (dS st cols scr a y x la) (Xy r)=dS st cols (scr.set y (eI l x r a)) a y (x+w) r:=by
  show mX _ r=_;unfold mX;rw[qKg];show oX (dS st cols scr a y x la) r=_;unfold oX;rw[hw,if_neg qJ,if_neg qJ];have e1:mV (dS st cols scr a y x la) w=dS st cols scr a y x la:=by
   unfold mV;rw[if_pos (by unfold fB dS;simp only[];omega)]
  rw[e1];show Wx (dS st cols scr a y x la) r w=_;unfold Wx;show{dS st cols scr a y x la with pg:=zW (dS st cols scr a y x la).pg y (fun l=>eI l (x:Int) r a),x:=(x:Int)+w,last:=r}=_;rw[YE hl];unfold dS;simp only[kI,Int.natCast_add]
 rw[e]at h;exact h
theorem Ju{r:Int}{l:List Cl}(hl:scr[y]? =some l)(hw:gZ r=0)(hx:x≤cols)(ha:gQ a):pB (dS st cols scr a y x la) (vK r) (dS st cols (scr.set y (cH l ((x:Int)-1) r)) a y x la):=by
 have hy:=(jP.1 hl).1;obtain⟨g1,g2⟩:=rB (r:=r) qJ;have h:=pB.one (s:=dS st cols scr a y x la) (e:=Xy r) (.inl ⟨r,rfl,g1,g2⟩) (ZI hy qJ ha (.inl rfl));have e:evS (dS st cols scr a y x la) (Xy r)=dS st cols (scr.set y (cH l ((x:Int)-1) r)) a y x la:=by
  show mX _ r=_;unfold mX;rw[qKg];show oX (dS st cols scr a y x la) r=_;unfold oX;rw[if_pos hw];show{dS st cols scr a y x la with pg:=zW (dS st cols scr a y x la).pg y (fun l=>cH l ((x:Int)-1) r)}=_;rw[YE hl,Uk]
 rw[e]at h;exact h
end
structure Pn where
 P:Nat
 B:Nat
 ba:Value
 bf:Value
def aV(a:Atr):List Value:=[.int .i64 a.fk,.int .i64 a.fn,.int .i64 a.bk,.int .i64 a.bn,.int .i64 a.fl]
def pnX(v:Pn):List Nat:=v.P::v.B::v.bf.ownBlock.toList
structure PnO(base:Nat)(w:World)(v:Pn)(on:Atr)(l:List UInt8):Prop where
 p:w.heap[v.P]? =some (.cells (Value.pointer (some ⟨v.B,0,none⟩)::aV on).toArray 212 (0,0))
 b:w.heap[v.B]? =some (.cells #[v.ba,v.bf] 76 (0,0))
 ad:v.ba=.pointer none∨v.ba=.pointer (some ⟨v.B,0,none⟩)
 own:w.ownsRow base 5 1 v.bf l.length (Lib.byteCells l)
 hp:base≤v.P
 hb:base≤v.B
def gW(base:Nat)(w:World)(v:Pn)(on:Atr)(l:List UInt8)(w':World):Prop:=∃v':Pn,v'.P=v.P∧v'.B=v.B∧PnO base w' v' on l∧Mod (pnX v) w w'∧∀x∈pnX v',x∈pnX v∨w.heap.size≤x
def nQ(base:Nat)(w:World)(v:Pn)(on:Atr)(l:List UInt8)(e:Ending)(w':World):Prop:=e=.returned (.tuple #[])∧gW base w v on l w'
section
variable {base:Nat}{w:World}{v:Pn}{on:Atr}{l:List UInt8}
theorem PnO.PB(h:PnO base w v on l):v.P≠v.B:=vX h.p h.b qZ
theorem PnO.oP(h:PnO base w v on l):∀g,v.bf.ownBlock=some g→g≠v.P∧g≠v.B:=fun g hg=>by
 obtain⟨cur,hc⟩:=uD h.own hg;exact⟨vX hc h.p qZ,vX hc h.b qZ⟩
theorem PnO.lt(h:PnO base w v on l):∀b∈pnX v,base≤b∧b<w.heap.size:=fun b hb=>by
 unfold pnX at hb;rcases kJ.1 hb with rfl|hb
 · exact⟨h.hp,jL h.p⟩
 rcases kJ.1 hb with rfl|hb
 · exact⟨h.hb,jL h.b⟩
 · exact h.own.lt b (jT.1 hb)
theorem PnO.below{w':World}(h:PnO base w v on l)(hb:Below w.heap.size w w'):PnO base w' v on l:=
 ⟨(hb.block _ (jL h.p)).trans h.p,(hb.block _ (jL h.b)).trans h.b,h.ad,kC h.own (Mod.of_below (X:=[]) hb) (fun _ _ h=>by cases h),h.hp,h.hb⟩
theorem PnO.res(h:PnO base w v on l):gW base w v on l w:=⟨v,rfl,rfl,h,Mod.refl _ _,fun _ hx=>.inl hx⟩
theorem gW.trans{w1 w2:World}{v1:Pn}{on2:Atr}{l2:List UInt8}(hP:v1.P=v.P)(hB:v1.B=v.B)(hx:∀x∈pnX v1,x∈pnX v∨w.heap.size≤x)(hm:Mod (pnX v) w w1)(h2:gW base w1 v1 on2 l2 w2):gW base w v on2 l2 w2:=by
 obtain⟨v2,a1,a2,a3,a4,a5⟩:=h2;refine⟨v2,a1.trans hP,a2.trans hB,a3,hm.trans a4 hx,fun x hx2=>?_⟩;rcases a5 x hx2 with h|h
 · exact hx x h
 · exact qZd
theorem gW.pre{w1 w2:World}{on2:Atr}{l2:List UInt8}(hb:Below w.heap.size w w1)(h2:gW base w1 v on2 l2 w2):gW base w v on2 l2 w2:=gW.trans rfl rfl (fun _ hx=>.inl hx) (Mod.of_below hb) h2
theorem gW.post{w1 w2:World}(h:gW base w v on l w1)(hb:Below w1.heap.size w1 w2):gW base w v on l w2:=by
 obtain⟨v',a1,a2,a3,a4,a5⟩:=h;exact⟨v',a1,a2,a3.below hb,a4.then_below hb,a5⟩
theorem PnO.facts(h:PnO base w v on l):(w.cell? ⟨v.P,0,none⟩=some (.pointer (some ⟨v.B,0,none⟩))∧w.frozen? ⟨v.P,0,none⟩=false)∧(w.cell? ⟨v.P,1,none⟩=some (.int .i64 on.fk)∧w.frozen? ⟨v.P,1,none⟩=false)∧(w.cell? ⟨v.P,2,none⟩=some (.int .i64 on.fn)∧w.frozen? ⟨v.P,2,none⟩=false)∧(w.cell? ⟨v.P,3,none⟩=some (.int .i64 on.bk)∧w.frozen? ⟨v.P,3,none⟩=false)∧(w.cell? ⟨v.P,4,none⟩=some (.int .i64 on.bn)∧w.frozen? ⟨v.P,4,none⟩=false)∧(w.cell? ⟨v.P,5,none⟩=some (.int .i64 on.fl)∧w.frozen? ⟨v.P,5,none⟩=false):=
 ⟨at_ h.p 0 _ rfl,at_ h.p 1 _ rfl,at_ h.p 2 _ rfl,at_ h.p 3 _ rfl,at_ h.p 4 _ rfl,at_ h.p 5 _ rfl⟩
theorem PnO.turn(h:PnO base w v on l){a:Atr}{w':World}(hm:Mod [v.P] w w')(hp:w'.heap[v.P]? =some (.cells (Value.pointer (some ⟨v.B,0,none⟩)::aV a).toArray 212 (0,0))):gW base w v a l w':=
 ⟨v,rfl,rfl,⟨hp,(hm.block v.B (jL h.b) (fun hx=>h.PB (jW.1 hx).symm)).trans h.b,h.ad,kC h.own hm (fun g hg hx=>(h.oP g hg).1 (jW.1 hx)),h.hp,h.hb⟩,hm.mono (fun b hb=>by rw[jW.1 hb];exact List.mem_cons_self ..),fun _ hx=>.inl hx⟩
theorem nA{b:Nat}{c:Array Value}(h:w.heap[b]? =some (.cells c 76 (0,0)))(hc:c.size=2):Uy w b 0:=by
 refine⟨76,2,?_,by decide,by kernel_rfl⟩;simp[World.shape?,h,hc]
theorem eN(h:PnO base w v on l)(hbw:base≤w.heap.size)(s:ByteArray)(hs:l.length+s.size≤100000000):
 Calls jG 101 #[.pointer (some ⟨v.B,0,none⟩),.string s] w fun e w'=>e=.returned (.tuple #[.int .i64 s.size,.nilIface])∧gW base w v on (l++s.data.toList) w':=by
 refine(bwriteG base v.B 0 l.length v.ba v.bf (Lib.byteCells l) s w (nA h.b rfl) ⟨at_ h.b 0 _ rfl,at_ h.b 1 _ rfl,h.ad⟩ h.own (fun e=>(h.oP _ e).2 rfl) hs hbw).mono ?_;rintro e w' ⟨he,v',w1,w2,hw1,hg,ho,hn,hB,rfl⟩;have hX:Mod (v.B::v.bf.ownBlock.toList) w w1:=by
  rcases hw1 with rfl|rfl
  · exact Mod.refl _ _
  · exact(Mod.refl _ _).setCell (a:=⟨v.B,0,none⟩) (.inl (List.mem_cons_self ..)) _
 have hX2:Mod (v.B::v.bf.ownBlock.toList) w w2:=hX.trans (Mod.of_grown hg (fun g e=>List.mem_cons_of_mem _ (jT.2 e))) (fun _ hx=>.inl hx);have hX3:Mod [v.B] w2 (w2.setCell ⟨v.B,0+1,none⟩ v'):=(Mod.refl _ _).setCell (a:=⟨v.B,0+1,none⟩) (.inl (jW.2 rfl)) _;have hX4:Mod (v.B::v.bf.ownBlock.toList) w (w2.setCell ⟨v.B,0+1,none⟩ v'):=hX2.trans (hX3.mono (fun b hb=>by rw[jW.1 hb];exact List.mem_cons_self ..)) (fun _ hx=>.inl hx);have hblk:∃x,w2.heap[v.B]? =some (.cells #[x,v.bf] 76 (0,0)):=by
  have hgb:∀W:World,W.grownBy w2 v.bf.ownBlock→(∃x,W.heap[v.B]? =some (.cells #[x,v.bf] 76 (0,0)))→∃x,w2.heap[v.B]? =some (.cells #[x,v.bf] 76 (0,0)):=fun W hg ⟨x,hx⟩=>⟨x,(hg.block v.B (jL hx) (fun e=>(h.oP _ e.symm).2 rfl)).trans hx⟩;rcases hw1 with rfl|rfl
  · exact hgb _ hg ⟨_,h.b⟩
  · exact hgb _ hg ⟨.pointer (some ⟨v.B,0,none⟩),by
     have :=vL (o:=0) (v:=.pointer (some ⟨v.B,0,none⟩)) h.b;exact this⟩
 obtain⟨x,hx⟩:=hblk;have hx0:=hB.h0.1;rw[(at_ hx 0 x rfl).1]at hx0;obtain rfl:x=.pointer (some ⟨v.B,0,none⟩):=Option.some.inj hx0;refine⟨he,{v with ba:=.pointer (some ⟨v.B,0,none⟩),bf:=v'},rfl,rfl,⟨?_,?_,.inr rfl,?_,h.hp,h.hb⟩,hX4.mono (fun b hb=>List.mem_cons_of_mem _ hb),fun y hy=>?_⟩
 · refine(hX4.block v.P (jL h.p) (fun hm=>?_)).trans h.p;rcases kJ.1 hm with e|e
   · exact h.PB e
   · exact(h.oP _ (jT.1 e)).1 rfl
 · have :=vL (o:=1) (v:=v') hx;exact this
 · have hlen:(l++s.data.toList).length=l.length+s.size:=by rw[jC,Array.length_toList];rfl
   have hby:Lib.byteCells (l++s.data.toList)=Lib.byteCells l++Lib.strCells s:=by simp[Lib.byteCells,Lib.strCells]
   rw[hlen,hby];refine kC ho hX3 (fun g hg2 hm=>?_);rw[jW.1 hm]at hg2;rcases hn _ hg2 with e|e
   · exact(h.oP _ e).2 rfl
   · have :=jL h.b;omega
 · rcases kJ.1 hy with rfl|hy
   · exact .inl (List.mem_cons_self ..)
   rcases kJ.1 hy with rfl|hy
   · exact .inl (List.mem_cons_of_mem _ (List.mem_cons_self ..))
   · exact(hn y (jT.1 hy)).imp (fun e=>List.mem_cons_of_mem _ (List.mem_cons_of_mem _ (jT.2 e))) id
end
theorem JO{w:World}{base g c:Nat}{X:List Cl}(h:CrO w base g c X):pZ kQ 8 w (some ⟨g,0,none⟩) X:=fun _=>by
 refine⟨g,0,rfl,fun i x hi j v hj=>?_⟩;rw[kP];exact(gR h (i:=i*8+j) (by rw[yQ uF X i x j hi (by have :=(jP.1 hj).1;rw[uF]at this;exact this)];exact hj)).1
theorem iX{w:World}{A:Option Addr}{l:List Cl}(h:zL w A l):pZ kQ 8 w A l:=fun h0=>by
 obtain⟨b,off,hA,hc⟩:=h h0;refine⟨b,off,hA,fun i c hi j v hv=>?_⟩;obtain⟨c0,c1,c2,c3,c4,c5,c6,c7⟩:=hc i c hi;rcases j with _|_|_|_|_|_|_|_|j<;>simp[kQ]at hv<;>subst hv<;>assumption
set_option maxHeartbeats 3200000 in
theorem Yq(A:Option Addr)(l:List Cl)(ca:Nat)(w:World)(hl:zL w A l)(h0:0<l.length)(hz:l.length≤1000)(hm:uQ l=l)(hok:∀c∈l,Kl c):
 Calls jG 49 #[.slice A l.length ca] w fun e w'=>e=.returned (.bool true)∧Below w.heap.size w w':=by
 have HM:=Hd (Jo A l ca w (iX hl) h0 qJ);rw[hm]at HM;have HL:=Hd hl;have HOK:=Hd hok;clear hl hm hok
 go_enter Tryz.func49,Tryz.ntmps49
 go_wp2_with(go_at_call 56;(with_reducible refine HM.o.mono ?_);rintro e w1 ⟨g,cap,rfl,hcr,hb1⟩)
 have HG:=Hd (JO hcr h0);have HB1:=Hd hb1;clear hcr hb1
 go_loopw [8] (fun i wr=>∃k:Nat,k≤l.length∧i=.int .i64 k∧Below w1.heap.size w1 wr) (fun i _=>l.length-(intOf i).toNat)
 case atStart=>exact⟨0,kB _,rfl,jU _ _⟩
 case round=>
  obtain⟨k,hk,rfl,hB⟩:=hrel
  by_cases hlt:k<l.length
  · obtain⟨g',off',hg',hcm⟩:=HG.o;simp only[Option.some.injEq,Addr.mk.injEq]at hg';obtain⟨rfl,rfl,-⟩:=hg';obtain⟨b,off,rfl,hcl⟩:=HL.o h0;have hget:=jN hlt;have hm:=hcm k _ hget;have hr:=((hcl k _ hget).below HB1.o).below hB;have hcok:=HOK.o _ (List.getElem_mem hlt);generalize l[k]=c at hm hr hcok;clear hcm hcl hget;have HF:=Hd (fun w=>Z7 c hcok w);clear hcok;obtain⟨r0,r1,r2,r3,r4,r5,r6,r7⟩:=hr;have m0:=kZ hB (hm 0 _ rfl);have m1:=kZ hB (hm 1 _ rfl);have m2:=kZ hB (hm 2 _ rfl);have m3:=kZ hB (hm 3 _ rfl);have m4:=kZ hB (hm 4 _ rfl);have m5:=kZ hB (hm 5 _ rfl);have m6:=kZ hB (hm 6 _ rfl);have m7:=kZ hB (hm 7 _ rfl);clear hm;simp only[kP,uS]at m0 m1 m2 m3 m4 m5 m6 m7;obtain⟨cr,cm,chf,c3,c4,c5,c6,c7⟩:=c;unfold clV at HF;simp only at HF r0 r1 r2 r3 r4 r5 r6 r7 m0 m1 m2 m3 m4 m5 m6 m7
    go_upto_region 4 with fail
    have hBA:=(jU wr.heap.size wr).alloc (jD _) (.cells #[.int .i32 cr,.string cm,.int .i64 chf,.int .i64 c3,.int .i64 c4,.int .i64 c5,.int .i64 c6,.int .i64 c7] 65);have n0:=(at_ (jA (W:=wr) (o:=(.cells #[.int .i32 cr,.string cm,.int .i64 chf,.int .i64 c3,.int .i64 c4,.int .i64 c5,.int .i64 c6,.int .i64 c7] 65)) rfl) 0 _ rfl).1;have n1:=(at_ (jA (W:=wr) (o:=(.cells #[.int .i32 cr,.string cm,.int .i64 chf,.int .i64 c3,.int .i64 c4,.int .i64 c5,.int .i64 c6,.int .i64 c7] 65)) rfl) 1 _ rfl).1;have n2:=(at_ (jA (W:=wr) (o:=(.cells #[.int .i32 cr,.string cm,.int .i64 chf,.int .i64 c3,.int .i64 c4,.int .i64 c5,.int .i64 c6,.int .i64 c7] 65)) rfl) 2 _ rfl).1;have n3:=(at_ (jA (W:=wr) (o:=(.cells #[.int .i32 cr,.string cm,.int .i64 chf,.int .i64 c3,.int .i64 c4,.int .i64 c5,.int .i64 c6,.int .i64 c7] 65)) rfl) 3 _ rfl).1;have n4:=(at_ (jA (W:=wr) (o:=(.cells #[.int .i32 cr,.string cm,.int .i64 chf,.int .i64 c3,.int .i64 c4,.int .i64 c5,.int .i64 c6,.int .i64 c7] 65)) rfl) 4 _ rfl).1;have n5:=(at_ (jA (W:=wr) (o:=(.cells #[.int .i32 cr,.string cm,.int .i64 chf,.int .i64 c3,.int .i64 c4,.int .i64 c5,.int .i64 c6,.int .i64 c7] 65)) rfl) 5 _ rfl).1
    have n6:=(at_ (jA (W:=wr) (o:=(.cells #[.int .i32 cr,.string cm,.int .i64 chf,.int .i64 c3,.int .i64 c4,.int .i64 c5,.int .i64 c6,.int .i64 c7] 65)) rfl) 6 _ rfl).1;have n7:=(at_ (jA (W:=wr) (o:=(.cells #[.int .i32 cr,.string cm,.int .i64 chf,.int .i64 c3,.int .i64 c4,.int .i64 c5,.int .i64 c6,.int .i64 c7] 65)) rfl) 7 _ rfl).1;replace r0:=kZ hBA r0;replace r1:=kZ hBA r1;replace r2:=kZ hBA r2;replace r3:=kZ hBA r3;replace r4:=kZ hBA r4;replace r5:=kZ hBA r5;replace r6:=kZ hBA r6;replace r7:=kZ hBA r7;have HB2:=Hd (jH hB (.cells #[.int .i32 cr,.string cm,.int .i64 chf,.int .i64 c3,.int .i64 c4,.int .i64 c5,.int .i64 c6,.int .i64 c7] 65));have hsN:=World.size_alloc wr (.cells #[.int .i32 cr,.string cm,.int .i64 chf,.int .i64 c3,.int .i64 c4,.int .i64 c5,.int .i64 c6,.int .i64 c7] 65);clear hBA m0 m1 m2 m3 m4 m5 m6 m7;generalize hW:wr.alloc (.cells #[.int .i32 cr,.string cm,.int .i64 chf,.int .i64 c3,.int .i64 c4,.int .i64 c5,.int .i64 c6,.int .i64 c7] 65)=W at n0 n1 n2 n3 n4 n5 n6 n7 r0 r1 r2 r3 r4 r5 r6 r7 HB2 hsN ⊢;clear hW;obtain⟨N,hN⟩:∃N,wr.heap.size=N:=⟨_,rfl⟩;rw[hN]at n0 n1 n2 n3 n4 n5 n6 n7 hsN ⊢;clear hN
    refine kH 5 (fun w'=>Below W.heap.size W w'∧w'.cell? ⟨N,0,none⟩=some (.int .i32 cr)∧w'.cell? ⟨N,1,none⟩=some (.string cm)∧w'.cell? ⟨N,2,none⟩=some (.int .i64 chf)∧w'.cell? ⟨N,3,none⟩=some (.int .i64 c3)∧w'.cell? ⟨N,4,none⟩=some (.int .i64 c4)∧w'.cell? ⟨N,5,none⟩=some (.int .i64 c5)∧w'.cell? ⟨N,6,none⟩=some (.int .i64 c6)∧w'.cell? ⟨N,7,none⟩=some (.int .i64 c7)∧w'.cell? ⟨b,off+k*8,none⟩=some (.int .i32 cr)∧w'.cell? ⟨b,off+k*8+1,none⟩=some (.string cm)∧w'.cell? ⟨b,off+k*8+2,none⟩=some (.int .i64 chf)∧w'.cell? ⟨b,off+k*8+3,none⟩=some (.int .i64 c3)∧w'.cell? ⟨b,off+k*8+4,none⟩=some (.int .i64 c4)∧w'.cell? ⟨b,off+k*8+5,none⟩=some (.int .i64 c5)∧w'.cell? ⟨b,off+k*8+6,none⟩=some (.int .i64 c6)∧w'.cell? ⟨b,off+k*8+7,none⟩=some (.int .i64 c7)) qQ qQ ?_ ?_
    · exact⟨(jU _ _).drew,n0,n1,n2,n3,n4,n5,n6,n7,r0,r1,r2,r3,r4,r5,r6,r7⟩
    simp only[jS,kK,jR,jO]
    repeat(
     (first
      |refine kF qK ?_
      |(refine kE ?_ qK ?_ ?_;rotate_left;(focus(intro w' hS;obtain⟨_,_,_,_,_,_,_,_,_,_,_,_,_,_,_,_,_⟩:=hS;go_simp;first|done|with_reducible rfl))))
     simp only[Act.put,jZ,jX,jY])
    refine kO (fun w' hS=>?_);obtain⟨hb2,n0',n1',n2',n3',n4',n5',n6',n7',_⟩:=hS;have HB3:=Hd (jM HB2.o hb2);clear hb2
    go_wp2_with(go_at_call 92;(with_reducible refine(HF.o _).mono ?_);rintro e w3 ⟨rfl,hb3⟩)
    go_roundw
    case rel=>exact⟨k+1,by omega,by go_num,jM HB3.o hb3⟩
    case measure=>simp[intOf];omega
  · obtain rfl:k=l.length:=by omega
    go_wp2
    go_ret
    exact⟨by first|rfl|simp,jM HB1.o hB⟩
theorem JC{w:World}{base n size:Nat}{e:TypeId}{v:Value}{xs:List Value}(h:w.ownsRow base e size v n xs)(hn:0<n):∃g c,v=.slice (some ⟨g,0,none⟩) n c:=by
 rcases h.2 with⟨-,h0⟩|⟨g,cap,cur,rfl,-⟩
 · omega
 · exact⟨g,cap,rfl⟩
section
variable {P:Program}
theorem vP{ops:Array Oper}{rest:List Oper}{o:Oper}{a:Act}{w:World}{Q:Exit→Act→World→Prop}(hgd:o.guard=none)(s x:Operand)(t:TypeId)
 (ho:o.op=.call {callee:=.builtin .append,args:=#[s,x],argTypes:=#[t,t]}) (base:Nat) (e:TypeId) (i:TypeInfo) (z:Value) (size bytes:Nat) (ht:P.underlying t=some (.slice e)) (hi:P.info? e=some i) (hz:i.zero=some z) (hsize:i.size=size) (hby:i.bytes=bytes) (hzs:z.cells.size=size) (hsz:0<size)
 (v:Value) (n:Nat) (xs:List Value) (hs:a.eval s=v) (hown:w.ownsRow base e size v n xs) (ad:Addr) (m c:Nat) (news:List Value) (hx:a.eval x=.slice (some ad) m c) (hl:news.length=m*size) (hnews:∀j u,news[j]? =some u→w.cell? (ad.add j)=some u) (h1:∀u∈news,u.oneCell'=true)
 (h63:n+m≤maxLen) (hbytes:(n+m)*bytes≤140737488355328) (hbase:base≤w.heap.size)
 (h:∀v' w',w'.ownsRow base e size v' (n+m) (xs++news)→w.grownBy w' v.ownBlock→(∀g,v'.ownBlock=some g→v.ownBlock=some g∨w.heap.size≤g)→wpList P ops Q rest (a.put o.dst v') w'):wpList P ops Q (o::rest) a w:=by
 obtain⟨v',w',hr,h2,h3,-,h4⟩:=run_append_own_at (P:=P) w base t o.type e i z size bytes ht hi hz hsize hby hzs hsz v n xs hown ad m c news hl hnews h1 h63 hbytes hbase;refine wpList_plain hgd fun K hK=>?_;unfold Oper.wp execOp;simp only[ho,resolve,invoke,builtin,Sem.run_bind,Sem.run_pure,Result.andThen_ok,List.map_toArray,List.map_cons,List.map_nil,hs,hx,hr];exact hK _ _ (h _ _ h2 h3 (fun g hg=>by
  rcases h4 with h4|h4
  · exact .inl (by rw[←h4];exact hg)
  · rw[h4]at hg;injection hg with hg;exact .inr qJ))
end
end Go.Proofs.YtaefcahblmopfaaGreatDoor
