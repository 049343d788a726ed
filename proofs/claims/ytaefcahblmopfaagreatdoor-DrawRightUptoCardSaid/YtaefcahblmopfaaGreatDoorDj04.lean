/- Joined by a tool of this claim out of smaller texts. Conditions: as stated. -/
import Derived.Test.YtaefcahblmopfaaGreatDoorDj03
set_option linter.unusedVariables false
set_option linter.unusedSimpArgs false
set_option maxRecDepth 100000
open Go.Lib renaming hid → Hd
open List renaming setIfInBounds_toArray → jZ, set_cons_zero → jX, set_cons_succ → jY, getElem?_eq_getElem → jN, getElem?_eq_some_iff → jP, length_append → jC, drop_succ_cons → jL, take_succ_cons → jS, drop_zero → jO, take_zero → kK, append_assoc → kG, replicate → kN, length_take → kC, getElem?_append_right → kI, getElem?_eq_none → uZ, length_replicate → uG, getElem?_append_left → uD, take_of_length_le → vY, drop_eq_nil_of_le → gU, ext_getElem? → gM, getElem?_drop → gN
open Go.Proofs.Tryz renaming prog → jG
open Go.RowKit.Below renaming refl → jU
open Go.IntWalk renaming i64_in → jF
open Go.IntKind renaming i64 → jE
open And renaming intro → kY
open Nat renaming zero_le → kM, zero_add → kP, add_zero → uA
open Int renaming toNat_natCast → vV
namespace Go.Proofs.YtaefcahblmopfaaGreatDoor
open Go.RowKit
theorem iN{α:Type}{enc:α→List Value}{K:Nat}(hl:∀x,(enc x).length=K):∀(l:List α) (k:Nat),(uM enc l).take (k*K)=uM enc (l.take k)
 |[],k=>by simp[uM]
 |x::l,0=>by simp[uM]
 |x::l,k+1=>by
  have e:uM enc (x::l)=enc x++uM enc l:=rfl;have e2:uM enc ((x::l).take (k+1))=enc x++uM enc (l.take k):=rfl;rw[e,e2,←iN hl l k,List.take_append,vY qZv,hl,show(k+1)*K-K=k*K by rw[Nat.add_mul];omega]
theorem iP{α:Type}{enc:α→List Value}{K:Nat}(hl:∀x,(enc x).length=K):∀(l:List α) (k:Nat),(uM enc l).drop (k*K)=uM enc (l.drop k)
 |[],k=>by simp[uM]
 |x::l,0=>by simp
 |x::l,k+1=>by
  have e:uM enc (x::l)=enc x++uM enc l:=rfl;have e2:uM enc ((x::l).drop (k+1))=uM enc (l.drop k):=rfl;rw[e,e2,←iP hl l k,List.drop_append,gU qZv,hl,show(k+1)*K-K=k*K by rw[Nat.add_mul];omega,List.nil_append]
theorem CrO.setMany{w:World}{base g cap:Nat}{l:List Cl}(h:CrO w base g cap l)(off:Nat)(cs:List Cl)(hi:off+cs.length≤l.length):
 CrO (w.setCells g (off*8) (uM kV cs)) base g cap (l.take off++cs++l.drop (off+cs.length))∧Mod [g] w (w.setCells g (off*8) (uM kV cs)):=by
 refine⟨?_,vN (.inl qV) _ _ _ (Mod.refl _ _)⟩;have h1:=dJ (uM kV cs) (off*8) (uM kV l) w h (by rw[pM vQ,pM vQ];omega);have hlen:(l.take off++cs++l.drop (off+cs.length)).length=l.length:=by simp;omega
 unfold CrO;rw[hlen];rw[iN vQ,pM vQ,show off*8+cs.length*8=(off+cs.length)*8 by omega,iP vQ,←uI,←uI,←kG]at h1;exact h1
def eP(o:List Cl)(off n:Nat)(b:Col):List Cl:=o.take off++kN n (pY b)++o.drop (off+n)
theorem tX{o:List Cl}{off n:Nat}(b:Col)(h:off+n≤o.length):(eP o off n b).length=o.length:=by unfold eP;simp;omega
theorem Xu{o:List Cl}{off i:Nat}{b:Col}(h:off+i<o.length):(eP o off i b).set (off+i) (pY b)=eP o off (i+1) b:=by
 unfold eP;rw[List.set_append_right _ _ qY,jC,kC,uG,show off+i-(min off o.length+i)=0 by omega];rw[List.drop_eq_getElem_cons h,jX,List.replicate_succ',kG,kG,kG];simp[Nat.add_assoc]
set_option maxHeartbeats 3200000 in
theorem KX(base g cap off n c:Nat)(o:List Cl)(b:Col)(w:World)(h:CrO w base g cap o)(hn:off+n≤o.length)(hz:o.length≤10000):
 Calls jG 351 #[.slice (some ⟨g,off*8,none⟩) n c,.agg #[.int .i64 b.k,.int .i64 b.n]] w (cJ base g cap (eP o off n b) w):=by
 have hnle:off+n≤o.length:=hn;have HL:=Hd hn;have HZ:=Hd hz;have HBL:=Hd (fun w=>Qy b w);have HB0:=Hd (jH (jU w.heap.size w) (.cells #[.int .i64 b.k,.int .i64 b.n] 61));have HK:Hid (nV (w.alloc (.cells #[.int .i64 b.k,.int .i64 b.n] 61)) w.heap.size 0 (.int .i64 b.k)∧nV (w.alloc (.cells #[.int .i64 b.k,.int .i64 b.n] 61)) w.heap.size 1 (.int .i64 b.n)):=Hd ⟨at_ (jT rfl) 0 _ rfl,at_ (jT rfl) 1 _ rfl⟩;have HO:=Hd (h.below HB0.o);have hg:=h.lt.2;clear h hn hnle hz
 go_enter Tryz.func351,Tryz.ntmps351
 go_wp2_with fail
 generalize World.alloc _ _=W at HB0 HK HO ⊢
 go_loopw [7] (fun s7 wr=>∃i:Nat,s7=.int .i64 i∧i≤n∧CrO wr base g cap (eP o off i b)∧Mod [g] W wr) (fun s7 _=>n-(intOf s7).toNat)
 case atStart=>exact⟨0,rfl,kM _,by have :=HO.o;unfold eP;simpa using this,Mod.refl _ _⟩
 case round=>
  obtain⟨i,rfl,hi,hO,hM⟩:=hrel;have HOi:=Hd hO;have HM:=Hd hM;obtain⟨k0,-⟩:=hM.hold qY HK.o.1;obtain⟨k1,-⟩:=hM.hold qY HK.o.2;clear hO hM
  by_cases hlt:i<n
  rotate_left
  · obtain rfl:i=n:=by omega
    go_wp2
    go_end0
    exact⟨rfl,HOi.o,(Mod.of_below HB0.o).trans HM.o (fun b hb=>.inl hb)⟩
  · have hltI:(i:Int)<(n:Int):=by omega
    have hw:jE.wrap ((i:Int)+1)=(i:Int)+1:=jF _ (by have :=HL.o;have :=HZ.o;omega)
    go_wp2_with(first
     |(go_at_call 335;refine(HBL.o _).mono ?_;rintro e w3 ⟨rfl,hb⟩;have HB3:=Hd hb;clear hb;have HTH:=Hd ((HOi.o.below HB3.o).there (i:=off+i) (by rw[tX b (by have :=HL.o;omega)];have :=HL.o;omega)))
     |(refine wpList_store_mid (op:=⟨none,.store 65 (.tmp 14) (.tmp 13),_,_,_,_⟩) rfl 65 (.tmp 14) (.tmp 13) rfl g ((off+i)*8) (kV (pY b)).toArray (by rw[Nat.add_mul];rfl) rfl HTH.o uP (zV (pY b)) ?_))
    obtain⟨q1,q2⟩:=(HOi.o.below HB3.o).set (i:=off+i) (by rw[tX b (by have :=HL.o;omega)];have :=HL.o;omega) (pY b);rw[Xu (by have :=HL.o;omega)]at q1;have Q1:=Hd q1;have Q2:=Hd q2;clear q1 q2
    go_roundw
    case rel=>exact⟨i+1,by go_num,by omega,Q1.o,(HM.o.then_below HB3.o).trans Q2.o (fun k hk=>.inl hk)⟩
    case measure=>simp[intOf];omega
def lX(o:List Cl)(x y:Int)(b:Col):List Cl:=if max 0 x<min y o.length then eP o (max 0 x).toNat (min y o.length-max 0 x).toNat b else o
theorem KO(o:List Cl)(x y:Int)(b:Col):xE b x y o=lX o x y b:=by
 unfold xE lX
 split
 · next h=>
   refine gM fun i=>?_;rw[List.getElem?_mapIdx];unfold eP;rcases Nat.lt_or_ge i o.length with hi|hi
   · rw[jN hi];simp only[Option.map_some]
     by_cases h1:(i:Int)<max 0 x
     · rw[if_neg qJ,kG,uD qN,List.getElem?_take,if_pos qJ,jN hi]
     · by_cases h2:(i:Int)<min y o.length
       · rw[if_pos qJ,uD (by rw[jC,kC,uG];omega),kI qN,List.getElem?_replicate,if_pos qN]
       · rw[if_neg qJ,kI (by rw[jC,kC,uG];omega),jC,kC,uG,gN,←jN hi]
         congr 1
         omega
   · rw[uZ hi,uZ qY];rfl
 · next h=>
   refine gM fun i=>?_;rw[List.getElem?_mapIdx];rcases Nat.lt_or_ge i o.length with hi|hi
   · rw[jN hi];simp only[Option.map_some];rw[if_neg qJ]
   · rw[uZ hi];rfl
theorem Ye(o:List Cl)(x y:Int)(b:Col):(lX o x y b).length=o.length:=by
 rw[←KO];unfold xE;simp
def dK(o:List Cl)(x n:Int)(b:Col):List Cl:=
 if x<0∨(o.length:Int)≤x∨n<1 then o
 else eP (o.take (x.toNat+(min n (o.length-x)).toNat)++(o.drop x.toNat).take (o.length-(x.toNat+(min n (o.length-x)).toNat))) x.toNat (min n (o.length-x)).toNat b
theorem Jl(l:List Cl)(x n:Int)(b:Col):uJ (dK (uJ l) x n b)=bM l x n b:=by
 unfold dK bM;simp only[];generalize hm:uJ l=o
 split
 · rw[←hm];exact cZ l
 · next h=>
   congr 1
   refine gM fun i=>?_;unfold eP;obtain⟨k,rfl⟩:∃k:Nat,x=k:=⟨x.toNat,by omega⟩;obtain⟨m,rfl⟩:∃m:Nat,n=m:=⟨n.toNat,by omega⟩;obtain⟨q,hq⟩:∃q:Nat,q=min m (o.length-k):=⟨_,rfl⟩;have e1:(min (m:Int) ((o.length:Int)-k)).toNat=q:=by omega
   rw[e1];simp only[vV];simp only[List.getElem?_take,kG,List.getElem?_append,jC,kC,uG,List.getElem?_replicate,gN,List.length_drop]
   repeat' split
   all_goals first
    |rfl
    |(congr 1;omega)
    |(exfalso;omega)
    |(rw[uZ qJ])
    |skip
   all_goals first
    |omega
    |(symm;rw[uZ qJ])
    |skip
theorem wN(o:List Cl)(x n:Int)(b:Col):(dK o x n b).length=o.length:=by
 unfold dK
 split
 · rfl
 · have e:(o.take (x.toNat+(min n (o.length-x)).toNat)++(o.drop x.toNat).take (o.length-(x.toNat+(min n (o.length-x)).toNat))).length=o.length:=by simp;omega
   rw[tX b (by rw[e];omega),e]
set_option maxHeartbeats 3200000 in
theorem Yh(base g cap:Nat)(o:List Cl)(bx bz bb:Nat)(x y:Int)(b:Col)(w:World)(h:CrO w base g cap o)(hz:o.length≤10000)(hx:w.cell? ⟨bx,0,none⟩=some (.int .i64 x))(hy:w.cell? ⟨bz,0,none⟩=some (.int .i64 y))
 (hk:w.cell? ⟨bb,0,none⟩=some (.int .i64 b.k)) (hn:w.cell? ⟨bb,1,none⟩=some (.int .i64 b.n)):
 Calls jG 350 #[.slice (some ⟨g,0,none⟩) o.length cap,.pointer (some ⟨bx,0,none⟩),.pointer (some ⟨bz,0,none⟩),.pointer (some ⟨bb,0,none⟩)] w (cJ base g cap (lX o x y b) w):=by
 have H:=Hd h;have hgb:=h.lt;have hcap:o.length≤cap:=by
  rcases h.2 with⟨e,-⟩|⟨g',c',cur,e,_,_,hc,_⟩
  · cases e
  · simp only[Value.slice.injEq]at e;omega
 clear h;obtain⟨X,hX⟩:∃X,(if 0<x then x else 0)=X:=⟨_,rfl⟩;obtain⟨Y,hY⟩:∃Y,(if(o.length:Int)<y then(o.length:Int)else y)=Y:=⟨_,rfl⟩;have hX2:max 0 x=X:=by rw[←hX];omega
 have hY2:min y (o.length:Int)=Y:=by rw[←hY];omega
 have HV:=Hd (show lX o x y b=if X<Y then eP o X.toNat (Y-X).toNat b else o from by rw[←hX2,←hY2];rfl);generalize lX o x y b=RES at HV;have hX0:0≤X:=by omega
 have hYl:Y≤(o.length:Int):=by omega
 clear hX2 hY2
 by_cases hlt:X<Y
 rotate_left
 · go_enter Tryz.func350,Tryz.ntmps350
   go_upto_region 0 with fail
   refine kW 7 (fun w'=>Below w.heap.size w w'∧w'.cell? ⟨bx,0,none⟩=some (.int .i64 x)∧w'.cell? ⟨bz,0,none⟩=some (.int .i64 y)) qQ qQ ?_ ?_
   · exact⟨(jU _ _).drew,hx,hy⟩
   simp only[jS,kK,jL,jO]
   repeat(
    (first
     |refine kF qK ?_
     |(refine kT ?_ qK ?_ ?_;rotate_left;(focus(intro w' hS;obtain⟨_,_,_⟩:=hS;go_simp;first|done|with_reducible rfl))))
    simp only[Act.put,jZ,jX,jY])
   refine kE (fun w' hS=>?_);have HB1:=Hd hS.1;clear hS hx hy
   go_wp2
   go_end0
   rw[HV.o,if_neg qJ];exact⟨rfl,H.o.below HB1.o,Mod.of_below HB1.o⟩
 · obtain⟨k,rfl⟩:∃k:Nat,X=(k:Int):=⟨X.toNat,by omega⟩;obtain⟨m,rfl⟩:∃m:Nat,Y=(m:Int):=⟨Y.toNat,by omega⟩;have hml:m≤o.length:=by omega
   have hkmN:k<m:=by omega
   have HL:=Hd (kY hml hkmN)
   go_enter Tryz.func350,Tryz.ntmps350
   go_upto_region 0 with fail
   refine kW 7 (fun w'=>Below w.heap.size w w'∧w'.cell? ⟨bx,0,none⟩=some (.int .i64 x)∧w'.cell? ⟨bz,0,none⟩=some (.int .i64 y)) qQ qQ ?_ ?_
   · exact⟨(jU _ _).drew,hx,hy⟩
   simp only[jS,kK,jL,jO]
   repeat(
    (first
     |refine kF qK ?_
     |(refine kT ?_ qK ?_ ?_;rotate_left;(focus(intro w' hS;obtain⟨_,_,_⟩:=hS;go_simp;first|done|with_reducible rfl))))
    simp only[Act.put,jZ,jX,jY])
   refine kE (fun w' hS=>?_);have HB1:=Hd hS.1;have hk1:=kZ hS.1 hk;have hn1:=kZ hS.1 hn;clear hS hx hy hk hn
   go_upto_region 2 with fail
   clear hX hY;have hc1:m≤cap:=by omega
   have hc2:k≤m:=by omega
   have hc3:¬cap=k:=by omega
   have hm8:(m:Int)-(k:Int)=((m-k:Nat):Int):=by omega
   refine kW 5 (fun w2=>Below w'.heap.size w' w2∧w2.cell? ⟨bb,0,none⟩=some (.int .i64 b.k)∧w2.cell? ⟨bb,1,none⟩=some (.int .i64 b.n)) qQ qQ ?_ ?_
   · exact⟨(jU _ _).drew,hk1,hn1⟩
   simp only[jS,kK,jL,jO]
   repeat(
    (first
     |refine kF qK ?_
     |(refine kT ?_ qK ?_ ?_;rotate_left;(focus(intro w' hS;obtain⟨_,_,_⟩:=hS;go_simp;first|done|with_reducible rfl))))
    simp only[Act.put,jZ,jX,jY])
   refine kE (fun w' hS=>?_);have HB2:=Hd (jW HB1.o hS.1);have HWP:=Hd (KX base g cap k (m-k) (cap-k) o b _ (H.o.below HB2.o) qJ hz);have HM:=Hd hm8;clear hS hk1 hn1 hc1 hc2 hc3 hm8
   go_wp2_with(go_at_call 351;refine HWP.o.mono ?_;rintro e w3 ⟨rfl,hc,hm⟩)
   go_end0
   rw[HV.o,if_pos qJ,HM.o];exact⟨rfl,hc,(Mod.of_below HB2.o).trans hm (fun b hb=>.inl hb)⟩
theorem CrO.cap{w:World}{base g cap:Nat}{o:List Cl}(h:CrO w base g cap o):o.length≤cap:=by
 rcases h.2 with⟨e,-⟩|⟨g',c',cur,e,_,_,hc,_⟩
 · cases e
 · simp only[Value.slice.injEq]at e;omega
theorem CrO.copy{w:World}{base g cap:Nat}{o:List Cl}(h:CrO w base g cap o)(i k n oi ok dl sl dc sc:Nat)(hi:i+n≤o.length)(hk:k+n≤o.length)(hmin:Nat.min sl dl=n)(hoi:0<n→oi=i*8)(hok:0<n→ok=k*8):
 ∃w',(Builtin.copy_ #[50,50] 3 #[.slice (some ⟨g,oi,none⟩) dl dc,.slice (some ⟨g,ok,none⟩) sl sc]).run jG w=.ok (goInt n) w'∧CrO w' base g cap (o.take i++(o.drop k).take n++o.drop (i+n))∧Mod [g] w w':=by
 have hlen:((o.drop k).take n).length=n:=by simp;omega
 have key:∀(o1 o2:Nat),(0<n→o1=i*8)→(0<n→o2=k*8)→(Builtin.copy_ #[50,50] 3 #[.slice (some ⟨g,o1,none⟩) dl dc,.slice (some ⟨g,o2,none⟩) sl sc]).run jG w=.ok (goInt n) (w.setCells g o1 (uM kV ((o.drop k).take n))):=fun o1 o2 h1 h2=>by
  have hcl:(uM kV ((o.drop k).take n)).length=n*8:=by rw[pM vQ,hlen]
  have :=aF (P:=jG) w 50 50 3 65 g o1 dl dc ⟨g,o2,none⟩ sl sc 8 (uM kV ((o.drop k).take n)) Tryz.underlying50 uP (by rw[hmin,hcl]) (fun j v hj=>?_) (fun j hj=>?_) (fun j hj=>?_) (sD yZ _)
  · rw[hmin]at this;exact this
  · have hj':=(jP.1 hj).1;rw[hcl]at hj';rw[vF,h2 qJ];rw[←iN vQ,List.getElem?_take,if_pos qJ,←iP vQ,gN]at hj;exact(gS h hj).1
  · rw[hcl]at hj;obtain⟨v,hv⟩:∃v,(uM kV o)[o1+j]? =some v:=⟨_,jN (by rw[pM vQ,h1 qJ];omega)⟩;rw[(gS h hv).1];rfl
  · rw[hcl]at hj;obtain⟨v,hv⟩:∃v,(uM kV o)[o1+j]? =some v:=⟨_,jN (by rw[pM vQ,h1 qJ];omega)⟩;exact(gS h hv).2
 refine⟨_,key oi ok hoi hok,?_⟩;rcases Nat.eq_zero_or_pos n with rfl|hn
 · simp only[kK,List.append_nil,uA,List.take_append_drop];exact⟨h,Mod.refl _ _⟩
 · rw[hoi hn];have :=h.setMany i ((o.drop k).take n) (by rw[hlen];omega)
   rwa[hlen]at this
set_option maxHeartbeats 3200000 in
theorem ZI(base g cap:Nat)(o:List Cl)(bx bn bb:Nat)(x n:Int)(b:Col)(w:World)(h:CrO w base g cap o)(hz:o.length≤10000)(hx:w.cell? ⟨bx,0,none⟩=some (.int .i64 x))(hn:w.cell? ⟨bn,0,none⟩=some (.int .i64 n))
 (hk0:w.cell? ⟨bb,0,none⟩=some (.int .i64 b.k)) (hn0:w.cell? ⟨bb,1,none⟩=some (.int .i64 b.n)) (hb1:bx<base) (hb2:bn<base) (hb3:bb<base):
 Calls jG 380 #[.slice (some ⟨g,0,none⟩) o.length cap,.pointer (some ⟨bx,0,none⟩),.pointer (some ⟨bn,0,none⟩),.pointer (some ⟨bb,0,none⟩)] w (cJ base g cap (dK o x n b) w):=by
 have H:=Hd h;have hgb:=h.lt;have hcap:=h.cap;clear h;have HV:=Hd (show dK o x n b=if x<0∨(o.length:Int)≤x∨n<1 then o else eP (o.take (x.toNat+(min n (o.length-x)).toNat)++(o.drop x.toNat).take (o.length-(x.toNat+(min n (o.length-x)).toNat))) x.toNat (min n (o.length-x)).toNat b from rfl);have HVL:=Hd (wN o x n b);generalize dK o x n b=RES at HV HVL
 by_cases hx0:x<0
 · go_enter Tryz.func380,Tryz.ntmps380
   go_wp2
   go_end0
   rw[HV.o,if_pos qJ];exact H.o.mend_post
 by_cases hxl:(o.length:Int)≤x
 · go_enter Tryz.func380,Tryz.ntmps380
   go_wp2
   go_end0
   rw[HV.o,if_pos qJ];exact H.o.mend_post
 by_cases hn1:n<1
 · go_enter Tryz.func380,Tryz.ntmps380
   go_wp2
   go_end0
   rw[HV.o,if_pos qJ];exact H.o.mend_post
 obtain⟨k,rfl⟩:∃k:Nat,x=(k:Int):=⟨x.toNat,by omega⟩;have hw1:jE.wrap ((o.length:Int)-(k:Int))=(o.length:Int)-(k:Int):=jF _ qJ;obtain⟨q,hq⟩:∃q:Nat,(if(o.length:Int)-(k:Int)<n then(o.length:Int)-(k:Int)else n)=(q:Int):=⟨(min n ((o.length:Int)-(k:Int))).toNat,by omega⟩;have hq2:(min n ((o.length:Int)-(k:Int))).toNat=q:=by omega
 obtain⟨j,hj⟩:∃j:Nat,j=k+q:=⟨_,rfl⟩;have hjl:j≤o.length:=by omega
 have hq0:0<q:=by omega
 have hkj:(k:Int)+(q:Int)=(j:Int):=by omega
 have hwj:jE.wrap (j:Int)=(j:Int):=jF _ qJ;have hkl:k<o.length:=by omega
 rw[if_neg qJ,hq2,vV,←hj]at HV;have HQ:=Hd (kY hj hq0);obtain⟨off,hoff⟩:∃off,(if cap=j then(some ⟨g,0,none⟩:Option Addr)else some ⟨g,j*8,none⟩)=some ⟨g,off,none⟩:=by
  by_cases h:cap=j
  · exact⟨0,if_pos h⟩
  · exact⟨j*8,if_neg h⟩
 have HOFF:Hid (0<o.length-j→off=j*8):=Hd (fun h=>by rw[if_neg qJ]at hoff;simp at hoff;omega);have hc3:¬cap=k:=by omega
 have HBX:=Hd hx;have HBN:=Hd hn;have HBK:=Hd hk0;have HBM:=Hd hn0;clear hq2 hj
 go_enter Tryz.func380,Tryz.ntmps380
 go_upto_region 2 with fail
 clear hq hw1 hk0 hn0 hn;have hc4:o.length≤cap:=hcap;have hc5:k≤o.length:=by omega
 refine kW 8 (fun w'=>Below w.heap.size w w'∧w'.cell? ⟨bx,0,none⟩=some (.int .i64 k)) qQ qQ ?_ ?_
 · exact⟨(jU _ _).drew,hx⟩
 simp only[jS,kK,jL,jO]
 repeat(
  (first
   |refine kF qK ?_
   |(refine kT ?_ qK ?_ ?_;rotate_left;(focus(intro w' hS;obtain⟨_,_⟩:=hS;go_simp;first|done|with_reducible rfl))))
  simp only[Act.put,jZ,jX,jY])
 refine kE (fun w' hS=>?_);have HB1:=Hd hS.1;obtain⟨w2,hcp,hO2,hM2⟩:=(H.o.below HB1.o).copy j k (o.length-j) off (k*8) (o.length-j) (o.length-k) (cap-j) (cap-k) qJ (by have :=HQ.o;omega) (Nat.min_eq_right (by have :=HQ.o;omega)) HOFF.o (fun _=>rfl);have hdn:List.drop (j+(o.length-j)) o=[]:=gU qJ;rw[hdn,List.append_nil]at hO2;clear hdn;have HO2:=Hd hO2;have HM2:=Hd ((Mod.of_below (X:=[g]) HB1.o).trans hM2 (fun b hb=>.inl hb));have hlen:(List.take j o++List.take (o.length-j) (List.drop k o)).length=o.length:=by
  have :=HQ.o;simp;omega
 have HWP:=Hd (fun w3 (h:CrO w3 base g cap (List.take j o++List.take (o.length-j) (List.drop k o)))=>KX base g cap k q (cap-k) _ b w3 h (by rw[hlen];have :=HQ.o;omega) (by rw[hlen];exact hz));have x2:=HM2.o.cell qY HBX.o;have b0:=HM2.o.cell qY HBK.o;have b1:=HM2.o.cell qY HBM.o;have HLEN:=Hd hlen;clear hS hO2 hM2 hlen hx
 go_upto_region 3 with fail
 clear hcp hoff;have hc6:j≤cap:=by omega
 have hc7:k≤j:=by have :=HQ.o;omega
 have hjk:j-k=q:=by have :=HQ.o;omega
 refine kW 7 (fun w'=>Below w2.heap.size w2 w'∧w'.cell? ⟨bx,0,none⟩=some (.int .i64 k)∧w'.cell? ⟨bb,0,none⟩=some (.int .i64 b.k)∧w'.cell? ⟨bb,1,none⟩=some (.int .i64 b.n)) qQ qQ ?_ ?_
 · exact⟨(jU _ _).drew,x2,b0,b1⟩
 simp only[jS,kK,jL,jO]
 repeat(
  (first
   |refine kF qK ?_
   |(refine kT ?_ qK ?_ ?_;rotate_left;(focus(intro w' hS;obtain⟨_,_,_,_⟩:=hS;go_simp;first|done|with_reducible rfl))))
  simp only[Act.put,jZ,jX,jY])
 refine kE (fun w' hS=>?_);have HB3:=Hd hS.1;clear hS x2 b0 b1
 go_wp2_with(go_at_call 351;refine(HWP.o _ (HO2.o.below HB3.o)).mono ?_;rintro e w4 ⟨rfl,hc,hm⟩)
 go_end0
 rw[HV.o];exact⟨rfl,hc,(HM2.o.then_below HB3.o).trans hm (fun b hb=>.inl hb)⟩
theorem pG.rebase{l:List Cl}{w W w':World}{e:Ending}(hb:Below w.heap.size w W)(h:pG l W e w'):pG l w e w':=by
 obtain⟨g,cap,he,hc,hb2⟩:=h;exact⟨g,cap,he,pQ hc hb.size,jW hb hb2⟩
theorem vH{w:World}{b:Nat}{t:TypeId}{cs:List Value}(h:w.heap[b]? =some (.cells cs.toArray t (0,0)))(j:Nat)(v:Value)(hv:cs[j]? =some v):w.cell? ⟨b,j,none⟩=some v:=(uS h j v hv).1
set_option maxHeartbeats 3200000 in
theorem UM(A:Option Addr)(l:List Cl)(ca:Nat)(w:World)(hl:pT kV 8 w A l)(h0:0<l.length)(hz:l.length≤10000):
 Calls jG 379 #[.slice A l.length ca] w (pG (fE l) w):=by
 have HW:=Hd (eU A l ca 402 #[] (fun o=>o.set (o.length-1) ZH) w hl h0 hz (by simp[uL]) (fun args w=>by kernel_rfl) (fun g cap w' hc _=>by
  have :=UX w.heap.size g cap (uJ l) w' hc (by rw[uL];exact h0) qZ2;rw[uL]at this;simp only[uL];exact this))
 rw[uL,show uJ ((uJ l).set (l.length-1) ZH)=fE l from rfl]at HW;clear hl
 go_enter Tryz.func379,Tryz.ntmps379
 go_wp2_with(go_at_call 104;refine HW.o.mono ?_;rintro e w1 ⟨g,cap,rfl,hc,hb⟩;have HC:=Hd hc;clear hc)
 go_ret
 exact qXe
set_option maxHeartbeats 3200000 in
theorem UW(A:Option Addr)(l:List Cl)(ca:Nat)(x y:Int)(b:Col)(w:World)(hl:pT kV 8 w A l)(h0:0<l.length)(hz:l.length≤10000):
 Calls jG 292 #[.slice A l.length ca,.int .i64 x,.int .i64 y,.agg #[.int .i64 b.k,.int .i64 b.n]] w (pG (bZ l x y b) w):=by
 have hb0:Below w.heap.size w (((w.alloc (.cells #[.int .i64 x] 3)).alloc (.cells #[.int .i64 y] 3)).alloc (.cells #[.int .i64 b.k,.int .i64 b.n] 61)):=jH (jH (jH (jU w.heap.size w) _) _) _;have hp0:((((w.alloc (.cells #[.int .i64 x] 3)).alloc (.cells #[.int .i64 y] 3)).alloc (.cells #[.int .i64 b.k,.int .i64 b.n] 61)):World).heap[w.heap.size+0]? =some (.cells #[.int .i64 x] 3 (0,0)):=by first|exact vJ (vJ (jT qV))|(refine vJ ?_;refine vJ ?_;exact jT rfl)
 have hp1:((((w.alloc (.cells #[.int .i64 x] 3)).alloc (.cells #[.int .i64 y] 3)).alloc (.cells #[.int .i64 b.k,.int .i64 b.n] 61)):World).heap[w.heap.size+1]? =some (.cells #[.int .i64 y] 3 (0,0)):=by first|exact vJ (jT qV)|(refine vJ ?_;refine vJ ?_;exact jT rfl)
 have hp2:((((w.alloc (.cells #[.int .i64 x] 3)).alloc (.cells #[.int .i64 y] 3)).alloc (.cells #[.int .i64 b.k,.int .i64 b.n] 61)):World).heap[w.heap.size+2]? =some (.cells #[.int .i64 b.k,.int .i64 b.n] 61 (0,0)):=by first|exact jT qV|(refine vJ ?_;refine vJ ?_;exact jT rfl)
 have HB0:=Hd hb0;have HW:=Hd (eU A l ca 350 #[.pointer (some ⟨w.heap.size,0,none⟩),.pointer (some ⟨w.heap.size+1,0,none⟩),.pointer (some ⟨w.heap.size+2,0,none⟩)] (fun o=>lX o x y b) (((w.alloc (.cells #[.int .i64 x] 3)).alloc (.cells #[.int .i64 y] 3)).alloc (.cells #[.int .i64 b.k,.int .i64 b.n] 61)) (hl.below hb0) h0 hz (by rw[Ye,uL]) (fun args w=>by kernel_rfl) (fun g cap w' hc hb=>by
  have :=Yh _ g cap (uJ l) _ _ _ x y b w' hc qZ2 (kZ hb (vH hp0 0 _ rfl)) (kZ hb (vH hp1 0 _ rfl)) (kZ hb (vH hp2 0 _ rfl)) (kZ hb (vH hp2 1 _ rfl))
  rwa[uL]at this))
 have HL:=Hd (show uJ ((fun o=>lX o x y b) (uJ l))=bZ l x y b from by unfold bZ;rw[KO]);rw[HL.o]at HW;clear hl hb0 hp0 hp1 hp2
 go_enter Tryz.func292,Tryz.ntmps292
 go_wp2_with(go_at_call 104;refine HW.o.mono ?_;intro e w1 hp;obtain⟨g,cap,rfl,hc,hb⟩:=pG.rebase HB0.o hp;have HC:=Hd hc;clear hc hp)
 go_ret
 exact qXe
set_option maxHeartbeats 3200000 in
theorem XQ(A:Option Addr)(l:List Cl)(ca:Nat)(x n:Int)(b:Col)(w:World)(hl:pT kV 8 w A l)(h0:0<l.length)(hz:l.length≤10000):
 Calls jG 344 #[.slice A l.length ca,.int .i64 x,.int .i64 n,.agg #[.int .i64 b.k,.int .i64 b.n]] w (pG (bM l x n b) w):=by
 have hb0:Below w.heap.size w (((w.alloc (.cells #[.int .i64 x] 3)).alloc (.cells #[.int .i64 n] 3)).alloc (.cells #[.int .i64 b.k,.int .i64 b.n] 61)):=jH (jH (jH (jU w.heap.size w) _) _) _;have hp0:((((w.alloc (.cells #[.int .i64 x] 3)).alloc (.cells #[.int .i64 n] 3)).alloc (.cells #[.int .i64 b.k,.int .i64 b.n] 61)):World).heap[w.heap.size+0]? =some (.cells #[.int .i64 x] 3 (0,0)):=by first|exact vJ (vJ (jT qV))|(refine vJ ?_;refine vJ ?_;exact jT rfl)
 have hp1:((((w.alloc (.cells #[.int .i64 x] 3)).alloc (.cells #[.int .i64 n] 3)).alloc (.cells #[.int .i64 b.k,.int .i64 b.n] 61)):World).heap[w.heap.size+1]? =some (.cells #[.int .i64 n] 3 (0,0)):=by first|exact vJ (jT qV)|(refine vJ ?_;refine vJ ?_;exact jT rfl)
 have hp2:((((w.alloc (.cells #[.int .i64 x] 3)).alloc (.cells #[.int .i64 n] 3)).alloc (.cells #[.int .i64 b.k,.int .i64 b.n] 61)):World).heap[w.heap.size+2]? =some (.cells #[.int .i64 b.k,.int .i64 b.n] 61 (0,0)):=by first|exact jT qV|(refine vJ ?_;refine vJ ?_;exact jT rfl)
 have HB0:=Hd hb0;have HW:=Hd (eU A l ca 380 #[.pointer (some ⟨w.heap.size,0,none⟩),.pointer (some ⟨w.heap.size+1,0,none⟩),.pointer (some ⟨w.heap.size+2,0,none⟩)] (fun o=>dK o x n b) (((w.alloc (.cells #[.int .i64 x] 3)).alloc (.cells #[.int .i64 n] 3)).alloc (.cells #[.int .i64 b.k,.int .i64 b.n] 61)) (hl.below hb0) h0 hz (by rw[wN,uL]) (fun args w=>by kernel_rfl) (fun g cap w' hc hb=>by
  have :=ZI _ g cap (uJ l) _ _ _ x n b w' hc qZ2 (kZ hb (vH hp0 0 _ rfl)) (kZ hb (vH hp1 0 _ rfl)) (kZ hb (vH hp2 0 _ rfl)) (kZ hb (vH hp2 1 _ rfl)) jK jK jK
  rwa[uL]at this))
 have HL:=Hd (show uJ ((fun o=>dK o x n b) (uJ l))=bM l x n b from Jl l x n b);rw[HL.o]at HW;clear hl hb0 hp0 hp1 hp2
 go_enter Tryz.func344,Tryz.ntmps344
 go_wp2_with(go_at_call 104;refine HW.o.mono ?_;intro e w1 hp;obtain⟨g,cap,rfl,hc,hb⟩:=pG.rebase HB0.o hp;have HC:=Hd hc;clear hc hp)
 go_ret
 exact qXe
set_option maxHeartbeats 3200000 in
theorem qVj(A:Option Addr)(l:List Cl)(ca:Nat)(x r:Int)(a:Atr)(w:World)(hl:pT kV 8 w A l)(h0:0<l.length)(hz:l.length≤10000):
 Calls jG 295 #[.slice A l.length ca,.int .i64 x,.int .i32 r,.agg #[.int .i64 a.fk,.int .i64 a.fn,.int .i64 a.bk,.int .i64 a.bn,.int .i64 a.fl]] w (pG (fV l x r a) w):=by
 have hb0:Below w.heap.size w (((w.alloc (.cells #[.int .i64 x] 3)).alloc (.cells #[.int .i32 r] 21)).alloc (.cells #[.int .i64 a.fk,.int .i64 a.fn,.int .i64 a.bk,.int .i64 a.bn,.int .i64 a.fl] 63)):=jH (jH (jH (jU w.heap.size w) _) _) _;have hp0:((((w.alloc (.cells #[.int .i64 x] 3)).alloc (.cells #[.int .i32 r] 21)).alloc (.cells #[.int .i64 a.fk,.int .i64 a.fn,.int .i64 a.bk,.int .i64 a.bn,.int .i64 a.fl] 63)):World).heap[w.heap.size+0]? =some (.cells #[.int .i64 x] 3 (0,0)):=by first|exact vJ (vJ (jT qV))|(refine vJ ?_;refine vJ ?_;exact jT rfl)
 have hp1:((((w.alloc (.cells #[.int .i64 x] 3)).alloc (.cells #[.int .i32 r] 21)).alloc (.cells #[.int .i64 a.fk,.int .i64 a.fn,.int .i64 a.bk,.int .i64 a.bn,.int .i64 a.fl] 63)):World).heap[w.heap.size+1]? =some (.cells #[.int .i32 r] 21 (0,0)):=by first|exact vJ (jT qV)|(refine vJ ?_;refine vJ ?_;exact jT rfl)
 have hp2:((((w.alloc (.cells #[.int .i64 x] 3)).alloc (.cells #[.int .i32 r] 21)).alloc (.cells #[.int .i64 a.fk,.int .i64 a.fn,.int .i64 a.bk,.int .i64 a.bn,.int .i64 a.fl] 63)):World).heap[w.heap.size+2]? =some (.cells #[.int .i64 a.fk,.int .i64 a.fn,.int .i64 a.bk,.int .i64 a.bn,.int .i64 a.fl] 63 (0,0)):=by first|exact jT qV|(refine vJ ?_;refine vJ ?_;exact jT rfl)
 have HB0:=Hd hb0;have HW:=Hd (eU A l ca 352 #[.pointer (some ⟨w.heap.size+1,0,none⟩),.pointer (some ⟨w.heap.size,0,none⟩),.pointer (some ⟨w.heap.size+2,0,none⟩)] (fun o=>JV o x r a) (((w.alloc (.cells #[.int .i64 x] 3)).alloc (.cells #[.int .i32 r] 21)).alloc (.cells #[.int .i64 a.fk,.int .i64 a.fn,.int .i64 a.bk,.int .i64 a.bn,.int .i64 a.fl] 63)) (hl.below hb0) h0 hz (by rw[qJv,uL]) (fun args w=>by kernel_rfl) (fun g cap w' hc hb=>by
  have :=qJ0 _ g cap (uJ l) _ _ _ x r a w' hc qZ2 (kZ hb (vH hp1 0 _ rfl)) (kZ hb (vH hp0 0 _ rfl)) (fun j v hv=>by rw[kP];exact kZ hb (vH (cs:=encAt a) hp2 j v hv)) jK jK jK
  rwa[uL]at this))
 have HL:=Hd (show uJ ((fun o=>JV o x r a) (uJ l))=fV l x r a from qJz l x r a);rw[HL.o]at HW;clear hl hb0 hp0 hp1 hp2
 go_enter Tryz.func295,Tryz.ntmps295
 go_wp2_with(go_at_call 104;refine HW.o.mono ?_;intro e w1 hp;obtain⟨g,cap,rfl,hc,hb⟩:=pG.rebase HB0.o hp;have HC:=Hd hc;clear hc hp)
 go_ret
 exact qXe
end Go.Proofs.YtaefcahblmopfaaGreatDoor
