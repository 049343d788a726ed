/- Joined by a tool of this claim out of smaller texts. Conditions: as stated. -/
import Derived.Test.YtaefcahblmopfaaGreatDoorDg34
set_option linter.unusedVariables false
set_option linter.unusedSimpArgs false
set_option maxRecDepth 100000
open Go.Lib renaming hid → Hd
open List renaming setIfInBounds_toArray → jZ, set_cons_zero → jX, set_cons_succ → jY, mem_singleton → jW, getElem?_eq_getElem → jN, mem_append → kM, length_take → kS, length_set → kI, mem_of_getElem? → uW, map_append → uE, take_of_length_le → vV
open Go.Proofs.Tryz renaming prog → jG
open Go.RowKit.Below renaming refl → jU
open Nat renaming le_refl → jD, le_trans → jI, zero_le → kB, zero_add → kP, add_zero → uS
open Go.IntWalk renaming i64_in → jF
open Go.IntKind renaming i64 → jE
open And renaming intro → kX
namespace Go.Proofs.YtaefcahblmopfaaGreatDoor
open Go.RowKit
def RowF(cols:Nat)(r:Rw):Prop:=r.cs.length=cols∧uQ r.cs=r.cs∧(∀c∈r.cs,Ok7 c)∧∀c∈r.cs,iL c.fk c.fn c.bk c.bn c.fl=true
def RtK(rows:List Rw)(cols k:Nat):Prop:=0<rows.length∧(1<cols∧cols≤1000)∧∀r∈rows.take k,RowF cols r
theorem RtK.next{rows:List Rw}{cols k:Nat}{r:Rw}(h:RtK rows cols k)(hr:rows[k]? =some r)(hf:RowF cols r):RtK rows cols (k+1):=by
 refine⟨h.1,h.2.1,fun q hq=>?_⟩;rw[List.take_add_one,hr]at hq;rcases kM.1 hq with hq|hq
 · exact h.2.2 q hq
 · have :q=r:=by simpa using hq
   rw[this];exact hf
theorem qKt{M:List Cl}{i:Nat}{c:Cl}(hc:M[i]? =some c)(h:∀c∈M.take i,iL c.fk c.fn c.bk c.bn c.fl=true)(ha:iL c.fk c.fn c.bk c.bn c.fl=true):∀c∈M.take (i+1),iL c.fk c.fn c.bk c.bn c.fl=true:=fun q hq=>by
 rw[List.take_add_one,hc]at hq;rcases kM.1 hq with hq|hq
 · exact h q hq
 · have :q=c:=by simpa using hq
   rw[this];exact ha
set_option maxHeartbeats 12800000 in
theorem Ql(A:Option Addr)(rows:List Rw)(ca:Nat)(w:World)(hl:bM w A rows)(hz:rows.length≤1048576)(hcz:∀r∈rows,r.cs.length≤1048576∧r.cs.length≤r.cap)(hmz:∀r∈rows,∀c∈r.cs,c.more.size≤1048576)(ht:fA w):
 Calls jG 6 #[.slice A rows.length ca] w fun e w'=>e=.returned (.bool true)∧Below w.heap.size w w':=by
 have HL:=Hd hl;have HT:=Hd ht;have HC:=Hd (kX hcz hmz);have HG:=Hd (ZH A rows ca w hl hz (fun r hr=>(hcz r hr).1));have HAW:Hid (∀w',Below w.heap.size w w'→Calls jG 22 #[] w' fun e w2=>e=.returned (.bool true)∧Below w'.heap.size w' w2):=Hd (fun w' hb=>Zc w' (HT.o.below hb));obtain⟨L,hL⟩:∃L,rows.length=L:=⟨_,rfl⟩;have HLL:=Hd hL;rw[hL]at HG ⊢;clear hl hz hcz hmz ht hL
 go_enter Tryz.func6,Tryz.ntmps6
 go_upto_region 1 with fail
 refine wp_region_lit ?_;refine jB (.slice A L ca) qK qK ?_;simp only[Act.put,jZ,jX,jY];refine zR rfl 21 #[.slice A L ca] qX (HG.o.mono (fun e w' ⟨b,he,hb,hw⟩=>(⟨_,he,⟨b,rfl,hb⟩,hw⟩:∃v,e=.returned v∧(∃b:Bool,v=.bool b∧(b=false→rows.length≤400∧∀r∈rows,r.cs.length≤400))∧Below w.heap.size w w'))) ?_;rintro v1 w1 ⟨⟨b,rfl,hgr⟩,hb1⟩;have HB1:=Hd hb1;clear hb1;simp only[Act.put,jZ,jX,jY];rcases b with _|_
 rotate_left
 · go_wp2_with(go_at_call 22;(with_reducible refine(HAW.o _ HB1.o).mono ?_);rintro e w2 ⟨rfl,hb2⟩;have HB2:=Hd (jM HB1.o hb2);clear hb2)
   go_ret
   exact⟨rfl,HB2.o⟩
 · have HGR:=Hd (hgr rfl);clear hgr;have HDF:Hid (∀w',Below w.heap.size w w'→Calls jG 28 #[.slice A L ca] w' (Zx rows w')):=Hd (fun w' hb=>by
    have :=V3 A rows ca w' (HL.o.below hb) HGR.o.1 HGR.o.2;rw[HLL.o]at this;exact this)
   obtain⟨i0,hi,hz0,hz1,hz2⟩:=info_parts tU
   go_upto_region 5 with(first
    |(go_at_call 22;(with_reducible refine(HAW.o _ HB1.o).mono ?_);rintro e w2 ⟨rfl,hb2⟩;have HB2:=Hd (jM HB1.o hb2);clear hb2)
    |(go_at_call 28;(with_reducible refine(HDF.o _ HB2.o).mono ?_);rintro e w3 ⟨vF,RF,rfl,hq,hmap,hb3⟩;obtain⟨AF,cF,rfl,hgF⟩:=hq.form;have HQF:=Hd hq;have HMF:=Hd hmap;have HGF:=Hd hgF;have HB3:=Hd (jM HB2.o hb3);clear hq hmap hgF hb3))
   have HRFL:Hid (RF.length=L):=Hd (by have :=congrArg List.length HMF.o;unfold bZ at this;simp only[List.length_map]at this;rw[this,HLL.o]);obtain⟨nF,hnF⟩:∃n,RF.length=n:=⟨_,rfl⟩;have HNF:=Hd hnF;rw[hnF]at HQF ⊢;clear HAW HG HDF hnF;obtain⟨cols,hcols⟩:∃cols,∀r,rows[0]? =some r→r.cs.length=cols:=by
    cases rows with
    |nil=>exact⟨0,fun r hr=>by cases hr⟩
    |cons r l=>exact⟨r.cs.length,fun q hq=>by have :r=q:=by simpa using hq
                                              rw[this]⟩
   have HCOL:=Hd hcols;have HLz:L≤400:=by have :=HGR.o.1;have :=HLL.o;omega
   have HFI:=Hd (fun w=>WS L cols w);clear hcols
   go_cut [5] (fun s5 w'=>∃t:Bool,s5=.bool t∧(t=true→RtK rows cols 0)∧w3=w')
   case first =>
    by_cases h0:0<L
    · obtain⟨b,off,rfl,hrr⟩:=HL.o (by rw[HLL.o];exact h0);have h00:0<rows.length:=by rw[HLL.o];exact h0
      obtain⟨⟨d0,-⟩,-,-⟩:=(hrr 0 _ (jN h00)).below HB3.o;rw[HCOL.o _ (jN h00),Nat.zero_mul,uS]at d0;generalize rows[0].A=r0A at d0;generalize rows[0].cap=r0c at d0;have hp:(0:Int)<(L:Int):=by omega
      have H00:=Hd h00;clear hrr h00
      go_wp2_with(go_at_call 29;(with_reducible refine(HFI.o _).mono ?_);rintro e w4 ⟨rfl,rfl⟩)
      go_meet
      exact⟨_,rfl,(fun h=>by
       simp only[Bool.and_eq_true,decide_eq_true_eq]at h;exact⟨H00.o,⟨h.2.1,h.2.2⟩,fun r hr=>by simp at hr⟩),rfl⟩
    · have hp:¬(0:Int)<(L:Int):=by omega
      clear h0
      go_wp2
      go_meet
      exact⟨false,by simp,(fun h=>by cases h),rfl⟩
   obtain⟨t0,rfl,ht0,rfl⟩:=hcut;have HT0:=Hd ht0;clear ht0 HFI
   go_upto_region 7 with fail
   go_loopw [4,5,6] (fun s4 s5 s6 wr=>∃(k:Nat) (t:Bool) (R:List Rh),s6=.int .i64 k∧k≤L∧s5=.bool t∧eE w3.heap.size wr s4 R∧R.map yW=bZ (rows.take k)∧(t=true→RtK rows cols k)∧Below w3.heap.size w3 wr) (fun _ _ s6 _=>L-(intOf s6).toNat)
   case atStart=>exact⟨0,t0,[],rfl,kB _,rfl,eE.nil _ _,rfl,HT0.o,jU _ _⟩
   case round=>
    rename World=>wo
    obtain⟨k,t,R,rfl,hk,rfl,hO,hR,hrt,hB⟩:=hrel;obtain⟨bx,rfl⟩:∃bx:Value×Unit,u4=bx.1:=⟨(u4,()),rfl⟩;have HO:=Hd hO;have HR:=Hd hR;have HB:=Hd hB;have HRT:=Hd hrt;clear hO hR hB hrt
    by_cases hlt:k<L
    rotate_left
    · obtain rfl:k=L:=by omega
      rw[←HLL.o,List.take_length]at HR;rw[←HLL.o]at HRT;obtain⟨AW,cW,hv,hgW⟩:=HO.o.form;have HGW:=Hd hgW;have HSM:Hid (Calls jG 34 #[.slice AF nF cF,.slice AW R.length cW] wo fun e w'=>e=.returned (.bool true)∧Below wo.heap.size wo w'):=Hd (by
       have :=KQ AF AW RF R cF cW wo (HGF.o.below HB.o) HGW.o (fun r hr=>((HQF.o.2 r hr).below HB.o).weak) (fun r hr=>(HO.o.2 r hr).weak) (by rw[HMF.o,HR.o]) (by have :=HRFL.o;omega)
       rwa[HNF.o]at this)
      have HDR:Hid (t=true→∀w',Below wo.heap.size wo w'→Calls jG 24 #[.slice AF nF cF] w' fun e w2=>e=.returned (.bool true)∧Below w'.heap.size w' w2):=Hd (fun h w' hb=>by
       obtain⟨h1,h2,h3⟩:=HRT.o h;rw[List.take_length]at h3;have hok:=ZB (L:=RF) HMF.o h1 qV2 h2.1 h2.2 h3;have :=QV AF (RF.map rwOf) cF cols w' (WB ((HGF.o.below HB.o).below hb) (fun r hr=>((HQF.o.2 r hr).below HB.o).below hb)) hok
       rwa[List.length_map,HNF.o]at this)
      have HBW:=Hd (jM HB3.o HB.o);clear hgW;rw[hv];cases t with
      |false=>
       go_wp2_with(go_at_call 34;(with_reducible refine HSM.o.mono ?_);rintro e w6 ⟨rfl,hb6⟩;have HB6:=Hd hb6;clear hb6)
       go_ret
       exact⟨rfl,jM HBW.o HB6.o⟩
      |true=>
       have HDR1:=Hd (HDR.o rfl)
       go_wp2_with(first
        |(go_at_call 34;(with_reducible refine HSM.o.mono ?_);rintro e w6 ⟨rfl,hb6⟩;have HB6:=Hd hb6;clear hb6)
        |(go_at_call 24;(with_reducible refine(HDR1.o _ HB6.o).mono ?_);rintro e w7 ⟨rfl,hb7⟩;have HB7:=Hd (jM HB6.o hb7);clear hb7))
       go_ret
       exact⟨rfl,jM HBW.o HB7.o⟩
    · have h00:0<rows.length:=by have :=HLL.o;omega
      obtain⟨b,off,rfl,hrr⟩:=HL.o h00;obtain⟨⟨d0,-⟩,-,-⟩:=((hrr 0 _ (jN h00)).below HB3.o).below HB.o;rw[HCOL.o _ (jN h00),Nat.zero_mul,uS]at d0;generalize rows[0].A=r0A at d0;generalize rows[0].cap=r0c at d0;obtain⟨r,hr⟩:∃r,rows[k]? =some r:=⟨_,jN (by rw[HLL.o];exact hlt)⟩;obtain⟨⟨dk,-⟩,hcl,-⟩:=((hrr k r hr).below HB3.o).below HB.o;have hm:=uW hr;have HRK:=Hd (nI hr);have HRTN:=Hd (fun(h:RtK rows cols k) hf=>h.next hr hf);have hrz:=HGR.o.2 r hm;have hmz:=HC.o.2 r hm;have HRL:Hid (R.length=k):=Hd qL;obtain⟨rA,cs,cap,cont⟩:=r;simp only at dk hcl hrz hmz HRK HRTN;obtain⟨n,hn⟩:∃n,cs.length=n:=⟨_,rfl⟩;rw[hn]at dk hrz;have HN:=Hd hn;have HCL:=Hd hcl;have HMZZ:=Hd hmz;clear hrr h00 hr hm hcl hn hmz;have HM:=Hd (Xv rA cs n cap wo HN.o (iX HCL.o) qJ);have HMZ:=Hd (show(uQ cs).length=n by rw[uN];exact HN.o);have HFL:=Hd (show(uQ cs).map fM=eL cs from rfl);obtain⟨M,hM⟩:∃M,uQ cs=M:=⟨_,rfl⟩;rw[hM]at HM HMZ HFL;have HME:=Hd hM;clear hM
      go_upto_region 10 with(go_at_call 30;(with_reducible refine HM.o.mono ?_);rintro e w5 ⟨A1,c1,rfl,ho1,hb1⟩;have HO1:=Hd ho1;have HB5:=Hd hb1;have e0:=kZ hb1 d0;have ek:=kZ hb1 dk;clear ho1 hb1 d0 dk)
      have HR7:=Hd (Vk rA cs n cap w5 HN.o (HCL.o.below HB5.o) qJ HMZZ.o)
      go_cut [5] (fun s5 w'=>∃t':Bool,s5=.bool t'∧(t'=true→RtK rows cols k∧n=cols∧M=cs∧∀c∈cs,Ok7 c)∧Below w5.heap.size w5 w')
      case first =>
       cases t with
       |false=>
        go_wp2
        go_meet
        exact⟨false,rfl,(fun h=>by cases h),jU _ _⟩
       |true=>
        have HRT1:=Hd (HRT.o rfl)
        by_cases hnc:n=cols
        · have hbe:((n:Int)==(cols:Int))=true:=by simp[hnc]
          have HNC:=Hd hnc;clear hnc
          go_wp2_with(go_at_call 31;(with_reducible refine HR7.o.mono ?_);rintro e w6 ⟨t7,rfl,h7,hb6⟩;have H7:=Hd h7;have HB6:=Hd hb6;have f0:=kZ hb6 e0;clear h7 hb6 e0 ek)
          all_goals
           go_meet
           first
           |exact⟨true,by simp,fun _=>⟨HRT1.o,HNC.o,by rw[←HME.o];exact(H7.o (by assumption)).1,(H7.o (by assumption)).2⟩,HB6.o⟩
           |exact⟨false,by simp,(fun h=>by cases h),HB6.o⟩
        · have hbe:((n:Int)==(cols:Int))=false:=by simp;omega
          clear hnc
          go_wp2_with(go_at_call 31;(with_reducible refine HR7.o.mono ?_);rintro e w6 ⟨t7,rfl,h7,hb6⟩;have HB6:=Hd hb6;have f0:=kZ hb6 e0;clear h7 hb6 e0 ek)
          all_goals
           go_meet
           exact⟨false,by simp,(fun h=>by cases h),HB6.o⟩
      obtain⟨t2,rfl,ht2,hb7⟩:=hcut;have HT2:=Hd ht2;have HB7:=Hd hb7
      rename World=>w7
      clear ht2 hb7 HRT HR7 e0 ek;have HO7:=Hd (kC HO1.o (Mod.of_below (X:=[]) HB7.o) (fun _ _ h=>by cases h));have HB57:=Hd (jM HB5.o HB7.o)
      go_upto_region 12 with fail
      go_loopw [5,8] (fun s5 s8 wi=>∃(i:Nat) (t:Bool),s8=.int .i64 i∧i≤n∧s5=.bool t∧(t=true→(RtK rows cols k∧n=cols∧M=cs∧∀c∈cs,Ok7 c)∧∀c∈M.take i,iL c.fk c.fn c.bk c.bn c.fl=true)∧wi.ownsRow wo.heap.size 65 8 (.slice A1 n c1) n (uY kQ (flI M i))∧Below wo.heap.size w7 wi) (fun _ s8 _=>n-(intOf s8).toNat)
      case atStart=>exact⟨0,t2,rfl,kB _,rfl,fun h=>⟨HT2.o h,fun c hc=>by simp at hc⟩,by rw[ZD];exact HO7.o,jU _ _⟩
      case round=>
       obtain⟨i,ti,rfl,hi',rfl,hti,hOi,hBi⟩:=hrel;have HTI:=Hd hti;have HBi:=Hd hBi;clear hti
       by_cases hlti:i<n
       rotate_left
       · obtain rfl:i=n:=by omega
         rw[UI HMZ.o,HFL.o]at hOi;have HOi:=Hd hOi;have HWI:=Hd (HB57.o.trans HBi.o);have HO9:=Hd (HO.o.below HWI.o);have HB9:=Hd (jM HB.o HWI.o);have HRQ:=Hd (rG.of_owns hOi (by rw[iW];exact HN.o) qJ false);have HEN:Hid (gI ⟨A1,eL cs,c1,false⟩=[.slice A1 i c1,.bool false]):=Hd (by unfold gI;rw[iW,HN.o]);have HRN:Hid (ti=true→RtK rows cols (k+1)):=Hd (fun h=>by
          obtain⟨⟨h1,h2,h3,h4⟩,h5⟩:=HTI.o h;refine HRTN.o h1 ⟨HN.o.trans h2,HME.o.trans h3,h4,fun c hc=>h5 c ?_⟩;rw[vV (by rw[HMZ.o];exact jD _),h3];exact hc)
         have hsz9:=HB9.o.size;have hRl:=HRL.o;clear hOi hBi
         go_wp2_with(at_builtin;refine vP rfl _ _ 46 rfl w3.heap.size 52 i0 _ 2 32 Tryz.underlying46 hi hz0 hz1 hz2 rfl qZ bx.1 R.length (uY gI R) rfl (HO9.o.1.alloc _) ⟨wr.heap.size,0,none⟩ 1 1 [.slice A1 i c1,.bool false] rfl rfl (lY _ _ _ _) (KR _ _ _) qU qJ qY ?_;intro v' w2 hown' hgrow _;have HOW:=Hd hown';have HGRW:=Hd hgrow;clear hown' hgrow)
         go_roundw
         case rel=>
          have hbA:=jH (jU wr.heap.size wr) (.cells #[.slice A1 i c1,.bool false] 52);have h1:=(HO9.o.below hbA).push (r:=⟨A1,eL cs,c1,false⟩) (v':=v') (by rw[HEN.o];exact HOW.o) HGRW.o (HRQ.o.below hbA);exact⟨k+1,ti,_,by go_num,by omega,rfl,h1,by rw[HRK.o,uE,HR.o];rfl,HRN.o,(jH HB9.o (.cells #[.slice A1 i c1,.bool false] 52)).grown HGRW.o qY (fun q hq=>((HO9.o.below hbA).1.lt q hq).1)⟩
         case measure=>simp[intOf];omega
       · have hltI:(i:Int)<(n:Int):=by omega
         have hil:i<M.length:=by rw[HMZ.o];exact hlti
         obtain⟨c,hc⟩:∃c,M[i]? =some c:=⟨M[i],jN hil⟩;have hg:pZ kQ 8 wr A1 (flI M i):=Kj uF (n:=n) (c:=c1) (base:=wo.heap.size) (e:=65) (by rw[bD,HMZ.o];exact hOi);have hiu:i<(flI M i).length:=by rw[bD];exact hil
         obtain⟨g,hA1⟩:∃g,A1=some ⟨g,0,none⟩:=by
          obtain⟨g,cap,hv⟩:=gV hOi qJ;simp only[Value.slice.injEq]at hv;exact⟨g,hv.1⟩
         subst hA1;obtain⟨b2,off2,c',hA2,hc2,hcell2⟩:=hg.at_ hiu;simp only[Option.some.injEq,Addr.mk.injEq,and_true]at hA2;obtain⟨rfl,rfl⟩:=hA2;rw[YN hc]at hc2;obtain rfl:=Option.some.inj hc2;have HUS:=Hd (aE hc);have HUM:=Hd (ZF hc);have HAN:=Hd (fun h ha=>qKt hc h ha);have hcro:CrO wr wo.heap.size g c1 (flI M i):=by unfold CrO;rw[bD,HMZ.o];exact hOi
         have HCI:=Hd hcro;have d0:=hcell2 0 _ rfl;have d2:=hcell2 2 _ rfl;have d3:=hcell2 3 _ rfl;have d4:=hcell2 4 _ rfl;have d5:=hcell2 5 _ rfl;have d6:=hcell2 6 _ rfl;have d7:=hcell2 7 _ rfl;simp only[uS,kP]at d0 d2 d3 d4 d5 d6 d7;have hwi:jE.wrap ((i:Int)+1)=(i:Int)+1:=jF _ qJ;obtain⟨xr,xm,xh,x1,x2,x3,x4,x5⟩:=c;simp only at d0 d2 d3 d4 d5 d6 d7;have HIL:=Hd hiu;have HSZI:=Hd (show wo.heap.size≤wr.heap.size from jI HB57.o.size HBi.o.size);clear hOi hBi hg hcro hc hc2 hcell2 hil hiu
         go_upto_region 14 with fail
         go_cut [5] (fun s5 w'=>∃t':Bool,s5=.bool t'∧(t'=true→(RtK rows cols k∧n=cols∧M=cs∧∀c∈cs,Ok7 c)∧∀c∈M.take (i+1),iL c.fk c.fn c.bk c.bn c.fl=true)∧Below wr.heap.size wr w')
         case first =>
          cases ti with
          |false=>
           go_wp2
           go_meet
           exact⟨false,rfl,(fun h=>by cases h),jU _ _⟩
          |true=>
           have H5:=Hd (fun w=>Vu x1 x2 x3 x4 x5 w)
           go_wp2_with(go_at_call 32;(with_reducible refine(H5.o _).mono ?_);rintro e w8 ⟨rfl,hb8⟩;have HB8:=Hd hb8;clear hb8)
           go_meet
           exact⟨_,rfl,fun h=>⟨(HTI.o qV).1,HAN.o (HTI.o qV).2 h⟩,HB8.o⟩
         obtain⟨t9,rfl,ht9,hb8⟩:=hcut
         rename World=>w8
         have HT9:=Hd ht9;have HB8:=Hd (HBi.o.trans (hb8.mono HSZI.o));have HC8:=Hd (HCI.o.below hb8);have HSZ8:=Hd (jI HSZI.o hb8.size);have e0:=kZ hb8 d0;have e2:=kZ hb8 d2;have e5:=kZ hb8 d5;have e6:=kZ hb8 d6;clear d0 d2 d3 d4 d5 d6 d7 hb8 ht9 HTI HAN
         by_cases hh:xr=0∨xh=3
         · have HFB:=Hd (fW (c:=⟨xr,xm,xh,x1,x2,x3,x4,x5⟩) hh);rcases Decidable.em (xr=0)with hx0|hx0
           · have hrb:(xr==0)=true:=by simp[hx0]
             clear hh hx0;have HBK:=Hd (fun w=>tA ⟨x3,x4⟩ w)
             go_wp2_with(first
              |(go_at_call 33;(with_reducible refine(HBK.o _).mono ?_);rintro e w9 ⟨rfl,hb9⟩;have HB9:=Hd hb9;have HTH:=Hd ((HC8.o.below hb9).there HIL.o);clear hb9)
              |(refine wpList_store_mid (op:=⟨none,.store 65 (.tmp 100) (.tmp 99),_,_,_,_⟩) rfl 65 (.tmp 100) (.tmp 99) rfl g (i*8) (kQ (vE ⟨x3,x4⟩)).toArray rfl rfl HTH.o uG (pA (vE ⟨x3,x4⟩)) ?_))
             go_roundw
             case rel=>
              obtain⟨q1,q2⟩:=(HC8.o.below HB9.o).set HIL.o (vE ⟨x3,x4⟩);have hs9:=HB9.o.size;have hs8:=HSZ8.o;refine⟨i+1,t9,by go_num,by omega,rfl,HT9.o,?_,HB8.o.trans ((HB9.o.mono hs8).trans (q2.below (fun x hx=>by rw[jW.1 hx];exact HC8.o.lt.1) (jI hs8 hs9)))⟩;unfold CrO at q1;rw[kI,bD,HMZ.o]at q1;rw[HUS.o,HFB.o];exact q1
             case measure=>simp[intOf];omega
           · have hrb:(xr==0)=false:=by simp[hx0]
             have hhb:(xh==3)=true:=by simp;exact hh.resolve_left hx0
             clear hh hx0;have HBK:=Hd (fun w=>tA ⟨x3,x4⟩ w)
             go_wp2_with(first
              |(go_at_call 33;(with_reducible refine(HBK.o _).mono ?_);rintro e w9 ⟨rfl,hb9⟩;have HB9:=Hd hb9;have HTH:=Hd ((HC8.o.below hb9).there HIL.o);clear hb9)
              |(refine wpList_store_mid (op:=⟨none,.store 65 (.tmp 100) (.tmp 99),_,_,_,_⟩) rfl 65 (.tmp 100) (.tmp 99) rfl g (i*8) (kQ (vE ⟨x3,x4⟩)).toArray rfl rfl HTH.o uG (pA (vE ⟨x3,x4⟩)) ?_))
             go_roundw
             case rel=>
              obtain⟨q1,q2⟩:=(HC8.o.below HB9.o).set HIL.o (vE ⟨x3,x4⟩);have hs9:=HB9.o.size;have hs8:=HSZ8.o;refine⟨i+1,t9,by go_num,by omega,rfl,HT9.o,?_,HB8.o.trans ((HB9.o.mono hs8).trans (q2.below (fun x hx=>by rw[jW.1 hx];exact HC8.o.lt.1) (jI hs8 hs9)))⟩;unfold CrO at q1;rw[kI,bD,HMZ.o]at q1;rw[HUS.o,HFB.o];exact q1
             case measure=>simp[intOf];omega
         · have hrb:(xr==0)=false:=by simp;exact fun h=>hh (.inl h)
           have hhb:(xh==3)=false:=by simp;exact fun h=>hh (.inr h)
           have HH:=Hd (HUM.o hh);clear hh
           go_wp2
           go_roundw
           case rel=>
            refine⟨i+1,t9,by go_num,by omega,rfl,HT9.o,?_,HB8.o⟩;rw[HH.o];have h1:=HC8.o;unfold CrO at h1;rw[bD,HMZ.o]at h1;exact h1
           case measure=>simp[intOf];omega
end Go.Proofs.YtaefcahblmopfaaGreatDoor
