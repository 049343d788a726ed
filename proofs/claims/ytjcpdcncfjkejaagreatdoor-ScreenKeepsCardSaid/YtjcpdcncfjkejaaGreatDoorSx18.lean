/- Joined by a tool of this claim out of smaller texts. Conditions: as stated. -/
import Derived.Test.YtjcpdcncfjkejaaGreatDoorSx16
set_option linter.unusedVariables false
set_option linter.unusedSimpArgs false
set_option maxRecDepth 100000
open Go.Lib renaming hid → Hd
open Go.Proofs.Tryz renaming prog → jG
open Go.RowKit.Below renaming refl → jU
open Go.IntWalk renaming i64_in → jH
open Go.IntKind renaming i64 → jP
open List renaming getElem?_eq_getElem → jD, getElem?_eq_some_iff → jE, getD_eq_getElem?_getD → kP, mem_of_getElem? → uW
open And renaming intro → kM
open Nat renaming zero_add → kB, zero_le → kT, add_zero → vO
open Go.World renaming setCell → uQ
open Int renaming toNat_natCast → uJ
namespace Go.Proofs.YtjcpdcncfjkejaaGreatDoor
open Go.RowKit
theorem wB{st:List Bool}{k:Nat}(h:k<st.length):st[k]? =some (st.getD k false):=by
 rw[kP,jD h];rfl
set_option maxHeartbeats 3200000 in
theorem Vt(A:Option Addr)(st:List Bool)(ca:Nat)(x n:Int)(w:World)(hA:pA fC 1 w A st)(h0:0<st.length)(hz:st.length≤1000):Calls jG 123 #[.slice A st.length ca,.int .i64 x,.int .i64 n,.int .i64 (1)] w fun e w'=>e=.returned (.int .i64 (goT (pI st) st.length x n))∧w=w':=by
 rw[←qQ3 h0];have hG:∀x:Nat,x<st.length→pI st x<st.length:=fun x hx=>QT x hx;unfold goD;obtain⟨cx,hcx,hcm⟩:∃cx:Nat,(max 0 (min x ((st.length:Int)-1))).toNat=cx∧cx<st.length:=⟨_,rfl,by omega⟩;obtain⟨K,hK⟩:∃K:Nat,(min (max 0 n) ((st.length:Int)+1)).toNat=K:=⟨_,rfl⟩;rw[hcx,hK];have hcc:(x<0∧cx=0)∨(0≤x∧(st.length:Int)-1<x∧cx=st.length-1)∨(0≤x∧x≤(st.length:Int)-1∧x=(cx:Int)):=by omega
 have hKc:∀k:Nat,(k<K→(k:Int)<n∧(k:Int)≤(st.length:Int))∧(¬k<K→k≤K→¬(k:Int)<n∨¬(k:Int)≤(st.length:Int)):=fun k=>by omega
 obtain⟨m,hm⟩:∃m,st.length=m:=⟨_,rfl⟩;have hget:∀z:Nat,z<m→∃gs off,A=some ⟨gs,off,none⟩∧w.cell? ⟨gs,off+z,none⟩=some (.bool (st.getD z false)):=fun z hz=>by
  obtain⟨gs,off,rfl,hg⟩:=hA qJ;have :=hg z _ (wB qJ) 0 _ rfl;rw[Nat.mul_one,vO]at this;exact⟨gs,off,rfl,this⟩
 have HGET:=Hd hget;have HKC:=Hd hKc;have HG:=Hd hG;have HNX:Hid (∀x z:Nat,x<m→x<z→(z≤m-1∨z=x+1)→(∀y,x<y→y<z→st.getD y false=false)→¬(z<m-1∧st.getD z false=false)→pI st x=if z<m then z else x):=Hd (fun x z hx h1 h2 h3 h4=>by
  by_cases hzm:z<m
  · rw[if_pos hzm];refine QA (.inl h1) qJ h3 (fun hz=>?_) qJ;cases hb:st.getD z false
    · exact absurd ⟨by omega,hb⟩ h4
    · rfl
  · rw[if_neg hzm];have :=rV st (x:=x) qJ;omega)
 rw[hm]at hcc h0 hz hcm HKC HG;have HM:=Hd hm;have HCM:=Hd hcm;obtain⟨m1,hm1⟩:∃m1:Nat,m=m1+1:=⟨m-1,by omega⟩;have hm1I:(m:Int)-1=(m1:Int):=by omega
 have hwm:jP.wrap (m1:Int)=(m1:Int):=jH _ qJ;have HM1:=Hd hm1;clear hA hget hKc hG hcx hK hcm hm1;rw[hm];clear hm;rcases hcc with⟨hx,hc⟩|⟨hx,hx2,hc⟩|⟨hx,hx2,hc⟩
 case' inl=>
  have h1:¬(m1:Int)<0:=by omega
  have HC:=Hd hc;clear hc
  go_enter Tryz.func123,Tryz.ntmps123
  go_upto_region 5 with fail
 case' inr.inl=>
  have hx2':(m1:Int)<x:=by omega
  have HC:Hid (cx=m1):=Hd qVe;clear hc;have hx':¬x<0:=by omega
  go_enter Tryz.func123,Tryz.ntmps123
  go_upto_region 5 with fail
 case' inr.inr=>
  have HC:Hid (cx=cx):=Hd rfl;subst hc;have hx2':¬(m1:Int)<(cx:Int):=by omega
  have hx':¬(cx:Int)<0:=by omega
  go_enter Tryz.func123,Tryz.ntmps123
  go_upto_region 5 with fail
 all_goals
  go_wp2_with fail
  go_loopw [1,9,10] (fun s1 s9 _ wr=>∃k:Nat,s1=.int .i64 ((pE (pI st) k cx:Nat):Int)∧s9=.int .i64 k∧k≤K∧w=wr) (fun _ s9 _ _=>K-(intOf s9).toNat)
  case atStart=>
   refine⟨0,?_,rfl,kT _,rfl⟩;show Value.int .i64 _=Value.int .i64 ((cx:Nat):Int)
   first
    |rfl
    |(rw[HC.o];done)
    |(rw[HC.o];rfl)
  case round=>
   obtain⟨k,rfl,rfl,hk,rfl⟩:=hrel;have hwk:jP.wrap ((k:Int)+1)=(k:Int)+1:=jH _ (by have :=(HKC.o (k-1)).1;omega)
   by_cases hlt:k<K
   rotate_left
   · have hkK:k=K:=by omega
     subst hkK;have hex:=(HKC.o k).2 hlt hk
     by_cases hkn:(k:Int)<n
     · have hkm:¬(k:Int)≤(m:Int):=by omega
       clear hex
       go_wp2
       go_ret
       exact⟨rfl,rfl⟩
     · clear hex
       go_wp2
       go_ret
       exact⟨rfl,rfl⟩
   · obtain⟨hkn,hkm⟩:=(HKC.o k).1 hlt;have hsu:=lM (F:=pI st) k cx;have hxm:pE (pI st) k cx<m:=lI HG.o k _ (by first|exact HCM.o|(have :=HCM.o;omega));obtain⟨x1,hx1⟩:∃x1,pE (pI st) k cx=x1:=⟨_,rfl⟩;rw[hx1]at hsu hxm ⊢;have HSU:=Hd hsu;have HXM:=Hd hxm;clear hsu hxm hx1;have hm1':=HM1.o;have hwx:jP.wrap ((x1:Int)+1)=(x1:Int)+1:=jH _ (by have :=HXM.o;omega);obtain⟨x2,hx2e⟩:∃x2:Nat,x2=x1+1:=⟨_,rfl⟩;have hx2I:(x1:Int)+1=(x2:Int):=by omega
     have HX2:=Hd hx2e;rw[hx2I]at hwx;clear hx2e;clear hm1'
     go_upto_region 8 with fail
     go_wp2_with fail
     go_loopw [10] (fun s10 wr=>∃z:Nat,s10=.int .i64 z∧x1<z∧(z≤m-1∨z=x1+1)∧(∀y,x1<y→y<z→st.getD y false=false)∧w=wr) (fun s10 _=>m+1-(intOf s10).toNat)
     case atStart=>exact⟨x2,rfl,by rw[HX2.o];omega,.inr HX2.o,fun y h1 h2=>by rw[HX2.o]at h2;omega,by first|rfl|trivial⟩
     case round=>
      obtain⟨z,rfl,hz1,hz2,hz3,rfl⟩:=hrel;have HZ:=Hd (kM hz1 (kM hz2 hz3));have hz0:(0:Int)<(z:Int):=by omega
      have hz00:(0:Int)≤(z:Int):=by omega
      clear hz1 hz2 hz3
      by_cases hzm:z<m1
      · have hzmI:(z:Int)<(m1:Int):=by omega
        have hzmm:(z:Int)<(m:Int):=by have :=HM1.o;omega
        obtain⟨gs,off,hAe,hcell⟩:=HGET.o z qVe;subst hAe;cases hb:st.getD z false
        · have HBZ:=Hd hb;rw[hb]at hcell;clear hb;have hwz:jP.wrap ((z:Int)+1)=(z:Int)+1:=jH _ qJ
          go_wp2
          go_roundw
          case rel=>
           refine⟨z+1,by go_num,by have :=HZ.o.1;omega,.inl qVe,fun y h1 h2=>?_,by first|rfl|trivial⟩
           by_cases hy:y=z
           · rw[hy];exact HBZ.o
           · exact HZ.o.2.2 y h1 qJ
          case measure=>have :=HM1.o;simp[intOf];omega
        · rw[hb]at hcell;have HN:=Hd (HNX.o x1 z HXM.o HZ.o.1 HZ.o.2.1 HZ.o.2.2 (fun h=>by rw[hb]at h;exact absurd h.2 qZ));clear hb
          go_wp2
          go_roundw
          case rel=>
           refine⟨k+1,?_,by go_num,by omega,by first|rfl|trivial⟩;rw[HSU.o,HN.o,if_pos qVe]
          case measure=>exact zm
      · have hzmI:¬(z:Int)<(m1:Int):=by omega
        have HN:=Hd (HNX.o x1 z HXM.o HZ.o.1 HZ.o.2.1 HZ.o.2.2 (fun h=>by have :=HM1.o;omega))
        by_cases hzl:z<m
        · have hzlI:(z:Int)<(m:Int):=by omega
          have HZL:=Hd hzl
          go_wp2
          go_roundw
          case rel=>
           refine⟨k+1,?_,by go_num,by omega,by first|rfl|trivial⟩;rw[HSU.o,HN.o,if_pos HZL.o]
          case measure=>exact zm
        · have hzlI:¬(z:Int)<(m:Int):=by omega
          have HZL:=Hd hzl
          go_wp2
          go_roundw
          case rel=>
           refine⟨k+1,?_,by go_num,by omega,by first|rfl|trivial⟩;rw[HSU.o,HN.o,if_neg HZL.o]
          case measure=>exact zm
set_option maxHeartbeats 3200000 in
theorem Kl(A:Option Addr)(st:List Bool)(ca:Nat)(x n:Int)(w:World)(hA:pA fC 1 w A st)(h0:0<st.length)(hz:st.length≤1000):Calls jG 123 #[.slice A st.length ca,.int .i64 x,.int .i64 n,.int .i64 (-1)] w fun e w'=>e=.returned (.int .i64 (goT (yK st) st.length x n))∧w=w':=by
 rw[←Wf h0];have hG:∀x:Nat,x<st.length→yK st x<st.length:=fun x hx=>wL x hx;unfold goD;obtain⟨cx,hcx,hcm⟩:∃cx:Nat,(max 0 (min x ((st.length:Int)-1))).toNat=cx∧cx<st.length:=⟨_,rfl,by omega⟩;obtain⟨K,hK⟩:∃K:Nat,(min (max 0 n) ((st.length:Int)+1)).toNat=K:=⟨_,rfl⟩;rw[hcx,hK];have hcc:(x<0∧cx=0)∨(0≤x∧(st.length:Int)-1<x∧cx=st.length-1)∨(0≤x∧x≤(st.length:Int)-1∧x=(cx:Int)):=by omega
 have hKc:∀k:Nat,(k<K→(k:Int)<n∧(k:Int)≤(st.length:Int))∧(¬k<K→k≤K→¬(k:Int)<n∨¬(k:Int)≤(st.length:Int)):=fun k=>by omega
 obtain⟨m,hm⟩:∃m,st.length=m:=⟨_,rfl⟩;have hget:∀z:Nat,z<m→∃gs off,A=some ⟨gs,off,none⟩∧w.cell? ⟨gs,off+z,none⟩=some (.bool (st.getD z false)):=fun z hz=>by
  obtain⟨gs,off,rfl,hg⟩:=hA qJ;have :=hg z _ (wB qJ) 0 _ rfl;rw[Nat.mul_one,vO]at this;exact⟨gs,off,rfl,this⟩
 have HGET:=Hd hget;have HKC:=Hd hKc;have HG:=Hd hG;have HNX:Hid (∀x z:Nat,x<m→z<x→(∀y:Nat,z<y→y<x→st.getD y false=false)→¬(0<z∧st.getD z false=false)→yK st x=z):=Hd (fun x z hx h1 h3 h4=>by
  refine wR (.inl h1) h3 (fun hz=>?_);cases hb:st.getD z false
  · exact absurd ⟨hz,hb⟩ h4
  · rfl)
 rw[hm]at hcc h0 hz hcm HKC HG;have HM:=Hd hm;have HCM:=Hd hcm;obtain⟨m1,hm1⟩:∃m1:Nat,m=m1+1:=⟨m-1,by omega⟩;have hm1I:(m:Int)-1=(m1:Int):=by omega
 have hwm:jP.wrap (m1:Int)=(m1:Int):=jH _ qJ;have HM1:=Hd hm1;clear hA hget hKc hG hcx hK hcm hm1;rw[hm];clear hm;rcases hcc with⟨hx,hc⟩|⟨hx,hx2,hc⟩|⟨hx,hx2,hc⟩
 case' inl=>
  have h1:¬(m1:Int)<0:=by omega
  have HC:=Hd hc;clear hc
  go_enter Tryz.func123,Tryz.ntmps123
  go_upto_region 5 with fail
 case' inr.inl=>
  have hx2':(m1:Int)<x:=by omega
  have HC:Hid (cx=m1):=Hd qVe;clear hc;have hx':¬x<0:=by omega
  go_enter Tryz.func123,Tryz.ntmps123
  go_upto_region 5 with fail
 case' inr.inr=>
  have HC:Hid (cx=cx):=Hd rfl;subst hc;have hx2':¬(m1:Int)<(cx:Int):=by omega
  have hx':¬(cx:Int)<0:=by omega
  go_enter Tryz.func123,Tryz.ntmps123
  go_upto_region 5 with fail
 all_goals
  go_wp2_with fail
  go_loopw [1,9,10] (fun s1 s9 _ wr=>∃k:Nat,s1=.int .i64 ((pE (yK st) k cx:Nat):Int)∧s9=.int .i64 k∧k≤K∧w=wr) (fun _ s9 _ _=>K-(intOf s9).toNat)
  case atStart=>
   refine⟨0,?_,rfl,kT _,rfl⟩;show Value.int .i64 _=Value.int .i64 ((cx:Nat):Int)
   first
    |rfl
    |(rw[HC.o];done)
    |(rw[HC.o];rfl)
  case round=>
   obtain⟨k,rfl,rfl,hk,rfl⟩:=hrel;have hwk:jP.wrap ((k:Int)+1)=(k:Int)+1:=jH _ (by have :=(HKC.o (k-1)).1;omega)
   by_cases hlt:k<K
   rotate_left
   · have hkK:k=K:=by omega
     subst hkK;have hex:=(HKC.o k).2 hlt hk
     by_cases hkn:(k:Int)<n
     · have hkm:¬(k:Int)≤(m:Int):=by omega
       clear hex
       go_wp2
       go_ret
       exact⟨rfl,rfl⟩
     · clear hex
       go_wp2
       go_ret
       exact⟨rfl,rfl⟩
   · obtain⟨hkn,hkm⟩:=(HKC.o k).1 hlt;have hsu:=lM (F:=yK st) k cx;have hxm:pE (yK st) k cx<m:=lI HG.o k _ (by first|exact HCM.o|(have :=HCM.o;omega));obtain⟨x1,hx1⟩:∃x1,pE (yK st) k cx=x1:=⟨_,rfl⟩;rw[hx1]at hsu hxm ⊢;have HSU:=Hd hsu;have HXM:=Hd hxm;clear hsu hxm hx1;have hm1':=HM1.o;have hwx:jP.wrap ((x1:Int) + -1)=(x1:Int) + -1:=jH _ (by have :=HXM.o;omega);obtain⟨x2,hx2e⟩:∃x2:Int,x2=(x1:Int) + -1:=⟨_,rfl⟩;have hx2I:(x1:Int) + -1=x2:=hx2e.symm;have HX2:=Hd hx2e;rw[hx2I]at hwx;clear hx2e;clear hm1'
     go_upto_region 8 with fail
     go_wp2_with fail
     go_loopw [10] (fun s10 wr=>∃z:Int,s10=.int .i64 z∧z<x1∧ -1≤z∧(0≤z∨x1=0)∧(∀y:Nat,z<(y:Int)→y<x1→st.getD y false=false)∧w=wr) (fun s10 _=>(intOf s10).toNat)
     case atStart=>exact⟨x2,rfl,by rw[HX2.o];omega,by rw[HX2.o];omega,by rw[HX2.o];omega,fun y h1 h2=>by rw[HX2.o]at h1;omega,by first|rfl|trivial⟩
     case round=>
      obtain⟨z,rfl,hz1,hz2,hz3,hz4,rfl⟩:=hrel;have HZ:=Hd (kM hz1 (kM hz2 (kM hz3 hz4)));clear hz4
      by_cases hz0:0<z
      · obtain⟨zn,rfl⟩:∃zn:Nat,z=(zn:Int):=⟨z.toNat,by omega⟩;have hzmI:(zn:Int)<(m1:Int):=by have :=HM1.o;have :=HXM.o;omega
        have hzmm:(zn:Int)<(m:Int):=by have :=HM1.o;omega
        have hz00:(0:Int)≤(zn:Int):=by omega
        obtain⟨gs,off,hAe,hcell⟩:=HGET.o zn qJ;subst hAe;clear hz1 hz2 hz3;cases hb:st.getD zn false
        · have HBZ:=Hd hb;rw[hb]at hcell;clear hb;have hwz:jP.wrap ((zn:Int) + -1)=(zn:Int) + -1:=jH _ qJ
          go_wp2
          go_roundw
          case rel=>
           refine⟨(zn:Int) + -1,rfl,by have :=HZ.o.1;omega,by omega,.inl qJ,fun y h1 h2=>?_,by first|rfl|trivial⟩
           by_cases hy:y=zn
           · rw[hy];exact HBZ.o
           · exact HZ.o.2.2.2 y qJ h2
          case measure=>exact zm
        · rw[hb]at hcell;have HN:=Hd (HNX.o x1 zn HXM.o (by have :=HZ.o.1;omega) (fun y h1 h2=>HZ.o.2.2.2 y qJ h2) (fun h=>by rw[hb]at h;exact absurd h.2 qZ));clear hb
          go_wp2
          go_roundw
          case rel=>
           refine⟨k+1,?_,by go_num,by omega,by first|rfl|trivial⟩;rw[HSU.o,HN.o]
          case measure=>exact zm
      · by_cases hzz:z=0
        · subst hzz;have h0m:(0:Int)<(m:Int):=by have :=HM1.o;omega
          have HN:=Hd (HNX.o x1 0 HXM.o qJ (fun y h1 h2=>HZ.o.2.2.2 y qJ h2) (fun h=>absurd h.1 qZ));clear hz1 hz2 hz3
          go_wp2
          go_roundw
          case rel=>
           refine⟨k+1,?_,by go_num,by omega,by first|rfl|trivial⟩;rw[HSU.o,HN.o];rfl
          case measure=>exact zm
        · have hzn:z<0:=by omega
          have hx10:x1=0:=by omega
          have HX10:=Hd hx10;have hzn2:¬0≤z:=by omega
          clear hz1 hz2 hz3 hx10 hzz
          go_wp2
          go_roundw
          case rel=>
           refine⟨k+1,?_,by go_num,by omega,by first|rfl|trivial⟩;rw[HSU.o,HX10.o,oL]
          case measure=>exact zm
theorem YC{α:Type}{enc:α→List Value}{K:Nat}(hl:∀x,(enc x).length=K){w:World}{base:Nat}{e:TypeId}{A:Option Addr}{n c:Nat}{X:List α}(h:w.ownsRow base e K (.slice A n c) X.length (uS enc X)):pA enc K w A X:=fun h0=>by
 obtain⟨g,c',hv⟩:=gE h h0;simp only[Value.slice.injEq]at hv;obtain⟨rfl,rfl,rfl⟩:=hv;refine⟨g,0,rfl,fun i x hi j v hj=>?_⟩;rw[kB];exact(pC h (i:=i*K+j) qJ0).1
section
variable {base rows cols room:Nat}{w W:World}{m:Mv}{s:Sc}
theorem uN.stopsC(h:uN base w m s W):∃A c,W.cell? ⟨m.M,1,none⟩=some (.slice A s.st.length c)∧pA fC 1 W A s.st:=by
 obtain⟨m1,e1,e2,hO,hm,hx⟩:=h;obtain⟨A,c,hv⟩:=gU hO.stops;have hs:W.ownsRow base 4 1 m1.vs s.st.length (uS fC s.st):=hO.stops;rw[hv]at hs;have hc:=(kC hO.blk 1 m1.vs rfl).1;rw[e1,hv]at hc;exact⟨A,c,hc,YC mF hs⟩
theorem goT_far{F:Nat→Nat}{m:Nat}(x:Int){n k:Int}(h:n=k∨((m:Int)≤n∧(m:Int)≤k)∨(n≤0∧k≤0)):goT F m x n=goT F m x k:=by
 unfold goT;rcases h with rfl|⟨h1,h2⟩|⟨h1,h2⟩
 · rfl
 · rw[show min (max 0 n) (m:Int)=min (max 0 k) (m:Int) by omega]
 · rw[show max 0 n=max 0 k by omega]
set_option maxHeartbeats 3200000 in
theorem Vn(h:uN base w m s W)(hi:DmI rows cols room s)(n:Int):Calls jG 49 #[.pointer (some ⟨m.M,0,none⟩),.int .i64 n] W (vB base w m (lO s n)):=by
 have hst:=hi.n.st;have hc:=hi.c;have hc2:=hi.c2;have HR:=Hd h;have HIN:=Hd (bF h hi.n.x0);obtain⟨A,c,c_vs,hgr⟩:=h.stopsC;unfold lO
 by_cases hp:0<n
 · rw[if_neg qJ,if_pos hp];have HG:Hid (bP 123 #[.slice A s.st.length c,.int .i64 (inS s),.int .i64 n,.int .i64 1] W (.int .i64 (goT (pI s.st) s.st.length (inS s) n))):=Hd (fun w' hb=>(Vt A s.st c (inS s) n w' (hgr.below hb) qJ qJ).mono fun e w2 ⟨he,hw⟩=>⟨he,hw▸jU _ _⟩);clear h hi hst hc hc2 hgr;obtain⟨L,hL⟩:∃L,s.st.length=L:=⟨_,rfl⟩;obtain⟨G,hGG⟩:∃G,goT (pI s.st) s.st.length (inS s) n=G:=⟨_,rfl⟩;rw[hGG]at HG ⊢;rw[hL]at HG c_vs;clear hL hGG
   go_enter Tryz.func49,Tryz.ntmps49
   go_upto_region 1 with fail
   refine zU1 11 c_vs ?_
   repeat first|refine zS ?_|refine zC0 (zC1 HIN.o) ?_|refine zC0 (zC1 HG.o) ?_|refine zV ?_
   refine kU (fun w' hS=>?_);replace HR:=Hd (HR.o.post hS.1);clear hS c_vs;obtain⟨c_x,f_x⟩:=HR.o.cellAt 17 (.int .i64 s.x) (fun _=>rfl)
   go_wp2
   go_end0
   exact qZ2
 by_cases hz:n=0
 · rw[if_pos hz];subst hz;clear h hi hst hc hc2 hgr c_vs hp
   go_enter Tryz.func49,Tryz.ntmps49
   go_wp2
   go_end0
   exact⟨rfl,HR.o⟩
 · rw[if_neg hz,if_neg hp];have hn:n<0:=by omega
   rw[goT_far (inS s) (n:=max 0 (-(max n (-1000)))) (k:= -uZ n (-2000) 0) qJy];have HN:=Hd (pQ (lo:= -2000) (hi:=0) qJ n W);have hwN:jP.wrap (-uZ n (-2000) 0)= -uZ n (-2000) 0:=jH _ qJy;obtain⟨M,hM⟩:∃M,uZ n (-2000) 0=M:=⟨_,rfl⟩;rw[hM]at HN hwN ⊢;have HG:Hid (bP 123 #[.slice A s.st.length c,.int .i64 (inS s),.int .i64 (-M),.int .i64 (-1)] W (.int .i64 (goT (yK s.st) s.st.length (inS s) (-M)))):=Hd (fun w' hb=>(Kl A s.st c (inS s) (-M) w' (hgr.below hb) qJ qJ).mono fun e w2 ⟨he,hw⟩=>⟨he,hw▸jU _ _⟩);clear h hi hst hc hc2 hgr hM hp hz;obtain⟨L,hL⟩:∃L,s.st.length=L:=⟨_,rfl⟩;obtain⟨G,hGG⟩:∃G,goT (yK s.st) s.st.length (inS s) (-M)=G:=⟨_,rfl⟩;rw[hGG]at HG ⊢;rw[hL]at HG c_vs;clear hL hGG
   go_enter Tryz.func49,Tryz.ntmps49
   go_upto_region 3 with fail
   refine zU1 13 c_vs ?_
   repeat first|refine zS ?_|refine zC0 (zC1 HIN.o) ?_|refine zC0 (zC1 HN.o) ?_|refine zC0 (zC1 HG.o) ?_|refine zV ?_
   refine kU (fun w' hS=>?_);replace HR:=Hd (HR.o.post hS.1);clear hS c_vs;obtain⟨c_x,f_x⟩:=HR.o.cellAt 17 (.int .i64 s.x) (fun _=>rfl)
   go_wp2
   go_end0
   exact qZ2
end
def wI(r0:Rh)(F:List Cl→List Cl)(w:World)(e:Ending)(w':World):Prop:=∃g cap,e=.returned (.slice (some ⟨g,0,none⟩) r0.cs.length cap)∧pX w' ⟨some ⟨g,0,none⟩,F r0.cs,cap,r0.cont⟩∧Below w.heap.size w w'
section
variable {r0:Rh}
theorem mJ{F:List Cl→List Cl}{w:World}{e:Ending}{w':World}(hrc:pX w r0)(hF:(F r0.cs).length=r0.cs.length)(hf:zN (F r0.cs))(h:pK (F r0.cs) w e w'):wI r0 F w e w':=by
 obtain⟨g1,cap,rfl,hc,hb⟩:=h;exact⟨g1,cap,by rw[hF],.of_own hc (by rw[hF];exact hrc.1) hf _,hb⟩
theorem rPut_rc(x r:Int)(a:Atr)(w:World)(hrc:pX w r0)(h0:0<r0.cs.length):Calls jG 179 #[.slice r0.A r0.cs.length r0.cap,.int .i64 x,.int .i32 r,.agg #[.int .i64 a.fk,.int .i64 a.fn,.int .i64 a.bk,.int .i64 a.bn,.int .i64 a.fl]] w (wI r0 (fun l=>dS l x r a) w):=
 (Y4 r0.A r0.cs r0.cap x r a w hrc.2.2.1 h0 hrc.1).mono fun _ _ h=>mJ hrc (lQ _ _ _ _) (hrc.2.1.put _ _ _) h
theorem Y7(x r:Int)(w:World)(hrc:pX w r0)(h0:0<r0.cs.length):Calls jG 177 #[.slice r0.A r0.cs.length r0.cap,.int .i64 x,.int .i32 r] w (wI r0 (fun l=>fK l x r) w):=
 (WJ r0.A r0.cs r0.cap x r w hrc.2.2.1 h0 hrc.1 hrc.2.1).mono fun _ _ h=>mJ hrc (mU _ _ _) (hrc.2.1.mark _ _) h
theorem WZ(w:World)(hrc:pX w r0)(h0:0<r0.cs.length):Calls jG 178 #[.slice r0.A r0.cs.length r0.cap] w (wI r0 cH w):=
 (Xo r0.A r0.cs r0.cap w hrc.2.2.1 h0 hrc.1).mono fun _ _ h=>mJ hrc (nH _) hrc.2.1.close h
theorem QC(x n:Int)(b:Col)(w:World)(hrc:pX w r0)(h0:0<r0.cs.length):Calls jG 132 #[.slice r0.A r0.cs.length r0.cap,.int .i64 x,.int .i64 n,.agg #[.int .i64 b.k,.int .i64 b.n]] w (wI r0 (fun l=>pU l x n b) w):=
 (Vs r0.A r0.cs r0.cap x n b w hrc.2.2.1 h0 hrc.1).mono fun _ _ h=>mJ hrc (dX _ _ _ _) (hrc.2.1.insert _ _ _) h
theorem Xn(x n:Int)(b:Col)(w:World)(hrc:pX w r0)(h0:0<r0.cs.length):Calls jG 134 #[.slice r0.A r0.cs.length r0.cap,.int .i64 x,.int .i64 n,.agg #[.int .i64 b.k,.int .i64 b.n]] w (wI r0 (fun l=>yC l x n b) w):=
 (Va r0.A r0.cs r0.cap x n b w hrc.2.2.1 h0 hrc.1).mono fun _ _ h=>mJ hrc (lF _ _ _ _) (hrc.2.1.delete _ _ _) h
end
section
variable {base rows cols room:Nat}{w W:World}{m:Mv}{s:Sc}
theorem Xz{w2:World}{qd:Dv}{d:Dc}{k:Nat}{r:Rh}(h:DcO base w2 qd d)(hin:nU d k=true)(hr:qd.S[d.base+k]? =some r)(hL:d.L.length≤1000000):
 (∀w',Below w2.heap.size w2 w'→Calls jG 133 #[.pointer (some ⟨qd.D,0,none⟩),.int .i64 k] w' fun e w''=>e=.returned (.slice r.A r.cs.length r.cap)∧Below w'.heap.size w' w'')∧
 (∀w',Below w2.heap.size w2 w'→pX w' r)∧r.cs.length=d.cols∧
 (∀(F:List Cl→List Cl),(∀l,(F l).length=l.length)→∀(w':World) (g cap:Nat),Below w2.heap.size w2 w'→pX w' ⟨some ⟨g,0,none⟩,F r.cs,cap,r.cont⟩→Calls jG 131 #[.pointer (some ⟨qd.D,0,none⟩),.int .i64 k,.slice (some ⟨g,0,none⟩) r.cs.length cap] w' (pL base w2 qd (iZ d k F))):=by
 have hrw:=h.rows r (uW hr);refine⟨fun w' hb=>Vh (h.below hb) k hr hL,fun w' hb=>hrw.1.below hb,hrw.2,fun F hF w' g cap hb hc=>?_⟩;have hdr:iZ d k F={d with L:=d.L.modify (d.base+k) (fun r=>{r with cs:=F r.cs})}:=by unfold iZ;rw[hin,if_pos rfl,uJ]
 rw[hdr];exact(xV (h.below hb) k hr hL (some ⟨g,0,none⟩) cap F (hF _) hc).mono (fun e w3 hh=>⟨hh.1,hh.2.pre hb⟩)
theorem uN.rowOf(h:uN base w m s W)(hi:DmI rows cols room s){y:Int}(y0:0≤y)(y1:y<rows):∃r0:Rh,0<r0.cs.length∧r0.cs.length=cols∧(∀w',Below W.heap.size W w'→pX w' r0)∧
 bP 133 #[.pointer (some ⟨m.q.D,0,none⟩),.int .i64 y] W (.slice r0.A r0.cs.length r0.cap)∧
 (∀(F:List Cl→List Cl),(∀l,(F l).length=l.length)→∀(w':World) (g cap:Nat),Below W.heap.size W w'→pX w' ⟨some ⟨g,0,none⟩,F r0.cs,cap,r0.cont⟩→Calls jG 131 #[.pointer (some ⟨m.q.D,0,none⟩),.int .i64 y,.slice (some ⟨g,0,none⟩) r0.cs.length cap] w' (vB base w m {s with pg:=pW s.pg y F})):=by
 obtain⟨m1,e1,e2,hO,hm,hx⟩:=h;rw[←e2];have hin:nU (yX s.pg) y=true:=by rw[iH];unfold inP;rw[hi.n.pg.hrows];simp;exact⟨y0,y1⟩
 obtain⟨k,r0,rfl,hr,-,hrl⟩:=Qt hO.doc hin;obtain⟨hof,hrc,-,hce⟩:=Xz hO.doc hin hr qVo;have h2:(yX s.pg).cols=cols:=hi.n.pg.hcols;have :=hi.c2;refine⟨r0,by omega,by omega,hrc,hof,fun F hF w' g cap hb hc=>(hce F hF w' g cap hb hc).mono fun e w2 hh=>⟨hh.1,?_⟩⟩;have hp:=hh.2;rw[Zl]at hp;exact qZ3
theorem uN.contOn(h:uN base w m s W)(hi:DmI rows cols room s):∃(gs c k n:Nat),s.y=(k:Int)∧s.pg.hist.length+k<n∧n≤900000∧W.cell? ⟨m.q.D,0,none⟩=some (.slice (some ⟨gs,0,none⟩) n c)∧(∃b,W.cell? ⟨gs,(s.pg.hist.length+k)*2+1,none⟩=some (.bool b))∧W.frozen? ⟨gs,(s.pg.hist.length+k)*2+1,none⟩=false∧
 ∀w',Below W.heap.size W w'→uN base w m {s with pg:=vL s.pg s.y true} (w'.setCell ⟨gs,(s.pg.hist.length+k)*2+1,none⟩ (.bool true)):=by
 obtain⟨m1,e1,e2,hO,hm,hx⟩:=h;have hin:nU (yX s.pg) s.y=true:=by rw[iH];unfold inP;rw[hi.n.pg.hrows];simp;exact⟨hi.n.y0,hi.n.y1⟩
 obtain⟨k,r0,hk,hr,-,hrl⟩:=Qt hO.doc hin;have hl:=hO.doc.len;have hL:=hi.len.1;have hkl:=(jE.1 hr).1;obtain⟨gs,c,hv⟩:=gE hO.doc.own qJ;have hown:=hO.doc.own;have hc0:=hO.doc.cells.1.1;rw[hv]at hown hc0;obtain⟨-,y1,y1f⟩:=yL hown hr;refine⟨gs,c,k,m1.q.S.length,hk,hkl,by omega,by rw[←e2];exact hc0,⟨_,y1⟩,y1f,fun w' hb=>?_⟩;have hS:=(hO.doc.below hb).setCont hv (k:=s.pg.hist.length+k) hkl true;have e:({yX s.pg with L:=(yX s.pg).L.modify (s.pg.hist.length+k) (fun r=>{r with cont:=true})}:Dc)=yX (vL s.pg s.y true):=by
  rw[←Wt];unfold Yu;rw[if_pos hin,hk,uJ];rfl
 rw[e]at hS;exact uN.trans ⟨e1,e2,hm,hx⟩ (((hO.below hb).doced hS).pre hb)
set_option maxHeartbeats 3200000 in
theorem Vm(h:uN base w m s W)(hi:DmI rows cols room s)(r:Int)(hw:pR r=0):Calls jG 108 #[.pointer (some ⟨m.M,0,none⟩),.int .i32 r] W (vB base w m (pH s r)):=by
 have HW:=Hd (fun w=>tZ r w);rw[hw]at HW;have e:pH s r={s with pg:=pW s.pg s.y (fun l=>fK l (s.x-1) r)}:=by unfold pH;rw[if_pos hw]
 rw[e];have hx0:=hi.n.x0;have hx1:=hi.n.x1;have hc:=hi.c;have hwx:jP.wrap (s.x-1)=s.x-1:=jH _ qJ;have HR:=Hd h;have HI:=Hd hi;clear h hi e
 go_enter Tryz.func108,Tryz.ntmps108
 go_upto_region 2 with(go_at_call 176;refine(HW.o _).mono ?_;rintro e w1 ⟨rfl,hb⟩;replace HR:=Hd (HR.o.post hb);clear hb)
 rename World=>W1
 obtain⟨r0,hr0,-,hrr,hof,hce⟩:=HR.o.rowOf HI.o HI.o.n.y0 HI.o.n.y1;have HR0:=Hd hr0;have HRR:=Hd hrr;have HOF:=Hd hof;have HCE:=Hd (hce (fun l=>fK l (s.x-1) r) (fun l=>mU _ _ _));clear hr0 hrr hof hce;obtain⟨c_D,-⟩:=HR.o.cellAt 0 (.pointer (some ⟨m.q.D,0,none⟩)) (fun _=>rfl);obtain⟨c_y,-⟩:=HR.o.cellAt 16 (.int .i64 s.y) (fun _=>rfl);obtain⟨c_x,-⟩:=HR.o.cellAt 17 (.int .i64 s.x) (fun _=>rfl);refine gG 24 (fun w'=>Below W1.heap.size W1 w'∧w'.cell? ⟨m.M,0,none⟩=some (.pointer (some ⟨m.q.D,0,none⟩))∧w'.cell? ⟨m.M,16,none⟩=some (.int .i64 s.y)∧w'.cell? ⟨m.M,17,none⟩=some (.int .i64 s.x)) qQ qQ (fun w1 w2 hS hb=>⟨jN hS.1 hb,jA hb hS.2.1,jA hb hS.2.2.1,jA hb hS.2.2.2⟩) ⟨(jU _ _).drew,c_D,c_y,c_x⟩ ?_;clear c_D c_y c_x;refine AtN.go 0 ?_
 iterate 16 refine zA ?_
 refine AtC.back ?_;refine AtN.take 16 (o:=⟨_,_,_,_,_,_⟩) (v:=.slice r0.A r0.cs.length r0.cap) qQ rfl qV qQ qQ (uY.call1 133 #[.pointer (some ⟨m.q.D,0,none⟩),.int .i64 s.y] (.slice r0.A r0.cs.length r0.cap) qK qB (fun w' hS=>HOF.o _ hS.1)) ?_;refine zP ?_;refine AtN.go 17 ?_
 iterate 6 refine zA ?_
 refine AtC.back ?_;refine AtN.one 23 (o:=⟨_,_,_,_,_,_⟩) (fun v=>∃g cap,v=.slice (some ⟨g,0,none⟩) r0.cs.length cap) (fun v w'=>∃g cap,v=.slice (some ⟨g,0,none⟩) r0.cs.length cap∧pX w' ⟨some ⟨g,0,none⟩,(fun l=>fK l (s.x-1) r) r0.cs,cap,r0.cont⟩) qV qQ rfl (fun v w1 w2 ⟨g,cap,hv,hr⟩ hb=>⟨g,cap,hv,hr.below hb⟩) (uY.call 177 #[.slice r0.A r0.cs.length r0.cap,.int .i64 (s.x-1),.int .i32 r] _ _ qK ?_ (fun w' hS=>?_)) ?_
 · intro w'
   go_simp
 · refine(Y7 (s.x-1) r w' (HRR.o w' hS.1) HR0.o).mono ?_;rintro e w3 ⟨g1,cap,rfl,hc,hb⟩;exact qZu
 rintro v ⟨g5,cap,rfl⟩;refine zP ?_;refine AtN.done qQ (fun w' hS=>?_);obtain⟨⟨hb1,-⟩,g1',cap',hv',hrc'⟩:=hS;simp only[Value.slice.injEq,Option.some.injEq,Addr.mk.injEq,and_true,true_and]at hv';obtain⟨rfl,rfl⟩:=hv';have HCE2:=Hd (HCE.o w' g5 cap hb1 hrc');clear hb1 hrc'
 go_wp2_with(go_at_call 131;(with_reducible refine HCE2.o.mono ?_);rintro e w9 ⟨rfl,hp⟩;replace HR:=Hd hp;clear hp HCE2)
 go_end0
 exact⟨rfl,HR.o⟩
theorem Vl(h:uN base w m s W)(r:Int)(hw:pR r= -1):Calls jG 108 #[.pointer (some ⟨m.M,0,none⟩),.int .i32 r] W (vB base w m (pH s r)):=by
 have HW:=Hd (fun w=>tZ r w);rw[hw]at HW;have e:pH s r=s:=by unfold pH;rw[if_neg qJ,if_pos qJ]
 rw[e];have HR:=Hd h;clear h e
 go_enter Tryz.func108,Tryz.ntmps108
 go_wp2_with(go_at_call 176;refine(HW.o _).mono ?_;rintro e w1 ⟨rfl,hb⟩;replace HR:=Hd (HR.o.post hb);clear hb)
 go_end0
 exact⟨rfl,HR.o⟩
set_option maxHeartbeats 12800000 in
theorem xZ(h:uN base w m s W)(hi:DmI rows cols room s)(ht:s.pg.told.length+10≤900000)(r:Int)(k:Nat)(hw:pR r=(k:Int))(hk1:1≤k)(hk2:k≤2):Calls jG 108 #[.pointer (some ⟨m.M,0,none⟩),.int .i32 r] W (vB base w m (pH s r)):=by
 have HW:=Hd (fun w=>tZ r w);rw[hw]at HW;have e:pH s r=ZI (bO (cB s k) k) r k:=by unfold pH;rw[if_neg qJ,if_neg qJ,hw]
 rw[e];obtain⟨hN1,hN2,hN3⟩:=hi.n.roomN hi.c2 (n:=(k:Int)) qJ qJ;have HI5:=Hd (hi.to hN1 qJ);have HX5:=Hd hN3;have hroom:cB s k=if s.x+k≤s.pg.cols then s else if s.pen.wrap=false then{s with x:=(s.pg.cols:Int)-k}else onS (zM (cQ s)):=rfl;obtain⟨sR,hsR⟩:∃sR,cB s k=sR:=⟨_,rfl⟩;rw[hsR]at HI5 HX5 hroom ⊢;have hx0:=hi.n.x0;have hx1:=hi.n.x1;have hcE:=hi.n.pg.hcols;have hc:=hi.c;have hc2:=hi.c2;have hk0:(k:Int)≠0:=by omega
 have hk00:¬k=0:=by omega
 have hkn:¬(k:Int)≤0:=by omega
 have hkn2:¬k≤0:=by omega
 have hwx:jP.wrap (s.x+k)=s.x+k:=jH _ qJ;have hwc:jP.wrap ((s.pg.cols:Int)-k)=(s.pg.cols:Int)-k:=jH _ qJ;have hwR:jP.wrap (sR.x+k)=sR.x+k:=jH _ (by have :=HI5.o.n.x0;have :=HX5.o;omega);have HR:=Hd h;have HI:=Hd hi;have HK:=Hd (kM hk1 hk2);have HT:=Hd ht;have HCE:=Hd hcE;have HRM:=Hd hroom;clear h hi e hN1 hN2 hN3 hk1 hk2 hsR ht hc hc2 hcE hroom;obtain⟨sA,hsA⟩:∃sA,sA=(if(s.pg.cols:Int)<s.x+k∧s.pen.wrap=false then({s with x:=(s.pg.cols:Int)-k}:Sc)else s):=⟨_,rfl⟩;have HSA:=Hd hsA;clear hsA;obtain⟨ov,hov⟩:∃ov:Bool,decide ((s.pg.cols:Int)<s.x+k)=ov:=⟨_,rfl⟩;have HOV:Hid ((ov=false∧s.x+k≤s.pg.cols)∨(ov=true∧(s.pg.cols:Int)<s.x+k)):=Hd (by
  rw[←hov]
  by_cases hA:s.x+k≤s.pg.cols
  · exact .inl ⟨decide_eq_false qJ,hA⟩
  · exact .inr ⟨decide_eq_true qJ,by omega⟩)
 have HOQ:=Hd hov;clear hov
 go_enter Tryz.func108,Tryz.ntmps108
 go_upto_region 4 with(go_at_call 176;refine(HW.o _).mono ?_;rintro e w1 ⟨rfl,hb⟩;replace HR:=Hd (HR.o.post hb);clear hb)
 rename World=>W1
 obtain⟨c_D,-⟩:=HR.o.cellAt 0 (.pointer (some ⟨m.q.D,0,none⟩)) (fun _=>rfl);obtain⟨c_x,-⟩:=HR.o.cellAt 17 (.int .i64 s.x) (fun _=>rfl);have c_cols:=HR.o.colsC;refine zW3 14 c_D c_x c_cols fun w' hS=>?_;replace HR:=Hd (HR.o.post hS.1);clear hS c_D c_x c_cols
 rename World=>W2
 rw[HOQ.o]
 iterate 7 (first|go_step|go_back)
 go_cut [5] (fun s5 w'=>s5=.bool ov∧uN base w m sA w')
 case first =>
  as_aux_lemma=>
  obtain⟨c_wrap,-⟩:=HR.o.cellAt 14 (.bool s.pen.wrap) (fun _=>rfl);rcases HOV.o with⟨rfl,hA⟩|⟨rfl,hA⟩
  · have HQ:Hid (sA=s):=Hd (by rw[HSA.o,if_neg (fun h=>by omega)]);clear hA
    go_wp2
    go_meet
    exact⟨rfl,by rw[HQ.o];exact HR.o⟩
  · cases hwr:s.pen.wrap
    · have HQ:Hid (sA={s with x:=(s.pg.cols:Int)-k}):=Hd (by rw[HSA.o,if_pos ⟨hA,hwr⟩]);rw[hwr]at c_wrap;clear hA hwr;obtain⟨c_x,f_x⟩:=HR.o.cellAt 17 (.int .i64 s.x) (fun _=>rfl);obtain⟨c_D,-⟩:=HR.o.cellAt 0 (.pointer (some ⟨m.q.D,0,none⟩)) (fun _=>rfl);have c_cols:=HR.o.colsC
      go_wp2
      go_meet
      exact⟨rfl,by rw[HQ.o];exact HR.o.put 17 (.int .i64 ((s.pg.cols:Int)-k)) (fun _=>rfl) rfl rfl⟩
    · have HQ:Hid (sA=s):=Hd (by rw[HSA.o,if_neg (fun h=>by rw[hwr]at h;exact absurd h.2 qZ)]);rw[hwr]at c_wrap;clear hA hwr
      go_wp2
      go_meet
      exact⟨rfl,by rw[HQ.o];exact HR.o⟩
 as_aux_lemma=>
 clear HR;obtain⟨rfl,hs⟩:=hcut;have HR:=Hd hs;clear hs
 iterate 2 (first|go_step|go_back)
 go_cut [5,6] (fun _ _ w'=>uN base w m sR w')
 case first =>
  as_aux_lemma=>
  have HWA:Hid (sA.pen.wrap=s.pen.wrap):=Hd (by rw[HSA.o];split<;>rfl);obtain⟨c_wrap,-⟩:=HR.o.cellAt 14 (.bool sA.pen.wrap) (fun _=>rfl);rw[HWA.o]at c_wrap;rcases HOV.o with⟨rfl,hA⟩|⟨rfl,hA⟩
  · have HQ:Hid (sR=sA):=Hd (by rw[HRM.o,HSA.o,if_pos hA,if_neg (fun h=>by omega)]);clear hA
    go_wp2
    go_meet
    rw[HQ.o];exact HR.o
  · cases hwr:s.pen.wrap
    · have HQ:Hid (sR=sA):=Hd (by rw[HRM.o,HSA.o,if_neg qJ,if_pos hwr,if_pos ⟨hA,hwr⟩]);rw[hwr]at c_wrap;clear hA hwr
      go_wp2
      go_meet
      rw[HQ.o];exact HR.o
    · have HROOM:Hid (sR=onS (zM (cQ s))):=Hd (by rw[HRM.o,if_neg qJ,if_neg (by rw[hwr];decide)]);replace HR:Hid (uN base w m s wc):=Hd (by have h:=HR.o;rw[HSA.o,if_neg (fun h=>by rw[hwr]at h;exact absurd h.2 qZ)]at h;exact h);rw[hwr]at c_wrap;clear hA hwr HWA
      go_upto_region 8 with fail
      clear c_wrap;have hxc:s.x<(s.pg.cols:Int)∨s.x=(s.pg.cols:Int):=by have :=HCE.o;omega
      have HXC:=Hd hxc;clear hxc;obtain⟨c_x,-⟩:=HR.o.cellAt 17 (.int .i64 s.x) (fun _=>rfl);obtain⟨c_D,-⟩:=HR.o.cellAt 0 (.pointer (some ⟨m.q.D,0,none⟩)) (fun _=>rfl);have c_cols:=HR.o.colsC;refine zW3 11 c_x c_D c_cols fun w' hS=>?_;replace HR:=Hd (HR.o.post hS.1);clear hS c_x c_D c_cols
      rename World=>W3
      rcases HXC.o with hxc|hxc
      case' inl=>
       have hxq:(s.x==(s.pg.cols:Int))=false:=zb qJ;have hpd:cQ s={s with pg:=pW s.pg s.y cH}:=by unfold cQ colsS;rw[if_pos hxc]
       have HPD:=Hd hpd;clear hpd hxc
       go_upto_region 9 with fail
       clear hxq;obtain⟨r0,hr0,-,hrr,hof,hce⟩:=HR.o.rowOf HI.o HI.o.n.y0 HI.o.n.y1;have HR0:=Hd hr0;have HRR:=Hd hrr;have HOF:=Hd hof;have HCE:=Hd (hce (cH) (nH));clear hr0 hrr hof hce;obtain⟨c_D,-⟩:=HR.o.cellAt 0 (.pointer (some ⟨m.q.D,0,none⟩)) (fun _=>rfl);obtain⟨c_y,-⟩:=HR.o.cellAt 16 (.int .i64 s.y) (fun _=>rfl);refine gG 18 (fun w'=>Below W3.heap.size W3 w'∧w'.cell? ⟨m.M,0,none⟩=some (.pointer (some ⟨m.q.D,0,none⟩))∧w'.cell? ⟨m.M,16,none⟩=some (.int .i64 s.y)) qQ qQ (fun w1 w2 hS hb=>⟨jN hS.1 hb,jA hb hS.2.1,jA hb hS.2.2⟩) ⟨(jU _ _).drew,c_D,c_y⟩ ?_;clear c_D c_y;refine AtN.go 0 ?_
       iterate 16 refine zA ?_
       refine AtC.back ?_;refine AtN.take 16 (o:=⟨_,_,_,_,_,_⟩) (v:=.slice r0.A r0.cs.length r0.cap) qQ rfl qV qQ qQ (uY.call1 133 #[.pointer (some ⟨m.q.D,0,none⟩),.int .i64 s.y] (.slice r0.A r0.cs.length r0.cap) qK qB (fun w' hS=>HOF.o _ hS.1)) ?_;refine zP ?_;refine AtN.one 17 (o:=⟨_,_,_,_,_,_⟩) (fun v=>∃g cap,v=.slice (some ⟨g,0,none⟩) r0.cs.length cap) (fun v w'=>∃g cap,v=.slice (some ⟨g,0,none⟩) r0.cs.length cap∧pX w' ⟨some ⟨g,0,none⟩,(cH) r0.cs,cap,r0.cont⟩) qV qQ rfl (fun v w1 w2 ⟨g,cap,hv,hr⟩ hb=>⟨g,cap,hv,hr.below hb⟩) (uY.call 178 #[.slice r0.A r0.cs.length r0.cap] _ _ qK ?_ (fun w' hS=>?_)) ?_
       · intro w'
         go_simp
       · refine(WZ w' (HRR.o w' hS.1) HR0.o).mono ?_;rintro e w3 ⟨g1,cap,rfl,hc,hb⟩;exact qZu
       rintro v ⟨g5,cap,rfl⟩;refine zP ?_;refine AtN.done qQ (fun w' hS=>?_);obtain⟨⟨hb1,-⟩,g1',cap',hv',hrc'⟩:=hS;simp only[Value.slice.injEq,Option.some.injEq,Addr.mk.injEq,and_true,true_and]at hv';obtain⟨rfl,rfl⟩:=hv';have HCE2:=Hd (HCE.o w' g5 cap hb1 hrc');clear hb1 hrc'
       go_upto_region 10 with(go_at_call 131;(with_reducible refine HCE2.o.mono ?_);rintro e w9 ⟨rfl,hp⟩;replace HR:=Hd hp;clear hp HCE2)
       clear HR0 HRR HOF HCE
      case' inr=>
       have hxq:(s.x==(s.pg.cols:Int))=true:=by rw[hxc];exact beq_self_eq_true _
       have hpd:cQ s=s:=by unfold cQ colsS;rw[if_neg qJ]
       have HPD:=Hd hpd;clear hpd hxc
       go_upto_region 10 with fail
       clear hxq
      all_goals
       replace HR:Hid (uN base w m (cQ s) _):=Hd (by rw[HPD.o];exact HR.o);clear HPD
       rename World=>W4
       obtain⟨⟨s5,on⟩,hfd⟩:∃r,zM (cQ s)=r:=⟨_,rfl⟩;replace HROOM:Hid (sR=onS (s5,on)):=Hd (by rw[HROOM.o,hfd]);obtain⟨hP1,hP2⟩:=HI.o.n.pad;have hIP:DmI rows cols room (cQ s):=HI.o.to hP1 (by rw[hP2];have :=HT.o;omega);obtain⟨hF1,hF2⟩:=hP1.feed HI.o.c2;rw[hP2]at hF2;rw[hfd]at hF1 hF2;have HI6:Hid (DmI rows cols room {s5 with x:=0}):=Hd (HI.o.to (hF1.setX (Int.le_refl _) (by have :=HI.o.c2;omega)) (by show s5.pg.told.length≤_;have :s5.pg.told.length≤s.pg.told.length+2:=hF2;have :=HT.o;omega));have HF:=Hd (wU HR.o hIP);rw[hfd]at HF;clear hfd hP1 hP2 hIP hF1 hF2
       go_upto_region 11 with(go_at_call 45;refine HF.o.mono ?_;rintro e w5 ⟨rfl,hs⟩;replace HR:=Hd hs;clear hs)
       clear HF;obtain⟨c_x,f_x⟩:=HR.o.cellAt 17 (.int .i64 s5.x) (fun _=>rfl)
       go_upto_region 12 with fail
       replace HR:=Hd (HR.o.put 17 (.int .i64 0) (s':={s5 with x:=0}) (fun _=>rfl) rfl rfl);generalize uQ _ _ _=W6 at HR ⊢;clear c_x f_x;cases on
       · as_aux_lemma=>
         go_wp2
         go_meet
         rw[HROOM.o];exact HR.o
       · as_aux_lemma=>
         obtain⟨gs,c,yk,n,hyk,hkn,hn9,hc0,⟨bb,hcell⟩,hfz,hset⟩:=HR.o.contOn HI6.o;obtain⟨c_D,-⟩:=HR.o.cellAt 0 (.pointer (some ⟨m.q.D,0,none⟩)) (fun _=>rfl);have c_base:W6.cell? ⟨m.q.D,1,none⟩=some (.int .i64 s5.pg.hist.length):=HR.o.baseC;obtain⟨c_y,-⟩:=HR.o.cellAt 16 (.int .i64 s5.y) (fun _=>rfl);have hyk':s5.y=(yk:Int):=hyk;rw[hyk']at c_y;have hkn':s5.pg.hist.length+yk<n:=hkn;have HSE:Hid (∀w',Below W6.heap.size W6 w'→uN base w m {s5 with x:=0,pg:=vL s5.pg s5.y true} (w'.setCell ⟨gs,(s5.pg.hist.length+yk)*2+1,none⟩ (.bool true))):=Hd hset;have hcell':W6.cell? ⟨gs,(s5.pg.hist.length+yk)*2+1,none⟩=some (.bool bb):=hcell;have hfz':W6.frozen? ⟨gs,(s5.pg.hist.length+yk)*2+1,none⟩=false:=hfz;clear hset hyk hkn hcell hfz hyk' HR;generalize s5.pg.hist.length=hl at c_base hkn' HSE hcell' hfz';obtain⟨kk,hkk⟩:∃kk:Nat,kk=hl+yk:=⟨_,rfl⟩;rw[←hkk]at hkn' HSE hcell' hfz';have hkI:(hl:Int)+(yk:Int)=(kk:Int):=by omega
         have hwk:jP.wrap (kk:Int)=(kk:Int):=jH _ qJ;have hklI:(kk:Int)<(n:Int):=by omega
         clear hkk
         go_upto_region 13 with fail
         refine zU 20 (fun w'=>Below W6.heap.size W6 w'∧w'.cell? ⟨m.M,0,none⟩=some (.pointer (some ⟨m.q.D,0,none⟩))∧w'.cell? ⟨m.q.D,0,none⟩=some (.slice (some ⟨gs,0,none⟩) n c)∧w'.cell? ⟨m.q.D,1,none⟩=some (.int .i64 hl)∧w'.cell? ⟨m.M,16,none⟩=some (.int .i64 yk)∧(w'.cell? ⟨gs,kk*2+1,none⟩=some (.bool bb)∧w'.frozen? ⟨gs,kk*2+1,none⟩=false)) ⟨(jU _ _).drew,c_D,hc0,c_base,c_y,hcell',hfz'⟩ ?_
         repeat first|refine zS ?_|refine zV ?_
         refine kU (fun w' hS=>?_);have HSW:=Hd (HSE.o w' hS.1);obtain⟨-,-,-,-,-,z1,z1f⟩:=hS;clear c_D hc0 c_base c_y hcell' hfz' HSE
         go_wp2
         go_meet
         rw[HROOM.o];exact HSW.o
 as_aux_lemma=>
 clear HR HRM HSA HOV HOQ;have HR:=Hd hcut;clear hcut
 iterate 2 (first|go_step|go_back)
 obtain⟨sI,hsI⟩:∃sI,bO sR k=sI:=⟨_,rfl⟩;have HSI:=Hd hsI;clear hsI
 go_cut [] (fun w'=>uN base w m sI w')
 case first =>
  as_aux_lemma=>
  obtain⟨c_put,-⟩:=HR.o.cellAt 13 (.bool sR.pen.put) (fun _=>rfl);cases hput:sR.pen.put
  · have HQ:Hid (sI=sR):=Hd (by rw[←HSI.o];unfold bO;rw[hput];rfl);rw[hput]at c_put;clear hput
    go_wp2
    go_meet
    rw[HQ.o];exact HR.o
  · have HQ:Hid (sI={sR with pg:=pW sR.pg sR.y (fun l=>pU l sR.x k (yJ sR))}):=Hd (by rw[←HSI.o];unfold bO;rw[hput];rfl);rw[hput]at c_put;clear hput
    go_upto_region 15 with fail
    clear c_put
    rename World=>W5
    have HBK:=Hd (yI HR.o);obtain⟨r0,hr0,-,hrr,hof,hce⟩:=HR.o.rowOf HI5.o HI5.o.n.y0 HI5.o.n.y1;have HR0:=Hd hr0;have HRR:=Hd hrr;have HOF:=Hd hof;have HCE:=Hd (hce (fun l=>pU l sR.x k (yJ sR)) (fun l=>dX _ _ _ _));clear hr0 hrr hof hce;obtain⟨c_D,-⟩:=HR.o.cellAt 0 (.pointer (some ⟨m.q.D,0,none⟩)) (fun _=>rfl);obtain⟨c_y,-⟩:=HR.o.cellAt 16 (.int .i64 sR.y) (fun _=>rfl);obtain⟨c_x,-⟩:=HR.o.cellAt 17 (.int .i64 sR.x) (fun _=>rfl);refine gG 25 (fun w'=>Below W5.heap.size W5 w'∧w'.cell? ⟨m.M,0,none⟩=some (.pointer (some ⟨m.q.D,0,none⟩))∧w'.cell? ⟨m.M,16,none⟩=some (.int .i64 sR.y)∧w'.cell? ⟨m.M,17,none⟩=some (.int .i64 sR.x)) qQ qQ (fun w1 w2 hS hb=>⟨jN hS.1 hb,jA hb hS.2.1,jA hb hS.2.2.1,jA hb hS.2.2.2⟩) ⟨(jU _ _).drew,c_D,c_y,c_x⟩ ?_;clear c_D c_y c_x;refine AtN.go 0 ?_
    iterate 16 refine zA ?_
    refine AtC.back ?_;refine AtN.take 16 (o:=⟨_,_,_,_,_,_⟩) (v:=.slice r0.A r0.cs.length r0.cap) qQ rfl qV qQ qQ (uY.call1 133 #[.pointer (some ⟨m.q.D,0,none⟩),.int .i64 sR.y] (.slice r0.A r0.cs.length r0.cap) qK qB (fun w' hS=>HOF.o _ hS.1)) ?_;refine zP ?_;refine AtN.go 17 ?_
    iterate 6 refine zA ?_
    refine AtC.back ?_;refine AtN.take 23 (o:=⟨_,_,_,_,_,_⟩) (v:=.agg #[.int .i64 sR.pen.at_.bk,.int .i64 sR.pen.at_.bn]) qQ rfl qV qQ qQ (uY.call1 118 #[.pointer (some ⟨m.M,0,none⟩)] (.agg #[.int .i64 sR.pen.at_.bk,.int .i64 sR.pen.at_.bn]) qK qB (fun w' hS=>HBK.o _ hS.1)) ?_;refine zP ?_;refine AtN.one 24 (o:=⟨_,_,_,_,_,_⟩) (fun v=>∃g cap,v=.slice (some ⟨g,0,none⟩) r0.cs.length cap) (fun v w'=>∃g cap,v=.slice (some ⟨g,0,none⟩) r0.cs.length cap∧pX w' ⟨some ⟨g,0,none⟩,(fun l=>pU l sR.x k (yJ sR)) r0.cs,cap,r0.cont⟩) qV qQ rfl (fun v w1 w2 ⟨g,cap,hv,hr⟩ hb=>⟨g,cap,hv,hr.below hb⟩) (uY.call 132 #[.slice r0.A r0.cs.length r0.cap,.int .i64 sR.x,.int .i64 k,.agg #[.int .i64 sR.pen.at_.bk,.int .i64 sR.pen.at_.bn]] _ _ qK ?_ (fun w' hS=>?_)) ?_
    · intro w'
      go_simp
    · refine(QC sR.x k (yJ sR) w' (HRR.o w' hS.1) HR0.o).mono ?_;rintro e w3 ⟨g1,cap,rfl,hc,hb⟩;exact qZu
    rintro v ⟨g5,cap,rfl⟩;refine zP ?_;refine AtN.done qQ (fun w' hS=>?_);obtain⟨⟨hb1,-⟩,g1',cap',hv',hrc'⟩:=hS;simp only[Value.slice.injEq,Option.some.injEq,Addr.mk.injEq,and_true,true_and]at hv';obtain⟨rfl,rfl⟩:=hv';have HCE2:=Hd (HCE.o w' g5 cap hb1 hrc');clear hb1 hrc'
    go_wp2_with(go_at_call 131;(with_reducible refine HCE2.o.mono ?_);rintro e w9 ⟨rfl,hp⟩;replace HR:=Hd hp;clear hp HCE2)
    go_meet
    rw[HQ.o];exact HR.o
 as_aux_lemma=>
 clear HR;have HR:=Hd hcut;clear hcut;have hIS:DmI rows cols room sI∧sI.x=sR.x:=by
  rw[←HSI.o];unfold bO
  split
  · exact⟨HI5.o.to (HI5.o.n.row _ (fun l=>dX _ _ _ _)) (by show(pW _ _ _).told.length≤_;rw[(bB _ _ _).1];exact HI5.o.t),rfl⟩
  · exact⟨HI5.o,rfl⟩
 have HIS:=Hd hIS.1;rw[←hIS.2]at hwR;clear hIS
 go_upto_region 16 with fail
 rename World=>W6
 obtain⟨r0,hr0,-,hrr,hof,hce⟩:=HR.o.rowOf HIS.o HIS.o.n.y0 HIS.o.n.y1;have HR0:=Hd hr0;have HRR:=Hd hrr;have HOF:=Hd hof;have HCE:=Hd (hce (fun l=>dS l sI.x r sI.pen.at_) (fun l=>lQ _ _ _ _));clear hr0 hrr hof hce;obtain⟨c_D,-⟩:=HR.o.cellAt 0 (.pointer (some ⟨m.q.D,0,none⟩)) (fun _=>rfl);obtain⟨c_y,-⟩:=HR.o.cellAt 16 (.int .i64 sI.y) (fun _=>rfl);obtain⟨c_x,-⟩:=HR.o.cellAt 17 (.int .i64 sI.x) (fun _=>rfl);obtain⟨c_fk,-⟩:=HR.o.cellAt 2 (.int .i64 sI.pen.at_.fk) (fun _=>rfl);obtain⟨c_fn,-⟩:=HR.o.cellAt 3 (.int .i64 sI.pen.at_.fn) (fun _=>rfl);obtain⟨c_bk,-⟩:=HR.o.cellAt 4 (.int .i64 sI.pen.at_.bk) (fun _=>rfl);obtain⟨c_bn,-⟩:=HR.o.cellAt 5 (.int .i64 sI.pen.at_.bn) (fun _=>rfl);obtain⟨c_fl,-⟩:=HR.o.cellAt 6 (.int .i64 sI.pen.at_.fl) (fun _=>rfl)
 refine gG 28 (fun w'=>Below W6.heap.size W6 w'∧w'.cell? ⟨m.M,0,none⟩=some (.pointer (some ⟨m.q.D,0,none⟩))∧w'.cell? ⟨m.M,16,none⟩=some (.int .i64 sI.y)∧w'.cell? ⟨m.M,17,none⟩=some (.int .i64 sI.x)∧w'.cell? ⟨m.M,2,none⟩=some (.int .i64 sI.pen.at_.fk)∧w'.cell? ⟨m.M,3,none⟩=some (.int .i64 sI.pen.at_.fn)∧w'.cell? ⟨m.M,4,none⟩=some (.int .i64 sI.pen.at_.bk)∧w'.cell? ⟨m.M,5,none⟩=some (.int .i64 sI.pen.at_.bn)∧w'.cell? ⟨m.M,6,none⟩=some (.int .i64 sI.pen.at_.fl)) qQ qQ (fun w1 w2 hS hb=>⟨jN hS.1 hb,jA hb hS.2.1,jA hb hS.2.2.1,jA hb hS.2.2.2.1,jA hb hS.2.2.2.2.1,jA hb hS.2.2.2.2.2.1,jA hb hS.2.2.2.2.2.2.1,jA hb hS.2.2.2.2.2.2.2.1,jA hb hS.2.2.2.2.2.2.2.2⟩) ⟨(jU _ _).drew,c_D,c_y,c_x,c_fk,c_fn,c_bk,c_bn,c_fl⟩ ?_;clear c_D c_y c_x c_fk c_fn c_bk c_bn c_fl;refine AtN.go 0 ?_
 iterate 16 refine zA ?_
 refine AtC.back ?_;refine AtN.take 16 (o:=⟨_,_,_,_,_,_⟩) (v:=.slice r0.A r0.cs.length r0.cap) qQ rfl qV qQ qQ (uY.call1 133 #[.pointer (some ⟨m.q.D,0,none⟩),.int .i64 sI.y] (.slice r0.A r0.cs.length r0.cap) qK qB (fun w' hS=>HOF.o _ hS.1)) ?_;refine zP ?_;refine AtN.go 17 ?_
 iterate 10 refine zA ?_
 refine AtC.back ?_;refine AtN.one 27 (o:=⟨_,_,_,_,_,_⟩) (fun v=>∃g cap,v=.slice (some ⟨g,0,none⟩) r0.cs.length cap) (fun v w'=>∃g cap,v=.slice (some ⟨g,0,none⟩) r0.cs.length cap∧pX w' ⟨some ⟨g,0,none⟩,(fun l=>dS l sI.x r sI.pen.at_) r0.cs,cap,r0.cont⟩) qV qQ rfl (fun v w1 w2 ⟨g,cap,hv,hr⟩ hb=>⟨g,cap,hv,hr.below hb⟩) (uY.call 179 #[.slice r0.A r0.cs.length r0.cap,.int .i64 sI.x,.int .i32 r,.agg #[.int .i64 sI.pen.at_.fk,.int .i64 sI.pen.at_.fn,.int .i64 sI.pen.at_.bk,.int .i64 sI.pen.at_.bn,.int .i64 sI.pen.at_.fl]] _ _ qK ?_ (fun w' hS=>?_)) ?_
 · intro w'
   go_simp
 · refine(rPut_rc sI.x r sI.pen.at_ w' (HRR.o w' hS.1) HR0.o).mono ?_;rintro e w3 ⟨g1,cap,rfl,hc,hb⟩;exact qZu
 rintro v ⟨g5,cap,rfl⟩;refine zP ?_;refine AtN.done qQ (fun w' hS=>?_);obtain⟨⟨hb1,-⟩,g1',cap',hv',hrc'⟩:=hS;simp only[Value.slice.injEq,Option.some.injEq,Addr.mk.injEq,and_true,true_and]at hv';obtain⟨rfl,rfl⟩:=hv';have HCE2:=Hd (HCE.o w' g5 cap hb1 hrc');clear hb1 hrc'
 go_upto_region 17 with(go_at_call 131;(with_reducible refine HCE2.o.mono ?_);rintro e w9 ⟨rfl,hp⟩;replace HR:=Hd hp;clear hp HCE2)
 obtain⟨c_x,f_x⟩:=HR.o.cellAt 17 (.int .i64 sI.x) (fun _=>rfl);obtain⟨c_last,f_last⟩:=HR.o.cellAt 37 (.int .i32 sI.last) (fun _=>rfl)
 go_wp2
 go_end0
 refine⟨rfl,?_⟩;rw[HSI.o];exact(HR.o.put 17 (.int .i64 (sI.x+(k:Int))) (s':={sI with pg:=pW sI.pg sI.y (fun l=>dS l sI.x r sI.pen.at_),x:=sI.x+(k:Int)}) (fun _=>rfl) rfl rfl).put 37 (.int .i32 r) (s':=ZI sI r k) (fun _=>rfl) rfl rfl
theorem QM(h:uN base w m s W)(hi:DmI rows cols room s)(ht:s.pg.told.length+10≤900000)(r:Int):Calls jG 108 #[.pointer (some ⟨m.M,0,none⟩),.int .i32 r] W (vB base w m (pH s r)):=by
 rcases tI r with hw|hw|hw|hw
 · exact Vl h r hw
 · exact Vm h hi r hw
 · exact xZ h hi ht r 2 hw qZ qZ
 · exact xZ h hi ht r 1 hw qZ qZ
end
section
variable {base rows cols room:Nat}{w W:World}{m:Mv}{s:Sc}
set_option maxHeartbeats 3200000 in
theorem wG(h:uN base w m s W)(hi:DmI rows cols room s)(y x:Int):Calls jG 51 #[.pointer (some ⟨m.M,0,none⟩),.int .i64 y,.int .i64 x] W (vB base w m (dF s y x)):=by
 have hr:=hi.r;have hc:=hi.c;have hc2:=hi.c2;have hy0:=hi.n.y0;have hy1:=hi.n.y1;have hb1:=hi.n.b1;have htb:=hi.n.tb;have ht0:=hi.n.t0;have hwc:jP.wrap ((cols:Int)-1)=(cols:Int)-1:=jH _ qJ;have hwr:jP.wrap ((rows:Int)-1)=(rows:Int)-1:=jH _ qJ;have hwd:jP.wrap (s.bot-s.top)=s.bot-s.top:=jH _ qJ;have hnb:=zO (n:=y) (lo:=0) (hi:=s.bot-s.top) qJ;have hws:jP.wrap (s.top+uZ y 0 (s.bot-s.top))=s.top+uZ y 0 (s.bot-s.top):=jH _ qJ;have HR:=Hd h;have HI:=Hd hi;have HN1:=Hd (pQ (lo:=0) (hi:=(cols:Int)-1) qJ x W);have HN2:Hid (∀V,bP 86 #[.int .i64 y,.int .i64 0,.int .i64 (s.bot-s.top)] V (.int .i64 (uZ y 0 (s.bot-s.top)))):=Hd (fun V=>pQ qJ y V);have HN3:Hid (∀V,bP 86 #[.int .i64 y,.int .i64 0,.int .i64 ((rows:Int)-1)] V (.int .i64 (uZ y 0 ((rows:Int)-1)))):=Hd (fun V=>pQ qJ y V);unfold dF;rw[hi.n.rowsS,hi.n.colsS];obtain⟨c_D,-⟩:=HR.o.cellAt 0 (.pointer (some ⟨m.q.D,0,none⟩)) (fun _=>rfl);have c_C:=HR.o.colsI hi;obtain⟨c_x,f_x⟩:=h.cellAt 17 (.int .i64 s.x) (fun _=>rfl);have HX:=Hd (kM c_x f_x);have HIX:Hid (DmI rows cols room {s with x:=uZ x 0 ((cols:Int)-1)}):=Hd (hi.to (hi.n.setX (zO qJ).1 (by have :=(zO (n:=x) (lo:=0) (hi:=(cols:Int)-1) qJ).2;omega)) hi.t);clear h hi c_x f_x
 cases hh:s.pen.home with
 |false=>
  rw[if_neg qZ]
  go_enter Tryz.func51,Tryz.ntmps51
  go_upto_region 1 with(go_at_call 86;refine HN1.o.here.mono ?_;rintro e w1 ⟨rfl,hb⟩;obtain⟨c_x,f_x⟩:=bQ hb HX.o;replace HR:=Hd ((HR.o.post hb).put 17 (.int .i64 (uZ x 0 ((cols:Int)-1))) (s':={s with x:=uZ x 0 ((cols:Int)-1)}) (fun _=>rfl) rfl rfl);clear hb)
  clear c_D c_C;generalize uQ _ _ _=W2 at HR ⊢;clear c_x f_x HN1;obtain⟨c_home,-⟩:=HR.o.cellAt 15 (.bool s.pen.home) (fun _=>rfl);rw[hh]at c_home
  go_upto_region 3 with fail
  clear c_home;have HRW:=Hd (zB HR.o HIX.o);have HN4:=Hd (HN3.o W2);obtain⟨c_D,-⟩:=HR.o.cellAt 0 (.pointer (some ⟨m.q.D,0,none⟩)) (fun _=>rfl);obtain⟨c_y,f_y⟩:=HR.o.cellAt 16 (.int .i64 s.y) (fun _=>rfl);have HY:=Hd (kM c_y f_y);clear c_y f_y
  go_wp2_with(first
   |(go_at_call 87;refine HRW.o.here.mono ?_;rintro e w4 ⟨rfl,hb⟩;have HB4:=Hd hb;clear hb)
   |(go_at_call 86;refine(HN4.o _ HB4.o).mono ?_;rintro e w5 ⟨rfl,hb⟩;replace HR:=Hd (HR.o.post (jN HB4.o hb));obtain⟨c_y,f_y⟩:=bQ (jN HB4.o hb) HY.o;clear hb))
  go_end0
  exact qZ1
 |true=>
  rw[if_pos rfl]
  go_enter Tryz.func51,Tryz.ntmps51
  go_upto_region 1 with(go_at_call 86;refine HN1.o.here.mono ?_;rintro e w1 ⟨rfl,hb⟩;obtain⟨c_x,f_x⟩:=bQ hb HX.o;replace HR:=Hd ((HR.o.post hb).put 17 (.int .i64 (uZ x 0 ((cols:Int)-1))) (s':={s with x:=uZ x 0 ((cols:Int)-1)}) (fun _=>rfl) rfl rfl);clear hb)
  clear c_D c_C;generalize uQ _ _ _=W2 at HR ⊢;clear c_x f_x HN1;obtain⟨c_home,-⟩:=HR.o.cellAt 15 (.bool s.pen.home) (fun _=>rfl);rw[hh]at c_home
  go_upto_region 2 with fail
  clear c_home;have HN4:=Hd (HN2.o W2);obtain⟨c_top,-⟩:=HR.o.cellAt 18 (.int .i64 s.top) (fun _=>rfl);obtain⟨c_bot,-⟩:=HR.o.cellAt 19 (.int .i64 s.bot) (fun _=>rfl);refine zU2 19 c_top c_bot ?_
  repeat first|refine zS ?_|refine zC0 (zC2 HN4.o) ?_|refine zV ?_
  refine kU (fun w' hS=>?_);replace HR:=Hd (HR.o.post hS.1);clear hS c_top c_bot;obtain⟨c_y,f_y⟩:=HR.o.cellAt 16 (.int .i64 s.y) (fun _=>rfl)
  go_wp2
  go_end0
  exact qZ1
theorem goX{c:Nat}{a dx:Int}(hc:c≤1000)(h0:0≤a)(h1:a≤(c:Int)-1):uZ (a+uZ dx (-2000) 2000) 0 ((c:Int)-1)=byS a dx 0 ((c:Int)-1):=by
 unfold byS uZ;omega
set_option maxHeartbeats 3200000 in
theorem UK(h:uN base w m s W)(hi:DmI rows cols room s)(dy dx:Int):Calls jG 53 #[.pointer (some ⟨m.M,0,none⟩),.int .i64 dy,.int .i64 dx] W (vB base w m (goS s dy dx)):=by
 have hr:=hi.r;have hc:=hi.c;have hc2:=hi.c2;have hin:=hi.n.inS hi.c2;have HR:=Hd h;have HI:=Hd hi;obtain⟨A,hA,hA2⟩:∃A:Nat,uZ dy 0 2000=(A:Int)∧A≤2000:=⟨(uZ dy 0 2000).toNat,by unfold uZ;omega,by unfold uZ;omega⟩;obtain⟨B,hB,hB2⟩:∃B:Nat,uZ dy (-2000) 0= -(B:Int)∧B≤2000:=⟨(-uZ dy (-2000) 0).toNat,by unfold uZ;omega,by unfold uZ;omega⟩;have HN1:Hid (∀V,bP 86 #[.int .i64 dy,.int .i64 0,.int .i64 2000] V (.int .i64 (A:Int))):=Hd (fun V=>by
  have :=pQ (lo:=0) (hi:=2000) qJ dy V;rw[hA]at this;exact this)
 have HN2:Hid (∀V,bP 86 #[.int .i64 dy,.int .i64 (-2000),.int .i64 0] V (.int .i64 (-(B:Int)))):=Hd (fun V=>by
  have :=pQ (lo:= -2000) (hi:=0) qJ dy V;rw[hB]at this;exact this)
 have HN3:Hid (∀V,bP 86 #[.int .i64 dx,.int .i64 (-2000),.int .i64 2000] V (.int .i64 (uZ dx (-2000) 2000))):=Hd (fun V=>pQ qJ dx V);have HN4:Hid (∀V,bP 86 #[.int .i64 (inS s+uZ dx (-2000) 2000),.int .i64 0,.int .i64 ((cols:Int)-1)] V (.int .i64 (byS (inS s) dx 0 ((cols:Int)-1)))):=Hd (fun V=>by
  have :=pQ (lo:=0) (hi:=(cols:Int)-1) qJ (inS s+uZ dx (-2000) 2000) V;rw[goX hc hin.1 hin.2]at this;exact this)
 have hnd:=zO (n:=dx) (lo:= -2000) (hi:=2000) qJ;have hwa:jP.wrap (inS s+uZ dx (-2000) 2000)=inS s+uZ dx (-2000) 2000:=jH _ qJ;have hwc:jP.wrap ((cols:Int)-1)=(cols:Int)-1:=jH _ qJ;have hwB:jP.wrap (- -(B:Int))=(B:Int):=by rw[Int.neg_neg];exact jH _ qJ
 -- where the row is behind both
 obtain⟨yE,hyE⟩:∃yE,byS s.y dy (min (oP s) s.y) (max (nS s) s.y)=yE:=⟨_,rfl⟩;have hgs:goS s dy dx={s with y:=yE,x:=byS (inS s) dx 0 ((cols:Int)-1)}:=by unfold goS;rw[hyE,hi.n.colsS]
 rw[hgs];have hst:∀y:Int,0≤y→y<rows→DmI rows cols room {s with y:=y}:=fun y h0 h1=>hi.to (hi.n.to (x:=s.x) h0 h1 hi.n.x0 hi.n.x1) hi.t;have HST:=Hd hst;have HYE:Hid ((0≤dy∧B=0∧dnY s A=yE)∨(dy<0∧A=0∧upY s B=yE)):=Hd (by
  by_cases hd:0≤dy
  · exact .inl ⟨hd,by unfold uZ at hB;omega,by rw[←hyE];exact dnY_end hi.n hr hd (by rw[←hA];unfold uZ;omega)⟩
  · have hB3:(B:Int)=min (-dy) 2000:=by unfold uZ at hB;omega
    exact .inr ⟨by omega,by unfold uZ at hA;omega,by rw[←hyE];exact upY_end hi.n hr qJ hB3⟩)
 have HIN:Hid (∀(y:Int) V,uN base w m {s with y:=y} V→bP 42 #[.pointer (some ⟨m.M,0,none⟩)] V (.int .i64 (inS s))):=Hd (fun y V hV=>bF (s:={s with y:=y}) hV hi.n.x0);obtain⟨f,hf⟩:∃f:Nat→Int,f 0=dnY s A∧f B=yE∧(∀j,j<B→f (j+1)=if f j≠s.top∧0<f j then f j-1 else f j)∧∀j,0≤f j∧f j<rows:=by
  rcases HYE.o with⟨-,h0,h1⟩|⟨-,h0,h1⟩
  · exact⟨fun _=>dnY s A,rfl,h1,fun j hj=>by omega,fun _=>VM hi.n A⟩
  · refine⟨fun j=>upY s j,?_,h1,fun j _=>K9 hi.n j,fun j=>Yw hi.n j⟩;show upY s 0=dnY s A;rw[h0];unfold upY dnY;omega
 have HYEB:Hid (0≤yE∧yE<rows):=Hd (by
  rcases HYE.o with⟨-,-,h1⟩|⟨-,-,h1⟩
  · rw[←h1];exact VM hi.n A
  · rw[←h1];exact Yw hi.n B)
 have HF:Hid (f 0=dnY s A∧f B=yE∧(∀j,j<B→f (j+1)=if f j≠s.top∧0<f j then f j-1 else f j)∧∀j,0≤f j∧f j<rows):=Hd hf;clear h hi hA hB hgs hyE hst hnd hin hr hc hc2 hf
 go_enter Tryz.func53,Tryz.ntmps53
 go_wp2_with fail
 go_loopw [6] (fun s6 wr=>∃i:Nat,s6=.int .i64 i∧i≤A∧uN base w m {s with y:=dnY s i} wr) (fun s6 _=>A-(intOf s6).toNat)
 case atStart=>
  refine⟨0,rfl,kT _,?_⟩;have e:dnY s 0=s.y:=by unfold dnY;omega
  rw[e];exact HR.o
 case round=>
  obtain⟨i,rfl,hi,hs⟩:=hrel;replace HR:=Hd hs;clear hs;have hwi:jP.wrap ((i:Int)+1)=(i:Int)+1:=jH _ qJ
  by_cases hlt:i<A
  rotate_left
  · have hltI:¬(i:Int)<(A:Int):=by omega
    obtain rfl:i=A:=by omega
    go_wp2_with(go_at_call 86;refine(HN1.o _).here.mono ?_;rintro e w1 ⟨rfl,hb⟩;replace HR:=Hd (HR.o.post hb);clear hb)
    rename World=>W2
    clear hlt hltI hi hwi
    go_loopw [7] (fun s7 wr=>∃j:Nat,s7=.int .i64 j∧j≤B∧uN base w m {s with y:=f j} wr) (fun s7 _=>B-(intOf s7).toNat)
    case atStart=>
     refine⟨0,rfl,kT _,?_⟩;rw[HF.o.1];exact HR.o
    case round=>
     obtain⟨j,rfl,hj,hs⟩:=hrel;replace HR:=Hd hs;clear hs;have hwj:jP.wrap ((j:Int)+1)=(j:Int)+1:=jH _ qJ
     by_cases hlt:j<B
     rotate_left
     · have hltI:¬(j:Int)<(B:Int):=by omega
       obtain rfl:j=B:=by omega
       replace HR:Hid (uN base w m {s with y:=yE} _):=Hd (by rw[←HF.o.2.1];exact HR.o);have HIE:=Hd (HST.o yE HYEB.o.1 HYEB.o.2)
       go_upto_region 10 with(go_at_call 86;refine(HN2.o _).here.mono ?_;rintro e w1 ⟨rfl,hb⟩;replace HR:=Hd (HR.o.post hb);clear hb)
       rename World=>W5
       have HIN5:=Hd (HIN.o yE W5 HR.o);have HN3':=Hd (HN3.o W5);have HN4':=Hd (HN4.o W5);replace HI:=HIE;obtain⟨c_D,-⟩:=HR.o.cellAt 0 (.pointer (some ⟨m.q.D,0,none⟩)) (fun _=>rfl);have c_C:=HR.o.colsI HI.o;refine zU2 17 c_D c_C ?_
       repeat first|refine zS ?_|refine zC0 (zC2 HIN5.o) ?_|refine zD 86 #[.int .i64 dx,.int .i64 (-2000),.int .i64 2000] (.int .i64 (uZ dx (-2000) 2000)) (fun w' hS=>(HN3'.o w' hS.1).mono fun e w2 ⟨he,hb⟩=>⟨he,⟨jN hS.1 hb,jA hb hS.2.1,jA hb hS.2.2⟩⟩) ?_|refine zD 86 #[.int .i64 (inS s+uZ dx (-2000) 2000),.int .i64 0,.int .i64 ((cols:Int)-1)] (.int .i64 (byS (inS s) dx 0 ((cols:Int)-1))) (fun w' hS=>(HN4'.o w' hS.1).mono fun e w2 ⟨he,hb⟩=>⟨he,⟨jN hS.1 hb,jA hb hS.2.1,jA hb hS.2.2⟩⟩) ?_|refine zV ?_
       refine kU (fun w' hS=>?_);replace HR:=Hd (HR.o.post hS.1);clear hS c_D c_C;obtain⟨c_x,f_x⟩:=HR.o.cellAt 17 (.int .i64 s.x) (fun _=>rfl)
       go_wp2
       go_end0
       exact qZ2
     · have hltI:(j:Int)<(B:Int):=by omega
       have hsucc:=HF.o.2.2.1 j hlt;obtain⟨y0,hy0⟩:∃y0,f j=y0:=⟨_,rfl⟩;have hyb:=HF.o.2.2.2 j;rw[hy0]at hsucc HR hyb;have HSU:=Hd hsucc;have hr:=HI.o.r;have hwy:jP.wrap (y0-1)=y0-1:=jH _ qJ;clear hsucc hy0 hr
       go_upto_region 8 with(go_at_call 86;refine(HN2.o _).here.mono ?_;rintro e w1 ⟨rfl,hb⟩;replace HR:=Hd (HR.o.post hb);clear hb)
       rename World=>W5
       by_cases hb:y0=s.top
       · have hbq:(y0==s.top)=true:=by rw[hb];exact beq_self_eq_true _
         obtain⟨c_y,-⟩:=HR.o.cellAt 16 (.int .i64 y0) (fun _=>rfl);obtain⟨c_top,-⟩:=HR.o.cellAt 18 (.int .i64 s.top) (fun _=>rfl);refine zW2 15 c_y c_top fun w' hS=>?_;replace HR:=Hd (HR.o.post hS.1);clear hS c_y c_top
         go_wp2
         go_roundw
         case rel=>
          refine⟨j+1,by go_num,by omega,?_⟩;rw[HSU.o,if_neg (fun h=>h.1 hb)];exact HR.o
         case measure=>exact zm
       · have hbq:(y0==s.top)=false:=zb hb;have hbn:(y0 != s.top)=true:=bne_iff_ne.2 hb;have HNB:=Hd hb
         by_cases hp:0<y0
         · have HPP:=Hd hp;clear hb;obtain⟨c_y,-⟩:=HR.o.cellAt 16 (.int .i64 y0) (fun _=>rfl);obtain⟨c_top,-⟩:=HR.o.cellAt 18 (.int .i64 s.top) (fun _=>rfl);refine zW2 15 c_y c_top fun w' hS=>?_;replace HR:=Hd (HR.o.post hS.1);clear hS c_y c_top;obtain⟨c_y,f_y⟩:=HR.o.cellAt 16 (.int .i64 y0) (fun _=>rfl)
           go_wp2
           go_roundw
           case rel=>
            refine⟨j+1,by go_num,by omega,?_⟩;rw[HSU.o,if_pos ⟨HNB.o,HPP.o⟩];exact HR.o.put 16 _ (fun _=>rfl) rfl rfl
           case measure=>exact zm
         · have HPP:=Hd hp;clear hb;obtain⟨c_y,-⟩:=HR.o.cellAt 16 (.int .i64 y0) (fun _=>rfl);obtain⟨c_top,-⟩:=HR.o.cellAt 18 (.int .i64 s.top) (fun _=>rfl);refine zW2 15 c_y c_top fun w' hS=>?_;replace HR:=Hd (HR.o.post hS.1);clear hS c_y c_top
           go_wp2
           go_roundw
           case rel=>
            refine⟨j+1,by go_num,by omega,?_⟩;rw[HSU.o,if_neg (fun h=>HPP.o h.2)];exact HR.o
           case measure=>exact zm
  · have hltI:(i:Int)<(A:Int):=by omega
    have hsucc:=qQ9 HI.o.n i;obtain⟨y0,hy0⟩:∃y0,dnY s i=y0:=⟨_,rfl⟩;have hyb:=VM HI.o.n i;rw[hy0]at hsucc HR hyb;have HSU:=Hd hsucc;have hr:=HI.o.r;have HIY:=Hd (HST.o y0 hyb.1 hyb.2);have hwy:jP.wrap (y0+1)=y0+1:=jH _ qJ;clear hsucc hy0 hyb hr
    go_upto_region 3 with(go_at_call 86;refine(HN1.o _).here.mono ?_;rintro e w1 ⟨rfl,hb⟩;replace HR:=Hd (HR.o.post hb);clear hb)
    rename World=>W3
    have HRW:=Hd (zB HR.o HIY.o)
    by_cases hb:y0=s.bot
    · have hbq:(y0==s.bot)=true:=by rw[hb];exact beq_self_eq_true _
      obtain⟨c_D,-⟩:=HR.o.cellAt 0 (.pointer (some ⟨m.q.D,0,none⟩)) (fun _=>rfl);obtain⟨c_y,-⟩:=HR.o.cellAt 16 (.int .i64 y0) (fun _=>rfl);obtain⟨c_bot,-⟩:=HR.o.cellAt 19 (.int .i64 s.bot) (fun _=>rfl);refine zU3 21 c_D c_y c_bot ?_
      repeat first|refine zS ?_|refine zC0 (zC3 HRW.o) ?_|refine zV ?_
      refine kU (fun w' hS=>?_);replace HR:=Hd (HR.o.post hS.1);clear hS c_D c_y c_bot
      go_wp2
      go_roundw
      case rel=>
       refine⟨i+1,by go_num,by omega,?_⟩;rw[HSU.o,if_neg (fun h=>h.1 hb)];exact HR.o
      case measure=>exact zm
    · have hbq:(y0==s.bot)=false:=zb hb;have hbn:(y0 != s.bot)=true:=bne_iff_ne.2 hb;have HNB:=Hd hb
      by_cases hp:y0+1<(rows:Int)
      · have HPP:=Hd hp;clear hb;obtain⟨c_D,-⟩:=HR.o.cellAt 0 (.pointer (some ⟨m.q.D,0,none⟩)) (fun _=>rfl);obtain⟨c_y,-⟩:=HR.o.cellAt 16 (.int .i64 y0) (fun _=>rfl);obtain⟨c_bot,-⟩:=HR.o.cellAt 19 (.int .i64 s.bot) (fun _=>rfl);refine zU3 21 c_D c_y c_bot ?_
        repeat first|refine zS ?_|refine zC0 (zC3 HRW.o) ?_|refine zV ?_
        refine kU (fun w' hS=>?_);replace HR:=Hd (HR.o.post hS.1);clear hS c_D c_y c_bot;obtain⟨c_y,f_y⟩:=HR.o.cellAt 16 (.int .i64 y0) (fun _=>rfl)
        go_wp2
        go_roundw
        case rel=>
         refine⟨i+1,by go_num,by omega,?_⟩;rw[HSU.o,if_pos ⟨HNB.o,HPP.o⟩];exact HR.o.put 16 _ (fun _=>rfl) rfl rfl
        case measure=>exact zm
      · have HPP:=Hd hp;clear hb;obtain⟨c_D,-⟩:=HR.o.cellAt 0 (.pointer (some ⟨m.q.D,0,none⟩)) (fun _=>rfl);obtain⟨c_y,-⟩:=HR.o.cellAt 16 (.int .i64 y0) (fun _=>rfl);obtain⟨c_bot,-⟩:=HR.o.cellAt 19 (.int .i64 s.bot) (fun _=>rfl);refine zU3 21 c_D c_y c_bot ?_
        repeat first|refine zS ?_|refine zC0 (zC3 HRW.o) ?_|refine zV ?_
        refine kU (fun w' hS=>?_);replace HR:=Hd (HR.o.post hS.1);clear hS c_D c_y c_bot
        go_wp2
        go_roundw
        case rel=>
         refine⟨i+1,by go_num,by omega,?_⟩;rw[HSU.o,if_neg (fun h=>HPP.o h.2)];exact HR.o
        case measure=>exact zm
set_option maxHeartbeats 3200000 in
theorem tX(h:uN base w m s W)(hi:DmI rows cols room s)(top bot:Int):Calls jG 55 #[.pointer (some ⟨m.M,0,none⟩),.int .i64 top,.int .i64 bot] W (vB base w m (yR s top bot)):=by
 have HR:=Hd h;have HI:=Hd hi;have HT:=Hd (KL h hi top);have HB:Hid (∀V,uN base w m s V→bP 125 #[.pointer (some ⟨m.q.D,0,none⟩),.int .i64 bot] V (.bool (decide (0≤bot)&&decide (bot<rows)))):=Hd (fun V hV=>KL hV hi bot);obtain⟨c_D,-⟩:=h.cellAt 0 (.pointer (some ⟨m.q.D,0,none⟩)) (fun _=>rfl);have HD:=Hd c_D;have hM:yR s top bot=if 0≤top∧bot<rows∧top<bot then dF {s with top:=top,bot:=bot} 0 0 else s:=by unfold yR;rw[hi.n.rowsS]
 rw[hM];have hNEW:0≤top→bot<rows→top<bot→DmI rows cols room {s with top:=top,bot:=bot}:=fun h1 h2 h3=>hi.to ⟨hi.n.pg,hi.n.st,hi.n.y0,hi.n.y1,hi.n.x0,hi.n.x1,h1,by show top≤bot;omega,h2,.inl h3⟩ hi.t;have HNEW:=Hd hNEW;clear h hi hM hNEW
 by_cases h1:0≤top∧top<rows
 rotate_left
 · have hf:(decide (0≤top)&&decide (top<(rows:Int)))=false:=by simp;omega
   rw[if_neg qJ];rw[hf]at HT;clear hf h1
   go_enter Tryz.func55,Tryz.ntmps55
   go_wp2_with(go_at_call 125;refine HT.o.here.mono ?_;rintro e w1 ⟨rfl,hb⟩;replace HR:=Hd (HR.o.post hb);clear hb)
   go_end0
   exact⟨rfl,HR.o⟩
 have hf:(decide (0≤top)&&decide (top<(rows:Int)))=true:=by simp;omega
 rw[hf]at HT;clear hf
 by_cases h2:0≤bot∧bot<rows
 rotate_left
 · have hf:(decide (0≤bot)&&decide (bot<(rows:Int)))=false:=by simp;omega
   rw[if_neg qJ];rw[hf]at HB;clear hf h1 h2
   go_enter Tryz.func55,Tryz.ntmps55
   go_wp2_with(go_at_call 125;first
    |(have hz:=HT.o;clear hz;refine HT.o.here.mono ?_;rintro e w1 ⟨rfl,hb⟩;replace HR:=Hd (HR.o.post hb);have c_D:=jA hb HD.o;clear hb HT)
    |((with_reducible refine(HB.o _ HR.o).here.mono ?_);rintro e w2 ⟨rfl,hb⟩;replace HR:=Hd (HR.o.post hb);clear hb))
   go_end0
   exact⟨rfl,HR.o⟩
 have hf:(decide (0≤bot)&&decide (bot<(rows:Int)))=true:=by simp;omega
 rw[hf]at HB;clear hf
 by_cases h3:top<bot
 all_goals
  have H3:=Hd h3;have HBD:=Hd (kM h1 h2);clear h1 h2
  go_enter Tryz.func55,Tryz.ntmps55
 rotate_left
 · rw[if_neg (fun h=>H3.o h.2.2)]
   go_wp2_with(go_at_call 125;first
    |(have hz:=HT.o;clear hz;refine HT.o.here.mono ?_;rintro e w1 ⟨rfl,hb⟩;replace HR:=Hd (HR.o.post hb);have c_D:=jA hb HD.o;clear hb HT)
    |((with_reducible refine(HB.o _ HR.o).here.mono ?_);rintro e w2 ⟨rfl,hb⟩;replace HR:=Hd (HR.o.post hb);clear hb))
   go_end0
   exact⟨rfl,HR.o⟩
 · rw[if_pos ⟨HBD.o.1.1,HBD.o.2.2,H3.o⟩]
   go_upto_region 1 with(go_at_call 125;first
    |(have hz:=HT.o;clear hz;refine HT.o.here.mono ?_;rintro e w1 ⟨rfl,hb⟩;replace HR:=Hd (HR.o.post hb);have c_D:=jA hb HD.o;clear hb HT)
    |((with_reducible refine(HB.o _ HR.o).here.mono ?_);rintro e w2 ⟨rfl,hb⟩;replace HR:=Hd (HR.o.post hb);clear hb))
   rename World=>W2
   obtain⟨c_top,f_top⟩:=HR.o.cellAt 18 (.int .i64 s.top) (fun _=>rfl);obtain⟨c_bot,f_bot⟩:=HR.o.cellAt 19 (.int .i64 s.bot) (fun _=>rfl)
   go_upto_region 2 with fail
   replace HR:=Hd ((HR.o.put 18 (.int .i64 top) (s':={s with top:=top}) (fun _=>rfl) rfl rfl).put 19 (.int .i64 bot) (s':={s with top:=top,bot:=bot}) (fun _=>rfl) rfl rfl);generalize uQ _ _ _=W4 at HR ⊢;have HMV:=Hd (wG HR.o (HNEW.o HBD.o.1.1 HBD.o.2.2 H3.o) 0 0);clear c_top f_top c_bot f_bot
   go_wp2_with(go_at_call 51;refine HMV.o.mono ?_;rintro e w7 ⟨rfl,hs⟩;replace HR:=Hd hs;clear hs)
   go_end0
   exact⟨rfl,HR.o⟩
end
section
variable {base rows cols room:Nat}{w W:World}{m:Mv}{s:Sc}
theorem eM(h:uN base w m s W)(hi:DmI rows cols room s)(y x z:Int)(hy:0≤y):Calls jG 128 #[.pointer (some ⟨m.q.D,0,none⟩),.int .i64 y,.int .i64 x,.int .i64 z,.agg #[.int .i64 s.pen.at_.bk,.int .i64 s.pen.at_.bn]] W (vB base w m (cJ s y x z)):=by
 obtain⟨m1,e1,e2,hO,hm,hx⟩:=h;rw[←e2];refine(Vi hO.doc y x z (yJ s) hi.len.2 hi.len.1 qJ).mono fun e w2 hh=>⟨hh.1,?_⟩;have hp:=hh.2;rw[Yv]at hp;exact qZ3
theorem Zb(h:uN base w m s W)(hi:DmI rows cols room s):Calls jG 130 #[.pointer (some ⟨m.q.D,0,none⟩)] W (vB base w m {s with pg:=cO s.pg}):=by
 obtain⟨m1,e1,e2,hO,hm,hx⟩:=h;rw[←e2];have h1:=hi.n.pg.hrows;have h2:=hi.n.y1;have h3:=hi.n.y0;refine(Ki hO.doc (by show s.pg.hist.length<(s.pg.hist++s.pg.scr).length;simp;omega) hi.len.1 (by show s.pg.told.length≤_;have :=hi.t;omega)).mono fun e w2 hh=>⟨hh.1,?_⟩;have hp:=hh.2;rw[Zm]at hp;exact qZ3
theorem qJl(s:Sc):dE s s.y 1=cJ s s.y 0 (colsS s):=by
 show cJ s (s.y+((0:Nat):Int)) 0 (colsS s)=_;rw[Int.natCast_zero,Int.add_zero]
set_option maxHeartbeats 3200000 in
theorem iI(h:uN base w m s W)(hi:DmI rows cols room s)(k:Int):Calls jG 57 #[.pointer (some ⟨m.M,0,none⟩),.int .i64 k] W (vB base w m (vX s k)):=by
 have hr:=hi.r;have hc:=hi.c;have hc2:=hi.c2;have hin:=hi.n.inS hi.c2;have HR:=Hd h;have HI:=Hd hi;have HIN:=Hd (bF h hi.n.x0);have hwi:jP.wrap (inS s+1)=inS s+1:=jH _ qJ;have HBK:=Hd (yI h);unfold vX;rw[qJl,hi.n.colsS];have hy0:=hi.n.y0;clear h hi hr hc hc2 hin
 by_cases h0:k=0
 · subst h0;rw[if_pos rfl]
   go_enter Tryz.func57,Tryz.ntmps57
   go_upto_region 2 with fail
   obtain⟨c_D,-⟩:=HR.o.cellAt 0 (.pointer (some ⟨m.q.D,0,none⟩)) (fun _=>rfl);obtain⟨c_y,-⟩:=HR.o.cellAt 16 (.int .i64 s.y) (fun _=>rfl);have c_C:=HR.o.colsI HI.o;refine zU3 19 c_D c_y c_C ?_
   repeat first|refine zS ?_|refine zC0 (zC3 HIN.o) ?_|refine zC0 (zC3 HBK.o) ?_|refine zV ?_
   refine kU (fun w' hS=>?_);replace HR:=Hd (HR.o.post hS.1);clear hS c_D c_y c_C;have HER:=Hd (eM HR.o HI.o s.y (inS s) cols hy0)
   go_wp2_with(go_at_call 128;refine HER.o.mono ?_;rintro e w6 ⟨rfl,hp⟩;replace HR:=Hd hp;clear hp)
   go_end0
   exact⟨rfl,HR.o⟩
 rw[if_neg h0];have e0:(k==0)=false:=zb h0
 by_cases h1:k=1
 · subst h1;rw[if_pos rfl];clear h0 e0
   go_enter Tryz.func57,Tryz.ntmps57
   go_upto_region 4 with fail
   obtain⟨c_D,-⟩:=HR.o.cellAt 0 (.pointer (some ⟨m.q.D,0,none⟩)) (fun _=>rfl);obtain⟨c_y,-⟩:=HR.o.cellAt 16 (.int .i64 s.y) (fun _=>rfl);refine zU2 13 c_D c_y ?_
   repeat first|refine zS ?_|refine zC0 (zC2 HIN.o) ?_|refine zC0 (zC2 HBK.o) ?_|refine zV ?_
   refine kU (fun w' hS=>?_);replace HR:=Hd (HR.o.post hS.1);clear hS c_D c_y;have HER:=Hd (eM HR.o HI.o s.y 0 (inS s+1) hy0)
   go_wp2_with(go_at_call 128;refine HER.o.mono ?_;rintro e w6 ⟨rfl,hp⟩;replace HR:=Hd hp;clear hp)
   go_end0
   exact⟨rfl,HR.o⟩
 rw[if_neg h1];have e1:(k==1)=false:=zb h1
 by_cases h2:k=2
 · subst h2;rw[if_pos rfl];clear h0 e0 h1 e1
   go_enter Tryz.func57,Tryz.ntmps57
   go_upto_region 6 with fail
   obtain⟨c_D,-⟩:=HR.o.cellAt 0 (.pointer (some ⟨m.q.D,0,none⟩)) (fun _=>rfl);obtain⟨c_y,-⟩:=HR.o.cellAt 16 (.int .i64 s.y) (fun _=>rfl);have c_C:=HR.o.colsI HI.o;refine zU3 17 c_D c_y c_C ?_
   repeat first|refine zS ?_|refine zC0 (zC3 HBK.o) ?_|refine zV ?_
   refine kU (fun w' hS=>?_);replace HR:=Hd (HR.o.post hS.1);clear hS c_D c_y c_C;have HER:=Hd (eM HR.o HI.o s.y 0 cols hy0)
   go_wp2_with(go_at_call 128;refine HER.o.mono ?_;rintro e w6 ⟨rfl,hp⟩;replace HR:=Hd hp;clear hp)
   go_end0
   exact⟨rfl,HR.o⟩
 · rw[if_neg h2];have e2:(k==2)=false:=zb h2;clear h0 h1 h2
   go_enter Tryz.func57,Tryz.ntmps57
   go_wp2
   go_end0
   exact⟨rfl,HR.o⟩
theorem WP(hn:ScN rows cols room s)(k:Int)(hk:k=0∨k=1∨k=2):pV s k=pageK (if k=2 then s else vX s k) k rows:=by
 have h0:=hn.y0;have h1:=hn.y1;have hr:=hn.rowsS;rcases hk with rfl|rfl|rfl
 · show dE (vX s 0) (s.y+1) (rowsS s-(s.y+1)).toNat=dE (vX s 0) ((vX s 0).y+1) (rows-((vX s 0).y+1).toNat);rw[tN,hr]
   congr 1
   omega
 · show dE (vX s 1) 0 s.y.toNat=dE (vX s 1) 0 (min rows (vX s 1).y.toNat);rw[tN]
   congr 1
   omega
 · show dE s 0 (rowsS s).toNat=dE s 0 rows;rw[hr];rfl
theorem Ks(s:Sc)(kind:Int)(k:Nat):(pageK s kind k).y=s.y:=by
 unfold pageK
 split
 · exact VP _ _ _
 split
 · exact VP _ _ _
 · exact VP _ _ _
theorem DmI.pageK(hi:DmI rows cols room s)(kind:Int)(k:Nat):DmI rows cols room (pageK s kind k):=by
 unfold Go.Proofs.YtjcpdcncfjkejaaGreatDoor.pageK
 split
 · exact hi.to (hi.n.all _ _).1 qVk
 split
 · exact hi.to (hi.n.all _ _).1 qVk
 · exact hi.to (hi.n.all _ _).1 qVk
set_option maxHeartbeats 6400000 in
theorem oX(h:uN base w m s W)(hi:DmI rows cols room s)(k:Int):Calls jG 59 #[.pointer (some ⟨m.M,0,none⟩),.int .i64 k] W (vB base w m (pV s k)):=by
 have HR:=Hd h;have HI:=Hd hi;have hr:=hi.r
 by_cases h3:k=3
 · subst h3;have e:pV s 3={s with pg:=cO s.pg}:=rfl;rw[e];have HFO:=Hd (Zb h hi);obtain⟨c_D,-⟩:=h.cellAt 0 (.pointer (some ⟨m.q.D,0,none⟩)) (fun _=>rfl);clear h hi e hr
   go_enter Tryz.func59,Tryz.ntmps59
   go_wp2_with(go_at_call 130;refine HFO.o.mono ?_;rintro e w6 ⟨rfl,hp⟩;replace HR:=Hd hp;clear hp c_D)
   go_end0
   exact⟨rfl,HR.o⟩
 have e3:(k==3)=false:=zb h3
 by_cases hk:k=0∨k=1∨k=2
 rotate_left
 · have e:pV s k=s:=by unfold pV;rw[if_neg qJ,if_neg qJ,if_neg qJ,if_neg h3]
   rw[e];clear h hi e hr h3
   by_cases hneg:k<0
   · clear hk
     go_enter Tryz.func59,Tryz.ntmps59
     go_wp2
     go_end0
     exact⟨rfl,HR.o⟩
   · have hk2:2<k:=by omega
     clear hk
     go_enter Tryz.func59,Tryz.ntmps59
     go_wp2
     go_end0
     exact⟨rfl,HR.o⟩
 rw[WP hi.n k hk];have HEL:=Hd (iI h hi k);obtain⟨s1,hs1⟩:∃s1,(if k=2 then s else vX s k)=s1:=⟨_,rfl⟩;rw[hs1];have hI1:DmI rows cols room s1:=by
  rw[←hs1]
  split
  · exact hi
  · exact hi.to (hi.n.eraseLine k).1 (by rw[(hi.n.eraseLine k).2];exact hi.t)
 have HI1:=Hd hI1;have HS1:=Hd hs1;have HSUC:Hid (∀i:Nat,pageK s1 k (i+1)=if k=2∨(k=0∧s1.y<i)∨(k=1∧(i:Int)<s1.y)then cJ (pageK s1 k i) i 0 cols else pageK s1 k i):=Hd (fun i=>by
  rw[YK hI1.n k hk i,hI1.n.colsS])
 clear hs1 hI1 h3 e3 h hi;rcases hk with rfl|rfl|rfl
 · replace HEL:Hid (Calls jG 57 #[.pointer (some ⟨m.M,0,none⟩),.int .i64 0] W (vB base w m s1)):=Hd (by rw[←HS1.o,if_neg qZ];exact HEL.o);clear HS1 HI
   go_enter Tryz.func59,Tryz.ntmps59
   go_wp2_with(go_at_call 57;refine HEL.o.mono ?_;rintro e w6 ⟨rfl,hp⟩;replace HR:=Hd hp;clear hp)
   rename World=>W4
   go_loopw [4] (fun s4 wr=>∃i:Nat,s4=.int .i64 i∧i≤rows∧uN base w m (pageK s1 0 i) wr) (fun s4 _=>rows-(intOf s4).toNat)
   case atStart=>
    refine⟨0,rfl,kT _,?_⟩;have e:pageK s1 0 0=s1:=by unfold pageK;simp;rfl
    rw[e];exact HR.o
   case round=>
    obtain⟨i,rfl,hi,hs⟩:=hrel;replace HR:=Hd hs;have HI:=Hd (HI1.o.pageK 0 i);have HTY:=Hd (Ks s1 0 i);have hwi:jP.wrap ((i:Int)+1)=(i:Int)+1:=jH _ qJ;obtain⟨t,hte⟩:∃t,pageK s1 0 i=t:=⟨_,rfl⟩;rw[hte]at HR HI HTY;have HTE:=Hd hte;clear hs hte;have HRW:=Hd (zB HR.o HI.o);obtain⟨c_D,-⟩:=HR.o.cellAt 0 (.pointer (some ⟨m.q.D,0,none⟩)) (fun _=>rfl)
    by_cases hlt:i<rows
    rotate_left
    · have hltI:¬(i:Int)<(rows:Int):=by omega
      obtain rfl:i=rows:=by omega
      go_wp2_with(go_at_call 87;refine HRW.o.here.mono ?_;rintro e w4 ⟨rfl,hb⟩;replace HR:=Hd (HR.o.post hb);clear hb c_D)
      go_end0
      exact⟨rfl,by rw[HTE.o];exact HR.o⟩
    · have hltI:(i:Int)<(rows:Int):=by omega
      go_upto_region 8 with(go_at_call 87;refine HRW.o.here.mono ?_;rintro e w4 ⟨rfl,hb⟩;replace HR:=Hd (HR.o.post hb);clear hb c_D)
      rename World=>W6
      by_cases hyi:s1.y<(i:Int)
      · have HYI:=Hd hyi;obtain⟨c_y,-⟩:=HR.o.cellAt 16 (.int .i64 t.y) (fun _=>rfl);rw[HTY.o]at c_y
        go_upto_region 9 with fail
        clear c_y;have HBK:=Hd (yI HR.o);obtain⟨c_D,-⟩:=HR.o.cellAt 0 (.pointer (some ⟨m.q.D,0,none⟩)) (fun _=>rfl);have c_C:=HR.o.colsI HI.o;refine zU2 14 c_D c_C ?_
        repeat first|refine zS ?_|refine zC0 (zC2 HBK.o) ?_|refine zV ?_
        refine kU (fun w' hS=>?_);replace HR:=Hd (HR.o.post hS.1);clear hS c_D c_C;have HER:=Hd (eM HR.o HI.o (i:Int) 0 cols qJ)
        go_wp2_with(go_at_call 128;refine HER.o.mono ?_;rintro e w6 ⟨rfl,hp⟩;replace HR:=Hd hp;clear hp)
        go_roundw
        case rel=>
         refine⟨i+1,by go_num,by omega,?_⟩;rw[HSUC.o i,if_pos (by first|exact(.inr (.inl ⟨rfl,HYI.o⟩))|exact(.inr (.inl ⟨trivial,HYI.o⟩))),HTE.o];exact HR.o
        case measure=>exact zm
      · have HYI:=Hd hyi;obtain⟨c_y,-⟩:=HR.o.cellAt 16 (.int .i64 t.y) (fun _=>rfl);rw[HTY.o]at c_y
        go_wp2
        go_roundw
        case rel=>
         refine⟨i+1,by go_num,by omega,?_⟩;rw[HSUC.o i,if_neg (by have :=HYI.o;omega),HTE.o];exact HR.o
        case measure=>exact zm
 · replace HEL:Hid (Calls jG 57 #[.pointer (some ⟨m.M,0,none⟩),.int .i64 1] W (vB base w m s1)):=Hd (by rw[←HS1.o,if_neg qZ];exact HEL.o);clear HS1 HI
   go_enter Tryz.func59,Tryz.ntmps59
   go_wp2_with(go_at_call 57;refine HEL.o.mono ?_;rintro e w6 ⟨rfl,hp⟩;replace HR:=Hd hp;clear hp)
   rename World=>W4
   go_loopw [4] (fun s4 wr=>∃i:Nat,s4=.int .i64 i∧i≤rows∧uN base w m (pageK s1 1 i) wr) (fun s4 _=>rows-(intOf s4).toNat)
   case atStart=>
    refine⟨0,rfl,kT _,?_⟩;have e:pageK s1 1 0=s1:=by unfold pageK;simp;rfl
    rw[e];exact HR.o
   case round=>
    obtain⟨i,rfl,hi,hs⟩:=hrel;replace HR:=Hd hs;have HI:=Hd (HI1.o.pageK 1 i);have HTY:=Hd (Ks s1 1 i);have hwi:jP.wrap ((i:Int)+1)=(i:Int)+1:=jH _ qJ;obtain⟨t,hte⟩:∃t,pageK s1 1 i=t:=⟨_,rfl⟩;rw[hte]at HR HI HTY;have HTE:=Hd hte;clear hs hte;have HRW:=Hd (zB HR.o HI.o);obtain⟨c_D,-⟩:=HR.o.cellAt 0 (.pointer (some ⟨m.q.D,0,none⟩)) (fun _=>rfl)
    by_cases hlt:i<rows
    rotate_left
    · have hltI:¬(i:Int)<(rows:Int):=by omega
      obtain rfl:i=rows:=by omega
      go_wp2_with(go_at_call 87;refine HRW.o.here.mono ?_;rintro e w4 ⟨rfl,hb⟩;replace HR:=Hd (HR.o.post hb);clear hb c_D)
      go_end0
      exact⟨rfl,by rw[HTE.o];exact HR.o⟩
    · have hltI:(i:Int)<(rows:Int):=by omega
      go_upto_region 8 with(go_at_call 87;refine HRW.o.here.mono ?_;rintro e w4 ⟨rfl,hb⟩;replace HR:=Hd (HR.o.post hb);clear hb c_D)
      rename World=>W6
      by_cases hyi:(i:Int)<s1.y
      · have HYI:=Hd hyi;obtain⟨c_y,-⟩:=HR.o.cellAt 16 (.int .i64 t.y) (fun _=>rfl);rw[HTY.o]at c_y
        go_upto_region 9 with fail
        clear c_y;have HBK:=Hd (yI HR.o);obtain⟨c_D,-⟩:=HR.o.cellAt 0 (.pointer (some ⟨m.q.D,0,none⟩)) (fun _=>rfl);have c_C:=HR.o.colsI HI.o;refine zU2 14 c_D c_C ?_
        repeat first|refine zS ?_|refine zC0 (zC2 HBK.o) ?_|refine zV ?_
        refine kU (fun w' hS=>?_);replace HR:=Hd (HR.o.post hS.1);clear hS c_D c_C;have HER:=Hd (eM HR.o HI.o (i:Int) 0 cols qJ)
        go_wp2_with(go_at_call 128;refine HER.o.mono ?_;rintro e w6 ⟨rfl,hp⟩;replace HR:=Hd hp;clear hp)
        go_roundw
        case rel=>
         refine⟨i+1,by go_num,by omega,?_⟩;rw[HSUC.o i,if_pos (by first|exact(.inr (.inr ⟨rfl,HYI.o⟩))|exact(.inr (.inr ⟨trivial,HYI.o⟩))),HTE.o];exact HR.o
        case measure=>exact zm
      · have HYI:=Hd hyi;obtain⟨c_y,-⟩:=HR.o.cellAt 16 (.int .i64 t.y) (fun _=>rfl);rw[HTY.o]at c_y
        go_wp2
        go_roundw
        case rel=>
         refine⟨i+1,by go_num,by omega,?_⟩;rw[HSUC.o i,if_neg (by have :=HYI.o;omega),HTE.o];exact HR.o
        case measure=>exact zm
 · replace HR:Hid (uN base w m s1 W):=Hd (by rw[←HS1.o,if_pos rfl];exact HR.o);clear HS1 HEL HI
   go_enter Tryz.func59,Tryz.ntmps59
   go_wp2_with fail
   rename World=>W4
   go_loopw [4] (fun s4 wr=>∃i:Nat,s4=.int .i64 i∧i≤rows∧uN base w m (pageK s1 2 i) wr) (fun s4 _=>rows-(intOf s4).toNat)
   case atStart=>
    refine⟨0,rfl,kT _,?_⟩;have e:pageK s1 2 0=s1:=by unfold pageK;simp;rfl
    rw[e];exact HR.o
   case round=>
    obtain⟨i,rfl,hi,hs⟩:=hrel;replace HR:=Hd hs;have HI:=Hd (HI1.o.pageK 2 i);have HTY:=Hd (Ks s1 2 i);have hwi:jP.wrap ((i:Int)+1)=(i:Int)+1:=jH _ qJ;obtain⟨t,hte⟩:∃t,pageK s1 2 i=t:=⟨_,rfl⟩;rw[hte]at HR HI HTY;have HTE:=Hd hte;clear hs hte;have HRW:=Hd (zB HR.o HI.o);obtain⟨c_D,-⟩:=HR.o.cellAt 0 (.pointer (some ⟨m.q.D,0,none⟩)) (fun _=>rfl)
    by_cases hlt:i<rows
    rotate_left
    · have hltI:¬(i:Int)<(rows:Int):=by omega
      obtain rfl:i=rows:=by omega
      go_wp2_with(go_at_call 87;refine HRW.o.here.mono ?_;rintro e w4 ⟨rfl,hb⟩;replace HR:=Hd (HR.o.post hb);clear hb c_D)
      go_end0
      exact⟨rfl,by rw[HTE.o];exact HR.o⟩
    · have hltI:(i:Int)<(rows:Int):=by omega
      go_upto_region 8 with(go_at_call 87;refine HRW.o.here.mono ?_;rintro e w4 ⟨rfl,hb⟩;replace HR:=Hd (HR.o.post hb);clear hb c_D)
      rename World=>W6
      go_upto_region 9 with fail
      skip
      have HBK:=Hd (yI HR.o);obtain⟨c_D,-⟩:=HR.o.cellAt 0 (.pointer (some ⟨m.q.D,0,none⟩)) (fun _=>rfl);have c_C:=HR.o.colsI HI.o;refine zU2 14 c_D c_C ?_
      repeat first|refine zS ?_|refine zC0 (zC2 HBK.o) ?_|refine zV ?_
      refine kU (fun w' hS=>?_);replace HR:=Hd (HR.o.post hS.1);clear hS c_D c_C;have HER:=Hd (eM HR.o HI.o (i:Int) 0 cols qJ)
      go_wp2_with(go_at_call 128;refine HER.o.mono ?_;rintro e w6 ⟨rfl,hp⟩;replace HR:=Hd hp;clear hp)
      go_roundw
      case rel=>
       refine⟨i+1,by go_num,by omega,?_⟩;rw[HSUC.o i,if_pos (by first|exact(.inl rfl)|exact(.inl trivial)),HTE.o];exact HR.o
      case measure=>exact zm
end
end Go.Proofs.YtjcpdcncfjkejaaGreatDoor
