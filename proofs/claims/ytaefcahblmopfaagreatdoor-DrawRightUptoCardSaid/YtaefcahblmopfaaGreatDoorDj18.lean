/- Joined by a tool of this claim out of smaller texts. Conditions: as stated. -/
import Derived.Test.YtaefcahblmopfaaGreatDoorDj17
import Derived.Deep.Slices
import Derived.Deep.Fields
import Derived.ChangeSame
import Derived.ProofKit
set_option linter.unusedVariables false
set_option linter.unusedSimpArgs false
set_option maxRecDepth 100000
open Go.Lib renaming hid → Hd
open List renaming setIfInBounds_toArray → jZ, set_cons_zero → jX, set_cons_succ → jY, mem_singleton → jM, getElem?_eq_getElem → jN, drop_succ_cons → jL, take_succ_cons → jS, drop_zero → jO, take_succ_eq_append_getElem → kQ, take_zero → kK, mem_append → kU, getElem?_append_right → kI, getElem?_eq_none → uZ, mem_of_getElem? → uB, getElem?_append_left → uD, take_of_length_le → vY
open Go.Proofs.Tryz renaming prog → jG
open Go.RowKit.Below renaming refl → jU
open Nat renaming le_refl → jD, zero_le → kM, zero_add → kP, add_zero → uA
open Go.IntWalk renaming i64_in → jF
open Go.IntKind renaming i64 → jE
open ByteArray renaming empty → kH
namespace Go.Proofs.YtaefcahblmopfaaGreatDoor
open Go.RowKit
theorem KN{w:World}{A:Option Addr}{l:List Cl}(h:pT kV 8 w A l):zL w A l:=fun h0=>by
 obtain⟨b,off,hA,hc⟩:=h h0;refine⟨b,off,hA,fun i c hi=>?_⟩;have :=hc i c hi;exact⟨this 0 _ rfl,this 1 _ rfl,this 2 _ rfl,this 3 _ rfl,this 4 _ rfl,this 5 _ rfl,this 6 _ rfl,this 7 _ rfl⟩
def Ok7(c:Cl):Prop:=c.half=3∨wV c
theorem aW{P:Cl→Prop}{l:List Cl}{k:Nat}(h:∀c∈l.take k,P c)(hk:k<l.length)(hp:P l[k]):∀c∈l.take (k+1),P c:=fun c hc=>by
 rw[kQ hk]at hc;rcases kU.1 hc with h'|h'
 · exact h c h'
 · rw[jM.1 h'];exact hp
theorem Uq{r:Int}(h:vB r=2):r≠0:=by
 rintro rfl
 revert h
 decide
def qVx(l:List Cl)(w:World)(e:Ending)(w':World):Prop:=∃t:Bool,e=.returned (.bool t)∧(t=true→uJ l=l∧∀c∈l,Ok7 c)∧Below w.heap.size w w'
set_option maxHeartbeats 6400000 in
theorem Vd(A:Option Addr)(l:List Cl)(ca:Nat)(w:World)(hl:zL w A l)(h0:0<l.length)(hz:l.length≤1000)(hmz:∀c∈l,c.more.size≤1048576):
 Calls jG 31 #[.slice A l.length ca] w (qVx l w):=by
 have HM:=Hd (Jv A l ca w (iW hl) h0 qJ);have HL:=Hd hl;have HMZ:=Hd hmz;have hml:=uL l;clear hl hmz;have HS:Hid (∀(g cap:Nat) (w1:World),CrO w1 w.heap.size g cap (uJ l)→Below w.heap.size w w1→Calls jG 57 #[.slice (some ⟨g,0,none⟩) l.length cap,.slice A l.length ca] w1 fun e w2=>e=.returned (.bool (decide (uJ l=l)))∧Below w1.heap.size w1 w2):=Hd (fun g cap w1 hc hb=>by
  have :=hZ _ _ _ _ cap ca w1 (KN (nN hc)) (HL.o.below hb) (by rw[hml];omega) qJ
  rwa[hml]at this)
 by_cases hm:uJ l=l
 · rw[show decide (uJ l=l)=true from decide_eq_true hm]at HS;have HMM:=Hd hm;clear hm
   go_enter Tryz.func31,Tryz.ntmps31
   go_wp2_with(first|(go_at_call 30;(with_reducible refine HM.o.mono ?_);rintro e w1 ⟨g,cap,rfl,hcr,hb1⟩)|(go_at_call 57;(with_reducible refine(HS.o g cap _ hcr hb1).mono ?_);rintro e w2 ⟨rfl,hb2⟩;have HB2:=Hd (jW hb1 hb2);clear hcr hb1 hb2))
   go_loopw [3] (fun i wr=>∃k:Nat,k≤l.length∧i=.int .i64 k∧(∀c∈l.take k,Ok7 c)∧Below w.heap.size w wr) (fun i _=>l.length-(intOf i).toNat)
   case atStart=>exact⟨0,kM _,rfl,by simp,HB2.o⟩
   case round=>
    obtain⟨k,hk,rfl,hok,hB⟩:=hrel;have HOK:=Hd hok;clear hok
    by_cases hlt:k<l.length
    · obtain⟨b,off,rfl,hcl⟩:=HL.o h0;have hr:=(hcl k _ (jN hlt)).below hB;have hmz:=HMZ.o _ (List.getElem_mem hlt);have HT:=Hd (fun hp=>aW (P:=Ok7) HOK.o hlt hp);clear hcl;generalize l[k]=c at hr hmz HT;obtain⟨r0,r1,r2,r3,r4,r5,r6,r7⟩:=hr;obtain⟨cr,cm,ch,c3,c4,c5,c6,c7⟩:=c;simp only at r0 r1 r2 r3 r4 r5 r6 r7 hmz;have HW:=Hd (fun w=>xM cr w);have HK:=Hd (fun w=>Vl cm hmz w);have HBX:=Hd (jH hB (.cells #[.int .i32 cr,.string cm,.int .i64 ch,.int .i64 c3,.int .i64 c4,.int .i64 c5,.int .i64 c6,.int .i64 c7] 65));clear hmz
      by_cases hA:ch=0
      · subst hA
        by_cases hr:cr=0
        · subst hr
          by_cases hm:cm=kH
          · subst hm
            go_wp2_with(go_at_call 58;(with_reducible refine(HW.o _).mono ?_);rintro e w3 ⟨rfl,hb3⟩;have x0:=(uY hb3 (jT rfl) 0 _ rfl).1;have x1:=(uY hb3 (jT rfl) 1 _ rfl).1;have x2:=(uY hb3 (jT rfl) 2 _ rfl).1;have HB3:=Hd (jW HBX.o hb3);clear hb3)
            all_goals
             first
             |(go_ret;exact⟨_,rfl,fun h=>by simp at h,HB3.o⟩)
             |(go_roundw
               case rel=>exact⟨k+1,by omega,by go_num,HT.o (.inr (.inl ⟨rfl,rfl,rfl⟩)),HB3.o⟩
               case measure=>simp[intOf];omega)
          · have hcm2:¬cm.toList=[]:=fun e=>hm (WideShapes.bytes_inj (by rw[←ByteArray.toList_eq cm,e];rfl));have hcm:cm.toList.isEmpty=false:=by rw[List.isEmpty_eq_false_iff];exact hcm2
            go_wp2_with(go_at_call 58;(with_reducible refine(HW.o _).mono ?_);rintro e w3 ⟨rfl,hb3⟩;have x0:=(uY hb3 (jT rfl) 0 _ rfl).1;have x1:=(uY hb3 (jT rfl) 1 _ rfl).1;have x2:=(uY hb3 (jT rfl) 2 _ rfl).1;have HB3:=Hd (jW HBX.o hb3);clear hb3)
            all_goals
             first
             |(go_ret;exact⟨_,rfl,fun h=>by simp at h,HB3.o⟩)
        · by_cases hw:vB cr=1
          · have HR:=Hd hw;rw[hw]at HW;clear hw
            go_wp2_with(first|(go_at_call 58;(with_reducible refine(HW.o _).mono ?_);rintro e w3 ⟨rfl,hb3⟩;have x0:=(uY hb3 (jT rfl) 0 _ rfl).1;have x1:=(uY hb3 (jT rfl) 1 _ rfl).1;have x2:=(uY hb3 (jT rfl) 2 _ rfl).1;have HB3:=Hd (jW HBX.o hb3);clear hb3)|(go_at_call 59;(with_reducible refine(HK.o _).mono ?_);rintro e w4 ⟨t,rfl,ht,hb4⟩;have HT4:=Hd ht;clear ht;cases t))
            all_goals
             first
             |(go_ret;exact⟨_,rfl,fun h=>by simp at h,jW HB3.o hb4⟩)
             |(go_roundw
               case rel=>exact⟨k+1,by omega,by go_num,HT.o (.inr (.inr ⟨hr,HT4.o qXa,.inl ⟨rfl,HR.o⟩⟩)),jW HB3.o hb4⟩
               case measure=>simp[intOf];omega)
          · go_wp2_with(go_at_call 58;(with_reducible refine(HW.o _).mono ?_);rintro e w3 ⟨rfl,hb3⟩;have x0:=(uY hb3 (jT rfl) 0 _ rfl).1;have x1:=(uY hb3 (jT rfl) 1 _ rfl).1;have x2:=(uY hb3 (jT rfl) 2 _ rfl).1;have HB3:=Hd (jW HBX.o hb3);clear hb3)
            all_goals
             first
             |(go_ret;exact⟨_,rfl,fun h=>by simp at h,HB3.o⟩)
      by_cases hB1:ch=1
      · subst hB1
        by_cases hw:vB cr=2
        · have HR:=Hd hw;rw[hw]at HW;clear hw
          go_wp2_with(first|(go_at_call 58;(with_reducible refine(HW.o _).mono ?_);rintro e w3 ⟨rfl,hb3⟩;have x0:=(uY hb3 (jT rfl) 0 _ rfl).1;have x1:=(uY hb3 (jT rfl) 1 _ rfl).1;have x2:=(uY hb3 (jT rfl) 2 _ rfl).1;have HB3:=Hd (jW HBX.o hb3);clear hb3)|(go_at_call 59;(with_reducible refine(HK.o _).mono ?_);rintro e w4 ⟨t,rfl,ht,hb4⟩;have HT4:=Hd ht;clear ht;cases t))
          all_goals
           first
           |(go_ret;exact⟨_,rfl,fun h=>by simp at h,jW HB3.o hb4⟩)
           |(go_roundw
             case rel=>exact⟨k+1,by omega,by go_num,HT.o (.inr (.inr ⟨Uq HR.o,HT4.o qXa,.inr (.inl ⟨rfl,HR.o⟩)⟩)),jW HB3.o hb4⟩
             case measure=>simp[intOf];omega)
        · go_wp2_with(go_at_call 58;(with_reducible refine(HW.o _).mono ?_);rintro e w3 ⟨rfl,hb3⟩;have x0:=(uY hb3 (jT rfl) 0 _ rfl).1;have x1:=(uY hb3 (jT rfl) 1 _ rfl).1;have x2:=(uY hb3 (jT rfl) 2 _ rfl).1;have HB3:=Hd (jW HBX.o hb3);clear hb3)
          all_goals
           first
           |(go_ret;exact⟨_,rfl,fun h=>by simp at h,HB3.o⟩)
      by_cases hB2:ch=2
      · subst hB2
        by_cases hw:vB cr=2
        · have HR:=Hd hw;rw[hw]at HW;clear hw
          go_wp2_with(first|(go_at_call 58;(with_reducible refine(HW.o _).mono ?_);rintro e w3 ⟨rfl,hb3⟩;have x0:=(uY hb3 (jT rfl) 0 _ rfl).1;have x1:=(uY hb3 (jT rfl) 1 _ rfl).1;have x2:=(uY hb3 (jT rfl) 2 _ rfl).1;have HB3:=Hd (jW HBX.o hb3);clear hb3)|(go_at_call 59;(with_reducible refine(HK.o _).mono ?_);rintro e w4 ⟨t,rfl,ht,hb4⟩;have HT4:=Hd ht;clear ht;cases t))
          all_goals
           first
           |(go_ret;exact⟨_,rfl,fun h=>by simp at h,jW HB3.o hb4⟩)
           |(go_roundw
             case rel=>exact⟨k+1,by omega,by go_num,HT.o (.inr (.inr ⟨Uq HR.o,HT4.o qXa,.inr (.inr ⟨rfl,HR.o⟩)⟩)),jW HB3.o hb4⟩
             case measure=>simp[intOf];omega)
        · go_wp2_with(go_at_call 58;(with_reducible refine(HW.o _).mono ?_);rintro e w3 ⟨rfl,hb3⟩;have x0:=(uY hb3 (jT rfl) 0 _ rfl).1;have x1:=(uY hb3 (jT rfl) 1 _ rfl).1;have x2:=(uY hb3 (jT rfl) 2 _ rfl).1;have HB3:=Hd (jW HBX.o hb3);clear hb3)
          all_goals
           first
           |(go_ret;exact⟨_,rfl,fun h=>by simp at h,HB3.o⟩)
      by_cases hC:ch=3
      · subst hC
        go_wp2_with(go_at_call 58;(with_reducible refine(HW.o _).mono ?_);rintro e w3 ⟨rfl,hb3⟩;have x0:=(uY hb3 (jT rfl) 0 _ rfl).1;have x1:=(uY hb3 (jT rfl) 1 _ rfl).1;have x2:=(uY hb3 (jT rfl) 2 _ rfl).1;have HB3:=Hd (jW HBX.o hb3);clear hb3)
        all_goals
         first
         |(go_ret;exact⟨_,rfl,fun h=>by simp at h,HB3.o⟩)
         |(go_roundw
           case rel=>exact⟨k+1,by omega,by go_num,HT.o (.inl rfl),HB3.o⟩
           case measure=>simp[intOf];omega)
      go_wp2_with(go_at_call 58;(with_reducible refine(HW.o _).mono ?_);rintro e w3 ⟨rfl,hb3⟩;have x0:=(uY hb3 (jT rfl) 0 _ rfl).1;have x1:=(uY hb3 (jT rfl) 1 _ rfl).1;have x2:=(uY hb3 (jT rfl) 2 _ rfl).1;have HB3:=Hd (jW HBX.o hb3);clear hb3)
      all_goals
       first
       |(go_ret;exact⟨_,rfl,fun h=>by simp at h,HB3.o⟩)
    · obtain rfl:k=l.length:=by omega
      rw[List.take_length]at HOK
      go_wp2
      go_ret
      exact⟨_,rfl,fun _=>⟨HMM.o,HOK.o⟩,hB⟩
 · rw[show decide (uJ l=l)=false from decide_eq_false hm]at HS;clear hm
   go_enter Tryz.func31,Tryz.ntmps31
   go_wp2_with(first|(go_at_call 30;(with_reducible refine HM.o.mono ?_);rintro e w1 ⟨g,cap,rfl,hcr,hb1⟩)|(go_at_call 57;(with_reducible refine(HS.o g cap _ hcr hb1).mono ?_);rintro e w2 ⟨rfl,hb2⟩))
   go_ret
   exact⟨_,rfl,fun h=>by simp at h,jW hb1 hb2⟩
theorem qJd(s:ByteArray):strOfNums (yD s)=s:=by
 unfold strOfNums yD;obtain⟨d⟩:=s
 congr 1
 rw[List.map_map];have :((fun n:Int=>UInt8.ofNat n.toNat) ∘ fun b:UInt8=>((b.toNat:Nat):Int))=id:=by
  funext b
  simp
 rw[this,List.map_id]
theorem qKj{xs:List Int}(hx:∀x∈xs,0≤x∧x<256)(hw:∀r∈rB xs,vB r=0)(hz:(strOfNums xs).size≤32):fD (strOfNums xs):=by
 have hb:65533∉rB xs:=fun h=>by
  have :=hw _ h;rw[XX]at this;cases this
 obtain⟨h1,h2⟩:=UD (fun x hm=>by have :=hx x hm;omega) hb;exact⟨rB xs,fun r hr=>⟨h2 r hr,hw r hr⟩,congrArg strOfNums h1,hz⟩
set_option maxHeartbeats 1600000 in
theorem Zx(s:ByteArray)(w:World):Calls jG 163 #[.string s] w (KI s w):=by
 obtain⟨xs,hxs⟩:∃xs,xs=yD s:=⟨_,rfl⟩;have hxr:=lQ s;rw[←hxs]at hxr;have hs:s=strOfNums xs:=by rw[hxs,qJd]
 rw[hs];clear hxs hs s;have hsz:=gJ xs
 by_cases hbig:32<(strOfNums xs).size
 · clear hxr hsz
   go_enter Tryz.func163,Tryz.ntmps163
   go_wp2
   go_ret
   exact⟨false,rfl,fun h=>(by cases h),by repeat(first|exact jU _ _|refine jH ?_ _)⟩
 obtain⟨L,hL⟩:∃L,L=rB xs:=⟨_,rfl⟩;have hll:=allG_le xs;rw[←hL]at hll;have hl65:L.length≤65:=by omega
 have HLL:=Hd hL;have HSZ:=Hd hsz;have HXR:=Hd hxr;have hcv:=mA (strOfNums xs) w;have HBI:=Hd (Qb w 5 xs hxr);have HBB:=Hd (dH w 5 (strOfNums xs));clear hL hsz hxr hll;have HA:Hid (∀(c:Nat) (w1:World),qZb w1 (some ⟨w.heap.size,0,none⟩) xs→Calls jG 256 #[.slice (some ⟨w.heap.size,0,none⟩) (strOfNums xs).size c] w1 (eM L w1)):=Hd (fun c w1 hb=>by
  rw[HSZ.o];exact WI _ xs L c w1 HLL.o (fun x hx=>by have :=HXR.o x hx;omega) (by have :=HSZ.o;omega) qJ hb)
 generalize Lib.bytesWorld w 5 (strOfNums xs)=wb at hcv HBI HBB
 go_enter Tryz.func163,Tryz.ntmps163
 go_wp2_with(go_at_call 256;(with_reducible refine(HA.o _ _ HBI.o).mono ?_);rintro e w1 ⟨v,rfl,ho,hb1⟩;obtain⟨A,c,rfl,hA⟩:=xP ho;have HB1:=Hd (jW HBB.o hb1);clear hb1 ho)
 have hAA:=Hd hA;clear hA
 go_loopw [3,13] (fun n i wr=>∃(k:Nat) (q:Int),k≤L.length∧i=.int .i64 k∧n=.int .i64 q∧0≤q∧q≤32*k∧(∀r∈L.take k,vB r=0)∧Below w.heap.size w wr∧Below w1.heap.size w1 wr) (fun _ i _=>L.length-(intOf i).toNat)
 case atStart=>exact⟨0,0,kM _,rfl,rfl,by omega,by omega,fun r hr=>by simp at hr,HB1.o,jU _ _⟩
 case round=>
  obtain⟨k,q,hk,rfl,rfl,hq0,hq1,hwd,hB,hb⟩:=hrel;have HWD:=Hd hwd;clear hwd
  by_cases hlt:k<L.length
  · obtain⟨g,rfl,hc0⟩:=hAA.o k _ (jN hlt);have hc:=kZ hb hc0;have HT:Hid (vB L[k]=0→∀r∈L.take (k+1),vB r=0):=Hd (fun h r hr=>by
     rw[kQ hlt]at hr;rcases kU.1 hr with hr|hr
     · exact HWD.o r hr
     · rw[jM.1 hr];exact h)
    clear hc0;generalize L[k]=r at hc HT;have HW:=Hd (fun w=>cT r w);have HU:=Hd (fun w=>lO r w);have hp32:=iY r
    by_cases hw0:vB r=0
    · rw[hw0]at HW;have HT2:=Hd (HT.o hw0);have hw2:jE.wrap (q+((vD r).size:Nat))=q+((vD r).size:Nat):=jF _ qJ;clear hw0
      go_wp2_with(first|(go_at_call 162;(with_reducible refine(HW.o _).mono ?_);rintro e w2 ⟨rfl,hb2⟩)|(go_at_call 102;(with_reducible refine(HU.o _).mono ?_);rintro e w3 ⟨rfl,hb3⟩))
      go_roundw
      case rel=>exact⟨k+1,_,by omega,by go_num,rfl,by omega,by omega,HT2.o,jW (jW hB hb2) hb3,jW (jW hb hb2) hb3⟩
      case measure=>simp[intOf];omega
    · generalize vB r=wd at HW hw0
      go_wp2_with(go_at_call 162;(with_reducible refine(HW.o _).mono ?_);rintro e w2 ⟨rfl,hb2⟩)
      go_ret
      exact⟨false,rfl,fun h=>(by cases h),jW hB hb2⟩
  · obtain rfl:k=L.length:=by omega
    have HM:Hid (fD (strOfNums xs)):=Hd (qKj HXR.o (fun r hr=>HWD.o r (by rw[List.take_length,HLL.o];exact hr)) qJ)
    go_wp2
    go_ret
    exact⟨_,rfl,fun _=>HM.o,hB⟩
theorem qVr{s:ByteArray}(h:s.toList=[]):s=kH:=by
 rw[Lib.toList_data]at h;obtain⟨d⟩:=s;have :d=#[]:=by simpa using h
 rw[this];rfl
def xZ(c:Cl):Prop:=(c.r=0∧c.more=kH∧c.half≠1∧c.half≠2)∨(c.r≠0∧fD c.more∧(c.half=0∧vB c.r=1∨c.half=1∧vB c.r=2∨c.half=2∧vB c.r=2))
def XT(c:Cl)(w:World)(e:Ending)(w':World):Prop:=∃t:Bool,e=.returned (.bool t)∧(t=true→xZ c)∧Below w.heap.size w w'
set_option maxHeartbeats 1600000 in
theorem UY(c:Cl)(w:World):Calls jG 92 #[clV c] w (XT c w):=by
 obtain⟨r,more,half,fk,fn,bk,bn,fl⟩:=c;unfold clV XT;have HM:=Hd (fun w=>Zx more w);have HW:=Hd (fun w=>cT r w)
 by_cases hr:r=0
 · subst hr;clear HM HW;have hcase:half=1∨half=2∨half=0∨(¬half=1∧¬half=2∧¬half=0):=by omega
   rcases hcase with rfl|rfl|rfl|⟨h1,h2,h3⟩
   · go_enter Tryz.func92,Tryz.ntmps92
     go_wp2
     all_goals
      go_ret
      exact qXu
   · go_enter Tryz.func92,Tryz.ntmps92
     go_wp2
     all_goals
      go_ret
      exact qXu
   · go_enter Tryz.func92,Tryz.ntmps92
     go_wp2
     all_goals
      go_ret
      refine⟨_,rfl,fun h=>?_,by repeat(first|exact jU _ _|refine jH ?_ _)⟩
      first
      |exact .inl ⟨rfl,qVr qZu,by show ¬(0:Int)=1;omega,by show ¬(0:Int)=2;omega⟩
      |exact absurd h qV
   · go_enter Tryz.func92,Tryz.ntmps92
     go_wp2
     all_goals
      go_ret
      refine⟨_,rfl,fun h=>?_,by repeat(first|exact jU _ _|refine jH ?_ _)⟩
      first
      |exact .inl ⟨rfl,qVr qZu,h1,h2⟩
      |exact absurd h qV
 · have hcase:half=1∨half=2∨half=0∨(¬half=1∧¬half=2∧¬half=0):=by omega
   obtain⟨wd,hwd⟩:∃wd,vB r=wd:=⟨_,rfl⟩;rw[hwd]at HW;have HWD:=Hd hwd;have HR:=Hd hr;clear hwd;rcases hcase with rfl|rfl|rfl|⟨h1,h2,h3⟩
   · by_cases hk:wd=2
     · subst hk
       go_enter Tryz.func92,Tryz.ntmps92
       go_wp2_with(first|(go_at_call 162;(with_reducible refine(HW.o _).mono ?_);rintro e w1 ⟨rfl,hb1⟩;have e1:=(uY hb1 (jT rfl) 1 _ rfl).1;have hB1:=jW (show Below w.heap.size w _ from by repeat(first|exact jU _ _|refine jH ?_ _)) hb1)|(go_at_call 163;(with_reducible refine(HM.o _).mono ?_);rintro e w2 ⟨tm,rfl,htm,hb2⟩))
       all_goals
        go_ret
        refine⟨_,rfl,fun h=>?_,jW hB1 hb2⟩
        first
        |exact .inr ⟨HR.o,htm qD,.inr (.inl ⟨rfl,HWD.o⟩)⟩
        |exact .inr ⟨HR.o,htm qZu,.inr (.inl ⟨rfl,HWD.o⟩)⟩
        |exact absurd h qV
     · have hkb:(wd==2)=false:=by simp[hk]
       go_enter Tryz.func92,Tryz.ntmps92
       go_wp2_with(go_at_call 162;(with_reducible refine(HW.o _).mono ?_);rintro e w1 ⟨rfl,hb1⟩;have hB1:=jW (show Below w.heap.size w _ from by repeat(first|exact jU _ _|refine jH ?_ _)) hb1)
       go_ret
       exact qXv
   · by_cases hk:wd=2
     · subst hk
       go_enter Tryz.func92,Tryz.ntmps92
       go_wp2_with(first|(go_at_call 162;(with_reducible refine(HW.o _).mono ?_);rintro e w1 ⟨rfl,hb1⟩;have e1:=(uY hb1 (jT rfl) 1 _ rfl).1;have hB1:=jW (show Below w.heap.size w _ from by repeat(first|exact jU _ _|refine jH ?_ _)) hb1)|(go_at_call 163;(with_reducible refine(HM.o _).mono ?_);rintro e w2 ⟨tm,rfl,htm,hb2⟩))
       all_goals
        go_ret
        refine⟨_,rfl,fun h=>?_,jW hB1 hb2⟩
        first
        |exact .inr ⟨HR.o,htm qD,.inr (.inr ⟨rfl,HWD.o⟩)⟩
        |exact .inr ⟨HR.o,htm qZu,.inr (.inr ⟨rfl,HWD.o⟩)⟩
        |exact absurd h qV
     · have hkb:(wd==2)=false:=by simp[hk]
       go_enter Tryz.func92,Tryz.ntmps92
       go_wp2_with(go_at_call 162;(with_reducible refine(HW.o _).mono ?_);rintro e w1 ⟨rfl,hb1⟩;have hB1:=jW (show Below w.heap.size w _ from by repeat(first|exact jU _ _|refine jH ?_ _)) hb1)
       go_ret
       exact qXv
   · by_cases hk:wd=1
     · subst hk
       go_enter Tryz.func92,Tryz.ntmps92
       go_wp2_with(first|(go_at_call 162;(with_reducible refine(HW.o _).mono ?_);rintro e w1 ⟨rfl,hb1⟩;have e1:=(uY hb1 (jT rfl) 1 _ rfl).1;have hB1:=jW (show Below w.heap.size w _ from by repeat(first|exact jU _ _|refine jH ?_ _)) hb1)|(go_at_call 163;(with_reducible refine(HM.o _).mono ?_);rintro e w2 ⟨tm,rfl,htm,hb2⟩))
       all_goals
        go_ret
        refine⟨_,rfl,fun h=>?_,jW hB1 hb2⟩
        first
        |exact .inr ⟨HR.o,htm qD,.inl ⟨rfl,HWD.o⟩⟩
        |exact .inr ⟨HR.o,htm qZu,.inl ⟨rfl,HWD.o⟩⟩
        |exact absurd h qV
     · have hkb:(wd==1)=false:=by simp[hk]
       go_enter Tryz.func92,Tryz.ntmps92
       go_wp2_with(go_at_call 162;(with_reducible refine(HW.o _).mono ?_);rintro e w1 ⟨rfl,hb1⟩;have hB1:=jW (show Below w.heap.size w _ from by repeat(first|exact jU _ _|refine jH ?_ _)) hb1)
       go_ret
       exact qXv
   · go_enter Tryz.func92,Tryz.ntmps92
     go_wp2
     go_ret
     exact⟨_,rfl,fun h=>absurd h qV,by repeat(first|exact jU _ _|refine jH ?_ _)⟩
def qV8(l:List Cl)(w:World)(e:Ending)(w':World):Prop:=∃t:Bool,e=.returned (.bool t)∧(t=true→uJ l=l∧∀c∈l,xZ c)∧Below w.heap.size w w'
set_option maxHeartbeats 3200000 in
theorem Zs(A:Option Addr)(l:List Cl)(ca:Nat)(w:World)(hl:zL w A l)(h0:0<l.length)(hz:l.length≤1000):
 Calls jG 49 #[.slice A l.length ca] w (qV8 l w):=by
 have HM:Hid (Calls jG 56 #[.slice A l.length ca] w fun e w1=>∃g cap,e=.returned (.slice (some ⟨g,0,none⟩) l.length cap)∧CrO w1 w.heap.size g cap (uJ l)∧Below w.heap.size w w1):=Hd ((KP A l ca w (iW hl) h0 qJ).mono (fun e w1 ⟨g,cap,he,hc,hb⟩=>⟨g,cap,by rw[he,uL],hc,hb⟩));obtain⟨M,hM⟩:∃M,uJ l=M:=⟨_,rfl⟩;have hml:M.length=l.length:=by rw[←hM,uL]
 rw[hM]at HM;have HME:=Hd hM;unfold qV8;have HL:=Hd hl;clear hl hM
 go_enter Tryz.func49,Tryz.ntmps49
 go_wp2_with(go_at_call 56;(with_reducible refine HM.o.mono ?_);rintro e w1 ⟨g,cap,rfl,hcr,hb1⟩)
 have HG:=Hd (nN hcr (by rw[hml];exact h0));have HB1:=Hd hb1;clear hcr hb1
 go_loopw [8] (fun i wr=>∃k:Nat,k≤l.length∧i=.int .i64 k∧M.take k=l.take k∧(∀c∈l.take k,xZ c)∧Below w1.heap.size w1 wr) (fun i _=>l.length-(intOf i).toNat)
 case atStart=>exact⟨0,kM _,rfl,rfl,fun c hc=>by simp at hc,jU _ _⟩
 case round=>
  obtain⟨k,hk,rfl,htk,hfk,hB⟩:=hrel;have HTK:=Hd htk;have HFK:=Hd hfk;clear htk hfk
  by_cases hlt:k<l.length
  · obtain⟨g',off',hg',hcm⟩:=HG.o;simp only[Option.some.injEq,Addr.mk.injEq]at hg';obtain⟨rfl,rfl,-⟩:=hg';obtain⟨b,off,rfl,hcl⟩:=HL.o h0;have hget:=jN hlt;have hltm:k<M.length:=by omega
    have hgetm:=jN hltm;have hm:=hcm k _ hgetm;have HNX:Hid (M[k]=l[k]→xZ l[k]→M.take (k+1)=l.take (k+1)∧∀c∈l.take (k+1),xZ c):=Hd (fun h1 h2=>by
     rw[kQ hlt,kQ hltm,HTK.o,h1];refine⟨rfl,fun c hc=>?_⟩;rcases kU.1 hc with hc|hc
     · exact HFK.o c hc
     · rw[jM.1 hc];exact h2)
    have hr:=((hcl k _ hget).below HB1.o).below hB;generalize l[k]=c at hr HNX;generalize M[k]=m at hm HNX;clear hcm hcl hget hgetm;have HF:=Hd (fun w=>UY m w);obtain⟨r0,r1,r2,r3,r4,r5,r6,r7⟩:=hr;have m0:=kZ hB (hm 0 _ rfl);have m1:=kZ hB (hm 1 _ rfl);have m2:=kZ hB (hm 2 _ rfl);have m3:=kZ hB (hm 3 _ rfl);have m4:=kZ hB (hm 4 _ rfl);have m5:=kZ hB (hm 5 _ rfl);have m6:=kZ hB (hm 6 _ rfl);have m7:=kZ hB (hm 7 _ rfl);clear hm;simp only[kP,uA]at m0 m1 m2 m3 m4 m5 m6 m7;obtain⟨C,hC⟩:∃C,c=C:=⟨_,rfl⟩;have HCE:=Hd hC;obtain⟨D,hD⟩:∃D,m=D:=⟨_,rfl⟩;have HDE:=Hd hD;obtain⟨xr,xm,xhf,x3,x4,x5,x6,x7⟩:=c;obtain⟨cr,cm,chf,c3,c4,c5,c6,c7⟩:=m;unfold clV at HF;rw[hC,hD]at HNX;simp only at HF r0 r1 r2 r3 r4 r5 r6 r7 m0 m1 m2 m3 m4 m5 m6 m7;clear hC hD
    go_upto_region 4 with fail
    have hBA:=(jU wr.heap.size wr).alloc (jD _) (.cells #[.int .i32 cr,.string cm,.int .i64 chf,.int .i64 c3,.int .i64 c4,.int .i64 c5,.int .i64 c6,.int .i64 c7] 65);have n0:=(at_ (jT (W:=wr) (o:=(.cells #[.int .i32 cr,.string cm,.int .i64 chf,.int .i64 c3,.int .i64 c4,.int .i64 c5,.int .i64 c6,.int .i64 c7] 65)) rfl) 0 _ rfl).1;have n1:=(at_ (jT (W:=wr) (o:=(.cells #[.int .i32 cr,.string cm,.int .i64 chf,.int .i64 c3,.int .i64 c4,.int .i64 c5,.int .i64 c6,.int .i64 c7] 65)) rfl) 1 _ rfl).1;have n2:=(at_ (jT (W:=wr) (o:=(.cells #[.int .i32 cr,.string cm,.int .i64 chf,.int .i64 c3,.int .i64 c4,.int .i64 c5,.int .i64 c6,.int .i64 c7] 65)) rfl) 2 _ rfl).1;have n3:=(at_ (jT (W:=wr) (o:=(.cells #[.int .i32 cr,.string cm,.int .i64 chf,.int .i64 c3,.int .i64 c4,.int .i64 c5,.int .i64 c6,.int .i64 c7] 65)) rfl) 3 _ rfl).1;have n4:=(at_ (jT (W:=wr) (o:=(.cells #[.int .i32 cr,.string cm,.int .i64 chf,.int .i64 c3,.int .i64 c4,.int .i64 c5,.int .i64 c6,.int .i64 c7] 65)) rfl) 4 _ rfl).1;have n5:=(at_ (jT (W:=wr) (o:=(.cells #[.int .i32 cr,.string cm,.int .i64 chf,.int .i64 c3,.int .i64 c4,.int .i64 c5,.int .i64 c6,.int .i64 c7] 65)) rfl) 5 _ rfl).1
    have n6:=(at_ (jT (W:=wr) (o:=(.cells #[.int .i32 cr,.string cm,.int .i64 chf,.int .i64 c3,.int .i64 c4,.int .i64 c5,.int .i64 c6,.int .i64 c7] 65)) rfl) 6 _ rfl).1;have n7:=(at_ (jT (W:=wr) (o:=(.cells #[.int .i32 cr,.string cm,.int .i64 chf,.int .i64 c3,.int .i64 c4,.int .i64 c5,.int .i64 c6,.int .i64 c7] 65)) rfl) 7 _ rfl).1;replace r0:=kZ hBA r0;replace r1:=kZ hBA r1;replace r2:=kZ hBA r2;replace r3:=kZ hBA r3;replace r4:=kZ hBA r4;replace r5:=kZ hBA r5;replace r6:=kZ hBA r6;replace r7:=kZ hBA r7;have HB2:=Hd (jH hB (.cells #[.int .i32 cr,.string cm,.int .i64 chf,.int .i64 c3,.int .i64 c4,.int .i64 c5,.int .i64 c6,.int .i64 c7] 65));have hsN:=World.size_alloc wr (.cells #[.int .i32 cr,.string cm,.int .i64 chf,.int .i64 c3,.int .i64 c4,.int .i64 c5,.int .i64 c6,.int .i64 c7] 65);clear hBA m0 m1 m2 m3 m4 m5 m6 m7;generalize hW:wr.alloc (.cells #[.int .i32 cr,.string cm,.int .i64 chf,.int .i64 c3,.int .i64 c4,.int .i64 c5,.int .i64 c6,.int .i64 c7] 65)=W at n0 n1 n2 n3 n4 n5 n6 n7 r0 r1 r2 r3 r4 r5 r6 r7 HB2 hsN ⊢;clear hW;obtain⟨N,hN⟩:∃N,wr.heap.size=N:=⟨_,rfl⟩;rw[hN]at n0 n1 n2 n3 n4 n5 n6 n7 hsN ⊢;clear hN
    refine kW 5 (fun w'=>Below W.heap.size W w'∧w'.cell? ⟨N,0,none⟩=some (.int .i32 cr)∧w'.cell? ⟨N,1,none⟩=some (.string cm)∧w'.cell? ⟨N,2,none⟩=some (.int .i64 chf)∧w'.cell? ⟨N,3,none⟩=some (.int .i64 c3)∧w'.cell? ⟨N,4,none⟩=some (.int .i64 c4)∧w'.cell? ⟨N,5,none⟩=some (.int .i64 c5)∧w'.cell? ⟨N,6,none⟩=some (.int .i64 c6)∧w'.cell? ⟨N,7,none⟩=some (.int .i64 c7)∧w'.cell? ⟨b,off+k*8,none⟩=some (.int .i32 xr)∧w'.cell? ⟨b,off+k*8+1,none⟩=some (.string xm)∧w'.cell? ⟨b,off+k*8+2,none⟩=some (.int .i64 xhf)∧w'.cell? ⟨b,off+k*8+3,none⟩=some (.int .i64 x3)∧w'.cell? ⟨b,off+k*8+4,none⟩=some (.int .i64 x4)∧w'.cell? ⟨b,off+k*8+5,none⟩=some (.int .i64 x5)∧w'.cell? ⟨b,off+k*8+6,none⟩=some (.int .i64 x6)∧w'.cell? ⟨b,off+k*8+7,none⟩=some (.int .i64 x7)) qQ qQ ?_ ?_
    · exact⟨(jU _ _).drew,n0,n1,n2,n3,n4,n5,n6,n7,r0,r1,r2,r3,r4,r5,r6,r7⟩
    simp only[jS,kK,jL,jO]
    repeat(
     (first
      |refine kF qK ?_
      |(refine kT ?_ qK ?_ ?_;rotate_left;(focus(intro w' hS;obtain⟨_,_,_,_,_,_,_,_,_,_,_,_,_,_,_,_,_⟩:=hS;go_simp;first|done|with_reducible rfl))))
     simp only[Act.put,jZ,jX,jY])
    refine kE (fun w' hS=>?_);obtain⟨hb2,n0',n1',n2',n3',n4',n5',n6',n7',_⟩:=hS;have HB3:=Hd (jW HB2.o hb2);clear hb2;refine xT (.bool (!decide ((⟨cr,cm,chf,c3,c4,c5,c6,c7⟩:Cl)=⟨xr,xm,xhf,x3,x4,x5,x6,x7⟩))) rfl (oV _ _ _ _ _ _ _ _ ⟨cr,cm,chf,c3,c4,c5,c6,c7⟩ ⟨xr,xm,xhf,x3,x4,x5,x6,x7⟩ rfl rfl _) ?_
    by_cases hxy:(⟨cr,cm,chf,c3,c4,c5,c6,c7⟩:Cl)=⟨xr,xm,xhf,x3,x4,x5,x6,x7⟩
    · rw[show(!decide ((⟨cr,cm,chf,c3,c4,c5,c6,c7⟩:Cl)=⟨xr,xm,xhf,x3,x4,x5,x6,x7⟩))=false from by simp[hxy]];simp only[Act.put,jZ,jX,jY];have HXY:=Hd hxy;clear hxy
      go_wp2_with(go_at_call 92;(with_reducible refine(HF.o _).mono ?_);rintro e w3 ⟨t,rfl,ht,hb3⟩;have HT3:=Hd ht;clear ht;cases t)
      · go_ret
        exact⟨false,rfl,(fun h=>by cases h),jW HB1.o (jW HB3.o hb3)⟩
      · have HN2:=Hd (HNX.o (by rw[←HDE.o,←HCE.o];exact HXY.o) (by rw[←HCE.o,←HXY.o];exact HT3.o qV))
        go_roundw
        case rel=>exact⟨k+1,by omega,by go_num,HN2.o.1,HN2.o.2,jW HB3.o hb3⟩
        case measure=>simp[intOf];omega
    · rw[show(!decide ((⟨cr,cm,chf,c3,c4,c5,c6,c7⟩:Cl)=⟨xr,xm,xhf,x3,x4,x5,x6,x7⟩))=true from by simp[hxy]];simp only[Act.put,jZ,jX,jY];clear hxy
      go_wp2
      go_ret
      exact⟨false,rfl,(fun h=>by cases h),jW HB1.o HB3.o⟩
  · obtain rfl:k=l.length:=by omega
    have HFIN:Hid (uJ l=l∧∀c∈l,xZ c):=Hd (by
     have h1:=HTK.o;have h2:=HFK.o;rw[List.take_length]at h1 h2;rw[vY qJ]at h1;exact⟨HME.o.trans h1,h2⟩)
    go_wp2
    go_ret
    exact⟨true,by first|rfl|simp,fun _=>HFIN.o,jW HB1.o hB⟩
theorem xJ(k n:Int)(w:World):Calls jG 164 #[.agg #[.int .i64 k,.int .i64 n]] w fun e w'=>e=.returned (.bool (bA k n))∧Below w.heap.size w w':=by
 have HC:=rW k n;generalize bA k n=b at HC ⊢;rcases HC with⟨rfl,⟨rfl,rfl⟩|⟨h,rfl⟩⟩|⟨rfl,⟨h0,h1,rfl⟩|⟨h0,rfl⟩|⟨h0,rfl⟩⟩|⟨rfl,⟨h0,h1,rfl⟩|⟨h0,rfl⟩|⟨h0,rfl⟩⟩|⟨h0,h1,h2,rfl⟩
 all_goals
  go_enter Tryz.func164,Tryz.ntmps164
  go_wp2
  go_ret
  refine⟨?_,by repeat(first|exact jU _ _|refine jH ?_ _)⟩;simp
  try omega
theorem Yv:∀f:Fin 1024,bits .and .i64 (f.val:Int) 264=264∨mB (f.val:Int) 8=false∨mB (f.val:Int) 256=false:=by decide +kernel
theorem XH(a:BitVec 64)(h:a &&& ~~~(1023#64)=0#64):a.toNat<1024:=by
 have h1:a=a &&& 1023#64:=by
  apply BitVec.eq_of_getLsbD_eq;intro i hi;have h2:=congrArg (fun x=>BitVec.getLsbD x i) h;simp only[BitVec.getLsbD_and,BitVec.getLsbD_not,hi,decide_true,Bool.true_and,BitVec.getLsbD_zero]at h2;rw[BitVec.getLsbD_and]
  revert h2
  cases a.getLsbD i<;>cases(1023#64).getLsbD i<;>simp
 rw[h1,BitVec.toNat_and];exact Nat.lt_succ_of_le Nat.and_le_right
theorem qKt{fl:Int}(h0: -9223372036854775808≤fl∧fl≤9223372036854775807)(h:bits .andNot .i64 fl 1023=0):0≤fl∧fl<1024:=by
 have h':jE.wrap ((BitVec.ofInt 64 fl &&& ~~~(1023#64)).toNat:Int)=0:=h;clear h;have h4:(BitVec.ofInt 64 fl).toNat=(fl%18446744073709551616).toNat:=BitVec.toNat_ofInt fl;generalize BitVec.ofInt 64 fl=a at h' h4;have hz:(a &&& ~~~(1023#64)).toNat=0:=by
  have hlt:(a &&& ~~~(1023#64)).toNat<18446744073709551616:=(a &&& ~~~(1023#64)).isLt;generalize (a &&& ~~~(1023#64)).toNat=n at h' hlt;rw[IntKind.wrap_i64]at h';omega
 have h3:=XH a (BitVec.eq_of_toNat_eq (by rw[hz];rfl));omega
def WH(fk fn bk bn fl:Int)(w:World)(e:Ending)(w':World):Prop:=∃t:Bool,e=.returned (.bool t)∧(t=true→sO fk fn bk bn fl=true)∧Below w.heap.size w w'
theorem attB_of{fk fn bk bn fl:Int}(h1:bA fk fn=true)(h2:bA bk bn=true)(h0: -9223372036854775808≤fl∧fl≤9223372036854775807)(h3:bits .andNot .i64 fl 1023=0)(h4:¬bits .and .i64 fl 264=264):sO fk fn bk bn fl=true:=by
 obtain⟨a,b⟩:=qKt h0 h3;have hfl:=Yv ⟨fl.toNat,by omega⟩;rw[show(((⟨fl.toNat,by omega⟩:Fin 1024).val:Nat):Int)=fl from by show((fl.toNat:Nat):Int)=fl;omega]at hfl;unfold sO;rw[h1,h2,decide_eq_true a,decide_eq_true b];rcases hfl with h|h|h
 · exact absurd h h4
 · rw[h];rfl
 · rw[h];simp
set_option maxHeartbeats 1600000 in
theorem xK(fk fn bk bn fl:Int)(h0: -9223372036854775808≤fl∧fl≤9223372036854775807)(w:World):Calls jG 93 #[.agg #[.int .i64 fk,.int .i64 fn,.int .i64 bk,.int .i64 bn,.int .i64 fl]] w (WH fk fn bk bn fl w):=by
 unfold WH;have HF:=Hd (fun w=>xJ fk fn w);have HB:=Hd (fun w=>xJ bk bn w);have HT:=Hd (fun h1 h2=>attB_of (fk:=fk) (fn:=fn) (bk:=bk) (bn:=bn) h1 h2 h0);clear h0;obtain⟨b1,hb1⟩:∃b,bA fk fn=b:=⟨_,rfl⟩;obtain⟨b2,hb2⟩:∃b,bA bk bn=b:=⟨_,rfl⟩;rw[hb1]at HF;rw[hb2]at HB;have H1:=Hd hb1;have H2:=Hd hb2;clear hb1 hb2;cases b1
 · go_enter Tryz.func93,Tryz.ntmps93
   go_wp2_with(go_at_call 164;(with_reducible refine(HF.o _).mono ?_);rintro e w1 ⟨rfl,hb1⟩;have hB1:=jW (show Below w.heap.size w _ from by repeat(first|exact jU _ _|refine jH ?_ _)) hb1)
   go_ret
   exact qXv
 cases b2
 · go_enter Tryz.func93,Tryz.ntmps93
   go_wp2_with(first|(go_at_call 164;(with_reducible refine(HF.o _).mono ?_);rintro e w1 ⟨rfl,hb1⟩;have hB1:=jW (show Below w.heap.size w _ from by repeat(first|exact jU _ _|refine jH ?_ _)) hb1;have e2:=(uY hb1 (jT rfl) 2 _ rfl).1;have e3:=(uY hb1 (jT rfl) 3 _ rfl).1;have e4:=(uY hb1 (jT rfl) 4 _ rfl).1)|(go_at_call 164;(with_reducible refine(HB.o _).mono ?_);rintro e w2 ⟨rfl,hb2⟩;have hB2:=jW (show Below w.heap.size w _ from by repeat(first|exact hB1|refine jH ?_ _)) hb2;have f4:=kZ hb2 e4))
   go_ret
   exact⟨_,rfl,fun h=>absurd h qV,hB2⟩
 have HTT:=Hd (HT.o H1.o H2.o);clear HT
 go_enter Tryz.func93,Tryz.ntmps93
 go_wp2_with(first|(go_at_call 164;(with_reducible refine(HF.o _).mono ?_);rintro e w1 ⟨rfl,hb1⟩;have hB1:=jW (show Below w.heap.size w _ from by repeat(first|exact jU _ _|refine jH ?_ _)) hb1;have e2:=(uY hb1 (jT rfl) 2 _ rfl).1;have e3:=(uY hb1 (jT rfl) 3 _ rfl).1;have e4:=(uY hb1 (jT rfl) 4 _ rfl).1)|(go_at_call 164;(with_reducible refine(HB.o _).mono ?_);rintro e w2 ⟨rfl,hb2⟩;have hB2:=jW (show Below w.heap.size w _ from by repeat(first|exact hB1|refine jH ?_ _)) hb2;have f4:=kZ hb2 e4))
 all_goals
  go_ret
  refine⟨_,rfl,fun h=>?_,hB2⟩
  first
  |exact HTT.o qZu qD
  |exact absurd h qV
open Go.RowKit Go.ChangeShapes Go.WideShapes Go.Deep
section
variable {H:Type}{enc:TypeId×Value→H}{P:Program}{w:World}{base:Nat}{spare:Nat→Bool}{held:Bool}
theorem eT{α:Type}{Q:Nat→α→Prop}:∀(n:Nat),(∀i,i<n→∃s,Q i s)→∃l:List α,l.length=n∧∀i s,l[i]? =some s→Q i s
 |0,_=>⟨[],rfl,fun i s h=>by simp at h⟩
 |n+1,h=>by
  obtain⟨l,hl,hq⟩:=eT n (fun i hi=>h i qJ);obtain⟨s,hs⟩:=h n qJ;refine⟨l++[s],by simp[hl],fun i u hu=>?_⟩
  by_cases hi:i<l.length
  · rw[uD hi]at hu;exact hq i u hu
  · rw[kI qJ]at hu;have :i-l.length=0:=by
     rcases Nat.eq_zero_or_pos (i-l.length)with h0|h0
     · exact h0
     · rw[uZ qY]at hu;cases hu
    rw[this]at hu;obtain rfl:s=u:=by simpa using hu
    have e:i=n:=by omega
    rw[e];exact hs
end
theorem Ux:jG.cellsOf 65=8:=by kernel_rfl
theorem Ua:jG.cellsOf 63=5:=by kernel_rfl
theorem Zt:jG.cellsOf 61=2:=by kernel_rfl
theorem VV:jG.cellsOf 3=1:=by kernel_rfl
theorem qVe:jG.cellsOf 21=1:=by kernel_rfl
theorem KW:jG.cellsOf 9=1:=by kernel_rfl
def Qv(c:Cl):List Value:=[.int .i32 c.r,.string c.more,.int .i64 c.half,.int .i64 c.fk,.int .i64 c.fn,.int .i64 c.bk,.int .i64 c.bn,.int .i64 c.fl]
section
variable {H:Type}{enc:TypeId×Value→H}{w:World}{base:Nat}{spare:Nat→Bool}{held:Bool}
theorem fN{n:Nat}{v:Value}{x:DataW H×List MemPlace}(h:DataW.trod enc jG w base spare held n 3 [v]=some x):∃z:Int,v=.int .i64 z:=by
 obtain⟨z,e,-,-⟩:=DataW.trod_int Tryz.underlying3 h;exact⟨z,by simpa using e⟩
theorem oX{n:Nat}{v0 v1:Value}{x:DataW H×List MemPlace}(h:DataW.trod enc jG w base spare held n 61 [v0,v1]=some x):∃z y:Int,v0=.int .i64 z∧v1=.int .i64 y:=by
 obtain⟨xs,m,_,_,_,hlen,hf⟩:=DataW.trod_struct Tryz.underlying61 h
 match xs,hlen with
 |[y0,y1],_=>
  have h0:=hf 0 _ rfl;have h1:=hf 1 _ rfl;simp[VV]at h0 h1;obtain⟨z,rfl⟩:=fN h0;obtain⟨y,rfl⟩:=fN h1;exact⟨z,y,rfl,rfl⟩
theorem VG{n:Nat}{v0 v1 v2 v3 v4:Value}{x:DataW H×List MemPlace}(h:DataW.trod enc jG w base spare held n 63 [v0,v1,v2,v3,v4]=some x):∃a b c d e:Int,v0=.int .i64 a∧v1=.int .i64 b∧v2=.int .i64 c∧v3=.int .i64 d∧v4=.int .i64 e:=by
 obtain⟨xs,m,_,_,_,hlen,hf⟩:=DataW.trod_struct Tryz.underlying63 h
 match xs,hlen with
 |[y0,y1,y2],_=>
  have h0:=hf 0 _ rfl;have h1:=hf 1 _ rfl;have h2:=hf 2 _ rfl;simp[VV,Zt]at h0 h1 h2;obtain⟨a,b,rfl,rfl⟩:=oX h0;obtain⟨c,d,rfl,rfl⟩:=oX h1;obtain⟨e,rfl⟩:=fN h2;exact⟨a,b,c,d,e,rfl,rfl,rfl,rfl,rfl⟩
theorem VX{n:Nat}{cs:List Value}{x:DataW H×List MemPlace}(h:DataW.trod enc jG w base spare held n 65 cs=some x):∃c:Cl,cs=Qv c:=by
 obtain⟨xs,m,_,_,hl,hlen,hf⟩:=DataW.trod_struct Tryz.underlying65 h;rw[Ux]at hl
 match cs,hl with
 |[v0,v1,v2,v3,v4,v5,v6,v7],_=>
  match xs,hlen with
  |[y0,y1,y2,y3],_=>
   have h0:=hf 0 _ rfl;have h1:=hf 1 _ rfl;have h2:=hf 2 _ rfl;have h3:=hf 3 _ rfl;simp[VV,qVe,KW,Ua]at h0 h1 h2 h3;obtain⟨z,e0,-,-⟩:=DataW.trod_int Tryz.underlying21 h0;obtain⟨s,e1,-,-⟩:=DataW.trod_string Tryz.underlying9 h1;obtain⟨hh,rfl⟩:=fN h2;obtain⟨a,b,c,d,e,rfl,rfl,rfl,rfl,rfl⟩:=VG h3;simp at e0 e1;subst e0 e1;exact⟨⟨z,s,hh,a,b,c,d,e⟩,rfl⟩
end
structure Rw where
 A:Option Addr
 cs:List Cl
 cap:Nat
 cont:Bool
def qQt(w:World)(b o:Nat)(r:Rw):Prop:=(w.cell? ⟨b,o,none⟩=some (.slice r.A r.cs.length r.cap)∧w.cell? ⟨b,o+1,none⟩=some (.bool r.cont))∧zL w r.A r.cs∧r.cs.length≤9223372036854775807
theorem qQt.below{w w1:World}{b o:Nat}{r:Rw}(h:qQt w b o r)(hb:Below w.heap.size w w1):qQt w1 b o r:=
 ⟨⟨kZ hb h.1.1,kZ hb h.1.2⟩,h.2.1.below hb,h.2.2⟩
def bG(w:World)(A:Option Addr)(l:List Rw):Prop:=0<l.length→∃b off,A=some ⟨b,off,none⟩∧∀i r,l[i]? =some r→qQt w b (off+i*2) r
theorem bG.below{w w1:World}{A:Option Addr}{l:List Rw}(h:bG w A l)(hb:Below w.heap.size w w1):bG w1 A l:=fun hl=>by
 obtain⟨b,off,e,hc⟩:=h hl;exact⟨b,off,e,fun i s hs=>(hc i s hs).below hb⟩
theorem bG.at_{w:World}{A:Option Addr}{l:List Rw}(h:bG w A l){k:Nat}(hk:k<l.length):∃b off r,A=some ⟨b,off,none⟩∧l[k]? =some r∧qQt w b (off+k*2) r:=by
 obtain⟨b,off,hA,hc⟩:=h qJ;exact⟨b,off,l[k],hA,jN hk,hc k _ (jN hk)⟩
theorem UJ:jG.cellsOf 52=2:=by kernel_rfl
theorem co_bool:jG.cellsOf 4=1:=by kernel_rfl
theorem qVf:jG.cellsOf 50=1:=by kernel_rfl
section
variable {H:Type}{enc:TypeId×Value→H}{w:World}{base:Nat}{spare:Nat→Bool}{held:Bool}
end
def dP(l:List Rw)(cols:Nat):Prop:=0<l.length∧l.length≤400∧2≤cols∧cols≤1000∧∀r∈l,r.cs.length=cols∧uJ r.cs=r.cs∧∀c∈r.cs,gF c
theorem KV(A:Option Addr)(l:List Rw)(ca cols:Nat)(w:World)(hl:bG w A l)(hok:dP l cols):
 Calls jG 23 #[.slice A l.length ca] w fun e w'=>e=.returned (.tuple #[.int .i64 l.length,.int .i64 cols])∧Below w.heap.size w w':=by
 obtain⟨h0,h1,h2,h3,h4⟩:=hok;obtain⟨b,off,rfl,hr⟩:=hl h0;obtain⟨⟨c0,-⟩,-,-⟩:=hr 0 _ (jN h0);rw[(h4 _ (List.getElem_mem h0)).1,Nat.zero_mul,uA]at c0;clear hr hl h4;generalize l[0]=r at c0;obtain⟨B,_,cap,_⟩:=r;simp only at c0
 go_enter Tryz.func23,Tryz.ntmps23
 go_upto_region 3 with fail
 refine kW 8 (fun w'=>Below w.heap.size w w'∧w'.cell? ⟨b,off,none⟩=some (.slice B cols cap)) qQ qQ ?_ ?_
 · exact⟨(jU _ _).drew,c0⟩
 simp only[jS,kK,jL,jO]
 repeat(
  (first
   |refine kF qK ?_
   |(refine kT ?_ qK ?_ ?_;rotate_left;(focus(intro w' hS;obtain⟨_,_⟩:=hS;go_simp;first|done|with_reducible rfl))))
  simp only[Act.put,jZ,jX,jY])
 refine kE (fun w' hS=>?_);obtain⟨hb,_⟩:=hS
 go_wp2
 go_ret2
 exact⟨rfl,hb⟩
set_option maxHeartbeats 3200000 in
theorem QO(A:Option Addr)(l:List Rw)(ca cols:Nat)(w:World)(hl:bG w A l)(hok:dP l cols):
 Calls jG 24 #[.slice A l.length ca] w fun e w'=>e=.returned (.bool true)∧Below w.heap.size w w':=by
 have HS:=Hd (KV A l ca cols w hl hok);obtain⟨h0,h1,h2,h3,h4⟩:=hok;have HL:=Hd hl;have HOK:=Hd h4;clear hl h4;have g1:¬(l.length:Int)<1:=by omega
 have g2:¬(1000:Int)<l.length:=by omega
 have g3:¬(cols:Int)<2:=by omega
 have g4:¬(1000:Int)<cols:=by omega
 go_enter Tryz.func24,Tryz.ntmps24
 go_wp2_with(go_at_call 23;(with_reducible refine HS.o.mono ?_);rintro e w1 ⟨rfl,hb1⟩)
 have HB1:=Hd hb1;clear hb1
 go_loopw [30] (fun i wr=>∃k:Nat,k≤l.length∧i=.int .i64 k∧Below w.heap.size w wr) (fun i _=>l.length-(intOf i).toNat)
 case atStart=>exact⟨0,kM _,rfl,HB1.o⟩
 case round=>
  obtain⟨k,hk,rfl,hB⟩:=hrel
  by_cases hlt:k<l.length
  · obtain⟨b,off,rfl,hr⟩:=HL.o h0;have hget:=jN hlt;obtain⟨⟨c0,c1⟩,hcl,-⟩:=(hr k _ hget).below hB;obtain⟨hlen,hm,hcs⟩:=HOK.o _ (List.getElem_mem hlt);generalize l[k]=r at c0 c1 hcl hlen hm hcs;obtain⟨B,cs,cap,cont⟩:=r;simp only at c0 c1 hcl hlen hm hcs;clear hr hget;have hp:0<cs.length:=by omega
    have HR:=Hd (fun w h=>Yw B cs cap w h hp qJ hm (fun c hc=>(hcs c hc).1));have HC:=Hd hcs;have HCL:=Hd hcl;rw[hlen]at c0 HR;have HLEN:=Hd hlen;clear hm hcs hcl hp hlen;have hcl2:=HCL.o.below ((jU wr.heap.size wr).alloc (jD _) (.cells #[.slice B cols cap,.bool cont] 52));have HC2:=Hd hcl2;have HBW:=Hd (jH hB (.cells #[.slice B cols cap,.bool cont] 52));clear hcl2
    go_wp2_with(go_at_call 49;(with_reducible refine(HR.o _ HC2.o).mono ?_);rintro e w2 ⟨rfl,hb2⟩;have d0:=(uY hb2 (jT rfl) 0 _ rfl).1;have HB2:=Hd (jW HBW.o hb2);have HC3:=Hd (HC2.o.below hb2);clear hb2)
    go_loopw [48] (fun i w5=>∃j:Nat,j≤cols∧i=.int .i64 j∧Below w.heap.size w w5∧Below w2.heap.size w2 w5) (fun i _=>cols-(intOf i).toNat)
    case atStart=>exact⟨0,kM _,rfl,HB2.o,jU _ _⟩
    case round=>
     obtain⟨j,hj,rfl,hB5,hb5⟩:=hrel
     by_cases hjl:j<cols
     · have hjc:j<cs.length:=by have :=HLEN.o;omega
       obtain⟨b',off',c,rfl,hcg,hca⟩:=HC3.o.at_ hjc;have hD:=HC.o c (uB hcg);have hca:=hca.below hb5;have HF:=Hd (fun w=>U5 c hD w);clear hcg hD;obtain⟨r0,r1,r2,r3,r4,r5,r6,r7⟩:=hca;obtain⟨cr,cm,chf,c3,c4,c5,c6,c7⟩:=c;unfold clV at HF;simp only at HF r0 r1 r2 r3 r4 r5 r6 r7;have HBX:=Hd (jH hB5 (.cells #[.int .i32 cr,.string cm,.int .i64 chf,.int .i64 c3,.int .i64 c4,.int .i64 c5,.int .i64 c6,.int .i64 c7] 65));have HBY:=Hd (jH hb5 (.cells #[.int .i32 cr,.string cm,.int .i64 chf,.int .i64 c3,.int .i64 c4,.int .i64 c5,.int .i64 c6,.int .i64 c7] 65))
       go_wp2_with(go_at_call 50;(with_reducible refine(HF.o _).mono ?_);rintro e w6 ⟨rfl,hb6⟩)
       go_roundw
       case rel=>exact⟨j+1,by omega,by go_num,jW HBX.o hb6,jW HBY.o hb6⟩
       case measure=>simp[intOf];omega
     · obtain rfl:j=cols:=by omega
       go_wp2
       go_roundw
       case rel=>exact⟨k+1,by omega,by go_num,hB5⟩
       case measure=>simp[intOf];omega
  · obtain rfl:k=l.length:=by omega
    go_wp2
    go_ret
    exact⟨by first|rfl|simp,hB⟩
def JM(x:Int):Prop:= -9223372036854775808≤x∧x≤9223372036854775807
def qV6(c:Cl)(w:World)(e:Ending)(w':World):Prop:=∃t:Bool,e=.returned (.bool t)∧(t=true→c.half≠3∧sO c.fk c.fn c.bk c.bn c.fl=true∧(c.r=0→c.fk=0∧c.fn=0∧c.fl=0))∧Below w.heap.size w w'
set_option maxHeartbeats 1600000 in
theorem Yo(c:Cl)(hf:JM c.fl)(w:World):Calls jG 50 #[clV c] w (qV6 c w):=by
 obtain⟨r,more,half,fk,fn,bk,bn,fl⟩:=c;unfold clV qV6;simp only at hf;have HA:=Hd (fun w=>xK fk fn bk bn fl hf w);clear hf;have HA0:=Hd (fun w=>xK 0 0 bk bn 0 qJ w)
 by_cases hr:r=0
 · subst hr
   go_enter Tryz.func50,Tryz.ntmps50
   go_wp2_with(go_at_call 93;(with_reducible refine(HA0.o _).mono ?_);rintro e w2 ⟨t,rfl,ht,hb2⟩)
   all_goals
    go_ret
    first
    |exact⟨_,rfl,fun h=>⟨by assumption,(by
      have e1:fk=0:=by assumption
      have e2:fn=0:=by assumption
      have e3:fl=0:=by assumption
      rw[e1,e2,e3];exact ht (by first|exact h|(simp at h;exact h.2)|simpa using h)),fun _=>⟨by assumption,by assumption,by assumption⟩⟩,jW qA hb2⟩
    |exact⟨_,rfl,fun h=>absurd h qV,by repeat(first|exact jU _ _|refine jH ?_ _)⟩
 · have HR:=Hd hr
   by_cases hh:half=3
   · subst hh
     go_enter Tryz.func50,Tryz.ntmps50
     go_wp2
     go_ret
     exact⟨_,rfl,fun h=>absurd h qV,by repeat(first|exact jU _ _|refine jH ?_ _)⟩
   · have HH:=Hd hh
     go_enter Tryz.func50,Tryz.ntmps50
     go_wp2_with(go_at_call 93;(with_reducible refine(HA.o _).mono ?_);rintro e w2 ⟨t,rfl,ht,hb2⟩)
     all_goals
      go_ret
      exact⟨_,rfl,fun h=>⟨HH.o,ht (by simp at h;exact h.2),fun h0=>absurd h0 HR.o⟩,jW qA hb2⟩
end Go.Proofs.YtaefcahblmopfaaGreatDoor
