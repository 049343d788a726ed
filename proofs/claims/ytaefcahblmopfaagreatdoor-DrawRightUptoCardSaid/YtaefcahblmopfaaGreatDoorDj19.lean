/- Joined by a tool of this claim out of smaller texts. Conditions: as stated. -/
import Derived.Test.YtaefcahblmopfaaGreatDoorDj18
import Derived.Lib.ItoaNum
set_option linter.unusedVariables false
set_option linter.unusedSimpArgs false
set_option maxRecDepth 100000
open Go.Lib renaming hid → Hd
open List renaming setIfInBounds_toArray → jZ, set_cons_zero → jX, set_cons_succ → jY, mem_singleton → jM, getElem?_eq_getElem → jN, getElem?_eq_some_iff → jP, length_append → jC, drop_succ_cons → jL, take_succ_cons → jS, drop_zero → jO, take_succ_eq_append_getElem → kQ, mem_cons → kJ, take_zero → kK, append_assoc → kG, mem_append → kU, replicate → kN, length_take → kC, mem_of_getElem? → uB, map_append → vX
open Go.Proofs.Tryz renaming prog → jG
open Go.RowKit.Below renaming refl → jU
open Nat renaming le_refl → jD, zero_le → kM, add_zero → uA
open Go.World renaming ownsRow_nil → kS
namespace Go.Proofs.YtaefcahblmopfaaGreatDoor
open Go.RowKit
theorem Ju(r c:Nat)(w:World):Calls jG 29 #[.int .i64 r,.int .i64 c] w fun e w'=>e=.returned (.bool (decide (0<r∧r≤1000∧1<c∧c≤1000)))∧w=w':=by
 by_cases h1:0<r
 · by_cases h2:r≤1000
   · by_cases h3:1<c
     · have h3':(1:Int)<c:=by omega
       by_cases h4:c≤1000
       · have h4':(c:Int)≤1000:=by omega
         rw[decide_eq_true ⟨h1,h2,h3,h4⟩]
         go_enter Tryz.func29,Tryz.ntmps29
         go_wp2
         go_ret
         exact⟨rfl,rfl⟩
       · have h4':(1000:Int)<c:=by omega
         rw[decide_eq_false (fun h=>h4 h.2.2.2)]
         go_enter Tryz.func29,Tryz.ntmps29
         go_wp2
         go_ret
         refine⟨?_,rfl⟩;simp;omega
     · have h3':(c:Int)≤1:=by omega
       rw[decide_eq_false (fun h=>h3 h.2.2.1)]
       go_enter Tryz.func29,Tryz.ntmps29
       go_wp2
       go_ret
       exact⟨rfl,rfl⟩
   · have h2':(1000:Int)<r:=by omega
     rw[decide_eq_false (fun h=>h2 h.2.1)]
     go_enter Tryz.func29,Tryz.ntmps29
     go_wp2
     go_ret
     exact⟨rfl,rfl⟩
 · obtain rfl:r=0:=by omega
   rw[decide_eq_false (fun h=>h1 h.1)]
   go_enter Tryz.func29,Tryz.ntmps29
   go_wp2
   go_ret
   exact⟨rfl,rfl⟩
def KA(cols:Nat)(r:Rw):Prop:=r.cs.length=cols∧uJ r.cs=r.cs∧∀c∈r.cs,gF c
def R28Post(l:List Rw)(w:World)(e:Ending)(w':World):Prop:=∃t:Bool,e=.returned (.bool t)∧(t=true→∃cols,dP l cols)∧Below w.heap.size w w'
theorem JF{P:Rw→Prop}{l:List Rw}{k:Nat}(h:∀c∈l.take k,P c)(hk:k<l.length)(hp:P l[k]):∀c∈l.take (k+1),P c:=fun c hc=>by
 rw[kQ hk]at hc;rcases kU.1 hc with h'|h'
 · exact h c h'
 · rw[jM.1 h'];exact hp
set_option maxHeartbeats 6400000 in
theorem Vn(A:Option Addr)(l:List Rw)(ca:Nat)(w:World)(hl:bG w A l)(hz:l.length≤400)(hmz:∀r∈l,∀c∈r.cs,c.more.size≤1048576):
 Calls jG 25 #[.slice A l.length ca] w (R28Post l w):=by
 rcases Nat.eq_zero_or_pos l.length with h0|h0
 · rw[h0];clear hl
   go_enter Tryz.func25,Tryz.ntmps25
   go_wp2
   go_ret
   exact⟨_,rfl,fun h=>by simp at h,jU _ _⟩
 · have hn0:¬(l.length:Int)=0:=by omega
   have hbeq:((l.length:Int)==0)=false:=beq_eq_false_iff_ne.2 hn0;obtain⟨b,off,rfl,hr⟩:=hl h0;obtain⟨⟨z0,-⟩,-,hzz⟩:=hr 0 _ (jN h0);rw[Nat.zero_mul,uA]at z0;have HR:=Hd hr;have HMZ:=Hd hmz;clear hl hr hmz;obtain⟨cols,hcols⟩:∃n,n=l[0].cs.length:=⟨_,rfl⟩;rw[←hcols]at z0 hzz;obtain⟨B0,hB0⟩:∃B,B=l[0].A:=⟨_,rfl⟩;obtain⟨c0,hc0⟩:∃B,B=l[0].cap:=⟨_,rfl⟩;rw[←hB0,←hc0]at z0;clear hB0 hc0 hcols;have HF:=Hd (fun w=>Ju l.length cols w)
   by_cases hf:0<l.length∧l.length≤1000∧1<cols∧cols≤1000
   rotate_left
   · rw[decide_eq_false hf]at HF;clear hf
     go_enter Tryz.func25,Tryz.ntmps25
     go_wp2_with(go_at_call 29;(with_reducible refine(HF.o _).mono ?_);rintro e w1 ⟨rfl,rfl⟩)
     go_ret
     exact⟨_,rfl,fun h=>by simp at h,jU _ _⟩
   rw[decide_eq_true hf]at HF;obtain⟨-,-,hf3,hf4⟩:=hf
   go_enter Tryz.func25,Tryz.ntmps25
   go_wp2_with(go_at_call 29;(with_reducible refine(HF.o _).mono ?_);rintro e w1 ⟨rfl,rfl⟩)
   go_loopw [3] (fun i wr=>∃k:Nat,k≤l.length∧i=.int .i64 k∧(∀r∈l.take k,KA cols r)∧Below w.heap.size w wr) (fun i _=>l.length-(intOf i).toNat)
   case atStart=>exact⟨0,kM _,rfl,by simp,jU _ _⟩
   case round=>
    obtain⟨k,hk,rfl,hok,hB⟩:=hrel;have HOK:=Hd hok;clear hok
    by_cases hlt:k<l.length
    · obtain⟨⟨d0,d1⟩,hcl,hcz⟩:=(HR.o k _ (jN hlt)).below hB;have hmz:=HMZ.o _ (List.getElem_mem hlt);have HT:=Hd (fun hp=>JF (P:=KA cols) HOK.o hlt hp);have z0':=kZ hB z0;generalize l[k]=r at d0 d1 hcl hcz hmz HT;obtain⟨B,cs,cap,cont⟩:=r;simp only at d0 d1 hcl hcz hmz
      by_cases hlen:cs.length=cols
      rotate_left
      · have hli:¬(cs.length:Int)=(cols:Int):=by omega
        go_wp2
        go_ret
        exact⟨_,rfl,fun h=>by simp at h,hB⟩
      have HR7:=Hd (fun w h=>Vd B cs cap w h qJ qJ hmz);have HCL:=Hd hcl;have HLEN:=Hd hlen;rw[hlen]at d0 HR7;clear hlen hcl hcz hmz
      go_wp2_with(go_at_call 31;(with_reducible refine(HR7.o _ HCL.o).mono ?_);rintro e w2 ⟨t,rfl,ht,hb2⟩;have HT2:=Hd ht;have HB2:=Hd (jW hB hb2);have HC2:=Hd (HCL.o.below hb2);clear ht hb2;cases t)
      · go_ret
        exact⟨_,rfl,fun h=>by simp at h,HB2.o⟩
      · have HT3:Hid (uJ cs=cs∧∀c∈cs,Ok7 c):=Hd (HT2.o qXa)
        go_loopw [5] (fun i w5=>∃j:Nat,j≤cols∧i=.int .i64 j∧(∀c∈cs.take j,gF c)∧Below w.heap.size w w5∧Below w2.heap.size w2 w5) (fun i _=>cols-(intOf i).toNat)
        case atStart=>exact⟨0,kM _,rfl,by simp,HB2.o,jU _ _⟩
        case round=>
         obtain⟨j,hj,rfl,hdr,hB5,hb5⟩:=hrel;have HDR:=Hd hdr;clear hdr
         by_cases hjl:j<cols
         · have hjc:j<cs.length:=by have :=HLEN.o;omega
           obtain⟨b',off',c,rfl,hcg,hca⟩:=HC2.o.at_ hjc;obtain⟨hcl,hce⟩:=jP.1 hcg;have h7:=HT3.o.2 c (uB hcg);have HTC:=Hd (fun hp=>aW (P:=gF) HDR.o hcl (by rw[hce];exact hp));have hca:=hca.below hb5;clear hcg hcl hce;obtain⟨r0,r1,r2,r3,r4,r5,r6,r7⟩:=hca;obtain⟨cr,cm,ch,c3,c4,c5,c6,c7⟩:=c;simp only at r0 r1 r2 r3 r4 r5 r6 r7;have HA:=Hd (fun w=>wG c3 c4 c5 c6 c7 w);have HBX:=Hd (jH hB5 (.cells #[.int .i64 c3,.int .i64 c4,.int .i64 c5,.int .i64 c6,.int .i64 c7] 63));have HBY:=Hd (jH hb5 (.cells #[.int .i64 c3,.int .i64 c4,.int .i64 c5,.int .i64 c6,.int .i64 c7] 63));have q0:=kZ ((jU wr.heap.size wr).alloc (jD _) (.cells #[.int .i64 c3,.int .i64 c4,.int .i64 c5,.int .i64 c6,.int .i64 c7] 63)) r0;have hgl:=uE r0;have hgn:¬wr.heap.size=b':=by omega
           have hgn2:¬b'=wr.heap.size:=by omega
           by_cases h3:ch=3
           · subst h3
             go_wp2
             go_ret
             exact⟨_,rfl,fun h=>by simp at h,HBX.o⟩
           have HCO:Hid (wV ⟨cr,cm,ch,c3,c4,c5,c6,c7⟩):=Hd (by
            rcases h7 with h|h
            · exact absurd h h3
            · exact h)
           clear h7;obtain⟨ta,hta⟩:∃ta,sO c3 c4 c5 c6 c7=ta:=⟨_,rfl⟩;rw[hta]at HA;have HAT:=Hd hta;clear hta;cases ta
           · go_wp2_with(go_at_call 32;(with_reducible refine(HA.o _).mono ?_);rintro e w6 ⟨rfl,hb6⟩;have y0:=kZ hb6 q0;have x0:=(uY hb6 (jT rfl) 0 _ rfl).1;have x1:=(uY hb6 (jT rfl) 1 _ rfl).1;have x4:=(uY hb6 (jT rfl) 4 _ rfl).1;have HB6:=Hd (jW HBX.o hb6);have HB7:=Hd (jW HBY.o hb6);clear hb6)
             go_ret
             exact qXw
           by_cases hr0:cr=0
           rotate_left
           · go_wp2_with(go_at_call 32;(with_reducible refine(HA.o _).mono ?_);rintro e w6 ⟨rfl,hb6⟩;have y0:=kZ hb6 q0;have x0:=(uY hb6 (jT rfl) 0 _ rfl).1;have x1:=(uY hb6 (jT rfl) 1 _ rfl).1;have x4:=(uY hb6 (jT rfl) 4 _ rfl).1;have HB6:=Hd (jW HBX.o hb6);have HB7:=Hd (jW HBY.o hb6);clear hb6)
             go_roundw
             case rel=>exact⟨j+1,by omega,by go_num,HTC.o (⟨HCO.o,HAT.o,fun h=>absurd h hr0⟩),HB6.o,HB7.o⟩
             case measure=>simp[intOf];omega
           subst hr0
           by_cases hfl:c7=0
           rotate_left
           · go_wp2_with(go_at_call 32;(with_reducible refine(HA.o _).mono ?_);rintro e w6 ⟨rfl,hb6⟩;have y0:=kZ hb6 q0;have x0:=(uY hb6 (jT rfl) 0 _ rfl).1;have x1:=(uY hb6 (jT rfl) 1 _ rfl).1;have x4:=(uY hb6 (jT rfl) 4 _ rfl).1;have HB6:=Hd (jW HBX.o hb6);have HB7:=Hd (jW HBY.o hb6);clear hb6)
             go_ret
             exact qXw
           subst hfl
           by_cases hfk:c3=0
           rotate_left
           · go_wp2_with(go_at_call 32;(with_reducible refine(HA.o _).mono ?_);rintro e w6 ⟨rfl,hb6⟩;have y0:=kZ hb6 q0;have x0:=(uY hb6 (jT rfl) 0 _ rfl).1;have x1:=(uY hb6 (jT rfl) 1 _ rfl).1;have x4:=(uY hb6 (jT rfl) 4 _ rfl).1;have HB6:=Hd (jW HBX.o hb6);have HB7:=Hd (jW HBY.o hb6);clear hb6)
             go_ret
             exact qXw
           subst hfk
           by_cases hfn:c4=0
           rotate_left
           · go_wp2_with(go_at_call 32;(with_reducible refine(HA.o _).mono ?_);rintro e w6 ⟨rfl,hb6⟩;have y0:=kZ hb6 q0;have x0:=(uY hb6 (jT rfl) 0 _ rfl).1;have x1:=(uY hb6 (jT rfl) 1 _ rfl).1;have x4:=(uY hb6 (jT rfl) 4 _ rfl).1;have HB6:=Hd (jW HBX.o hb6);have HB7:=Hd (jW HBY.o hb6);clear hb6)
             go_ret
             exact qXw
           subst hfn
           go_wp2_with(go_at_call 32;(with_reducible refine(HA.o _).mono ?_);rintro e w6 ⟨rfl,hb6⟩;have y0:=kZ hb6 q0;have x0:=(uY hb6 (jT rfl) 0 _ rfl).1;have x1:=(uY hb6 (jT rfl) 1 _ rfl).1;have x4:=(uY hb6 (jT rfl) 4 _ rfl).1;have HB6:=Hd (jW HBX.o hb6);have HB7:=Hd (jW HBY.o hb6);clear hb6)
           go_roundw
           case rel=>exact⟨j+1,by omega,by go_num,HTC.o (⟨HCO.o,HAT.o,fun _=>⟨rfl,rfl,rfl⟩⟩),HB6.o,HB7.o⟩
           case measure=>simp[intOf];omega
         · obtain rfl:j=cols:=by omega
           have hall:∀c∈cs,gF c:=fun c hc=>HDR.o c (by rw[←HLEN.o,List.take_length];exact hc);have HN:=Hd (HT.o ⟨HLEN.o,HT3.o.1,hall⟩);clear hall
           go_wp2
           go_roundw
           case rel=>exact⟨k+1,by omega,by go_num,HN.o,hB5⟩
           case measure=>simp[intOf];omega
    · obtain rfl:k=l.length:=by omega
      rw[List.take_length]at HOK
      go_wp2
      go_ret
      exact⟨_,rfl,fun _=>⟨cols,h0,hz,hf3,hf4,HOK.o⟩,hB⟩
theorem lJ:∀{l:List Cl},uJ l=l→∀c∈l,c.half=0∨c.half=1∨c.half=2∨c.half=3
 |[],_,c,hc=>by cases hc
 |[c],hm,x,hx=>by
  rw[jM.1 hx];rw[cE]at hm
  split at hm
  · next h=>rcases h with h|h
            · exact .inl h
            · exact .inr (.inr (.inr h))
  · simp only[List.cons.injEq,and_true]at hm;exact .inl (by rw[←hm];rfl)
 |c::d::l,hm,x,hx=>by
  by_cases h0:c.half=0
  · rw[zO h0]at hm;rcases kJ.1 hx with rfl|hx
    · exact .inl h0
    · exact lJ (List.cons.inj hm).2 x hx
  · by_cases hp:yE c d=true
    · rw[rJ hp]at hm;have hp':=hp;unfold yE at hp';simp only[Bool.and_eq_true,decide_eq_true_eq]at hp';rcases kJ.1 hx with rfl|hx
      · exact .inr (.inl hp'.1.1)
      · rcases kJ.1 hx with rfl|hx
        · exact .inr (.inr (.inl hp'.1.2))
        · exact lJ (List.cons.inj (List.cons.inj hm).2).2 x hx
    · rw[bC,if_neg h0,if_neg hp]at hm;exact absurd (by rw[←(List.cons.inj hm).1];rfl) h0
def DfOk(c:Cl):Prop:=c.half≠3∧sO c.fk c.fn c.bk c.bn c.fl=true∧(c.r=0→c.fk=0∧c.fn=0∧c.fl=0)
theorem draw_of{l:List Cl}(hm:uJ l=l){c:Cl}(hc:c∈l)(h1:xZ c)(h2:DfOk c):gF c:=by
 refine⟨?_,h2.2⟩;rcases h1 with⟨a,b,d,e⟩|h1
 · refine .inl ⟨a,b,?_⟩;rcases lJ hm c hc with h|h|h|h
   · exact h
   · exact absurd h d
   · exact absurd h e
   · exact absurd h h2.1
 · exact .inr h1
def Ya:List Rw→Nat
 |[]=>0
 |r::_=>r.cs.length
theorem QI(A:Option Addr)(l:List Rw)(ca:Nat)(w:World)(hl:bG w A l):
 Calls jG 23 #[.slice A l.length ca] w fun e w'=>e=.returned (.tuple #[.int .i64 l.length,.int .i64 (Ya l)])∧Below w.heap.size w w':=by
 cases l with
 |nil=>
  clear hl;show Calls _ _ #[.slice A 0 ca] w _
  go_enter Tryz.func23,Tryz.ntmps23
  go_wp2
  go_ret2
  exact⟨rfl,jU _ _⟩
 |cons r l=>
  obtain⟨b,off,rfl,hr⟩:=hl qV;obtain⟨⟨c0,-⟩,-,hz⟩:=hr 0 _ rfl;rw[Nat.zero_mul,uA]at c0;clear hr hl;show Calls _ _ _ w (fun e w'=>e=.returned (.tuple #[.int .i64 _,.int .i64 r.cs.length])∧_);obtain⟨L,hL⟩:∃L,(r::l).length=L:=⟨_,rfl⟩;have h0:0<L:=by rw[←hL];simp
  have hbe:((L:Int)==0)=false:=beq_eq_false_iff_ne.2 qJ;rw[hL];clear hL;obtain⟨B,cs,cap,cont⟩:=r;simp only at c0 hz ⊢;generalize cs.length=cols at c0 hz ⊢
  go_enter Tryz.func23,Tryz.ntmps23
  go_upto_region 3 with fail
  refine kW 8 (fun w'=>Below w.heap.size w w'∧w'.cell? ⟨b,off,none⟩=some (.slice B cols cap)) qQ qQ ?_ ?_
  · exact⟨(jU _ _).drew,c0⟩
  simp only[jS,kK,jL,jO]
  repeat(
   (first
    |refine kF qK ?_
    |(refine kT ?_ qK ?_ ?_;rotate_left;(focus(intro w' hS;obtain⟨_,_⟩:=hS;go_simp;first|done|with_reducible rfl))))
   simp only[Act.put,jZ,jX,jY])
  refine kE (fun w' hS=>?_);obtain⟨hb,_⟩:=hS
  go_wp2
  go_ret2
  exact⟨rfl,hb⟩
def qV4(l:List Rw)(w:World)(e:Ending)(w':World):Prop:=∃t:Bool,e=.returned (.bool t)∧(t=true→∃cols,dP l cols)∧Below w.heap.size w w'
set_option maxHeartbeats 3200000 in
theorem Zo(A:Option Addr)(l:List Rw)(ca:Nat)(w:World)(hl:bG w A l)(hz:l.length≤400)(hf:∀r∈l,∀c∈r.cs,JM c.fl):
 Calls jG 24 #[.slice A l.length ca] w (qV4 l w):=by
 unfold qV4;have HS:=Hd (QI A l ca w hl);have HL:=Hd hl;have HF0:=Hd hf;clear hl hf;obtain⟨cols,hcols⟩:∃cols,Ya l=cols:=⟨_,rfl⟩;rw[hcols]at HS;have HCO:=Hd hcols;clear hcols
 by_cases hbad:l.length<1∨cols<2∨1000<cols
 · obtain⟨L,hL⟩:∃L,l.length=L:=⟨_,rfl⟩;rw[hL]at hbad HS hz ⊢;have hz2:¬(1000:Int)<L:=by omega
   clear hL;have hcase:(L:Int)<1∨(¬(L:Int)<1∧(cols:Int)<2)∨(¬(L:Int)<1∧¬(cols:Int)<2∧(1000:Int)<cols):=by omega
   clear hbad;rcases hcase with h|⟨h,h2⟩|⟨h,h2,h3⟩
   all_goals
    go_enter Tryz.func24,Tryz.ntmps24
    go_wp2_with(go_at_call 23;(with_reducible refine HS.o.mono ?_);rintro e w1 ⟨rfl,hb1⟩)
    go_ret
    exact⟨false,by first|rfl|simp,(fun h=>by cases h),hb1⟩
 have h0:0<l.length:=by omega
 have h3:2≤cols:=by omega
 have h4:cols≤1000:=by omega
 have HOKF:Hid ((∀r∈l,KA cols r)→dP l cols):=Hd (fun h=>⟨h0,hz,h3,h4,h⟩);have g1:¬(l.length:Int)<1:=by omega
 have g2:¬(1000:Int)<l.length:=by omega
 have g3:¬(cols:Int)<2:=by omega
 have g4:¬(1000:Int)<cols:=by omega
 clear hbad
 go_enter Tryz.func24,Tryz.ntmps24
 go_wp2_with(go_at_call 23;(with_reducible refine HS.o.mono ?_);rintro e w1 ⟨rfl,hb1⟩)
 have HB1:=Hd hb1;clear hb1
 go_loopw [30] (fun i wr=>∃k:Nat,k≤l.length∧i=.int .i64 k∧(∀r∈l.take k,KA cols r)∧Below w.heap.size w wr) (fun i _=>l.length-(intOf i).toNat)
 case atStart=>exact⟨0,kM _,rfl,(fun r hr=>by simp at hr),HB1.o⟩
 case round=>
  obtain⟨k,hk,rfl,hok,hB⟩:=hrel;have HOK:=Hd hok;clear hok
  by_cases hlt:k<l.length
  · obtain⟨b,off,rfl,hr⟩:=HL.o h0;have hget:=jN hlt;obtain⟨⟨c0,c1⟩,hcl,-⟩:=(hr k _ hget).below hB;have hfr:=HF0.o _ (List.getElem_mem hlt);have HT:=Hd (fun hp=>JF (P:=KA cols) HOK.o hlt hp);generalize l[k]=r at c0 c1 hcl hfr HT;obtain⟨B,cs,cap,cont⟩:=r;simp only at c0 c1 hcl hfr;clear hr hget
    by_cases hlen:cs.length=cols
    rotate_left
    · have hli:((cs.length:Int) != (cols:Int))=true:=by simp;omega
      obtain⟨n,hn⟩:∃n,cs.length=n:=⟨_,rfl⟩;rw[hn]at c0 hli;have HBW:=Hd (jH hB (.cells #[.slice B n cap,.bool cont] 52));clear hlen
      go_wp2
      go_ret
      exact⟨false,rfl,(fun h=>by cases h),HBW.o⟩
    have hp:0<cs.length:=by omega
    have HR:=Hd (fun w h=>Zs B cs cap w h hp qJ);have HCL:=Hd hcl;have HFR:=Hd hfr;rw[hlen]at c0 HR;have HLEN:=Hd hlen;clear hcl hp hlen hfr;have hcl2:=HCL.o.below ((jU wr.heap.size wr).alloc (jD _) (.cells #[.slice B cols cap,.bool cont] 52));have HC2:=Hd hcl2;have HBW:=Hd (jH hB (.cells #[.slice B cols cap,.bool cont] 52));clear hcl2
    go_wp2_with(go_at_call 49;(with_reducible refine(HR.o _ HC2.o).mono ?_);rintro e w2 ⟨t,rfl,ht,hb2⟩;have d0:=(uY hb2 (jT rfl) 0 _ rfl).1;have HB2:=Hd (jW HBW.o hb2);have HC3:=Hd (HC2.o.below hb2);have HTT:=Hd ht;clear hb2 ht;cases t)
    · go_ret
      exact⟨false,rfl,(fun h=>by cases h),HB2.o⟩
    have HT3:Hid (uJ cs=cs∧∀c∈cs,xZ c):=Hd (HTT.o qV)
    go_loopw [48] (fun i w5=>∃j:Nat,j≤cols∧i=.int .i64 j∧(∀c∈cs.take j,DfOk c)∧Below w.heap.size w w5∧Below w2.heap.size w2 w5) (fun i _=>cols-(intOf i).toNat)
    case atStart=>exact⟨0,kM _,rfl,(fun c hc=>by simp at hc),HB2.o,jU _ _⟩
    case round=>
     obtain⟨j,hj,rfl,hdj,hB5,hb5⟩:=hrel;have HDJ:=Hd hdj;clear hdj
     by_cases hjl:j<cols
     · have hjc:j<cs.length:=by have :=HLEN.o;omega
       obtain⟨b',off',c,rfl,hcg,hca⟩:=HC3.o.at_ hjc;obtain⟨hcl',hce⟩:=jP.1 hcg;have HTC:=Hd (fun hp=>aW (P:=DfOk) HDJ.o hcl' (by rw[hce];exact hp));have hfl:=HFR.o c (uB hcg);have hca:=hca.below hb5;have HF:=Hd (fun w=>Yo c hfl w);clear hcg hcl' hce hfl;obtain⟨r0,r1,r2,r3,r4,r5,r6,r7⟩:=hca;obtain⟨cr,cm,chf,c3,c4,c5,c6,c7⟩:=c;unfold clV at HF;simp only at HF r0 r1 r2 r3 r4 r5 r6 r7;have HBX:=Hd (jH hB5 (.cells #[.int .i32 cr,.string cm,.int .i64 chf,.int .i64 c3,.int .i64 c4,.int .i64 c5,.int .i64 c6,.int .i64 c7] 65));have HBY:=Hd (jH hb5 (.cells #[.int .i32 cr,.string cm,.int .i64 chf,.int .i64 c3,.int .i64 c4,.int .i64 c5,.int .i64 c6,.int .i64 c7] 65))
       go_wp2_with(go_at_call 50;(with_reducible refine(HF.o _).mono ?_);rintro e w6 ⟨t6,rfl,ht6,hb6⟩;have HT6:=Hd ht6;clear ht6;cases t6)
       · go_ret
         exact⟨false,rfl,(fun h=>by cases h),jW HBX.o hb6⟩
       · go_roundw
         case rel=>exact⟨j+1,by omega,by go_num,HTC.o (HT6.o qV),jW HBX.o hb6,jW HBY.o hb6⟩
         case measure=>simp[intOf];omega
     · obtain rfl:j=cols:=by omega
       have HN:Hid (∀r∈l.take (k+1),KA j r):=Hd (HT.o ⟨HLEN.o,HT3.o.1,fun c hc=>draw_of HT3.o.1 hc (HT3.o.2 c hc) (HDJ.o c (by rw[←HLEN.o,List.take_length];exact hc))⟩)
       go_wp2
       go_roundw
       case rel=>exact⟨k+1,by omega,by go_num,HN.o,hB5⟩
       case measure=>simp[intOf];omega
  · obtain rfl:k=l.length:=by omega
    have HFIN:Hid (dP l cols):=Hd (HOKF.o (fun r hr=>HOK.o r (by rw[List.take_length];exact hr)))
    go_wp2
    go_ret
    exact⟨true,by first|rfl|simp,fun _=>⟨cols,HFIN.o⟩,hB⟩
theorem aC{r:Int}(h:vE r=true):0≤r∧r≤1114111∧(r<55296∨57343<r):=by unfold vE at h;simp at h;omega
theorem eY{r y:Int}{ys:List Int}(h:128≤y∧y≤191):cC r (y::ys)=cC (64*r+y-128) ys:=by
 rw[cC,if_neg qJ]
theorem sG(c:Int):bL [c]=c:=by
 unfold bL;rw[if_neg qV,if_pos (show[c].length=1 from rfl)];rfl
theorem aI{c y:Int}:bL [c,y]=if c-192<0∨32≤c-192 then -1 else cC (c-192) [y]:=by
 unfold bL;rw[if_neg qV,if_neg qV];rfl
theorem aO{c y z:Int}:bL [c,y,z]=if c-224<0∨16≤c-224 then -1 else cC (c-224) [y,z]:=by
 unfold bL;rw[if_neg qV,if_neg qV];rfl
theorem K7{c y z u:Int}:bL [c,y,z,u]=if c-240<0∨8≤c-240 then -1 else cC (c-240) [y,z,u]:=by
 unfold bL;rw[if_neg qV,if_neg qV];rfl
theorem QQ{r:Int}(h:vE r=true):bL (kO r)=r:=by
 have hr:=aC h;unfold kO
 by_cases h1:r<128
 · rw[if_pos h1,sG]
 by_cases h2:r<2048
 · rw[if_neg h1,if_pos h2,aI,if_neg qJ,eY qJ,cC];omega
 by_cases h3:r<65536
 · rw[if_neg h1,if_neg h2,if_pos h3,aO,if_neg qJ,eY qJ,eY qJ,cC];omega
 · rw[if_neg h1,if_neg h2,if_neg h3,K7,if_neg qJ,eY qJ,eY qJ,eY qJ,cC];omega
theorem tF{c:Int}(h:128≤c∧c<2048):¬vD c=strOfNums [c]:=fun e=>by
 have h1:vE c=true:=aP qJ;have h2:=ZJ c h1;rw[e,gJ]at h2;unfold kO at h2;rw[if_neg qJ,if_pos qJ]at h2;simp at h2
theorem VY{r:Int}(h:vE r=true){k:Nat}(h0:1≤k)(hk:k<(kO r).length):¬(0≤bL ((kO r).take k)∧vD (bL ((kO r).take k))=strOfNums ((kO r).take k)):=by
 have hr:=aC h;unfold kO at hk ⊢
 by_cases h1:r<128
 · rw[if_pos h1]at hk;simp at hk;omega
 by_cases h2:r<2048
 · rw[if_neg h1,if_pos h2]at hk ⊢;obtain rfl:k=1:=by simp at hk;omega
   rw[show List.take 1 [192+r/64,128+r%64]=[192+r/64]from rfl,sG];exact fun e=>tF qJ e.2
 by_cases h3:r<65536
 · rw[if_neg h1,if_neg h2,if_pos h3]at hk ⊢;have hk':k=1∨k=2:=by simp at hk;omega
   rcases hk' with rfl|rfl
   · rw[show List.take 1 [224+r/4096,128+r/64%64,128+r%64]=[224+r/4096]from rfl,sG];exact fun e=>tF qJ e.2
   · rw[show List.take 2 [224+r/4096,128+r/64%64,128+r%64]=[224+r/4096,128+r/64%64]from rfl,aI,if_pos qJ];exact fun e=>by omega
 · rw[if_neg h1,if_neg h2,if_neg h3]at hk ⊢;have hk':k=1∨k=2∨k=3:=by simp at hk;omega
   rcases hk' with rfl|rfl|rfl
   · rw[show List.take 1 [240+r/262144,128+r/4096%64,128+r/64%64,128+r%64]=[240+r/262144]from rfl,sG];exact fun e=>tF qJ e.2
   · rw[show List.take 2 [240+r/262144,128+r/4096%64,128+r/64%64,128+r%64]=[240+r/262144,128+r/4096%64]from rfl,aI,if_pos qJ];exact fun e=>by omega
   · rw[show List.take 3 [240+r/262144,128+r/4096%64,128+r/64%64,128+r%64]=[240+r/262144,128+r/4096%64,128+r/64%64]from rfl,aO,if_pos qJ];exact fun e=>by omega
theorem XV(r:Int):(kO r).length≤4:=by
 unfold kO
 repeat' split
 all_goals simp
set_option maxHeartbeats 3200000 in
theorem qJt(g off ca:Nat)(xs:List Int)(w:World)(hx:∀x∈xs,0≤x∧x<256)(h0:0<xs.length)(h4:xs.length≤4)(hb:BsS w g off xs)(hp:0≤bL xs∧vD (bL xs)=strOfNums xs):
 Calls jG 264 #[.slice (some ⟨g,off,none⟩) xs.length ca] w fun e w'=>e=.returned (.bool true)∧Below w.heap.size w w':=by
 have HN:=Hd (cG g off ca xs w hx h0 h4 hb);have HX:=Hd hb;obtain⟨n,hn⟩:∃n,n=xs.length:=⟨_,rfl⟩;have HCV:Hid (∀w',BsS w' g off xs→(convert 23 9 (.slice (some ⟨g,off,none⟩) n ca)).run jG w'=.ok (.string (strOfNums xs)) w'):=Hd (fun w' h=>by rw[hn];exact Uw h ca);obtain⟨hv',hpe⟩:=hp;rw[←hpe]at HCV;rw[←hn]at HN ⊢;clear hx hb hn h0 h4 hpe;generalize bL xs=v at HN HCV hv';have HU:=Hd (fun w=>nY v w)
 go_enter Tryz.func264,Tryz.ntmps264
 go_upto_region 2 with(go_at_call 265;(with_reducible refine HN.o.mono ?_);rintro e w1 ⟨rfl,hb1⟩)
 refine gI 8 (fun w'=>Below w1.heap.size w1 w'∧BsS w' g off xs) qQ qQ ?_ ?_ ?_
 · exact fun w1 w2 hS hb=>⟨jW hS.1 hb,hS.2.below hb⟩
 · exact⟨(jU _ _).drew,HX.o.below ((jW hb1 (jU _ _).drew))⟩
 refine AtN.go 0 ?_
 iterate 4 (refine AtC.take (o:=⟨_,_,_,_,_,_⟩) (v:=?_) qQ rfl qV qQ qQ ?_ ?_;rotate_left;(focus(first|exact uQ.skip qK|(refine uQ.val qK ?_;intro w' hS;obtain⟨_,_⟩:=hS;go_simp;first|done|with_reducible rfl)));simp only[Act.put,jZ,jX,jY])
 refine AtC.back ?_;refine AtN.take 6 (o:=⟨_,_,_,_,_,_⟩) (v:=?_) qQ rfl qV qQ qQ ?_ ?_;rotate_left
 · first|exact uQ.skip qK|(refine uQ.val qK ?_;intro w' hS;obtain⟨_,_⟩:=hS;go_simp;first|done|with_reducible rfl)
 simp only[Act.put,jZ,jX,jY];refine AtN.take 7 (o:=⟨_,_,_,_,_,_⟩) (v:=.string (vD v)) qQ rfl qV qQ qQ (uQ.val qK (fun w' hS=>by have hcv:=HCV.o w' hS.2;go_simp)) ?_;simp only[Act.put,jZ,jX,jY];refine AtN.one 4 (o:=⟨_,_,_,_,_,_⟩) (fun _=>True) (XR (vD v)) qV qQ rfl (XR.pers _) (uQ.call 52 #[.int .i32 v] _ _ qK qH (fun w' hS=>(HU.o w').mono (fun e w2 ⟨u,ys,he,hu,hy,hb⟩=>⟨u,he,⟨trivial,ys,hu,hy⟩,hb⟩))) ?_;rintro U hU;simp only[Act.put,jZ,jX,jY];refine AtN.take 5 (o:=⟨_,_,_,_,_,_⟩) (v:=.string (vD v)) qQ rfl qV qQ qQ (uQ.val qK (fun w' hS=>by have hcv:=hS.2.conv;go_simp)) ?_;simp only[Act.put,jZ,jX,jY];refine AtN.done qQ (fun w' hS=>?_)
 go_wp2
 go_ret
 exact⟨by first|rfl|simp,jW hb1 hS.1.1⟩
theorem Wt(g off ca:Nat)(xs:List Int)(w:World)(hx:∀x∈xs,0≤x∧x<256)(h0:0<xs.length)(h4:xs.length≤4)(hb:BsS w g off xs)(hp:¬(0≤bL xs∧vD (bL xs)=strOfNums xs)):
 Calls jG 264 #[.slice (some ⟨g,off,none⟩) xs.length ca] w fun e w'=>e=.returned (.bool false)∧Below w.heap.size w w':=by
 refine(Uz g off ca xs w hx h0 h4 hb).mono ?_;rintro e w' ⟨t,rfl,ht,hb'⟩;cases t with
 |true=>exact absurd (ht rfl) hp
 |false=>exact⟨rfl,hb'⟩
theorem aH{r:Int}{rest xs:List Int}(h:xs=kO r++rest){k:Nat}(hk:k≤(kO r).length):xs.take k=(kO r).take k:=by
 rw[h,List.take_append_of_le_length hk]
set_option maxHeartbeats 3200000 in
theorem Xx(g off ca:Nat)(xs rest:List Int)(r:Int)(w:World)(hr:vE r=true)(hxs:xs=kO r++rest)(hx:∀x∈xs,0≤x∧x<256)(hca:xs.length≤ca)(hcm:xs.length≤2000000)(hb:BsS w g off xs):
 Calls jG 173 #[.slice (some ⟨g,off,none⟩) xs.length ca] w fun e w'=>e=.returned (.tuple #[.int .i32 r,.int .i64 (kO r).length])∧Below w.heap.size w w':=by
 have hml:(kO r).length≤xs.length:=by rw[hxs,jC];omega
 have hm4:=XV r;have hm1:=lH r;have HIF:Hid (∀(k:Nat) (w':World),1≤k→k<(kO r).length→Below w.heap.size w w'→Calls jG 264 #[.slice (some ⟨g,off,none⟩) k ca] w' fun e w2=>e=.returned (.bool false)∧Below w'.heap.size w' w2):=Hd (fun k w' h1 h2 hB=>by
  have hk:k≤xs.length:=by omega
  have :=Wt g off ca (xs.take k) w' (fun x hx'=>hx x (List.mem_of_mem_take hx')) qN qN ((hb.take k).below hB) (by rw[aH hxs qJ];exact VY hr h1 h2)
  rwa[kC,Nat.min_eq_left hk]at this)
 have htm:xs.take (kO r).length=kO r:=by rw[aH hxs (jD _),List.take_length]
 have HIT:Hid (∀(w':World),Below w.heap.size w w'→Calls jG 264 #[.slice (some ⟨g,off,none⟩) (kO r).length ca] w' fun e w2=>e=.returned (.bool true)∧Below w'.heap.size w' w2):=Hd (fun w' hB=>by
  have :=qJt g off ca (xs.take (kO r).length) w' (fun x hx'=>hx x (List.mem_of_mem_take hx')) qN qN ((hb.take _).below hB) (by rw[htm,QQ hr];exact⟨(aC hr).1,dQ r hr⟩)
  rwa[kC,Nat.min_eq_left hml]at this)
 have HN:Hid (∀(w':World),Below w.heap.size w w'→Calls jG 265 #[.slice (some ⟨g,off,none⟩) (kO r).length ca] w' fun e w2=>e=.returned (.int .i32 r)∧Below w'.heap.size w' w2):=Hd (fun w' hB=>by
  have :=cG g off ca (xs.take (kO r).length) w' (fun x hx'=>hx x (List.mem_of_mem_take hx')) qN qN ((hb.take _).below hB);rw[htm,QQ hr]at this;exact this)
 obtain⟨n,hn⟩:∃n,n=xs.length:=⟨_,rfl⟩;obtain⟨m,hm⟩:∃m,m=(kO r).length:=⟨_,rfl⟩;rw[←hn]at hml hca hcm ⊢;rw[←hm]at HIF HIT HN hml hm4 hm1 ⊢;clear hx hb hn hm htm hxs hr
 go_enter Tryz.func173,Tryz.ntmps173
 go_wp2_with fail
 go_loopw [4] (fun i wr=>∃k:Nat,1≤k∧k≤m∧i=.int .i64 k∧Below w.heap.size w wr) (fun i _=>6-(intOf i).toNat)
 case atStart=>exact⟨1,by omega,by omega,rfl,jU _ _⟩
 case round=>
  obtain⟨k,hk1,hk2,rfl,hB⟩:=hrel;have hl1:k≤4:=by omega
  have hl2:k≤n:=by omega
  by_cases hlt:k<m
  · have HI1:=Hd (HIF.o k wr hk1 hlt hB)
    go_wp2_with(go_at_call 264;(with_reducible refine HI1.o.mono ?_);rintro e w1 ⟨rfl,hb1⟩)
    all_goals
     first
     |exact⟨⟨k+1,by omega,by omega,by go_num,jW hB hb1⟩,by simp[intOf];omega⟩
     |(go_roundw
       case rel=>exact⟨k+1,by omega,by omega,by go_num,jW hB hb1⟩
       case measure=>simp[intOf];omega)
  · obtain rfl:k=m:=by omega
    have HI1:=Hd (HIT.o wr hB)
    go_wp2_with(first|(go_at_call 264;(with_reducible refine HI1.o.mono ?_);rintro e w1 ⟨rfl,hb1⟩)|(go_at_call 265;(with_reducible refine(HN.o _ (jW hB hb1)).mono ?_);rintro e w2 ⟨rfl,hb2⟩))
    go_ret2
    exact⟨rfl,jW (jW hB hb1) hb2⟩
theorem QC(L:List Int){j:Nat}(h:j<L.length):(L.take (j+1)).flatMap kO=(L.take j).flatMap kO++kO L[j]:=by
 rw[kQ h,List.flatMap_append];simp
theorem sF(L:List Int){j:Nat}(h:j<L.length):(L.flatMap kO).drop ((L.take j).flatMap kO).length=kO L[j]++(L.drop (j+1)).flatMap kO:=by
 conv=>lhs;rw[←List.take_append_drop j L,List.flatMap_append]
 rw[List.take_append_drop,List.drop_left,List.drop_eq_getElem_cons h,List.flatMap_cons]
set_option maxHeartbeats 3200000 in
theorem Va(g off ca:Nat)(xs L:List Int)(w:World)(hL:∀r∈L,vE r=true)(hxs:xs=L.flatMap kO)(hx:∀x∈xs,0≤x∧x<256)(hca:xs.length≤ca)(hcm:xs.length≤2000000)(hb:BsS w g off xs):
 Calls jG 109 #[.slice (some ⟨g,off,none⟩) xs.length ca] w (eM L w):=by
 obtain⟨n,hn⟩:∃n,n=xs.length:=⟨_,rfl⟩;obtain⟨I,hI⟩:∃I:Nat→Nat,∀j,I j=((L.take j).flatMap kO).length:=⟨_,fun _=>rfl⟩;have hI0:I 0=0:=by rw[hI];rfl
 have hIE:I L.length=n:=by rw[hI,List.take_length,hn,hxs]
 have hIS:∀j (h:j<L.length),I (j+1)=I j+(kO L[j]).length:=fun j h=>by rw[hI,hI,QC L h,jC]
 have hIl:∀j,j<L.length→I j<n:=fun j h=>by
  have h1:=sF L h;have h2:=congrArg List.length h1;rw[List.length_drop,jC,←hxs,←hn,←hI]at h2;have :=lH L[j];omega
 have HO:Hid (∀(j:Nat) (h:j<L.length) (w':World),Below w.heap.size w w'→Calls jG 173 #[.slice (some ⟨g,off+I j,none⟩) (n-I j) (ca-I j)] w' fun e w2=>e=.returned (.tuple #[.int .i32 L[j],.int .i64 (kO L[j]).length])∧Below w'.heap.size w' w2):=Hd (fun j h w' hB=>by
  have :=Xx g (off+I j) (ca-I j) (xs.drop (I j)) ((L.drop (j+1)).flatMap kO) L[j] w' (hL _ (List.getElem_mem h)) (by rw[hxs,hI];exact sF L h) (fun x hx'=>hx x (List.mem_of_mem_drop hx')) qR qR ((hb.drop _).below hB)
  rwa[List.length_drop,←hn]at this)
 have hLn:L.length≤n:=by rw[hn,hxs];exact eI L
 have HIE:=Hd hIE;have HIS:=Hd hIS;have HIL:=Hd hIl;rw[←hn]at hca hcm ⊢;clear hx hb hn hI hxs hL hIE hIS hIl;obtain⟨i0,hi,hz0,hz1,hz2⟩:=info_parts nM
 go_enter Tryz.func109,Tryz.ntmps109
 go_wp2_with fail
 go_loopw [0,3] (fun s o wr=>∃(i j:Nat) (A:Option Addr),j≤L.length∧i=I j∧i≤n∧(i<n→A=some ⟨g,off+i,none⟩)∧s=.slice A (n-i) (ca-i)∧wr.ownsRow w.heap.size 21 1 o (L.take j).length ((L.take j).map (.int .i32))∧Below w.heap.size w wr) (fun s _ _=>match s with | .slice _ m _=>m|_=>0)
 case atStart=>exact⟨0,0,_,kM _,hI0.symm,kM _,fun _=>rfl,rfl,kS _ _ _ _,jU _ _⟩
 case round=>
  obtain⟨i,j,A,hjn,hij,hin,hA,rfl,ho,hB⟩:=hrel
  by_cases hlt:j<L.length
  · have hi2:i<n:=by rw[hij];exact HIL.o j hlt
    obtain rfl:=hA hi2;have HO1:=Hd (HO.o j hlt wr hB);have hsx:=HIS.o j hlt;have hml:I (j+1)≤n:=by
     by_cases h:j+1<L.length
     · exact Nat.le_of_lt (HIL.o _ h)
     · have :j+1=L.length:=by omega
       rw[this,HIE.o];exact jD _
    have hm1:=lH L[j];have HTK:Hid ((L.take (j+1)).length=(L.take j).length+1∧(L.take (j+1)).map (Value.int .i32)=(L.take j).map (Value.int .i32)++[.int .i32 L[j]]):=Hd (by
     rw[kQ hlt,jC,vX];exact⟨rfl,rfl⟩)
    have htl:(L.take j).length≤2000000:=by rw[kC];omega
    rw[←hij]at HO1 hsx;have HIJ:=Hd hsx;generalize L[j]=r at HO1 hsx hm1 HTK HIJ;generalize (kO r).length=m at HO1 hsx hm1 HIJ;have hm2:m≤n-i:=by omega
    have HOW:=Hd ho;have HB:=Hd hB;have hp:0<n-i:=by omega
    have hp2:(0:Int)<((n-i:Nat):Int):=by omega
    clear ho hB hij hsx
    go_wp2_with(first
     |(go_at_call 173;(with_reducible refine HO1.o.mono ?_);rintro e w1 ⟨rfl,hb1⟩;have HB1:=Hd (jW HB.o hb1);have ho1:=(xB HOW.o hb1).alloc (.cells #[.int .i32 r] 21);clear hb1)
     |(at_builtin;refine wpList_append_own _ rfl _ _ 136 rfl w.heap.size 21 i0 (.int .i32 0) 1 4 Tryz.underlying136 hi hz0 hz1 hz2 rfl qZ _ (L.take j).length _ rfl ho1 ⟨w1.heap.size,0,none⟩ 1 1 [.int .i32 r] rfl rfl (cell_one_new _ _ _) qZd qG qJ qZm ?_;intro v' w2 hown' hgrow _;have HB2:=Hd (show Below w.heap.size w w2 from(HB1.o.alloc HB1.o.size _).grown hgrow qZm (fun k hk=>(ho1.lt k hk).1));have HO2:=Hd hown';clear hown' hgrow))
    refine⟨⟨i+m,j+1,_,by omega,HIJ.o.symm,by omega,fun h=>?_,by rw[Nat.sub_add_eq,Nat.sub_add_eq],by rw[HTK.o.1,HTK.o.2];simpa using HO2.o,HB2.o⟩,by simp only[];omega⟩;rw[if_neg qJ];rw[Nat.add_assoc]
  · obtain rfl:j=L.length:=by omega
    have hz:n-i=0:=by have :=HIE.o;omega
    rw[hz];rw[List.take_length]at ho
    go_wp2
    go_ret
    exact⟨_,rfl,ho,hB⟩
def pE:Pz→List Int→Pz×List Ev
 |p,[]=>(p,[])
 |p,c::l=>((pE (vP p c).1 l).1,(vP p c).2++(pE (vP p c).1 l).2)
theorem dE:∀(a b:List Int) (p:Pz),pE p (a++b)=((pE (pE p a).1 b).1,(pE p a).2++(pE (pE p a).1 b).2)
 |[],_,_=>rfl
 |c::a,b,p=>by
  show((pE (vP p c).1 (a++b)).1,(vP p c).2++(pE (vP p c).1 (a++b)).2)=_;rw[dE a b];simp only[pE,kG]
def qVy(p:Pz):Prop:=p.state=0∧p.dec.need=0∧p.dec.hv=0
theorem Vb:∀(l:List Int) (p:Pz),p.state=2→p.wrong=false→p.inter=[]→(∀c∈l,48≤c∧c<60)→p.head.length+l.length≤256→pE p l=({p with head:=p.head++l},[])
 |[],p,_,_,_,_,_=>by simp[pE]
 |c::l,p,h2,hw,hi,hl,hz=>by
  have hc:=hl c (List.mem_cons_self ..);have hz':p.head.length+(l.length+1)≤256:=by simpa using hz
  have e:vP p c=({p with head:=p.head++[c]},[]):=by
   unfold vP;rw[if_neg qJ,if_neg qJ,if_neg qJ,if_neg qJ];unfold dO;rw[if_neg qJ,if_neg qJ,if_neg qJ,if_neg qJ];unfold mM;rw[if_neg qJ,if_pos qJ];unfold nH;rw[if_neg (by rw[hw];decide),if_neg qJ,if_neg (by rw[hi];simp;omega)]
  show((pE (vP p c).1 l).1,(vP p c).2++(pE (vP p c).1 l).2)=_;rw[e,Vb l {p with head:=p.head++[c]} h2 hw hi (fun x hx=>hl x (List.mem_cons_of_mem _ hx)) qY];simp
theorem seq_run{p:Pz}(hr:qVy p){l:List Int}(hl:∀c∈l,48≤c∧c<60)(hz:l.length≤256){c:Int}(hc:64≤c∧c<127):
 pE p (27::91::(l++[c]))=(gV p 0,[⟨3,0,c,0,ZB l,[],[],false⟩]):=by
 obtain⟨r1,r2,r3⟩:=hr;have e0:fB p=(p,[]):=by
  unfold fB dU;rw[if_pos r3];rfl
 have e1:vP p 27=(gV p 1,[]):=by
  unfold vP;rw[if_neg qZ,if_pos rfl,e0];show(gV p 1,[]++mF p)=_;unfold mF;rw[if_neg qJ,if_neg qJ];rfl
 have e2:vP (gV p 1) 91=(gV p 2,[]):=by
  unfold vP;rw[if_neg qZ,if_neg qZ,if_neg (by show ¬(1:Int)=0;decide),if_neg (by show ¬((1:Int)=4∨(1:Int)=5∨_);simp[gV])];unfold dO;rw[if_neg qZ,if_neg qJ,if_neg qZ,if_pos (show(gV p 1).state=1 from rfl)];unfold cI;rw[if_neg qZ];unfold bT;rw[if_pos ⟨rfl,rfl,rfl⟩];rfl
 have e3:pE (gV p 2) l=({gV p 2 with head:=l},[]):=by
  rw[Vb l (gV p 2) rfl rfl rfl hl (by simpa[gV]using hz)];simp[gV]
 have e4:vP {gV p 2 with head:=l} c=(gV p 0,[⟨3,0,c,0,ZB l,[],[],false⟩]):=by
  unfold vP;rw[if_neg qJ,if_neg qJ,if_neg (by show ¬(2:Int)=0;decide),if_neg (by simp[gV])];unfold dO;rw[if_neg qJ,if_neg qJ,if_neg qJ,if_neg (by show ¬(2:Int)=1;decide)];unfold mM;rw[if_neg qJ,if_neg qJ,if_neg (by show ¬(2:Int)=3;decide)];rfl
 show((pE (vP p 27).1 (91::(l++[c]))).1,(vP p 27).2++(pE (vP p 27).1 (91::(l++[c]))).2)=_;rw[e1];show((pE (vP (gV p 1) 91).1 (l++[c])).1,[]++((vP (gV p 1) 91).2++(pE (vP (gV p 1) 91).1 (l++[c])).2))=_;rw[e2,dE,e3];show((vP {gV p 2 with head:=l} c).1,[]++([]++([]++((vP {gV p 2 with head:=l} c).2++[]))))=_;rw[e4];rfl
theorem step_eq{d:Dk}{c:Int}(h:okD d c):gG d c=((yT d c).1.toList,(yT d c).2):=by
 unfold gG yT;rcases h with⟨h1,h2,h3⟩|⟨h1,h2,h3,h4,h5,h6,h7,h8,h9,h10⟩
 · rw[if_pos h1,if_pos h1];unfold pB;rcases h3 with h3|h3
   · have e:yW c=1:=by unfold yW;rw[if_pos h3.2]
     rw[e,if_neg qZ,if_pos rfl,if_pos h3.2];rfl
   · have e:yW c=2∨yW c=3∨yW c=4:=by
      unfold yW;rw[if_neg qJ,if_neg qJ]
      by_cases h1:c<224
      · rw[if_pos h1];exact .inl rfl
      rw[if_neg h1]
      by_cases h1:c<240
      · rw[if_pos h1];exact .inr (.inl rfl)
      rw[if_neg h1];exact .inr (.inr rfl)
     rw[if_neg qJ,if_neg qJ,if_neg (by omega:¬c<128)];rfl
 · have n0:¬d.need=0:=by omega
   rw[if_neg n0,if_neg qJ,if_neg n0]
   by_cases h1:d.need=1
   · rw[if_pos h1,if_pos h1];rfl
   · rw[if_neg h1,if_neg h1];rfl
def rC(r:Int):Prop:=32≤r∧r≠127∧¬(128≤r∧r<160)
theorem sZ:∀(l:List Int) (p:Pz),(∀r∈l,rC r)→vZ p l=(p,l.map fun r=>{evE with r:=r})
 |[],_,_=>rfl
 |r::l,p,h=>by
  have e:print1 p r=(p,[{evE with r:=r}]):=by
   obtain⟨a,b,c⟩:=h r (List.mem_cons_self ..);unfold print1;rw[if_neg qJ,if_neg b,if_neg c]
  unfold vZ;rw[e,sZ l p (fun x hx=>h x (List.mem_cons_of_mem _ hx))];rfl
theorem Uy:∀(l:List Int) (p:Pz),p.state=0→fH p.dec l→(∀c∈l,c≠24∧c≠26∧c≠27)→(∀r∈(yO p.dec l).1,rC r)→pE p l=({p with dec:=(yO p.dec l).2},(yO p.dec l).1.map fun r=>{evE with r:=r})
 |[],_,_,_,_,_=>rfl
 |c::l,p,h0,hok,hc,hp=>by
  have hc0:=hc c (List.mem_cons_self ..);have e:vP p c=({p with dec:=(yT p.dec c).2},(yT p.dec c).1.toList.map fun r=>{evE with r:=r}):=by
   unfold vP;rw[if_neg qJ,if_neg qJ,if_pos h0];unfold U6;rw[step_eq hok.1];exact sZ _ _ (fun r hr=>hp r (by unfold yO;exact List.mem_append_left _ hr))
  show((pE (vP p c).1 l).1,(vP p c).2++(pE (vP p c).1 l).2)=_;rw[e,Uy l {p with dec:=(yT p.dec c).2} h0 hok.2 (fun x hx=>hc x (List.mem_cons_of_mem _ hx)) (fun r hr=>hp r (by unfold yO;exact List.mem_append_right _ hr))];simp[yO]
theorem XK{r:Int}(hs:vE r=true)(hp:rC r):∀c∈kO r,c≠24∧c≠26∧c≠27:=by
 have hr:0≤r∧r≤1114111:=by unfold vE at hs;simp at hs;omega
 obtain⟨a,-,-⟩:=hp;intro c hc;unfold kO at hc
 split at hc
 · simp at hc;omega
 split at hc
 · simp at hc;omega
 split at hc
 · simp at hc;omega
 · simp at hc;omega
theorem qJj{p:Pz}(hr:qVy p)(l:List Int)(hl:∀r∈l,vE r=true∧rC r):
 ∃d,d.need=0∧d.hv=0∧pE p (l.flatMap kO)=({p with dec:=d},l.map fun r=>{evE with r:=r}):=by
 obtain⟨h1,h2,h3,h4⟩:=Qc l (fun r h=>(hl r h).1) p.dec hr.2;refine⟨_,h3,h4,?_⟩;rw[Uy _ p hr.1 h1 (fun c hc=>?_) (fun r hr=>(hl r (by rw[h2]at hr;exact hr)).2),h2];obtain⟨r,h5,h6⟩:=List.mem_flatMap.1 hc;exact XK (hl r h5).1 (hl r h5).2 c h6
def cD(n:Nat):List Int:=(Go.Lib.decDigits n).map fun b=>(b.toNat:Int)
theorem mS(n:Nat):cD n=if n<10 then[48+(n:Int)]else cD (n/10)++[48+((n%10:Nat):Int)]:=by
 have hb:∀k,k<10→((UInt8.ofNat (48+k)).toNat:Int)=48+(k:Int):=fun k hk=>by
  rw[UInt8.toNat_ofNat'];omega
 unfold cD;rw[Go.Lib.decDigits]
 split
 · simp only[List.map_cons,List.map_nil];rw[hb n qZu]
 · rw[vX];simp only[List.map_cons,List.map_nil];rw[hb (n%10) (Nat.mod_lt _ qZ)]
theorem xC(n:Nat):∀c∈cD n,48≤c∧c<58:=by
 induction n using Nat.strongRecOn with
 |_ n ih=>
  intro c hc;rw[mS]at hc
  split at hc
  · simp at hc;omega
  · rcases kU.1 hc with h|h
    · exact ih (n/10) qJ c h
    · simp at h;omega
theorem Qj(n:Nat):0<(cD n).length:=by
 rw[mS]
 split<;>simp
theorem VS(n:Nat)(hn:n≤65535):xO (cD n)=n:=by
 have key:∀n:Nat,n≤65535→(cD n).foldl (fun n c=>min (n*10+(c-48)) 65535) (0:Int)=n:=by
  intro n
  induction n using Nat.strongRecOn with
  |_ n ih=>
   intro hn;rw[mS]
   split
   · simp only[List.foldl_cons,List.foldl_nil];omega
   · rw[List.foldl_append,ih (n/10) qJ qJ];simp only[List.foldl_cons,List.foldl_nil];omega
 unfold xO;rw[if_neg (by have :=Qj n;omega),key n hn]
theorem oT{sep:Int}{a:List Int}(n:Nat)(h:sep∉a):zJ sep (n+1) a=[a]:=by
 unfold zJ;rw[if_neg h]
theorem ZG{sep:Int}:∀{a:List Int} (n:Nat) (rest:List Int),sep∉a→zJ sep (n+1) (a++sep::rest)=a::zJ sep n rest:=fun{a} n rest h=>by
 have e1:∀a:List Int,sep∉a→(a++sep::rest).takeWhile (· ≠sep)=a∧((a++sep::rest).dropWhile (· ≠sep)).drop 1=rest:=by
  intro a
  induction a with
  |nil=>intro _;simp
  |cons x a ih=>
   intro hx;have hx1:x≠sep:=fun e=>hx (by rw[e];exact List.mem_cons_self ..);obtain⟨i1,i2⟩:=ih (fun hm=>hx (List.mem_cons_of_mem _ hm))
   constructor
   · rw[List.cons_append,List.takeWhile_cons,if_pos (by simpa using hx1),i1]
   · rw[List.cons_append,List.dropWhile_cons,if_pos (by simpa using hx1),i2]
 obtain⟨i1,i2⟩:=e1 a h
 conv=>lhs;unfold zJ
 rw[if_pos qV,i1,i2]
def yY:List Nat→List Int
 |[]=>[]
 |[n]=>cD n
 |n::m::l=>cD n++59::yY (m::l)
theorem QX:∀(l:List Nat),∀c∈yY l,48≤c∧c<60
 |[],_,h=>by cases h
 |[n],c,h=>by have :=xC n c h;omega
 |n::m::l,c,h=>by
  rcases kU.1 (show c∈cD n++59::yY (m::l)from h)with h|h
  · have :=xC n c h;omega
  rcases kJ.1 h with rfl|h
  · omega
  · exact QX (m::l) c h
theorem aE:∀(l:List Nat) (k:Nat),l≠[]→l.length≤k→(∀n∈l,n≤65535)→(zJ 59 k (yY l)).map (fun g=>(zJ 58 8 g).map xO)=l.map (fun n:Nat=>[(n:Int)])
 |[],_,h,_,_=>absurd rfl h
 |[n],0,_,h,_=>absurd h qV
 |[n],k+1,_,_,hn=>by
  have h1:∀s:Int,58≤s→s∉cD n:=fun s hs hx=>by have :=xC n s hx;omega
  rw[show yY [n]=cD n from rfl,oT k (h1 59 qZ)];simp only[List.map_cons,List.map_nil];rw[oT 7 (h1 58 qZ)];simp only[List.map_cons,List.map_nil];rw[VS n (hn n qV)]
 |n::m::l,0,_,h,_=>absurd h qV
 |n::m::l,k+1,_,hk,hn=>by
  have h1:∀s:Int,58≤s→s∉cD n:=fun s hs hx=>by have :=xC n s hx;omega
  rw[show yY (n::m::l)=cD n++59::yY (m::l)from rfl,ZG k _ (h1 59 qZ),List.map_cons,aE (m::l) k qV (by simp at hk ⊢;omega) (fun x hx=>hn x (List.mem_cons_of_mem _ hx)),oT 7 (h1 58 qZ)];simp only[List.map_cons,List.map_nil];rw[VS n (hn n qV)]
structure Ch where
 g0:Int
 g1:Int
 g2:Int
 g3:Int
 use:Int
 once:Int
structure Pe where
 at_:Atr
 ch:Ch
 put:Bool
 wrap:Bool
 home:Bool
structure Sc where
 pg:Pg
 st:List Bool
 pen:Pe
 y:Int
 x:Int
 top:Int
 bot:Int
 sp:Pe
 sy:Int
 sx:Int
 has:Bool
 last:Int
def vI:Atr:=⟨0,0,0,0,0⟩
def gE:Ch:=⟨66,66,66,66,0,0⟩
def nB:Pe:=⟨vI,gE,false,true,false⟩
def XI:Pe:=⟨vI,⟨0,0,0,0,0,0⟩,false,false,false⟩
def Qq:List Int:=[0x25c6,0x2592,0x2409,0x240c,0x240d,0x240a,0xb0,0xb1,0x2424,0x240b,0x2518,0x2510,0x250c,0x2514,0x253c,0x23ba,0x23bb,0x2500,0x23bc,0x23bd,0x251c,0x2524,0x2534,0x252c,0x2502,0x2264,0x2265,0x3c0,0x2260,0xa3,0xb7]
def aN(kind r:Int):Int:=
 if kind=65∧r=35 then 163 else if kind=48∧r=95 then 32 else if kind=48∧96≤r∧r≤126 then Qq.getD (r-96).toNat 0 else r
def VT(c:Ch):Int:=if c.once=2∨c.once=3 then c.once else if 0≤c.use∧c.use≤3 then c.use else 0
def setC(c:Ch)(k:Int):Int:=if k=0 then c.g0 else if k=1 then c.g1 else if k=2 then c.g2 else c.g3
def qKl(c:Ch)(r:Int):Int:=aN (setC c (VT c)) r
def Jf(c:Ch):Ch:={c with once:=0}
def pP(n lo hi:Int):Int:=max lo (min n hi)
def XY(s:Sc):Col:=rN s.pen.at_
def Jj(s:Sc):Int:=s.pg.scr.length
def fP(s:Sc):Int:=s.pg.cols
def inS(s:Sc):Int:=min s.x (fP s-1)
def Zi(s:Sc):Sc×Bool:=
 if s.y=s.bot then({s with x:=inS s,pg:=aU s.pg s.top s.bot 1 (fun t b g=>upP g t b (XY s))},true)
 else if s.y<Jj s-1 then({s with x:=inS s,y:=s.y+1},true)
 else({s with x:=inS s},false)
def lF(s:Sc):Sc:=if s.x<fP s then{s with pg:=zC s.pg s.y fE}else s
def onS(p:Sc×Bool):Sc:=if p.2 then{p.1 with x:=0,pg:=yB p.1.pg p.1.y true}else{p.1 with x:=0}
def mZ(s:Sc)(w:Int):Sc:=
 if s.x+w≤fP s then s
 else if s.pen.wrap=false then{s with x:=fP s-w}
 else onS (Zi (lF s))
def aB(s:Sc)(w:Int):Sc:=if s.pen.put then{s with pg:=zC s.pg s.y (fun l=>bM l s.x w (XY s))}else s
def V8(s:Sc)(r w:Int):Sc:={s with pg:=zC s.pg s.y (fun l=>fV l s.x r s.pen.at_),x:=s.x+w,last:=r}
def oW(s:Sc)(r:Int):Sc:=
 if vB r=0 then{s with pg:=zC s.pg s.y (fun l=>cM l (s.x-1) r)}
 else if vB r<1 then s
 else V8 (aB (mZ s (vB r)) (vB r)) r (vB r)
def mY(s:Sc)(r:Int):Sc:=oW {s with pen:={s.pen with ch:=Jf s.pen.ch}} (qKl s.pen.ch r)
def rQ(rows cols lines:Nat)(st:List Bool):Sc:=⟨⟨lines,[],0,kN rows (zD cols ⟨0,0⟩),cols,[]⟩,st,nB,0,0,0,rows-1,XI,0,0,false,0⟩
end Go.Proofs.YtaefcahblmopfaaGreatDoor
