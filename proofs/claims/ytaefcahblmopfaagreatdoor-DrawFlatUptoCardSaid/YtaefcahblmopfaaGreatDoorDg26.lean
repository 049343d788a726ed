/- Joined by a tool of this claim out of smaller texts. Conditions: as stated. -/
import Derived.Test.YtaefcahblmopfaaGreatDoorDg25
import Derived.Deep.Slices
import Derived.Deep.Fields
import Derived.ChangeSame
import Derived.ProofKit
import Derived.Deep.LoopGhost
import Derived.Deep.QuietTactic
import Derived.BigQuiet
import Derived.Shelf.Strconv.Itoa3
import Derived.Ground.NamesProg
import Derived.Test.YtaefcahblmopfaaGreatDoorProg
import Derived.Lib.Builder
import Derived.Lib.AppendStr
import Derived.Lib.UnsafeStr
import Derived.Lib.FrozenHead
import Derived.Shelf.RegionOpenPlain
import Derived.Deep.DeepCutAuto
import Derived.Lib.ItoaNum
import Derived.Lib.AppendIntMem
import Derived.Lib.LaidTab
import Derived.Shelf.Strings.OnBuilder
import Derived.Shelf.Strings.Trim
set_option linter.unusedVariables false
set_option linter.unusedSimpArgs false
set_option maxRecDepth 100000
open Go.Lib renaming hid → Hd
open List renaming setIfInBounds_toArray → jZ, set_cons_zero → jX, set_cons_succ → jY, mem_singleton → jW, getElem?_eq_getElem → jN, getElem?_eq_some_iff → jP, length_append → jC, drop_succ_cons → jR, take_succ_cons → jS, drop_zero → jO, mem_cons → kJ, take_zero → kK, take_succ_eq_append_getElem → kY, mem_append → kM, length_take → kS, getElem?_append_right → kT, getElem?_map → uV, getElem?_eq_none → uZ, mem_of_getElem? → uW, getElem?_append_left → uM
open Go.Proofs.Tryz renaming prog → jG
open Go.RowKit.Below renaming refl → jU
open Nat renaming le_refl → jD, le_trans → jI, zero_le → kB, zero_add → kP, add_zero → uS
open Go.IntWalk renaming i64_in → jF
open Go.IntKind renaming i64 → jE
open ByteArray renaming empty → kU
open Go.World renaming ownsRow_nil → kD
open Int renaming toNat_natCast → vQ
namespace Go.Proofs.YtaefcahblmopfaaGreatDoor
open Go.RowKit
theorem Z4{w:World}{A:Option Addr}{l:List Cl}(h:pZ kQ 8 w A l):zL w A l:=fun h0=>by
 obtain⟨b,off,hA,hc⟩:=h h0;refine⟨b,off,hA,fun i c hi=>?_⟩;have :=hc i c hi;exact⟨this 0 _ rfl,this 1 _ rfl,this 2 _ rfl,this 3 _ rfl,this 4 _ rfl,this 5 _ rfl,this 6 _ rfl,this 7 _ rfl⟩
def Ok7(c:Cl):Prop:=c.half=3∨Kl c
theorem qQl{P:Cl→Prop}{l:List Cl}{k:Nat}(h:∀c∈l.take k,P c)(hk:k<l.length)(hp:P l[k]):∀c∈l.take (k+1),P c:=fun c hc=>by
 rw[kY hk]at hc;rcases kM.1 hc with h'|h'
 · exact h c h'
 · rw[jW.1 h'];exact hp
theorem UZ{r:Int}(h:gZ r=2):r≠0:=by
 rintro rfl
 revert h
 decide
def Zs(l:List Cl)(w:World)(e:Ending)(w':World):Prop:=∃t:Bool,e=.returned (.bool t)∧(t=true→uQ l=l∧∀c∈l,Ok7 c)∧Below w.heap.size w w'
set_option maxHeartbeats 6400000 in
theorem VC(A:Option Addr)(l:List Cl)(ca:Nat)(w:World)(hl:zL w A l)(h0:0<l.length)(hz:l.length≤1000)(hmz:∀c∈l,c.more.size≤1048576):
 Calls jG 31 #[.slice A l.length ca] w (Zs l w):=by
 have HM:=Hd (JG A l ca w (iX hl) h0 qJ);have HL:=Hd hl;have HMZ:=Hd hmz;have hml:=uN l;clear hl hmz;have HS:Hid (∀(g cap:Nat) (w1:World),CrO w1 w.heap.size g cap (uQ l)→Below w.heap.size w w1→Calls jG 57 #[.slice (some ⟨g,0,none⟩) l.length cap,.slice A l.length ca] w1 fun e w2=>e=.returned (.bool (decide (uQ l=l)))∧Below w1.heap.size w1 w2):=Hd (fun g cap w1 hc hb=>by
  have :=fE _ _ _ _ cap ca w1 (Z4 (JO hc)) (HL.o.below hb) (by rw[hml];omega) qJ
  rwa[hml]at this)
 by_cases hm:uQ l=l
 · rw[show decide (uQ l=l)=true from decide_eq_true hm]at HS;have HMM:=Hd hm;clear hm
   go_enter Tryz.func31,Tryz.ntmps31
   go_wp2_with(first|(go_at_call 30;(with_reducible refine HM.o.mono ?_);rintro e w1 ⟨g,cap,rfl,hcr,hb1⟩)|(go_at_call 57;(with_reducible refine(HS.o g cap _ hcr hb1).mono ?_);rintro e w2 ⟨rfl,hb2⟩;have HB2:=Hd (jM hb1 hb2);clear hcr hb1 hb2))
   go_loopw [3] (fun i wr=>∃k:Nat,k≤l.length∧i=.int .i64 k∧(∀c∈l.take k,Ok7 c)∧Below w.heap.size w wr) (fun i _=>l.length-(intOf i).toNat)
   case atStart=>exact⟨0,kB _,rfl,by simp,HB2.o⟩
   case round=>
    obtain⟨k,hk,rfl,hok,hB⟩:=hrel;have HOK:=Hd hok;clear hok
    by_cases hlt:k<l.length
    · obtain⟨b,off,rfl,hcl⟩:=HL.o h0;have hr:=(hcl k _ (jN hlt)).below hB;have hmz:=HMZ.o _ (List.getElem_mem hlt);have HT:=Hd (fun hp=>qQl (P:=Ok7) HOK.o hlt hp);clear hcl;generalize l[k]=c at hr hmz HT;obtain⟨r0,r1,r2,r3,r4,r5,r6,r7⟩:=hr;obtain⟨cr,cm,ch,c3,c4,c5,c6,c7⟩:=c;simp only at r0 r1 r2 r3 r4 r5 r6 r7 hmz;have HW:=Hd (fun w=>UB cr w);have HK:=Hd (fun w=>VS cm hmz w);have HBX:=Hd (jH hB (.cells #[.int .i32 cr,.string cm,.int .i64 ch,.int .i64 c3,.int .i64 c4,.int .i64 c5,.int .i64 c6,.int .i64 c7] 65));clear hmz
      by_cases hA:ch=0
      · subst hA
        by_cases hr:cr=0
        · subst hr
          by_cases hm:cm=kU
          · subst hm
            go_wp2_with(go_at_call 58;(with_reducible refine(HW.o _).mono ?_);rintro e w3 ⟨rfl,hb3⟩;have x0:=(vT hb3 (jA rfl) 0 _ rfl).1;have x1:=(vT hb3 (jA rfl) 1 _ rfl).1;have x2:=(vT hb3 (jA rfl) 2 _ rfl).1;have HB3:=Hd (jM HBX.o hb3);clear hb3)
            all_goals
             first
             |(go_ret;exact⟨_,rfl,fun h=>by simp at h,HB3.o⟩)
             |(go_roundw
               case rel=>exact⟨k+1,by omega,by go_num,HT.o (.inr (.inl ⟨rfl,rfl,rfl⟩)),HB3.o⟩
               case measure=>simp[intOf];omega)
          · have hcm2:¬cm.toList=[]:=fun e=>hm (WideShapes.bytes_inj (by rw[←ByteArray.toList_eq cm,e];rfl));have hcm:cm.toList.isEmpty=false:=by rw[List.isEmpty_eq_false_iff];exact hcm2
            go_wp2_with(go_at_call 58;(with_reducible refine(HW.o _).mono ?_);rintro e w3 ⟨rfl,hb3⟩;have x0:=(vT hb3 (jA rfl) 0 _ rfl).1;have x1:=(vT hb3 (jA rfl) 1 _ rfl).1;have x2:=(vT hb3 (jA rfl) 2 _ rfl).1;have HB3:=Hd (jM HBX.o hb3);clear hb3)
            all_goals
             first
             |(go_ret;exact⟨_,rfl,fun h=>by simp at h,HB3.o⟩)
        · by_cases hw:gZ cr=1
          · have HR:=Hd hw;rw[hw]at HW;clear hw
            go_wp2_with(first|(go_at_call 58;(with_reducible refine(HW.o _).mono ?_);rintro e w3 ⟨rfl,hb3⟩;have x0:=(vT hb3 (jA rfl) 0 _ rfl).1;have x1:=(vT hb3 (jA rfl) 1 _ rfl).1;have x2:=(vT hb3 (jA rfl) 2 _ rfl).1;have HB3:=Hd (jM HBX.o hb3);clear hb3)|(go_at_call 59;(with_reducible refine(HK.o _).mono ?_);rintro e w4 ⟨t,rfl,ht,hb4⟩;have HT4:=Hd ht;clear ht;cases t))
            all_goals
             first
             |(go_ret;exact⟨_,rfl,fun h=>by simp at h,jM HB3.o hb4⟩)
             |(go_roundw
               case rel=>exact⟨k+1,by omega,by go_num,HT.o (.inr (.inr ⟨hr,HT4.o (by first|rfl|trivial),.inl ⟨rfl,HR.o⟩⟩)),jM HB3.o hb4⟩
               case measure=>simp[intOf];omega)
          · go_wp2_with(go_at_call 58;(with_reducible refine(HW.o _).mono ?_);rintro e w3 ⟨rfl,hb3⟩;have x0:=(vT hb3 (jA rfl) 0 _ rfl).1;have x1:=(vT hb3 (jA rfl) 1 _ rfl).1;have x2:=(vT hb3 (jA rfl) 2 _ rfl).1;have HB3:=Hd (jM HBX.o hb3);clear hb3)
            all_goals
             first
             |(go_ret;exact⟨_,rfl,fun h=>by simp at h,HB3.o⟩)
      by_cases hB1:ch=1
      · subst hB1
        by_cases hw:gZ cr=2
        · have HR:=Hd hw;rw[hw]at HW;clear hw
          go_wp2_with(first|(go_at_call 58;(with_reducible refine(HW.o _).mono ?_);rintro e w3 ⟨rfl,hb3⟩;have x0:=(vT hb3 (jA rfl) 0 _ rfl).1;have x1:=(vT hb3 (jA rfl) 1 _ rfl).1;have x2:=(vT hb3 (jA rfl) 2 _ rfl).1;have HB3:=Hd (jM HBX.o hb3);clear hb3)|(go_at_call 59;(with_reducible refine(HK.o _).mono ?_);rintro e w4 ⟨t,rfl,ht,hb4⟩;have HT4:=Hd ht;clear ht;cases t))
          all_goals
           first
           |(go_ret;exact⟨_,rfl,fun h=>by simp at h,jM HB3.o hb4⟩)
           |(go_roundw
             case rel=>exact⟨k+1,by omega,by go_num,HT.o (.inr (.inr ⟨UZ HR.o,HT4.o (by first|rfl|trivial),.inr (.inl ⟨rfl,HR.o⟩)⟩)),jM HB3.o hb4⟩
             case measure=>simp[intOf];omega)
        · go_wp2_with(go_at_call 58;(with_reducible refine(HW.o _).mono ?_);rintro e w3 ⟨rfl,hb3⟩;have x0:=(vT hb3 (jA rfl) 0 _ rfl).1;have x1:=(vT hb3 (jA rfl) 1 _ rfl).1;have x2:=(vT hb3 (jA rfl) 2 _ rfl).1;have HB3:=Hd (jM HBX.o hb3);clear hb3)
          all_goals
           first
           |(go_ret;exact⟨_,rfl,fun h=>by simp at h,HB3.o⟩)
      by_cases hB2:ch=2
      · subst hB2
        by_cases hw:gZ cr=2
        · have HR:=Hd hw;rw[hw]at HW;clear hw
          go_wp2_with(first|(go_at_call 58;(with_reducible refine(HW.o _).mono ?_);rintro e w3 ⟨rfl,hb3⟩;have x0:=(vT hb3 (jA rfl) 0 _ rfl).1;have x1:=(vT hb3 (jA rfl) 1 _ rfl).1;have x2:=(vT hb3 (jA rfl) 2 _ rfl).1;have HB3:=Hd (jM HBX.o hb3);clear hb3)|(go_at_call 59;(with_reducible refine(HK.o _).mono ?_);rintro e w4 ⟨t,rfl,ht,hb4⟩;have HT4:=Hd ht;clear ht;cases t))
          all_goals
           first
           |(go_ret;exact⟨_,rfl,fun h=>by simp at h,jM HB3.o hb4⟩)
           |(go_roundw
             case rel=>exact⟨k+1,by omega,by go_num,HT.o (.inr (.inr ⟨UZ HR.o,HT4.o (by first|rfl|trivial),.inr (.inr ⟨rfl,HR.o⟩)⟩)),jM HB3.o hb4⟩
             case measure=>simp[intOf];omega)
        · go_wp2_with(go_at_call 58;(with_reducible refine(HW.o _).mono ?_);rintro e w3 ⟨rfl,hb3⟩;have x0:=(vT hb3 (jA rfl) 0 _ rfl).1;have x1:=(vT hb3 (jA rfl) 1 _ rfl).1;have x2:=(vT hb3 (jA rfl) 2 _ rfl).1;have HB3:=Hd (jM HBX.o hb3);clear hb3)
          all_goals
           first
           |(go_ret;exact⟨_,rfl,fun h=>by simp at h,HB3.o⟩)
      by_cases hC:ch=3
      · subst hC
        go_wp2_with(go_at_call 58;(with_reducible refine(HW.o _).mono ?_);rintro e w3 ⟨rfl,hb3⟩;have x0:=(vT hb3 (jA rfl) 0 _ rfl).1;have x1:=(vT hb3 (jA rfl) 1 _ rfl).1;have x2:=(vT hb3 (jA rfl) 2 _ rfl).1;have HB3:=Hd (jM HBX.o hb3);clear hb3)
        all_goals
         first
         |(go_ret;exact⟨_,rfl,fun h=>by simp at h,HB3.o⟩)
         |(go_roundw
           case rel=>exact⟨k+1,by omega,by go_num,HT.o (.inl rfl),HB3.o⟩
           case measure=>simp[intOf];omega)
      go_wp2_with(go_at_call 58;(with_reducible refine(HW.o _).mono ?_);rintro e w3 ⟨rfl,hb3⟩;have x0:=(vT hb3 (jA rfl) 0 _ rfl).1;have x1:=(vT hb3 (jA rfl) 1 _ rfl).1;have x2:=(vT hb3 (jA rfl) 2 _ rfl).1;have HB3:=Hd (jM HBX.o hb3);clear hb3)
      all_goals
       first
       |(go_ret;exact⟨_,rfl,fun h=>by simp at h,HB3.o⟩)
    · obtain rfl:k=l.length:=by omega
      rw[List.take_length]at HOK
      go_wp2
      go_ret
      exact⟨_,rfl,fun _=>⟨HMM.o,HOK.o⟩,hB⟩
 · rw[show decide (uQ l=l)=false from decide_eq_false hm]at HS;clear hm
   go_enter Tryz.func31,Tryz.ntmps31
   go_wp2_with(first|(go_at_call 30;(with_reducible refine HM.o.mono ?_);rintro e w1 ⟨g,cap,rfl,hcr,hb1⟩)|(go_at_call 57;(with_reducible refine(HS.o g cap _ hcr hb1).mono ?_);rintro e w2 ⟨rfl,hb2⟩))
   go_ret
   exact⟨_,rfl,fun h=>by simp at h,jM hb1 hb2⟩
open Go.RowKit Go.ChangeShapes Go.WideShapes Go.Deep
section
variable {H:Type}{enc:TypeId×Value→H}{P:Program}{w:World}{base:Nat}{spare:Nat→Bool}{held:Bool}
theorem eP{α:Type}{Q:Nat→α→Prop}:∀(n:Nat),(∀i,i<n→∃s,Q i s)→∃l:List α,l.length=n∧∀i s,l[i]? =some s→Q i s
 |0,_=>⟨[],rfl,fun i s h=>by simp at h⟩
 |n+1,h=>by
  obtain⟨l,hl,hq⟩:=eP n (fun i hi=>h i qJ);obtain⟨s,hs⟩:=h n qJ;refine⟨l++[s],by simp[hl],fun i u hu=>?_⟩
  by_cases hi:i<l.length
  · rw[uM hi]at hu;exact hq i u hu
  · rw[kT qJ]at hu;have :i-l.length=0:=by
     rcases Nat.eq_zero_or_pos (i-l.length)with h0|h0
     · exact h0
     · rw[uZ qY]at hu;cases hu
    rw[this]at hu;obtain rfl:s=u:=by simpa using hu
    have e:i=n:=by omega
    rw[e];exact hs
end
theorem Uu:jG.cellsOf 65=8:=by kernel_rfl
theorem co_attr:jG.cellsOf 63=5:=by kernel_rfl
theorem qKk:jG.cellsOf 61=2:=by kernel_rfl
theorem Yv:jG.cellsOf 3=1:=by kernel_rfl
theorem qKj:jG.cellsOf 21=1:=by kernel_rfl
theorem Jl:jG.cellsOf 9=1:=by kernel_rfl
def Kb(c:Cl):List Value:=[.int .i32 c.r,.string c.more,.int .i64 c.half,.int .i64 c.fk,.int .i64 c.fn,.int .i64 c.bk,.int .i64 c.bn,.int .i64 c.fl]
section
variable {H:Type}{enc:TypeId×Value→H}{w:World}{base:Nat}{spare:Nat→Bool}{held:Bool}
theorem fU{n:Nat}{v:Value}{x:DataW H×List MemPlace}(h:DataW.trod enc jG w base spare held n 3 [v]=some x):∃z:Int,v=.int .i64 z:=by
 obtain⟨z,e,-,-⟩:=DataW.trod_int Tryz.underlying3 h;exact⟨z,by simpa using e⟩
theorem oQ{n:Nat}{v0 v1:Value}{x:DataW H×List MemPlace}(h:DataW.trod enc jG w base spare held n 61 [v0,v1]=some x):∃z y:Int,v0=.int .i64 z∧v1=.int .i64 y:=by
 obtain⟨xs,m,_,_,_,hlen,hf⟩:=DataW.trod_struct Tryz.underlying61 h
 match xs,hlen with
 |[y0,y1],_=>
  have h0:=hf 0 _ rfl;have h1:=hf 1 _ rfl;simp[Yv]at h0 h1;obtain⟨z,rfl⟩:=fU h0;obtain⟨y,rfl⟩:=fU h1;exact⟨z,y,rfl,rfl⟩
theorem Kd{n:Nat}{v0 v1 v2 v3 v4:Value}{x:DataW H×List MemPlace}(h:DataW.trod enc jG w base spare held n 63 [v0,v1,v2,v3,v4]=some x):∃a b c d e:Int,v0=.int .i64 a∧v1=.int .i64 b∧v2=.int .i64 c∧v3=.int .i64 d∧v4=.int .i64 e:=by
 obtain⟨xs,m,_,_,_,hlen,hf⟩:=DataW.trod_struct Tryz.underlying63 h
 match xs,hlen with
 |[y0,y1,y2],_=>
  have h0:=hf 0 _ rfl;have h1:=hf 1 _ rfl;have h2:=hf 2 _ rfl;simp[Yv,qKk]at h0 h1 h2;obtain⟨a,b,rfl,rfl⟩:=oQ h0;obtain⟨c,d,rfl,rfl⟩:=oQ h1;obtain⟨e,rfl⟩:=fU h2;exact⟨a,b,c,d,e,rfl,rfl,rfl,rfl,rfl⟩
theorem Kc{n:Nat}{cs:List Value}{x:DataW H×List MemPlace}(h:DataW.trod enc jG w base spare held n 65 cs=some x):∃c:Cl,cs=Kb c:=by
 obtain⟨xs,m,_,_,hl,hlen,hf⟩:=DataW.trod_struct Tryz.underlying65 h;rw[Uu]at hl
 match cs,hl with
 |[v0,v1,v2,v3,v4,v5,v6,v7],_=>
  match xs,hlen with
  |[y0,y1,y2,y3],_=>
   have h0:=hf 0 _ rfl;have h1:=hf 1 _ rfl;have h2:=hf 2 _ rfl;have h3:=hf 3 _ rfl;simp[Yv,qKj,Jl,co_attr]at h0 h1 h2 h3;obtain⟨z,e0,-,-⟩:=DataW.trod_int Tryz.underlying21 h0;obtain⟨s,e1,-,-⟩:=DataW.trod_string Tryz.underlying9 h1;obtain⟨hh,rfl⟩:=fU h2;obtain⟨a,b,c,d,e,rfl,rfl,rfl,rfl,rfl⟩:=Kd h3;simp at e0 e1;subst e0 e1;exact⟨⟨z,s,hh,a,b,c,d,e⟩,rfl⟩
end
structure Rw where
 A:Option Addr
 cs:List Cl
 cap:Nat
 cont:Bool
def U3(w:World)(b o:Nat)(r:Rw):Prop:=(w.cell? ⟨b,o,none⟩=some (.slice r.A r.cs.length r.cap)∧w.cell? ⟨b,o+1,none⟩=some (.bool r.cont))∧zL w r.A r.cs∧r.cs.length≤9223372036854775807
theorem U3.below{w w1:World}{b o:Nat}{r:Rw}(h:U3 w b o r)(hb:Below w.heap.size w w1):U3 w1 b o r:=
 ⟨⟨kZ hb h.1.1,kZ hb h.1.2⟩,h.2.1.below hb,h.2.2⟩
def bM(w:World)(A:Option Addr)(l:List Rw):Prop:=0<l.length→∃b off,A=some ⟨b,off,none⟩∧∀i r,l[i]? =some r→U3 w b (off+i*2) r
theorem bM.below{w w1:World}{A:Option Addr}{l:List Rw}(h:bM w A l)(hb:Below w.heap.size w w1):bM w1 A l:=fun hl=>by
 obtain⟨b,off,e,hc⟩:=h hl;exact⟨b,off,e,fun i s hs=>(hc i s hs).below hb⟩
theorem bM.at_{w:World}{A:Option Addr}{l:List Rw}(h:bM w A l){k:Nat}(hk:k<l.length):∃b off r,A=some ⟨b,off,none⟩∧l[k]? =some r∧U3 w b (off+k*2) r:=by
 obtain⟨b,off,hA,hc⟩:=h qJ;exact⟨b,off,l[k],hA,jN hk,hc k _ (jN hk)⟩
theorem Yu:jG.cellsOf 52=2:=by kernel_rfl
theorem co_bool:jG.cellsOf 4=1:=by kernel_rfl
theorem qKl:jG.cellsOf 50=1:=by kernel_rfl
section
variable {H:Type}{enc:TypeId×Value→H}{w:World}{base:Nat}{spare:Nat→Bool}{held:Bool}
end
def rU(l:List Rw)(cols:Nat):Prop:=0<l.length∧l.length≤400∧2≤cols∧cols≤1000∧∀r∈l,r.cs.length=cols∧uQ r.cs=r.cs∧∀c∈r.cs,gL c
theorem Jb(A:Option Addr)(l:List Rw)(ca cols:Nat)(w:World)(hl:bM w A l)(hok:rU l cols):
 Calls jG 23 #[.slice A l.length ca] w fun e w'=>e=.returned (.tuple #[.int .i64 l.length,.int .i64 cols])∧Below w.heap.size w w':=by
 obtain⟨h0,h1,h2,h3,h4⟩:=hok;obtain⟨b,off,rfl,hr⟩:=hl h0;obtain⟨⟨c0,-⟩,-,-⟩:=hr 0 _ (jN h0);rw[(h4 _ (List.getElem_mem h0)).1,Nat.zero_mul,uS]at c0;clear hr hl h4;generalize l[0]=r at c0;obtain⟨B,_,cap,_⟩:=r;simp only at c0
 go_enter Tryz.func23,Tryz.ntmps23
 go_upto_region 3 with fail
 refine kH 8 (fun w'=>Below w.heap.size w w'∧w'.cell? ⟨b,off,none⟩=some (.slice B cols cap)) qQ qQ ?_ ?_
 · exact⟨(jU _ _).drew,c0⟩
 simp only[jS,kK,jR,jO]
 repeat(
  (first
   |refine kF qK ?_
   |(refine kE ?_ qK ?_ ?_;rotate_left;(focus(intro w' hS;obtain⟨_,_⟩:=hS;go_simp;first|done|with_reducible rfl))))
  simp only[Act.put,jZ,jX,jY])
 refine kO (fun w' hS=>?_);obtain⟨hb,_⟩:=hS
 go_wp2
 go_ret2
 exact⟨rfl,hb⟩
set_option maxHeartbeats 3200000 in
theorem QV(A:Option Addr)(l:List Rw)(ca cols:Nat)(w:World)(hl:bM w A l)(hok:rU l cols):
 Calls jG 24 #[.slice A l.length ca] w fun e w'=>e=.returned (.bool true)∧Below w.heap.size w w':=by
 have HS:=Hd (Jb A l ca cols w hl hok);obtain⟨h0,h1,h2,h3,h4⟩:=hok;have HL:=Hd hl;have HOK:=Hd h4;clear hl h4;have g1:¬(l.length:Int)<1:=by omega
 have g2:¬(1000:Int)<l.length:=by omega
 have g3:¬(cols:Int)<2:=by omega
 have g4:¬(1000:Int)<cols:=by omega
 go_enter Tryz.func24,Tryz.ntmps24
 go_wp2_with(go_at_call 23;(with_reducible refine HS.o.mono ?_);rintro e w1 ⟨rfl,hb1⟩)
 have HB1:=Hd hb1;clear hb1
 go_loopw [30] (fun i wr=>∃k:Nat,k≤l.length∧i=.int .i64 k∧Below w.heap.size w wr) (fun i _=>l.length-(intOf i).toNat)
 case atStart=>exact⟨0,kB _,rfl,HB1.o⟩
 case round=>
  obtain⟨k,hk,rfl,hB⟩:=hrel
  by_cases hlt:k<l.length
  · obtain⟨b,off,rfl,hr⟩:=HL.o h0;have hget:=jN hlt;obtain⟨⟨c0,c1⟩,hcl,-⟩:=(hr k _ hget).below hB;obtain⟨hlen,hm,hcs⟩:=HOK.o _ (List.getElem_mem hlt);generalize l[k]=r at c0 c1 hcl hlen hm hcs;obtain⟨B,cs,cap,cont⟩:=r;simp only at c0 c1 hcl hlen hm hcs;clear hr hget;have hp:0<cs.length:=by omega
    have HR:=Hd (fun w h=>Yq B cs cap w h hp qJ hm (fun c hc=>(hcs c hc).1));have HC:=Hd hcs;have HCL:=Hd hcl;rw[hlen]at c0 HR;have HLEN:=Hd hlen;clear hm hcs hcl hp hlen;have hcl2:=HCL.o.below ((jU wr.heap.size wr).alloc (jD _) (.cells #[.slice B cols cap,.bool cont] 52));have HC2:=Hd hcl2;have HBW:=Hd (jH hB (.cells #[.slice B cols cap,.bool cont] 52));clear hcl2
    go_wp2_with(go_at_call 49;(with_reducible refine(HR.o _ HC2.o).mono ?_);rintro e w2 ⟨rfl,hb2⟩;have d0:=(vT hb2 (jA rfl) 0 _ rfl).1;have HB2:=Hd (jM HBW.o hb2);have HC3:=Hd (HC2.o.below hb2);clear hb2)
    go_loopw [48] (fun i w5=>∃j:Nat,j≤cols∧i=.int .i64 j∧Below w.heap.size w w5∧Below w2.heap.size w2 w5) (fun i _=>cols-(intOf i).toNat)
    case atStart=>exact⟨0,kB _,rfl,HB2.o,jU _ _⟩
    case round=>
     obtain⟨j,hj,rfl,hB5,hb5⟩:=hrel
     by_cases hjl:j<cols
     · have hjc:j<cs.length:=by have :=HLEN.o;omega
       obtain⟨b',off',c,rfl,hcg,hca⟩:=HC3.o.at_ hjc;have hD:=HC.o c (uW hcg);have hca:=hca.below hb5;have HF:=Hd (fun w=>V4 c hD w);clear hcg hD;obtain⟨r0,r1,r2,r3,r4,r5,r6,r7⟩:=hca;obtain⟨cr,cm,chf,c3,c4,c5,c6,c7⟩:=c;unfold clV at HF;simp only at HF r0 r1 r2 r3 r4 r5 r6 r7;have HBX:=Hd (jH hB5 (.cells #[.int .i32 cr,.string cm,.int .i64 chf,.int .i64 c3,.int .i64 c4,.int .i64 c5,.int .i64 c6,.int .i64 c7] 65));have HBY:=Hd (jH hb5 (.cells #[.int .i32 cr,.string cm,.int .i64 chf,.int .i64 c3,.int .i64 c4,.int .i64 c5,.int .i64 c6,.int .i64 c7] 65))
       go_wp2_with(go_at_call 50;(with_reducible refine(HF.o _).mono ?_);rintro e w6 ⟨rfl,hb6⟩)
       go_roundw
       case rel=>exact⟨j+1,by omega,by go_num,jM HBX.o hb6,jM HBY.o hb6⟩
       case measure=>simp[intOf];omega
     · obtain rfl:j=cols:=by omega
       go_wp2
       go_roundw
       case rel=>exact⟨k+1,by omega,by go_num,hB5⟩
       case measure=>simp[intOf];omega
  · obtain rfl:k=l.length:=by omega
    go_wp2
    go_ret
    exact⟨by first|rfl|simp,hB⟩
theorem WS(r c:Nat)(w:World):Calls jG 29 #[.int .i64 r,.int .i64 c] w fun e w'=>e=.returned (.bool (decide (0<r∧r≤1000∧1<c∧c≤1000)))∧w=w':=by
 by_cases h1:0<r
 · by_cases h2:r≤1000
   · by_cases h3:1<c
     · have h3':(1:Int)<c:=by omega
       by_cases h4:c≤1000
       · have h4':(c:Int)≤1000:=by omega
         rw[decide_eq_true ⟨h1,h2,h3,h4⟩]
         go_enter Tryz.func29,Tryz.ntmps29
         go_wp2
         go_ret
         exact⟨rfl,rfl⟩
       · have h4':(1000:Int)<c:=by omega
         rw[decide_eq_false (fun h=>h4 h.2.2.2)]
         go_enter Tryz.func29,Tryz.ntmps29
         go_wp2
         go_ret
         refine⟨?_,rfl⟩;simp;omega
     · have h3':(c:Int)≤1:=by omega
       rw[decide_eq_false (fun h=>h3 h.2.2.1)]
       go_enter Tryz.func29,Tryz.ntmps29
       go_wp2
       go_ret
       exact⟨rfl,rfl⟩
   · have h2':(1000:Int)<r:=by omega
     rw[decide_eq_false (fun h=>h2 h.2.1)]
     go_enter Tryz.func29,Tryz.ntmps29
     go_wp2
     go_ret
     exact⟨rfl,rfl⟩
 · obtain rfl:r=0:=by omega
   rw[decide_eq_false (fun h=>h1 h.1)]
   go_enter Tryz.func29,Tryz.ntmps29
   go_wp2
   go_ret
   exact⟨rfl,rfl⟩
def wM(r:Rw):List Value:=[.slice r.A r.cs.length r.cap,.bool false]
def sS(r:Rw):Rw:={r with cont:=false}
theorem tU:(jG.info? 52).map (fun i=>(i.zero,i.size,i.bytes))=some (some (.agg #[.slice none 0 0,.bool false]),2,32):=by kernel_rfl
theorem Jy:∀r,(wM r).length=2:=fun _=>rfl
theorem VD{w:World}{base g c:Nat}{l:List Rw}(h:w.ownsRow base 52 2 (.slice (some ⟨g,0,none⟩) l.length c) l.length (uY wM l))(hc:∀r∈l,zL w r.A r.cs∧r.cs.length≤9223372036854775807):bM w (some ⟨g,0,none⟩) (l.map sS):=fun _=>by
 refine⟨g,0,rfl,fun i r hr=>?_⟩;rw[uV]at hr;obtain⟨q,hq,rfl⟩:=Option.map_eq_some_iff.1 hr;have hcell:∀j v,(wM q)[j]? =some v→w.cell? ⟨g,i*2+j,none⟩=some v:=fun j v hj=>
  (gR h (i:=i*2+j) (by rw[yQ Jy l i q j hq (by have :=(jP.1 hj).1;rw[Jy]at this;exact this)];exact hj)).1
 rw[kP];exact⟨⟨hcell 0 _ rfl,hcell 1 _ rfl⟩,hc q (uW hq)⟩
theorem lY(W:World)(x y:Value)(t:TypeId):∀j u,[x,y][j]? =some u→(W.alloc (.cells #[x,y] t)).cell? ((⟨W.heap.size,0,none⟩:Addr).add j)=some u:=fun j u hj=>by
 have h:(W.alloc (.cells #[x,y] t)).heap[W.heap.size]? =some (.cells #[x,y] t (0,0)):=jA rfl;rcases j with _|_|j
 · simp at hj;subst hj;exact(at_ h 0 _ rfl).1
 · simp at hj;subst hj;exact(at_ h 1 _ rfl).1
 · simp at hj
theorem KR(A:Option Addr)(n c:Nat):∀u∈[Value.slice A n c,Value.bool false],u.oneCell'=true:=fun u hu=>by
 rcases kJ.1 hu with rfl|hu
 · rfl
 · rw[jW.1 hu];rfl
def QA(l:List Rw)(w:World)(e:Ending)(w':World):Prop:=∃A c,e=.returned (.slice A l.length c)∧bM w' A (l.map sS)∧Below w.heap.size w w'
set_option maxHeartbeats 3200000 in
theorem Xl(A:Option Addr)(l:List Rw)(ca:Nat)(w:World)(hl:bM w A l)(h0:0<l.length)(hz:l.length≤400):
 Calls jG 89 #[.slice A l.length ca] w (QA l w):=by
 obtain⟨b,off,rfl,hr⟩:=hl h0;have HR:=Hd hr;obtain⟨i0,hi,hz0,hz1,hz2⟩:=info_parts tU;clear hl hr
 go_enter Tryz.func89,Tryz.ntmps89
 go_wp2_with fail
 go_loopw [3,4] (fun o i wr=>∃k:Nat,k≤l.length∧i=.int .i64 k∧wr.ownsRow w.heap.size 52 2 o (l.take k).length (uY wM (l.take k))∧Below w.heap.size w wr) (fun _ i _=>l.length-(intOf i).toNat)
 case atStart=>exact⟨0,kB _,rfl,kD _ _ _ _,jU _ _⟩
 case round=>
  obtain⟨k,hk,rfl,ho,hB⟩:=hrel
  by_cases hlt:k<l.length
  · obtain⟨⟨d0,d1⟩,-,-⟩:=(HR.o k _ (jN hlt)).below hB;have HT:Hid (uY wM (l.take (k+1))=uY wM (l.take k)++wM l[k]∧(l.take (k+1)).length=(l.take k).length+1):=Hd ⟨by rw[kY hlt];simp only[uY,List.flatMap_append,List.flatMap_cons,List.flatMap_nil,List.append_nil],by rw[kS,kS];omega⟩;have htl:(l.take k).length≤400:=by rw[kS];omega
    obtain⟨rA,rn,rc,he⟩:∃A n c,wM l[k]=[.slice A n c,.bool false]∧Value.slice l[k].A l[k].cs.length l[k].cap=.slice A n c:=⟨_,_,_,rfl,rfl⟩;rw[he.2]at d0;have HE:=Hd he.1;have ho1:=ho.alloc (.cells #[.slice rA rn rc,.bool false] 52);have HO:=Hd ho;have HB:=Hd hB;clear he d1 ho hB
    go_wp2_with(at_builtin;refine vP rfl _ _ 46 rfl w.heap.size 52 i0 _ 2 32 Tryz.underlying46 hi hz0 hz1 hz2 rfl qZ _ (l.take k).length _ rfl ho1 ⟨wr.heap.size,0,none⟩ 1 1 [.slice rA rn rc,.bool false] rfl rfl (lY _ _ _ _) (KR _ _ _) qU qJ (by have :=HB.o.size;simp;omega) ?_;intro v' w2 hown' hgrow _;have HB2:=Hd (show Below w.heap.size w w2 from(HB.o.alloc HB.o.size _).grown hgrow (by have :=HB.o.size;simp;omega) (fun k hk=>(ho1.lt k hk).1));have HO2:=Hd hown';clear hown' hgrow)
    go_roundw
    case rel=>exact⟨k+1,by omega,by go_num,by rw[HT.o.1,HT.o.2,HE.o];exact HO2.o,HB2.o⟩
    case measure=>simp[intOf];omega
  · obtain rfl:k=l.length:=by omega
    rw[List.take_length]at ho;obtain⟨g,c,rfl⟩:=JC ho h0
    go_wp2
    go_ret
    refine⟨_,_,rfl,VD ho (fun r hr=>?_),hB⟩;obtain⟨i,hi,rfl⟩:=List.getElem_of_mem hr;have :=(HR.o i _ (jN hi)).below hB;exact⟨this.2.1,this.2.2⟩
theorem zL.cell{w:World}{b off:Nat}{l:List Cl}{k:Nat}{c:Cl}(h:zL w (some ⟨b,off,none⟩) l)(hk:l[k]? =some c):QE w b (off+k*8) c:=by
 obtain⟨b1,off1,e,hc⟩:=h (by have :=(jP.1 hk).1;omega);injection e with e
 injection e with e1 e2 _
 subst e1 e2;exact hc k c hk
end Go.Proofs.YtaefcahblmopfaaGreatDoor
namespace Go.Proofs
open Go.Shelf
def Tryz.laysItoa_ren:Go.Shelf.Ren:=⟨fun|171=>249|243=>327|246=>374|283=>398|284=>399|285=>400|286=>401|129=>381|317=>411|318=>412|319=>413|320=>414|337=>423|338=>345|n=>n,fun|3=>3|9=>9|2=>2|4=>4|171=>358|0=>0|53=>206|37=>23|5=>5|173=>360|212=>364|51=>38|20=>20|213=>365|46=>183|232=>380|233=>351|n=>n,fun|17=>4|18=>7|19=>3|n=>n⟩
theorem Tryz.laysItoa:Go.Proofs.LaysM.n171 jG Tryz.laysItoa_ren:={
 mixed:=by kernel_rfl
 f129:=Tryz.func381.trans (congrArg some qQ)
 f171:=Tryz.func249.trans (congrArg some qQ)
 f243:=Tryz.func327.trans (congrArg some qQ)
 f246:=Tryz.func374.trans (congrArg some qQ)
 f283:=Tryz.func398.trans (congrArg some qQ)
 f284:=Tryz.func399.trans (congrArg some qQ)
 f285:=Tryz.func400.trans (congrArg some qQ)
 f286:=Tryz.func401.trans (congrArg some qQ)
 f317:=Tryz.func411.trans (congrArg some qQ)
 f318:=Tryz.func412.trans (congrArg some qQ)
 f319:=Tryz.func413.trans (congrArg some qQ)
 f320:=Tryz.func414.trans (congrArg some qQ)
 f337:=Tryz.func423.trans (congrArg some qQ)
 f338:=Tryz.func345.trans (congrArg some qQ)
 t0:=Tryz.underlying0
 a0:=Tryz.isAgg0
 z0:=Tryz.sizeOf0
 v0:=Tryz.zeroValue0
 t2:=Tryz.underlying2
 a2:=Tryz.isAgg2
 z2:=Tryz.sizeOf2
 v2:=Tryz.zeroValue2
 t3:=Tryz.underlying3
 a3:=Tryz.isAgg3
 z3:=Tryz.sizeOf3
 v3:=Tryz.zeroValue3
 t4:=Tryz.underlying4
 a4:=Tryz.isAgg4
 z4:=Tryz.sizeOf4
 v4:=Tryz.zeroValue4
 t5:=Tryz.underlying5
 a5:=Tryz.isAgg5
 z5:=Tryz.sizeOf5
 v5:=Tryz.zeroValue5
 t9:=Tryz.underlying9
 a9:=Tryz.isAgg9
 z9:=Tryz.sizeOf9
 v9:=Tryz.zeroValue9
 t20:=Tryz.underlying20
 a20:=Tryz.isAgg20
 z20:=Tryz.sizeOf20
 v20:=Tryz.zeroValue20
 t37:=Tryz.underlying23
 a37:=Tryz.isAgg23
 z37:=Tryz.sizeOf23
 v37:=Tryz.zeroValue23
 t46:=Tryz.underlying183
 a46:=Tryz.isAgg183
 z46:=Tryz.sizeOf183
 v46:=Tryz.zeroValue183
 t51:=Tryz.underlying38
 a51:=Tryz.isAgg38
 z51:=Tryz.sizeOf38
 v51:=Tryz.zeroValue38
 t53:=Tryz.underlying206
 a53:=Tryz.isAgg206
 z53:=Tryz.sizeOf206
 v53:=Tryz.zeroValue206
 t171:=Tryz.underlying358
 a171:=Tryz.isAgg358
 z171:=Tryz.sizeOf358
 v171:=Tryz.zeroValue358
 t173:=Tryz.underlying360
 a173:=Tryz.isAgg360
 z173:=Tryz.sizeOf360
 v173:=Tryz.zeroValue360
 t212:=Tryz.underlying364
 a212:=Tryz.isAgg364
 z212:=Tryz.sizeOf364
 v212:=Tryz.zeroValue364
 t213:=Tryz.underlying365
 a213:=Tryz.isAgg365
 z213:=Tryz.sizeOf365
 t232:=Tryz.underlying380
 a232:=Tryz.isAgg380
 z232:=Tryz.sizeOf380
 v232:=Tryz.zeroValue380
 t233:=Tryz.underlying351
 a233:=Tryz.isAgg351
 z233:=Tryz.sizeOf351
 v233:=Tryz.zeroValue351
 g17:=by kernel_rfl
 g18:=by kernel_rfl
 g19:=by kernel_rfl
 i0:=by kernel_rfl
 i2:=by kernel_rfl
 i3:=by kernel_rfl
 i4:=by kernel_rfl
 i5:=by kernel_rfl
 i9:=by kernel_rfl
 i20:=by kernel_rfl
 i37:=by kernel_rfl
 i46:=by kernel_rfl
 i51:=by kernel_rfl
 i53:=by kernel_rfl
 i171:=by kernel_rfl
 i173:=by kernel_rfl
 i212:=by kernel_rfl
 i232:=by kernel_rfl
 i233:=by kernel_rfl
 m17:=by kernel_rfl
 m18:=by kernel_rfl
 m19:=by kernel_rfl}
end Go.Proofs
namespace Go.Proofs.YtaefcahblmopfaaGreatDoor
open Go.RowKit
def fA(w:World):Prop:=Lib.TabIs jG w "internal/strconv.uint64pow10" .u64 Lib.pow10Tab
theorem fA.below{w w':World}(h:fA w)(hb:Below w.heap.size w w'):fA w':=Lib.tabBelow_of_tabIs h w' hb
def eS(n:Nat):ByteArray:=⟨(Lib.decDigits n).toArray⟩
theorem sK(n:Nat)(hn:n≤100000)(w:World)(ht:fA w):Calls jG 249 #[.int .i64 n] w fun e w'=>e=.returned (.string (eS n))∧Below w.heap.size w w':=by
 refine(Any.strconv_Itoa Tryz.laysItoa (n:Int) qJ qJ w ht).mono ?_;rintro e w' ⟨rfl,k,os,rfl⟩;refine⟨?_,Lib.below_grow _ w (jD _) k os⟩;rw[Lib.itoa_nonneg];rfl
theorem qKf(n:Nat):∀k,n<10 ^ (k+1)→(Lib.decDigits n).length≤k+1:=by
 intro k
 induction k generalizing n with
 |zero=>
  intro h;rw[Lib.decDigits,dif_pos qJ];simp
 |succ k ih=>
  intro h;rw[Lib.decDigits]
  split
  · simp
  · rw[jC];have :=ih (n/10) (by rw[Nat.pow_succ]at h;omega);simp;omega
theorem tP(n:Nat)(hn:n≤100000):(eS n).size≤6∧0<(eS n).size:=by
 have h1:=qKf n 5 qJ;have h2:0<(Lib.decDigits n).length:=by
  rw[Lib.decDigits]
  split<;>simp
 show(Lib.decDigits n).toArray.size≤6∧0<(Lib.decDigits n).toArray.size;rw[List.size_toArray];exact⟨h1,h2⟩
def curS(a b:ByteArray):ByteArray:=((((⟨#[27,91]⟩:ByteArray)++a)++(⟨#[59]⟩:ByteArray))++b)++(⟨#[72]⟩:ByteArray)
def u8(xs:List Int):List UInt8:=(strOfNums xs).data.toList
theorem bX(a b:List Int):u8 (a++b)=u8 a++u8 b:=by
 unfold u8;rw[←yS];simp
theorem eH(xs:List Int):(u8 xs).length=xs.length:=by
 unfold u8;rw[Array.length_toList];exact gE xs
theorem nN(n:Nat):eS n=strOfNums (cB n):=by
 unfold eS cB strOfNums
 congr 1
 rw[List.map_map]
 congr 1
 conv=>lhs;rw[←List.map_id (Lib.decDigits n)]
 refine List.map_congr_left (fun b _=>?_);show b=UInt8.ofNat ((b.toNat:Int)).toNat;rw[vQ,UInt8.ofNat_toNat]
theorem V8(y x:Nat):curS (eS (y+1)) (eS (x+1))=strOfNums (cQ y x):=by
 unfold curS cQ;rw[nN,nN,show(⟨#[27,91]⟩:ByteArray)=strOfNums [27,91]from rfl,show(⟨#[59]⟩:ByteArray)=strOfNums [59]from rfl,show(⟨#[72]⟩:ByteArray)=strOfNums [72]from rfl];simp only[yS]
 congr 1
 show _=27::91::((cB (y+1)++59::cB (x+1))++[72]);simp
theorem iV(y x:Nat)(hy:y≤1000)(hx:x≤1000):(cQ y x).length≤16:=by
 have h1:=iP 5 (y+1) qJ;have h2:=iP 5 (x+1) qJ;show(27::91::((cB (y+1)++59::cB (x+1))++[72])).length≤16;simp;omega
section
variable {base:Nat}{w:World}{v:Pn}{on:Atr}{l:List UInt8}
set_option maxHeartbeats 3200000 in
theorem tV(h:PnO base w v on l)(hbw:base≤w.heap.size)(ht:fA w)(y x:Nat)(hy:y≤1000)(hx:x≤1000)(hl:l.length≤90000000):
 Calls jG 158 #[.pointer (some ⟨v.P,0,none⟩),.int .i64 y,.int .i64 x] w (nQ base w v on (l++u8 (cQ y x))):=by
 have HI1:Hid (∀w',fA w'→Calls jG 249 #[.int .i64 ((y:Int)+1)] w' fun e w2=>e=.returned (.string (eS (y+1)))∧Below w'.heap.size w' w2):=Hd (fun w' ht=>sK (y+1) qJ w' ht);have HI2:Hid (∀w',fA w'→Calls jG 249 #[.int .i64 ((x:Int)+1)] w' fun e w2=>e=.returned (.string (eS (x+1)))∧Below w'.heap.size w' w2):=Hd (fun w' ht=>sK (x+1) qJ w' ht);have HWR:Hid (∀w',Below w.heap.size w w'→Calls jG 101 #[.pointer (some ⟨v.B,0,none⟩),.string (((((⟨#[27,91]⟩:ByteArray)++eS (y+1))++(⟨#[59]⟩:ByteArray))++eS (x+1))++(⟨#[72]⟩:ByteArray))] w' (fun e w2=>(∃n:Int,e=.returned (.tuple #[.int .i64 n,.nilIface]))∧gW base w' v on (l++u8 (cQ y x)) w2)):=Hd (fun w' hb=>by
  have e:((((⟨#[27,91]⟩:ByteArray)++eS (y+1))++(⟨#[59]⟩:ByteArray))++eS (x+1))++(⟨#[72]⟩:ByteArray)=strOfNums (cQ y x):=V8 y x;rw[e];have hz:=iV y x hy hx;exact(eN (h.below hb) (jI hbw hb.size) (strOfNums (cQ y x)) (by rw[gE];omega)).mono (fun e w2 h=>⟨⟨_,h.1⟩,h.2⟩))
 obtain⟨s1,s1'⟩:=tP (y+1) qJ;obtain⟨s2,s2'⟩:=tP (x+1) qJ;generalize eS (y+1)=d1 at HI1 HWR s1 s1';generalize eS (x+1)=d2 at HI2 HWR s2 s2';have w1:jE.wrap ((y:Int)+1)=(y:Int)+1:=jF _ qJ;have w2:jE.wrap ((x:Int)+1)=(x:Int)+1:=jF _ qJ;have n0:¬9223372036854775807<2+d1.size:=by omega
 have n1:¬9223372036854775807<2+d1.size+1:=by omega
 have n2:¬9223372036854775806<2+d1.size:=by omega
 have n3:¬9223372036854775807<2+d1.size+1+d2.size:=by omega
 have n4:¬9223372036854775807<2+d1.size+1+d2.size+1:=by omega
 have n5:¬9223372036854775806<2+d1.size+1+d2.size:=by omega
 obtain⟨⟨c0,-⟩,-⟩:=h.facts;have HT:=Hd ht;clear h ht hy hx hl hbw
 go_enter Tryz.func158,Tryz.ntmps158
 go_upto_region 0 with fail
 refine kH 14 (fun w'=>Below w.heap.size w w'∧w'.cell? ⟨v.P,0,none⟩=some (.pointer (some ⟨v.B,0,none⟩))) qQ qQ ?_ ?_
 · exact⟨(jU _ _).drew,c0⟩
 simp only[jS,kK,jR,jO]
 repeat(
  (first
   |refine kF qK ?_
   |((refine uT 249 #[.int .i64 ((y:Int)+1)] (.string d1) qK ?_ (fun w' hS=>(HI1.o w' (HT.o.below hS.1)).mono fun e w2 ⟨he,hb⟩=>⟨he,jM hS.1 hb,kZ hb hS.2⟩) ?_;(focus(intro w2;go_simp;done))))
   |((refine uT 249 #[.int .i64 ((x:Int)+1)] (.string d2) qK ?_ (fun w' hS=>(HI2.o w' (HT.o.below hS.1)).mono fun e w2 ⟨he,hb⟩=>⟨he,jM hS.1 hb,kZ hb hS.2⟩) ?_;(focus(intro w2;go_simp;done))))
   |(refine kE ?_ qK ?_ ?_;rotate_left;(focus(intro w' hS;obtain⟨hS0,hS1⟩:=hS;go_simp;first|done|with_reducible rfl))))
  simp only[Act.put,jZ,jX,jY])
 refine kO (fun w' hS=>?_)
 go_wp2_with(go_at_call 101;(with_reducible refine(HWR.o _ hS.1).mono ?_);rintro e w4 ⟨⟨n,rfl⟩,hr⟩;have HR:=Hd (gW.pre hS.1 hr);clear hr)
 go_end0
 exact⟨rfl,HR.o⟩
end
def dQ(l:List Nat):List Int:=l.map fun n:Nat=>(n:Int)
def PntPost(l:List Nat)(w:World)(e:Ending)(w':World):Prop:=∃(A:Option Addr) (c:Nat),e=.returned (.slice A l.length c)∧pZ pT 1 w' A (dQ l)∧Below w.heap.size w w'
theorem qJ2{w:World}{g:Nat}{xs:List Int}{t:TypeId}(h:w.heap[g]? =some (.cells (xs.map (Value.int .i64)).toArray t (0,0))):pZ pT 1 w (some ⟨g,0,none⟩) xs:=fun _=>by
 refine⟨g,0,rfl,fun i x hi j v hj=>?_⟩;have hj0:j=0:=by have :=(jP.1 hj).1;simpa[pT]using this
 subst hj0;obtain rfl:Value.int .i64 x=v:=by simpa[pT]using hj
 rw[kP,Nat.mul_one,uS];exact(at_ h i _ (by rw[List.getElem?_toArray,uV,hi];rfl)).1
theorem iO(n:Int):bits .and .i64 n 255=n%256:=by
 have h255:(BitVec.ofInt 64 255).toNat=2 ^ 8-1:=by decide
 have key:(BitVec.ofInt 64 n &&& BitVec.ofInt 64 255).toNat=(n%((2 ^ 64:Nat):Int)).toNat%2 ^ 8:=by
  rw[BitVec.toNat_and,BitVec.toNat_ofInt,h255,Nat.and_two_pow_sub_one_eq_mod]
 show jE.wrap ((BitVec.ofInt 64 n &&& BitVec.ofInt 64 255).toNat:Nat)=n%256;rw[key,IntKind.wrap_i64];omega
set_option maxHeartbeats 1600000 in
theorem QL(k n:Int)(m:Nat)(hm:m≤255)(hc:cT k n=true)(w:World):Calls jG 316 #[.agg #[.int .i64 k,.int .i64 n],.int .i64 m] w (PntPost (pM k n m) w):=by
 have hk:(k=0∧n=0)∨(k=1∧0≤n∧n<256)∨(k=2∧0≤n∧n<16777216):=by
  unfold cT at hc;rw[decide_eq_true_eq]at hc;omega
 rcases hk with⟨rfl,rfl⟩|⟨rfl,h1,h2⟩|⟨rfl,h1,h2⟩
 · clear hc
   go_enter Tryz.func316,Tryz.ntmps316
   go_wp2
   go_ret
   exact⟨none,0,rfl,fun h=>absurd h (by simp[dQ,pM]),jH (jU _ _) _⟩
 · have e:pM 1 n m=[m,5,n.toNat]:=rfl;rw[e];obtain⟨q,rfl⟩:∃q:Nat,n=q:=⟨n.toNat,by omega⟩;rw[vQ];clear hc e
   go_enter Tryz.func316,Tryz.ntmps316
   go_wp2
   go_ret
   refine⟨some ⟨w.heap.size+1,0,none⟩,3,rfl,qJ2 (xs:=dQ [m,5,q]) (jA qV),jH (jH (jU _ _) _) _⟩
 · have e:pM 2 n m=[m,2,(n/65536).toNat,(n/256%256).toNat,(n%256).toNat]:=rfl;rw[e];obtain⟨q0,hq0⟩:∃q:Nat,n/65536=q:=⟨(n/65536).toNat,by omega⟩;obtain⟨q1,hq1⟩:∃q:Nat,bits .and .i64 (n/256) 255=q:=⟨(n/256%256).toNat,by rw[iO];omega⟩;obtain⟨q2,hq2⟩:∃q:Nat,bits .and .i64 n 255=q:=⟨(n%256).toNat,by rw[iO];omega⟩;have e2:[m,2,(n/65536).toNat,(n/256%256).toNat,(n%256).toNat]=[m,2,q0,q1,q2]:=by
    rw[←iO (n/256),←iO n,hq0,hq1,hq2];simp only[vQ]
   rw[e2];clear hc e e2
   go_enter Tryz.func316,Tryz.ntmps316
   go_wp2
   go_ret
   exact⟨some ⟨w.heap.size+1,0,none⟩,5,rfl,qJ2 (xs:=dQ [m,2,q0,q1,q2]) (jA qV),jH (jH (jU _ _) _) _⟩
theorem lM{P:Program}{ops:Array Oper}{rest:List Oper}{o:Oper}{a:Act}{w:World}{Q:Exit→Act→World→Prop}(hgd:o.guard=none)(s x:Operand)(t:TypeId)
 (ho:o.op=.call {callee:=.builtin .append,args:=#[s,x],argTypes:=#[t,t]}) (base:Nat) (e:TypeId) (i:TypeInfo) (z:Value) (size bytes:Nat) (ht:P.underlying t=some (.slice e)) (hi:P.info? e=some i) (hz:i.zero=some z) (hsize:i.size=size) (hby:i.bytes=bytes) (hzs:z.cells.size=size) (hsz:0<size)
 (v:Value) (n:Nat) (xs:List Value) (hs:a.eval s=v) (hown:w.ownsRow base e size v n xs) (hn:0<n) (A:Option Addr) (m c:Nat) (news:List Value) (hx:a.eval x=.slice A m c) (hl:news.length=m*size) (hnews:0<m→∃ad,A=some ad∧∀j u,news[j]? =some u→w.cell? (ad.add j)=some u) (h1:∀u∈news,u.oneCell'=true)
 (h63:n+m≤maxLen) (hbytes:(n+m)*bytes≤140737488355328) (hbase:base≤w.heap.size)
 (h:∀v' w',w'.ownsRow base e size v' (n+m) (xs++news)→w.grownBy w' v.ownBlock→(∀g,v'.ownBlock=some g→v.ownBlock=some g∨w.heap.size≤g)→wpList P ops Q rest (a.put o.dst v') w'):wpList P ops Q (o::rest) a w:=by
 rcases Nat.eq_zero_or_pos m with rfl|hm
 · have e0:news=[]:=List.length_eq_zero_iff.1 qJ;subst e0;have hown2:=hown;rcases hown.2 with⟨rfl,rfl⟩|⟨g,cap,cur,rfl,hbg,hg,hnc,hcm,hcs,htake⟩
   · have :=hown.1;simp at this;rcases this with h0|h0<;>omega
   · have hr:(Builtin.append_ #[t,t] o.type #[.slice (some ⟨g,0,none⟩) n cap,.slice A 0 c]).run P w=.ok (.slice (some ⟨g,0,none⟩) n cap) w:=by
      cases A<;>simp[Builtin.append_,run_underlying ht,sizeOf,typeInfo,hi,Builtin.lenOf,Builtin.firstCells,loadCells,loadCellsFrom,hnc,storeCells]
     refine wpList_plain hgd fun K hK=>?_;unfold Oper.wp execOp;simp only[ho,resolve,invoke,builtin,Sem.run_bind,Sem.run_pure,Result.andThen_ok,List.map_toArray,List.map_cons,List.map_nil,hs,hx,hr];exact hK _ _ (h _ _ (by rw[uS,List.append_nil];exact hown2) (World.grownBy.refl _ _) (fun g hg=>.inl hg))
 · obtain⟨ad,rfl,hn2⟩:=hnews hm;exact vW hgd s x t ho base e i z size bytes ht hi hz hsize hby hzs hsz v n xs hs hown ad m c news hx hl hn2 h1 h63 hbytes hbase h
end Go.Proofs.YtaefcahblmopfaaGreatDoor
namespace Go.Proofs
open Go.Shelf
def Tryz.laysJoin_ren:Go.Shelf.Ren:=⟨fun|156=>55|165=>103|166=>101|169=>42|240=>168|241=>171|276=>260|277=>261|n=>n,fun|31=>109|9=>9|3=>3|4=>4|0=>0|20=>20|72=>76|76=>164|70=>74|37=>23|75=>162|127=>146|164=>280|5=>5|80=>42|n=>n,fun|n=>n⟩
theorem Tryz.laysJoin:Go.Proofs.Lays.n156 jG Tryz.laysJoin_ren:={
 mixed:=by kernel_rfl
 f156:=Tryz.func55.trans (congrArg some qQ)
 f165:=Tryz.func103.trans (congrArg some qQ)
 f166:=Tryz.func101.trans (congrArg some qQ)
 f169:=Tryz.func42.trans (congrArg some qQ)
 f240:=Tryz.func168.trans (congrArg some qQ)
 f241:=Tryz.func171.trans (congrArg some qQ)
 f276:=Tryz.func260.trans (congrArg some qQ)
 f277:=Tryz.func261.trans (congrArg some qQ)
 t0:=Tryz.underlying0
 a0:=Tryz.isAgg0
 z0:=Tryz.sizeOf0
 v0:=Tryz.zeroValue0
 t3:=Tryz.underlying3
 a3:=Tryz.isAgg3
 z3:=Tryz.sizeOf3
 v3:=Tryz.zeroValue3
 t4:=Tryz.underlying4
 a4:=Tryz.isAgg4
 z4:=Tryz.sizeOf4
 v4:=Tryz.zeroValue4
 t9:=Tryz.underlying9
 a9:=Tryz.isAgg9
 z9:=Tryz.sizeOf9
 v9:=Tryz.zeroValue9
 t20:=Tryz.underlying20
 a20:=Tryz.isAgg20
 z20:=Tryz.sizeOf20
 v20:=Tryz.zeroValue20
 t31:=Tryz.underlying109
 a31:=Tryz.isAgg109
 z31:=Tryz.sizeOf109
 v31:=Tryz.zeroValue109
 t37:=Tryz.underlying23
 a37:=Tryz.isAgg23
 z37:=Tryz.sizeOf23
 v37:=Tryz.zeroValue23
 t70:=Tryz.underlying74
 a70:=Tryz.isAgg74
 z70:=Tryz.sizeOf74
 v70:=Tryz.zeroValue74
 t72:=Tryz.underlying76
 a72:=Tryz.isAgg76
 z72:=Tryz.sizeOf76
 v72:=Tryz.zeroValue76
 t75:=Tryz.underlying162
 a75:=Tryz.isAgg162
 z75:=Tryz.sizeOf162
 v75:=Tryz.zeroValue162
 t76:=Tryz.underlying164
 a76:=Tryz.isAgg164
 z76:=Tryz.sizeOf164
 v76:=Tryz.zeroValue164
 t127:=Tryz.underlying146
 a127:=Tryz.isAgg146
 z127:=Tryz.sizeOf146
 v127:=Tryz.zeroValue146
 t164:=Tryz.underlying280
 a164:=Tryz.isAgg280
 z164:=Tryz.sizeOf280
 v164:=Tryz.zeroValue280}
def Tryz.laysTrimR_ren:Go.Shelf.Ren:=⟨fun|162=>53|232=>95|227=>96|234=>97|236=>98|228=>165|271=>166|151=>167|120=>257|197=>258|152=>259|260=>331|137=>312|119=>332|224=>333|225=>334|217=>371|266=>396|n=>n,fun|9=>9|4=>4|3=>3|5=>5|117=>157|116=>156|0=>0|124=>160|21=>21|105=>219|46=>183|119=>346|139=>349|138=>348|n=>n,fun|3=>1|4=>2|n=>n⟩
theorem Tryz.laysTrimR:Go.Proofs.Lays.n162 jG Tryz.laysTrimR_ren:={
 mixed:=by kernel_rfl
 f119:=Tryz.func332.trans (congrArg some qQ)
 f120:=Tryz.func257.trans (congrArg some qQ)
 f137:=Tryz.func312.trans (congrArg some qQ)
 f151:=Tryz.func167.trans (congrArg some qQ)
 f152:=Tryz.func259.trans (congrArg some qQ)
 f162:=Tryz.func53.trans (congrArg some qQ)
 f197:=Tryz.func258.trans (congrArg some qQ)
 f217:=Tryz.func371.trans (congrArg some qQ)
 f224:=Tryz.func333.trans (congrArg some qQ)
 f225:=Tryz.func334.trans (congrArg some qQ)
 f227:=Tryz.func96.trans (congrArg some qQ)
 f228:=Tryz.func165.trans (congrArg some qQ)
 f232:=Tryz.func95.trans (congrArg some qQ)
 f234:=Tryz.func97.trans (congrArg some qQ)
 f236:=Tryz.func98.trans (congrArg some qQ)
 f260:=Tryz.func331.trans (congrArg some qQ)
 f266:=Tryz.func396.trans (congrArg some qQ)
 f271:=Tryz.func166.trans (congrArg some qQ)
 t0:=Tryz.underlying0
 a0:=Tryz.isAgg0
 z0:=Tryz.sizeOf0
 v0:=Tryz.zeroValue0
 t3:=Tryz.underlying3
 a3:=Tryz.isAgg3
 z3:=Tryz.sizeOf3
 v3:=Tryz.zeroValue3
 t4:=Tryz.underlying4
 a4:=Tryz.isAgg4
 z4:=Tryz.sizeOf4
 v4:=Tryz.zeroValue4
 t5:=Tryz.underlying5
 a5:=Tryz.isAgg5
 z5:=Tryz.sizeOf5
 v5:=Tryz.zeroValue5
 t9:=Tryz.underlying9
 a9:=Tryz.isAgg9
 z9:=Tryz.sizeOf9
 v9:=Tryz.zeroValue9
 t21:=Tryz.underlying21
 a21:=Tryz.isAgg21
 z21:=Tryz.sizeOf21
 v21:=Tryz.zeroValue21
 t46:=Tryz.underlying183
 a46:=Tryz.isAgg183
 z46:=Tryz.sizeOf183
 v46:=Tryz.zeroValue183
 t105:=Tryz.underlying219
 a105:=Tryz.isAgg219
 z105:=Tryz.sizeOf219
 v105:=Tryz.zeroValue219
 t116:=Tryz.underlying156
 a116:=Tryz.isAgg156
 z116:=Tryz.sizeOf156
 t117:=Tryz.underlying157
 a117:=Tryz.isAgg157
 z117:=Tryz.sizeOf157
 v117:=Tryz.zeroValue157
 t119:=Tryz.underlying346
 a119:=Tryz.isAgg346
 z119:=Tryz.sizeOf346
 t124:=Tryz.underlying160
 a124:=Tryz.isAgg160
 z124:=Tryz.sizeOf160
 v124:=Tryz.zeroValue160
 t138:=Tryz.underlying348
 a138:=Tryz.isAgg348
 z138:=Tryz.sizeOf348
 v138:=Tryz.zeroValue348
 t139:=Tryz.underlying349
 a139:=Tryz.isAgg349
 z139:=Tryz.sizeOf349
 v139:=Tryz.zeroValue349
 g3:=by kernel_rfl
 g4:=by kernel_rfl}
end Go.Proofs
namespace Go.Proofs.YtaefcahblmopfaaGreatDoor
open Go.RowKit
theorem YD:Builder.Extra jG Tryz.laysJoin_ren:=
 {sizeBuilder:=by kernel_rfl
  liesBuilder:=by kernel_rfl
  t5:=Tryz.underlying5
  a5:=Tryz.isAgg5
  z5:=Tryz.sizeOf5
  v5:=Tryz.zeroValue5
  infoByte:=by kernel_rfl
  cellsByte:=by kernel_rfl
  sizeByte:=by kernel_rfl
  neB5:=by decide}
theorem JQ(bk c:Nat)(xs:List ByteArray)(sep:ByteArray)(w:World)(hcells:∀(j:Nat) x,xs[j]? =some x→w.cell? ⟨bk,j,none⟩=some (.string x))(hbk:bk<w.heap.size)(hN:xs.length≤1000000)(hcap:xs.length≤c)
 (hlen:(Lib.join (xs.map (·.data.toList)) sep.data.toList).length≤140737488355328):
 Calls jG 55 #[.slice (some ⟨bk,0,none⟩) xs.length c,.string sep] w fun e w'=>e=.returned (.string ⟨(Lib.join (xs.map (·.data.toList)) sep.data.toList).toArray⟩)∧Below w.heap.size w w':=
 Any.strings_Join Tryz.laysJoin YD bk 0 c xs sep w (fun j x hx=>by rw[kP];exact hcells j x hx) hbk qJ hcap hlen
theorem xL(s:ByteArray)(c:UInt8)(hc:c.toNat<128)(w:World)(hs:s.size≤9223372036854775807):
 Calls jG 53 #[.string s,.string ⟨#[c]⟩] w fun e w'=>e=.returned (.string ⟨(Lib.trimRightB s.data.toList c).toArray⟩)∧w'=w:=Any.strings_TrimRight_one Tryz.laysTrimR s c hc w hs
end Go.Proofs.YtaefcahblmopfaaGreatDoor
