/- Joined by a tool of this claim out of smaller texts. Conditions: as stated. -/
import Derived.Test.YtaefcahblmopfaaGreatDoorDj29
import Derived.Deep.OwnRows
import Derived.Lib.Builder
import Derived.Lib.AppendStr
import Derived.Lib.UnsafeStr
import Derived.Lib.FrozenHead
import Derived.Shelf.RegionOpenPlain
import Derived.Deep.LoopGhost
import Derived.Deep.QuietTactic
import Derived.BigQuiet
import Derived.Shelf.Strconv.Itoa3
import Derived.Ground.NamesProg
import Derived.Test.YtaefcahblmopfaaGreatDoorProg
set_option linter.unusedVariables false
set_option linter.unusedSimpArgs false
set_option maxRecDepth 100000
open Go.Lib renaming hid → Hd
open List renaming setIfInBounds_toArray → jZ, set_cons_zero → jX, set_cons_succ → jY, mem_singleton → jM, getElem?_eq_getElem → jN, getElem?_eq_some_iff → jP, length_append → jC, drop_succ_cons → jL, take_succ_cons → jS, drop_zero → jO, take_succ_eq_append_getElem → kQ, mem_cons → kJ, take_zero → kK, getD_eq_getElem?_getD → kX, mem_append → kU, length_take → kC, getElem?_map → uX, mem_of_getElem? → uB
open Go.Proofs.Tryz renaming prog → jG
open Go.RowKit.Below renaming refl → jU
open Nat renaming le_refl → jD, le_trans → jI, zero_le → kM, zero_add → kP, add_zero → uA
open Go.IntWalk renaming i64_in → jF
open Option renaming mem_toList → jA
open Go.IntKind renaming i64 → jE
open Go.World renaming ownsRow_nil → kS, setCell → uN
namespace Go.Proofs.YtaefcahblmopfaaGreatDoor
open Go.RowKit
set_option maxHeartbeats 3200000 in
theorem Kz(s:ByteArray)(hs:fD s)(w:World):Calls jG 59 #[.string s] w fun e w'=>e=.returned (.bool true)∧Below w.heap.size w w':=by
 obtain⟨L,hL,hsL,hz⟩:=hs;have hln:L.length≤s.size:=by rw[hsL,gJ];exact eI L
 have hnums:yD s=L.flatMap kO:=by
  rw[hsL];exact oI (fun x hx=>by
   obtain⟨r,hr,hx⟩:=List.mem_flatMap.1 hx;exact cB r (hL r hr).1 x hx)
 have hcv:=mA s w;have HBI:=Hd (KC w 5 s);have HBB:=Hd (dH w 5 s);have hcap:=qVh w 5 s.size;have HA:Hid (∀(w1:World),BsS w1 w.heap.size 0 (yD s)→Calls jG 109 #[.slice (some ⟨w.heap.size,0,none⟩) s.size (grownCap w s.size 0 5)] w1 (eM L w1)):=Hd (fun w1 hb=>by
  have :=Va w.heap.size 0 (grownCap w s.size 0 5) (yD s) L w1 (fun r hr=>(hL r hr).1) hnums (lQ s) (by rw[zB];exact hcap) (by rw[zB];omega) hb
  rwa[zB]at this)
 clear hcap;generalize Lib.bytesWorld w 5 s=wb at hcv HBI HBB;have HSC:=Hd (fun r (hr:r∈L)=>(hL r hr).1);have HWZ:=Hd (fun r (hr:r∈L)=>(hL r hr).2);have HSL:=Hd hsL;clear hL hsL hnums
 go_enter Tryz.func59,Tryz.ntmps59
 go_wp2_with(go_at_call 109;(with_reducible refine(HA.o _ HBI.o).mono ?_);rintro e w1 ⟨v,rfl,ho,hb1⟩;obtain⟨A,c,rfl,hA⟩:=xP ho;have HB1:=Hd (jW HBB.o hb1);clear hb1 ho)
 have hAA:=Hd hA;clear hA
 go_loopw [4,5] (fun b i wr=>∃k:Nat,k≤L.length∧i=.int .i64 k∧b=.string (strOfNums ((L.take k).flatMap kO))∧(∀r∈L.take k,vB r=0)∧Below w.heap.size w wr∧Below w1.heap.size w1 wr) (fun _ i _=>L.length-(intOf i).toNat)
 case atStart=>exact⟨0,kM _,rfl,rfl,by simp,HB1.o,jU _ _⟩
 case round=>
  obtain⟨k,hk,rfl,rfl,hw0,hB,hb⟩:=hrel;have HW0:=Hd hw0;have hfl:=oK (L.take k);have hlk:(L.take k).length≤k:=by rw[kC];omega
  have hsz:(strOfNums ((L.take k).flatMap kO)).size≤4*k:=by rw[gJ];omega
  clear hw0 hfl hlk
  by_cases hlt:k<L.length
  · obtain⟨g,rfl,hc0⟩:=hAA.o k _ (jN hlt);have hc:=kZ hb hc0;have hr:=HSC.o _ (List.getElem_mem hlt);have hw0r:=HWZ.o _ (List.getElem_mem hlt);have HT:Hid (L.take (k+1)=L.take k++[L[k]]):=Hd (kQ hlt);clear hc0;generalize L[k]=r at hc hr HT hw0r;obtain⟨X,hX⟩:∃X,X=(L.take k).flatMap kO:=⟨_,rfl⟩;rw[←hX]at hsz ⊢;have HW:=Hd (fun w=>xM r w);have HU:=Hd (fun w=>nY r w);have hp32:=iY r;have HPB:=Hd (dQ r hr);have HXX:=Hd hX;clear hX hr;have hss:¬9223372036854775807<(strOfNums X).size+(vD r).size:=by omega
    by_cases h0:vB r=0
    · rw[h0]at HW;have hw00:=Hd h0;clear h0
      go_wp2_with(first|(go_at_call 58;(with_reducible refine(HW.o _).mono ?_);rintro e w2 ⟨rfl,hb2⟩;have hc2:=kZ hb2 hc)|(go_at_call 52;(with_reducible refine(HU.o _).mono ?_);rintro e w3 ⟨u,ys,rfl,hu,hy,hb3⟩;have hcu:=rH hu;rw[hy]at hcu;clear hu hy))
      go_roundw
      case rel=>exact⟨k+1,by omega,by go_num,by rw[HT.o,List.flatMap_append,←HXX.o,←yV,HPB.o];simp,fun x hx=>by
       rw[HT.o]at hx;rcases kU.1 hx with h|h
       · exact HW0.o x h
       · rw[jM.1 h];exact hw00.o,jW (jW hB hb2) hb3,jW (jW hb hb2) hb3⟩
      case measure=>simp[intOf];omega
    · exact absurd hw0r h0
  · obtain rfl:k=L.length:=by omega
    rw[List.take_length]at hsz HW0 ⊢;rw[←HSL.o]at hsz ⊢;have hz3:((s.size:Nat):Int)≤32:=by omega
    go_wp2
    all_goals
     go_ret
     exact⟨by first|rfl|simp,hB⟩
set_option maxHeartbeats 6400000 in
theorem Kg(A:Option Addr)(l:List Cl)(ca:Nat)(w:World)(hl:zL w A l)(h0:0<l.length)(hz:l.length≤1000)(hm:uJ l=l)(hok:∀c∈l,wV c):
 Calls jG 31 #[.slice A l.length ca] w fun e w'=>e=.returned (.bool true)∧Below w.heap.size w w':=by
 have HM:=Hd (Jv A l ca w (iW hl) h0 qJ);have HL:=Hd hl;have HOK:=Hd hok;have hml:=uL l;clear hl hok;have HS:Hid (∀(g cap:Nat) (w1:World),CrO w1 w.heap.size g cap (uJ l)→Below w.heap.size w w1→Calls jG 57 #[.slice (some ⟨g,0,none⟩) l.length cap,.slice A l.length ca] w1 fun e w2=>e=.returned (.bool (decide (uJ l=l)))∧Below w1.heap.size w1 w2):=Hd (fun g cap w1 hc hb=>by
  have :=hZ _ _ _ _ cap ca w1 (KN (nN hc)) (HL.o.below hb) (by rw[hml];omega) qJ
  rwa[hml]at this)
 rw[show decide (uJ l=l)=true from decide_eq_true hm]at HS;clear hm
 go_enter Tryz.func31,Tryz.ntmps31
 go_wp2_with(first|(go_at_call 30;(with_reducible refine HM.o.mono ?_);rintro e w1 ⟨g,cap,rfl,hcr,hb1⟩)|(go_at_call 57;(with_reducible refine(HS.o g cap _ hcr hb1).mono ?_);rintro e w2 ⟨rfl,hb2⟩;have HB2:=Hd (jW hb1 hb2);clear hcr hb1 hb2))
 go_loopw [3] (fun i wr=>∃k:Nat,k≤l.length∧i=.int .i64 k∧Below w.heap.size w wr) (fun i _=>l.length-(intOf i).toNat)
 case atStart=>exact⟨0,kM _,rfl,HB2.o⟩
 case round=>
  obtain⟨k,hk,rfl,hB⟩:=hrel
  by_cases hlt:k<l.length
  · obtain⟨b,off,rfl,hcl⟩:=HL.o h0;have hr:=(hcl k _ (jN hlt)).below hB;have hcok:=HOK.o _ (List.getElem_mem hlt);clear hcl;generalize l[k]=c at hr hcok;obtain⟨r0,r1,r2,r3,r4,r5,r6,r7⟩:=hr;obtain⟨cr,cm,ch,c3,c4,c5,c6,c7⟩:=c;simp only at r0 r1 r2 r3 r4 r5 r6 r7;have HW:=Hd (fun w=>xM cr w);have HBX:=Hd (jH hB (.cells #[.int .i32 cr,.string cm,.int .i64 ch,.int .i64 c3,.int .i64 c4,.int .i64 c5,.int .i64 c6,.int .i64 c7] 65));rcases hcok with⟨h1,h2,h3⟩|⟨h1,h2,h3⟩
    · simp only at h1 h2 h3;subst h1 h2 h3
      go_wp2_with(go_at_call 58;(with_reducible refine(HW.o _).mono ?_);rintro e w3 ⟨rfl,hb3⟩;have x0:=(uY hb3 (jT rfl) 0 _ rfl).1;have x1:=(uY hb3 (jT rfl) 1 _ rfl).1;have x2:=(uY hb3 (jT rfl) 2 _ rfl).1;have HB3:=Hd (jW HBX.o hb3);clear hb3)
      all_goals
       first
       |exact⟨⟨k+1,by omega,by go_num,HB3.o⟩,by simp[intOf];omega⟩
       |(go_roundw
         case rel=>exact⟨k+1,by omega,by go_num,HB3.o⟩
         case measure=>simp[intOf];omega)
    · simp only at h1 h2 h3;have HK:=Hd (fun w=>Kz cm h2 w);have hr:¬cr=0:=h1;have hq0:(cr==0)=false:=beq_eq_false_iff_ne.2 hr;have hq1:(cr != 0)=true:=by rw[bne,hq0];rfl
      clear h1 h2;rcases h3 with⟨rfl,hw⟩|⟨rfl,hw⟩|⟨rfl,hw⟩
      · rw[hw]at HW;clear hw
        go_wp2_with(first|(go_at_call 58;(with_reducible refine(HW.o _).mono ?_);rintro e w3 ⟨rfl,hb3⟩;have x0:=(uY hb3 (jT rfl) 0 _ rfl).1;have x1:=(uY hb3 (jT rfl) 1 _ rfl).1;have x2:=(uY hb3 (jT rfl) 2 _ rfl).1;have HB3:=Hd (jW HBX.o hb3);clear hb3)|(go_at_call 59;(with_reducible refine(HK.o _).mono ?_);rintro e w4 ⟨rfl,hb4⟩))
        all_goals
         first
         |exact⟨⟨k+1,by omega,by go_num,jW HB3.o hb4⟩,by simp[intOf];omega⟩
         |(go_roundw
           case rel=>exact⟨k+1,by omega,by go_num,jW HB3.o hb4⟩
           case measure=>simp[intOf];omega)
      · rw[hw]at HW;clear hw
        go_wp2_with(first|(go_at_call 58;(with_reducible refine(HW.o _).mono ?_);rintro e w3 ⟨rfl,hb3⟩;have x0:=(uY hb3 (jT rfl) 0 _ rfl).1;have x1:=(uY hb3 (jT rfl) 1 _ rfl).1;have x2:=(uY hb3 (jT rfl) 2 _ rfl).1;have HB3:=Hd (jW HBX.o hb3);clear hb3)|(go_at_call 59;(with_reducible refine(HK.o _).mono ?_);rintro e w4 ⟨rfl,hb4⟩))
        all_goals
         first
         |exact⟨⟨k+1,by omega,by go_num,jW HB3.o hb4⟩,by simp[intOf];omega⟩
         |(go_roundw
           case rel=>exact⟨k+1,by omega,by go_num,jW HB3.o hb4⟩
           case measure=>simp[intOf];omega)
      · rw[hw]at HW;clear hw
        go_wp2_with(first|(go_at_call 58;(with_reducible refine(HW.o _).mono ?_);rintro e w3 ⟨rfl,hb3⟩;have x0:=(uY hb3 (jT rfl) 0 _ rfl).1;have x1:=(uY hb3 (jT rfl) 1 _ rfl).1;have x2:=(uY hb3 (jT rfl) 2 _ rfl).1;have HB3:=Hd (jW HBX.o hb3);clear hb3)|(go_at_call 59;(with_reducible refine(HK.o _).mono ?_);rintro e w4 ⟨rfl,hb4⟩))
        all_goals
         first
         |exact⟨⟨k+1,by omega,by go_num,jW HB3.o hb4⟩,by simp[intOf];omega⟩
         |(go_roundw
           case rel=>exact⟨k+1,by omega,by go_num,jW HB3.o hb4⟩
           case measure=>simp[intOf];omega)
  · obtain rfl:k=l.length:=by omega
    go_wp2
    go_ret
    exact⟨by first|rfl|simp,hB⟩
set_option maxHeartbeats 6400000 in
theorem Kb(A:Option Addr)(l:List Rw)(ca cols:Nat)(w:World)(hl:bG w A l)(hok:dP l cols):
 Calls jG 25 #[.slice A l.length ca] w fun e w'=>e=.returned (.bool true)∧Below w.heap.size w w':=by
 obtain⟨h0,hz,hf3,hf4,hrw⟩:=hok;have hn0:¬(l.length:Int)=0:=by omega
 have hbeq:((l.length:Int)==0)=false:=beq_eq_false_iff_ne.2 hn0;obtain⟨b,off,rfl,hr⟩:=hl h0;obtain⟨⟨z0,-⟩,-,hzz⟩:=hr 0 _ (jN h0);rw[Nat.zero_mul,uA,(hrw _ (List.getElem_mem h0)).1]at z0;have HR:=Hd hr;have HRW:=Hd hrw;clear hl hr hzz hrw;generalize l[0].A=B0 at z0;generalize l[0].cap=c0 at z0;have HF:=Hd (fun w=>Ju l.length cols w);rw[decide_eq_true (show 0<l.length∧l.length≤1000∧1<cols∧cols≤1000 by omega)]at HF
 go_enter Tryz.func25,Tryz.ntmps25
 go_wp2_with(go_at_call 29;(with_reducible refine(HF.o _).mono ?_);rintro e w1 ⟨rfl,rfl⟩)
 go_loopw [3] (fun i wr=>∃k:Nat,k≤l.length∧i=.int .i64 k∧Below w.heap.size w wr) (fun i _=>l.length-(intOf i).toNat)
 case atStart=>exact⟨0,kM _,rfl,jU _ _⟩
 case round=>
  obtain⟨k,hk,rfl,hB⟩:=hrel
  by_cases hlt:k<l.length
  · obtain⟨⟨d0,d1⟩,hcl,hcz⟩:=(HR.o k _ (jN hlt)).below hB;obtain⟨hlen,hmd,hdr⟩:=HRW.o _ (List.getElem_mem hlt);have z0':=kZ hB z0;generalize l[k]=r at d0 d1 hcl hcz hlen hmd hdr;obtain⟨B,cs,cap,cont⟩:=r;simp only at d0 d1 hcl hcz hlen hmd hdr;have HR7:=Hd (fun w h=>Kg B cs cap w h qJ qJ hmd (fun c hc=>(hdr c hc).1));have HCL:=Hd hcl;have HLEN:=Hd hlen;have HDR:=Hd hdr;rw[hlen]at d0 HR7;clear hlen hcl hcz hmd hdr
    go_wp2_with(go_at_call 31;(with_reducible refine(HR7.o _ HCL.o).mono ?_);rintro e w2 ⟨rfl,hb2⟩;have HB2:=Hd (jW hB hb2);have HC2:=Hd (HCL.o.below hb2);clear hb2)
    go_loopw [5] (fun i w5=>∃j:Nat,j≤cols∧i=.int .i64 j∧Below w.heap.size w w5∧Below w2.heap.size w2 w5) (fun i _=>cols-(intOf i).toNat)
    case atStart=>exact⟨0,kM _,rfl,HB2.o,jU _ _⟩
    case round=>
     obtain⟨j,hj,rfl,hB5,hb5⟩:=hrel
     by_cases hjl:j<cols
     · have hjc:j<cs.length:=by have :=HLEN.o;omega
       obtain⟨b',off',c,rfl,hcg,hca⟩:=HC2.o.at_ hjc;obtain⟨hcok,hat,hz0⟩:=HDR.o c (uB hcg);have hca:=hca.below hb5;clear hcg;obtain⟨r0,r1,r2,r3,r4,r5,r6,r7⟩:=hca;obtain⟨cr,cm,ch,c3,c4,c5,c6,c7⟩:=c;simp only at r0 r1 r2 r3 r4 r5 r6 r7 hat hz0;have h3:¬ch=3:=by rcases hcok with⟨_,_,h⟩|⟨_,_,⟨h,_⟩|⟨h,_⟩|⟨h,_⟩⟩<;>(simp only at h;omega)
       have HA:=Hd (fun w=>wG c3 c4 c5 c6 c7 w);rw[hat]at HA;clear hat hcok;have HBX:=Hd (jH hB5 (.cells #[.int .i64 c3,.int .i64 c4,.int .i64 c5,.int .i64 c6,.int .i64 c7] 63));have HBY:=Hd (jH hb5 (.cells #[.int .i64 c3,.int .i64 c4,.int .i64 c5,.int .i64 c6,.int .i64 c7] 63));have q0:=kZ ((jU wr.heap.size wr).alloc (jD _) (.cells #[.int .i64 c3,.int .i64 c4,.int .i64 c5,.int .i64 c6,.int .i64 c7] 63)) r0;have hgl:=uE r0;have hgn:¬wr.heap.size=b':=by omega
       have hgn2:¬b'=wr.heap.size:=by omega
       by_cases hr0:cr=0
       · obtain⟨rfl,rfl,rfl⟩:=hz0 hr0;subst hr0;clear hz0
         go_wp2_with(go_at_call 32;(with_reducible refine(HA.o _).mono ?_);rintro e w6 ⟨rfl,hb6⟩;have y0:=kZ hb6 q0;have x0:=(uY hb6 (jT rfl) 0 _ rfl).1;have x1:=(uY hb6 (jT rfl) 1 _ rfl).1;have x4:=(uY hb6 (jT rfl) 4 _ rfl).1;have HB6:=Hd (jW HBX.o hb6);have HB7:=Hd (jW HBY.o hb6);clear hb6)
         go_roundw
         case rel=>exact⟨j+1,by omega,by go_num,HB6.o,HB7.o⟩
         case measure=>simp[intOf];omega
       · clear hz0
         go_wp2_with(go_at_call 32;(with_reducible refine(HA.o _).mono ?_);rintro e w6 ⟨rfl,hb6⟩;have y0:=kZ hb6 q0;have x0:=(uY hb6 (jT rfl) 0 _ rfl).1;have x1:=(uY hb6 (jT rfl) 1 _ rfl).1;have x4:=(uY hb6 (jT rfl) 4 _ rfl).1;have HB6:=Hd (jW HBX.o hb6);have HB7:=Hd (jW HBY.o hb6);clear hb6)
         go_roundw
         case rel=>exact⟨j+1,by omega,by go_num,HB6.o,HB7.o⟩
         case measure=>simp[intOf];omega
     · obtain rfl:j=cols:=by omega
       go_wp2
       go_roundw
       case rel=>exact⟨k+1,by omega,by go_num,hB5⟩
       case measure=>simp[intOf];omega
  · obtain rfl:k=l.length:=by omega
    go_wp2
    go_ret
    exact⟨by first|rfl|simp,hB⟩
def mG(priv:Bool)(n:Int):Int:=if YS priv n then oR priv n else -1
theorem Q9:∀i,i<18→mG (decide (2≤i)) (bP.getD i 0)=i:=by decide
theorem ZZ(priv:Bool)(n:Int)(h:∀j,j<18→¬(bP.getD j 0=n∧priv=decide (2≤j))):mG priv n= -1:=by
 unfold mG YS oR;cases priv with
 |true=>
  have e:(bP.drop 2).findIdx (· ==n)=16:=List.findIdx_eq_length_of_false (xs:=bP.drop 2) (fun x hx=>by
   obtain⟨i,hi,he⟩:=List.getElem_of_mem hx;have hi2:i<16:=hi;have :=h (i+2) qJ;rw[List.getElem_drop]at he;have e2:bP.getD (i+2) 0=x:=by
    rw[kX,jN (by show i+2<18;omega),Option.getD_some,←he]
    congr 1
    omega
   rw[e2]at this;simp only[decide_eq_true (show 2≤i+2 by omega),and_true]at this;simpa using this)
  simp[e]
 |false=>
  have e:(bP.take 2).findIdx (· ==n)=2:=List.findIdx_eq_length_of_false (xs:=bP.take 2) (fun x hx=>by
   have h0:=h 0 qJ;have h1:=h 1 qJ;simp[bP]at h0 h1 hx;rcases hx with rfl|rfl
   · simpa using h0
   · simpa using h1)
  simp[e]
theorem Z3:(jG.info? 207).map (·.size)=some 18:=by kernel_rfl
def numsV:Value:=.agg #[.int .i64 4,.int .i64 20,.int .i64 1,.int .i64 5,.int .i64 6,.int .i64 7,.int .i64 25,.int .i64 47,.int .i64 66,.int .i64 1000,.int .i64 1002,.int .i64 1003,.int .i64 1004,.int .i64 1006,.int .i64 1047,.int .i64 1048,.int .i64 1049,.int .i64 2004]
set_option maxHeartbeats 1600000 in
theorem ZP(w:World):Calls jG 154 #[] w fun e w'=>e=.returned numsV∧Below w.heap.size w w':=by
 go_enter Tryz.func154,Tryz.ntmps154
 go_wp2
 exact bodyPost_ret (bW rfl _ _ w.heap.size [.int .i64 4,.int .i64 20,.int .i64 1,.int .i64 5,.int .i64 6,.int .i64 7,.int .i64 25,.int .i64 47,.int .i64 66,.int .i64 1000,.int .i64 1002,.int .i64 1003,.int .i64 1004,.int .i64 1006,.int .i64 1047,.int .i64 1048,.int .i64 1049,.int .i64 2004] rfl (uH (jT rfl)) Tryz.underlying207 rfl Z3) rfl ⟨rfl,jH (jU _ _) _⟩
def qKg:List Value:=[.int .i64 4,.int .i64 20,.int .i64 1,.int .i64 5,.int .i64 6,.int .i64 7,.int .i64 25,.int .i64 47,.int .i64 66,.int .i64 1000,.int .i64 1002,.int .i64 1003,.int .i64 1004,.int .i64 1006,.int .i64 1047,.int .i64 1048,.int .i64 1049,.int .i64 2004]
theorem qKf:∀i,i<18→qKg[i]? =some (.int .i64 (bP.getD i 0)):=fun i hi=>by
 have :qKg=bP.map (Value.int .i64):=rfl;rw[this,uX,jN (by show i<18;exact hi),Option.map_some,kX,jN (by show i<18;exact hi),Option.getD_some]
set_option maxHeartbeats 1600000 in
theorem Q8(priv:Bool)(n:Int)(w:World):Calls jG 83 #[.bool priv,.int .i64 n] w fun e w'=>e=.returned (.int .i64 (mG priv n))∧Below w.heap.size w w':=by
 obtain⟨NA,hNA⟩:∃NA,NA=qKg.toArray:=⟨_,rfl⟩;have HN:Hid (Calls jG 154 #[] w fun e w'=>e=.returned (.agg NA)∧Below w.heap.size w w'):=Hd (by rw[hNA];exact ZP w);have HIX:Hid (∀(i:Nat),i<18→∀w',(Instr.index 207 (.agg NA) (.int .i64 i)).run jG w'=.ok (.int .i64 (bP.getD i 0)) w'):=Hd (fun i hi w'=>mK w' _ _ 18 NA _ _ _ Tryz.underlying207 qJ qJ (Tryz.sizeOf3 _) (Tryz.isAgg3 _) (by rw[hNA];exact qKf i hi));clear hNA
 go_enter Tryz.func83,Tryz.ntmps83
 go_wp2_with(go_at_call 154;(with_reducible refine HN.o.mono ?_);rintro e w1 ⟨rfl,hb⟩;have HB:=Hd hb;clear hb)
 go_loopw [8] (fun s8 wr=>∃i:Nat,s8=.int .i64 i∧i≤18∧(∀j,j<i→¬(bP.getD j 0=n∧priv=decide (2≤j)))∧wr=w1) (fun s8 _=>18-(intOf s8).toNat)
 case atStart=>exact⟨0,rfl,by omega,fun j hj=>absurd hj qJ,rfl⟩
 case round=>
  obtain⟨i,rfl,hi,hno,rfl⟩:=hrel;have HNO:=Hd hno;clear hno
  by_cases hlt:i<18
  · have hltI:(i:Int)<18:=by omega
    have hix:=HIX.o i hlt;have HAT:=Hd (Q9 i hlt);have HNX:Hid (¬(bP.getD i 0=n∧priv=decide (2≤i))→∀j,j<i+1→¬(bP.getD j 0=n∧priv=decide (2≤j))):=Hd (fun h j hj=>by
     rcases Nat.lt_or_ge j i with h1|h1
     · exact HNO.o j h1
     · obtain rfl:j=i:=by omega
       exact h)
    have hd:decide ((2:Int)≤i)=decide (2≤i):=decide_eq_decide.2 qJ;generalize bP.getD i 0=x at hix HAT HNX;have hw:jE.wrap ((i:Int)+1)=(i:Int)+1:=jF _ qJ
    by_cases hx:x=n
    · have hxb:(x==n)=true:=by simpa using hx
      by_cases hp:priv=decide (2≤i)
      · have hpb:(priv==decide ((2:Int)≤i))=true:=by rw[hd];simpa using hp
        have HHX:=Hd hx;have HHP:=Hd hp;clear hx hp hd
        go_wp2
        go_ret
        exact⟨(congrArg (fun k:Int=>Ending.returned (Value.int .i64 k)) (show mG priv n=i from by rw[HHP.o,←HHX.o,HAT.o])).symm,HB.o⟩
      · have hpb:(priv==decide ((2:Int)≤i))=false:=by rw[hd];simpa using hp
        have HHP:=Hd hp;clear hp hx hd
        go_wp2
        exact⟨⟨i+1,by go_num,by omega,HNX.o (fun h=>HHP.o h.2),trivial⟩,by simp[intOf];omega⟩
    · have hxb:(x==n)=false:=by simpa using hx
      have HHX:=Hd hx;clear hx hd
      go_wp2
      exact⟨⟨i+1,by go_num,by omega,HNX.o (fun h=>HHX.o h.1),trivial⟩,by simp[intOf];omega⟩
  · have hltI:¬(i:Int)<18:=by omega
    obtain rfl:i=18:=by omega
    go_wp2
    go_ret
    exact⟨congrArg (fun k:Int=>Ending.returned (Value.int .i64 k)) (ZZ priv n HNO.o).symm,HB.o⟩
theorem QU:(jG.info? 40).map (·.size)=some 1:=by kernel_rfl
theorem or_bit{b:Int}{k:Nat}(hb:0≤b∧b<4294967296)(hk:k<18):bits .or .u32 b (2 ^ k)=((b.toNat ||| 2 ^ k:Nat):Int):=by
 obtain⟨a,rfl⟩:=Int.eq_ofNat_of_zero_le hb.1;have h1:2 ^ k<4294967296:=Nat.lt_of_lt_of_le (Nat.pow_lt_pow_right qJ hk) qZ;have ha:a<4294967296:=by omega
 have hlt:a ||| 2 ^ k<4294967296:=Nat.or_lt_two_pow (n:=32) ha h1;have key:(BitVec.ofInt 32 (a:Int) ||| BitVec.ofInt 32 (2 ^ k:Int)).toNat=a ||| 2 ^ k:=by
  rw[show((2:Int) ^ k)=((2 ^ k:Nat):Int) by simp,BitVec.ofInt_natCast,BitVec.ofInt_natCast,BitVec.toNat_or,BitVec.toNat_ofNat,BitVec.toNat_ofNat,Nat.mod_eq_of_lt qJ,Nat.mod_eq_of_lt qJ]
 have e2:bits .or .u32 (a:Int) (2 ^ k)=IntKind.u32.wrap (((BitVec.ofInt 32 (a:Int) ||| BitVec.ofInt 32 (2 ^ k:Int)).toNat:Nat):Int):=rfl;rw[e2,key];have :IntKind.u32.wrap ((a ||| 2 ^ k:Nat):Int)=((a ||| 2 ^ k:Nat):Int):=by
  show((a ||| 2 ^ k:Nat):Int)%4294967296=_;omega
 rw[this];simp
theorem qQx{b:Int}{priv:Bool}{n:Int}{k:Nat}(hk:mG priv n=k):xA b priv n true=((b.toNat ||| 2 ^ k:Nat):Int):=by
 unfold mG at hk
 split at hk
 · rename_i h
   unfold xA;rw[if_pos h,if_pos rfl,show oR priv n=k by omega]
 · omega
set_option maxHeartbeats 1600000 in
theorem ZF(b:Int)(priv:Bool)(n:Int)(k:Nat)(hk:mG priv n=k)(h5:k<18)(hb0:0≤b∧b<4294967296)(w:World):Calls jG 41 #[.agg #[.int .u32 b],.bool priv,.int .i64 n,.bool true] w fun e w'=>e=.returned (.agg #[.int .u32 (xA b priv n true)])∧Below w.heap.size w w':=by
 have HP:=Hd (fun w=>Q8 priv n w);rw[hk]at HP;have hk0:¬(k:Int)<0:=by omega
 go_enter Tryz.func41,Tryz.ntmps41
 go_upto_region 5 with(go_at_call 83;(with_reducible refine(HP.o _).mono ?_);rintro e w1 ⟨rfl,hb⟩;have HB:=Hd hb;clear hb)
 have hb5:Below w.heap.size w w1:=jW (jH (jH (jU _ _) _) _) HB.o;have hn5:w1.heap[w.heap.size]? =some (.cells #[.int .u32 b] 40 (0,0)):=(HB.o.block _ qY).trans (vJ (jT rfl));have hr5:w1.heap[w.heap.size+1]? =some (.cells #[.int .u32 0] 40 (0,0)):=(HB.o.block _ qV).trans (jT qV);have HB5:=Hd hb5;have HN5:=Hd hn5;have HR5:=Hd hr5;obtain⟨c0,f0⟩:=at_ hn5 0 (.int .u32 b) rfl;clear hb5 hn5 hr5;refine kW 4 (fun w'=>Below w1.heap.size w1 w'∧w'.cell? ⟨w.heap.size,0,none⟩=some (.int .u32 b)) qQ qQ ?_ ?_
 · exact⟨(jU _ _).drew,c0⟩
 simp only[jS,kK,jL,jO]
 repeat(
  (first
   |refine kF qK ?_
   |(refine kT ?_ qK ?_ ?_;rotate_left;(focus(intro w' hS;obtain⟨_,_⟩:=hS;go_simp;first|done|with_reducible rfl))))
  simp only[Act.put,jZ,jX,jY])
 refine kE (fun w' hS=>?_);obtain⟨hb6,c0⟩:=hS;have hn6:=(hb6.block _ (jR HN5.o)).trans HN5.o;have hr6:=(hb6.block _ (jR HR5.o)).trans HR5.o;obtain⟨-,f0⟩:=at_ hn6 0 (.int .u32 b) rfl;obtain⟨r0,rf0⟩:=at_ hr6 0 (.int .u32 0) rfl;have HB6:=Hd (jW HB5.o hb6);have HN6:=Hd hn6;have HR6:=Hd hr6;have hpw:IntKind.u32.wrap (2 ^ k)=2 ^ k:=by
  have :∀k,k<18→IntKind.u32.wrap (2 ^ k)=2 ^ k:=by decide
  exact this k h5
 clear hb6 hn6 hr6
 go_wp2
 have hz:=kA (cs:=[.int .u32 0]) (w:=w'.setCell ⟨w.heap.size,0,none⟩ (.int .u32 (bits .or .u32 b (2 ^ k)))) ((((Mod.refl [w.heap.size] w').setCell (a:=⟨w.heap.size,0,none⟩) (.inl qV) _).block (w.heap.size+1) (jR HR6.o) qV).trans HR6.o) 0 (.int .u32 (bits .or .u32 b (2 ^ k))) rfl;exact bodyPost_ret (bW rfl _ _ (w.heap.size+1) [.int .u32 (bits .or .u32 b (2 ^ k))] rfl (uH hz) Tryz.underlying40 rfl QU) rfl ⟨by rw[qQx hk,or_bit hb0 h5],uK (uK HB6.o (jD _) _) qJ _⟩
theorem ZL(w:World):Calls jG 15 #[] w fun e w'=>e=.returned (.agg #[.int .u32 Kn])∧Below w.heap.size w w':=by
 have H1:Hid (∀w,Calls jG 41 #[.agg #[.int .u32 0],.bool true,.int .i64 7,.bool true] w fun e w'=>e=.returned (.agg #[.int .u32 32])∧Below w.heap.size w w'):=Hd (fun w=>by
  have :=ZF 0 true 7 5 qZ qJ qJ w;rw[show xA 0 true 7 true=32 by decide]at this;exact this)
 have H2:Hid (∀w,Calls jG 41 #[.agg #[.int .u32 32],.bool true,.int .i64 25,.bool true] w fun e w'=>e=.returned (.agg #[.int .u32 96])∧Below w.heap.size w w'):=Hd (fun w=>by
  have :=ZF 32 true 25 6 qZ qJ qJ w;rw[show xA 32 true 25 true=96 by decide]at this;exact this)
 rw[show Kn=96 by decide];obtain⟨W,hW⟩:∃W,w.alloc (.cells #[.int .u32 0] 40)=W:=⟨_,rfl⟩;have HB0:Hid (Below w.heap.size w W):=Hd (by rw[←hW];exact jH (jU _ _) _);have HN0:Hid (W.heap[w.heap.size]? =some (.cells #[.int .u32 0] 40 (0,0))):=Hd (by rw[←hW];exact jT rfl)
 go_enter Tryz.func15,Tryz.ntmps15
 go_wp2_with(first
  |(go_at_call 41;(with_reducible refine(H1.o _).mono ?_);rintro e w1 ⟨rfl,hb⟩;have HB1:=Hd (jW HB0.o hb);have HN1:=Hd ((hb.block _ (jR HN0.o)).trans HN0.o);clear hb)
  |(go_at_call 41;(with_reducible refine(H2.o _).mono ?_);rintro e w2 ⟨rfl,hb⟩;have HB2:=Hd (jW HB1.o hb);have HN2:=Hd ((hb.block _ (jR HN1.o)).trans HN1.o);clear hb;obtain⟨r0,rf0⟩:=at_ HN2.o 0 (.int .u32 0) rfl))
 exact bodyPost_ret (bW rfl _ _ w.heap.size [.int .u32 96] rfl (uH (kA (cs:=[.int .u32 0]) HN2.o 0 (.int .u32 96) rfl)) Tryz.underlying40 rfl QU) rfl ⟨rfl,uK HB2.o (jD _) _⟩
theorem Qa:(jG.info? 76).map (·.size)=some 2:=by kernel_rfl
structure BuB(w:World)(b o:Nat)(ba bf:Value):Prop where
 h0:w.cell? ⟨b,o,none⟩=some ba∧w.frozen? ⟨b,o,none⟩=false
 h1:w.cell? ⟨b,o+1,none⟩=some bf∧w.frozen? ⟨b,o+1,none⟩=false
 ad:ba=.pointer none∨ba=.pointer (some ⟨b,o,none⟩)
def WZ(w:World)(b o:Nat):Prop:=∃ty n,w.shape? b=some (ty,n)∧o<n∧liesAt jG jG.depth ty (n/jG.cellsOf ty) o 76 1=true
theorem BuB.set0{w:World}{b o:Nat}{ba bf:Value}(h:BuB w b o ba bf):BuB (w.setCell ⟨b,o,none⟩ (.pointer (some ⟨b,o,none⟩))) b o (.pointer (some ⟨b,o,none⟩)) bf:=
 ⟨dZ h.h0,pK h.h1 (.inr qJ),.inr rfl⟩
def BcPost(b o:Nat)(bf:Value)(w:World)(e:Ending)(w':World):Prop:=e=.returned (.tuple #[])∧(w'=w∨w'=w.setCell ⟨b,o,none⟩ (.pointer (some ⟨b,o,none⟩)))∧BuB w' b o (.pointer (some ⟨b,o,none⟩)) bf
set_option maxHeartbeats 1600000 in
theorem qVq(b o:Nat)(ba bf:Value)(w:World)(hl:WZ w b o)(h:BuB w b o ba bf):
 Calls jG 168 #[.pointer (some ⟨b,o,none⟩)] w (BcPost b o bf w):=by
 obtain⟨j,hj,hjs⟩:=Option.map_eq_some_iff.1 Qa;obtain⟨ty,n,hsh,hon,hli⟩:=hl;have HB:=Hd h;obtain⟨⟨c0,f0⟩,-,had⟩:=h;rcases had with rfl|rfl
 · have hcv1:=Lib.run_to_unsafe (P:=jG) w ⟨b,o,none⟩ Tryz.underlying74 Tryz.underlying280 hj (by rw[hjs];decide) hsh hon;have hcv2:=Lib.run_from_unsafe (P:=jG) w ⟨b,o,none⟩ Tryz.underlying280 Tryz.underlying74 hj hsh hli;have HB2:=Hd HB.o.set0
   go_enter Tryz.func168,Tryz.ntmps168
   go_wp2
   rw[run_callFunc_extern Tryz.func260 qQ qQ qQ (e:=Extern.AbiNoEscape.same) qQ];rw[Lib.run_noEscape]
   try simp only[Result.andThen]
   rw[Oper.upon_value]
   go_wp2
   go_end0
   exact⟨rfl,.inr rfl,HB2.o⟩
 · have hq:=Lib.run_neq_ptr_same (P:=jG) w ⟨b,o,none⟩ Tryz.underlying74 hj
   go_enter Tryz.func168,Tryz.ntmps168
   go_wp2
   go_end0
   exact⟨rfl,.inl rfl,HB.o⟩
theorem ZO:(jG.info? 5).map (fun i=>(i.zero,i.size,i.bytes))=some (some (.int .u8 0),1,1):=by kernel_rfl
section
variable {P:Program}
theorem xY(w:World)(base:Nat)(t u ty e:TypeId)(i:TypeInfo)(ht:P.underlying t=some (.slice e))(hu:P.underlying u=some .string)(hi:P.info? e=some i)(hz:i.zero=some (.int .u8 0))(hsize:i.size=1)(hby:i.bytes=1)
 (v:Value) (n:Nat) (xs:List Value) (hown:w.ownsRow base e 1 v n xs) (s:ByteArray) (h63:n+s.size≤maxLen) (hbytes:n+s.size≤140737488355328) (hbase:base≤w.heap.size):
 ∃v' w',(Builtin.append_ #[t,u] ty #[v,.string s]).run P w=.ok v' w'∧w'.ownsRow base e 1 v' (n+s.size) (xs++Lib.strCells s)∧w.grownBy w' v.ownBlock∧∀g,v'.ownBlock=some g→v.ownBlock=some g∨w.heap.size≤g:=by
 have hsmall:n+s.size≤9223372036854775807:=by simp only[maxLen]at h63;omega
 have hxl:xs.length=n:=by simpa using hown.1
 rcases hown.2 with⟨rfl,rfl⟩|⟨g,cap,cur,rfl,hbg,hg,hnc,hcm,hcs,htake⟩
 · have hx:xs=[]:=List.eq_nil_of_length_eq_zero hxl;subst hx;obtain⟨v',w',h1,h2,h3,-⟩:=Lib.run_append_own_string (P:=P) w w.heap.size t u ty e i ht hu hi hz hsize hby (.slice none 0 0) 0 [] (kS w _ e 1) s h63 hbytes (jD _);exact⟨v',w',h1,pQ h2 hbase,h3,fun g hg=>.inr (h2.lt g hg).1⟩
 · obtain⟨v',w',h1,h2,h3,-⟩:=Lib.run_append_own_string (P:=P) w base t u ty e i ht hu hi hz hsize hby _ n xs hown s h63 hbytes hbase;refine⟨v',w',h1,h2,h3,fun b hb=>?_⟩
   by_cases hroom:n+s.size≤cap
   · have hr:=Lib.run_append_room_string (P:=P) w t u ty e i ht hu hi hsize g n cap cur hg s hroom qJ;rw[h1]at hr;injection hr with hr _
     rw[hr]at hb;exact .inl hb
   · have hr:=Lib.run_append_grow_string (P:=P) w t u ty e i (.int .u8 0) ht hu hi hz ⟨g,0,none⟩ n cap xs (by rw[hsize];simpa using hxl) (hown.cells (g:=g) rfl) s qJ qJ (by rw[hby];exact growslice_fits qJ qJ);rw[h1]at hr;injection hr with hr _
     rw[hr]at hb;obtain rfl:w.heap.size=b:=by simpa[Value.ownBlock]using hb
     exact .inr (jD _)
theorem eB{w:World}{ops:Array Oper}{rest:List Oper}{o:Oper}{a:Act}{Q:Exit→Act→World→Prop}(hgd:o.guard=none)(sl x:Operand)(t u:TypeId)(ho:o.op=.call {callee:=.builtin .append,args:=#[sl,x],argTypes:=#[t,u]})
 (base:Nat) (e:TypeId) (i:TypeInfo) (ht:P.underlying t=some (.slice e)) (hu:P.underlying u=some .string) (hi:P.info? e=some i) (hz:i.zero=some (.int .u8 0)) (hsize:i.size=1) (hby:i.bytes=1)
 (v:Value) (n:Nat) (xs:List Value) (hs:a.eval sl=v) (hown:w.ownsRow base e 1 v n xs) (s:ByteArray) (hx:a.eval x=.string s) (h63:n+s.size≤maxLen) (hbytes:n+s.size≤140737488355328) (hbase:base≤w.heap.size)
 (h:∀v' w',w'.ownsRow base e 1 v' (n+s.size) (xs++Lib.strCells s)→w.grownBy w' v.ownBlock→(∀g,v'.ownBlock=some g→v.ownBlock=some g∨w.heap.size≤g)→wpList P ops Q rest (a.put o.dst v') w'):wpList P ops Q (o::rest) a w:=by
 refine wpList_plain hgd fun K hK=>?_;obtain⟨v',w',hr,h2,h3,h4⟩:=xY (P:=P) w base t u o.type e i ht hu hi hz hsize hby v n xs hown s h63 hbytes hbase;unfold Oper.wp execOp;simp only[ho,resolve,invoke,builtin,Sem.run_bind,Sem.run_pure,Result.andThen_ok,List.map_toArray,List.map_cons,List.map_nil,hs,hx,hr];exact hK _ _ (h v' w' h2 h3 h4)
end
def qZa(base b o n:Nat)(bf:Value)(xs:List Value)(s:ByteArray)(w:World)(e:Ending)(w':World):Prop:=
 e=.returned (.tuple #[.int .i64 s.size,.nilIface])∧∃v' w1 w2,(w1=w∨w1=w.setCell ⟨b,o,none⟩ (.pointer (some ⟨b,o,none⟩)))∧w1.grownBy w2 bf.ownBlock∧w2.ownsRow base 5 1 v' (n+s.size) (xs++Lib.strCells s)∧(∀g,v'.ownBlock=some g→bf.ownBlock=some g∨w.heap.size≤g)∧BuB w2 b o (.pointer (some ⟨b,o,none⟩)) bf∧w'=w2.setCell ⟨b,o+1,none⟩ v'
theorem BuB.grown{w w':World}{b o:Nat}{ba bf:Value}{r:Option Nat}(h:BuB w b o ba bf)(hg:w.grownBy w' r)(hr:r≠some b):BuB w' b o ba bf:=by
 have hb:=hg.block b (uE h.h0.1) (fun e=>hr e.symm);exact⟨⟨(World.cell?_of_block hb).trans h.h0.1,(World.frozen?_of_block hb).trans h.h0.2⟩,⟨(World.cell?_of_block hb).trans h.h1.1,(World.frozen?_of_block hb).trans h.h1.2⟩,h.ad⟩
set_option maxHeartbeats 1600000 in
theorem bwriteG(base b o n:Nat)(ba bf:Value)(xs:List Value)(s:ByteArray)(w:World)(hl:WZ w b o)(h:BuB w b o ba bf)(hown:w.ownsRow base 5 1 bf n xs)(hb:bf.ownBlock≠some b)(hs:n+s.size≤100000000)(hbase:base≤w.heap.size):
 Calls jG 101 #[.pointer (some ⟨b,o,none⟩),.string s] w (qZa base b o n bf xs s w):=by
 obtain⟨i0,hi,hz0,hz1,hz2⟩:=info_parts ZO;have HC:=Hd (qVq b o ba bf w hl h);have HN:=Hd hb;have HO:=Hd hown;have hlt:=uE h.h0.1;obtain⟨A,cap,rfl⟩:=uT hown;clear h hl hb hown
 go_enter Tryz.func101,Tryz.ntmps101
 go_upto_region 2 with(go_at_call 168;(with_reducible refine HC.o.mono ?_);rintro e w2 ⟨rfl,hw2,hB2⟩)
 have HW:=Hd hw2;have HB2:=Hd hB2;have hsz:w2.heap.size=w.heap.size:=by rcases HW.o with rfl|rfl<;>simp[uN]
 have HO2:Hid (w2.ownsRow base 5 1 (.slice A n cap) n xs):=Hd (by
  rcases HW.o with rfl|rfl
  · exact HO.o
  · exact kD HO.o ((Mod.refl [b] _).setCell (a:=⟨b,o,none⟩) (.inl qV) _) (fun g hg hx=>HN.o qZ0))
 obtain⟨c1,f1⟩:=hB2.h1;clear hw2 hB2
 go_wp2_with(at_builtin;refine eB rfl _ _ 23 9 rfl base 5 i0 Tryz.underlying23 Tryz.underlying9 hi hz0 hz1 hz2 _ n xs rfl HO2.o s rfl qG qJ qJ ?_;intro v' w3 hown' hgrow hv;obtain⟨A',c',rfl⟩:=uT hown';have HB3:=Hd (HB2.o.grown hgrow HN.o);have HO3:=Hd hown';have HG3:Hid (w2.grownBy w3 (Value.slice A n cap).ownBlock):=Hd hgrow;have HV3:Hid (∀g,(Value.slice A' (n+s.size) c').ownBlock=some g→(Value.slice A n cap).ownBlock=some g∨w2.heap.size≤g):=Hd hv;have d1:=HB3.o.h1.1;have e1:=HB3.o.h1.2;clear hown' hgrow hv)
 go_ret2
 exact qX6
structure Pn where
 P:Nat
 B:Nat
 ba:Value
 bf:Value
def aV(a:Atr):List Value:=[.int .i64 a.fk,.int .i64 a.fn,.int .i64 a.bk,.int .i64 a.bn,.int .i64 a.fl]
def pnX(v:Pn):List Nat:=v.P::v.B::v.bf.ownBlock.toList
structure PnO(base:Nat)(w:World)(v:Pn)(on:Atr)(l:List UInt8):Prop where
 p:w.heap[v.P]? =some (.cells (Value.pointer (some ⟨v.B,0,none⟩)::aV on).toArray 212 (0,0))
 b:w.heap[v.B]? =some (.cells #[v.ba,v.bf] 76 (0,0))
 ad:v.ba=.pointer none∨v.ba=.pointer (some ⟨v.B,0,none⟩)
 own:w.ownsRow base 5 1 v.bf l.length (Lib.byteCells l)
 hp:base≤v.P
 hb:base≤v.B
def gY(base:Nat)(w:World)(v:Pn)(on:Atr)(l:List UInt8)(w':World):Prop:=∃v':Pn,v'.P=v.P∧v'.B=v.B∧PnO base w' v' on l∧Mod (pnX v) w w'∧∀x∈pnX v',x∈pnX v∨w.heap.size≤x
def nK(base:Nat)(w:World)(v:Pn)(on:Atr)(l:List UInt8)(e:Ending)(w':World):Prop:=e=.returned (.tuple #[])∧gY base w v on l w'
section
variable {base:Nat}{w:World}{v:Pn}{on:Atr}{l:List UInt8}
theorem PnO.PB(h:PnO base w v on l):v.P≠v.B:=vM h.p h.b qZ
theorem PnO.oP(h:PnO base w v on l):∀g,v.bf.ownBlock=some g→g≠v.P∧g≠v.B:=fun g hg=>by
 obtain⟨cur,hc⟩:=uR h.own hg;exact⟨vM hc h.p qZ,vM hc h.b qZ⟩
theorem PnO.lt(h:PnO base w v on l):∀b∈pnX v,base≤b∧b<w.heap.size:=fun b hb=>by
 unfold pnX at hb;rcases kJ.1 hb with rfl|hb
 · exact⟨h.hp,jR h.p⟩
 rcases kJ.1 hb with rfl|hb
 · exact⟨h.hb,jR h.b⟩
 · exact h.own.lt b (jA.1 hb)
theorem PnO.below{w':World}(h:PnO base w v on l)(hb:Below w.heap.size w w'):PnO base w' v on l:=
 ⟨(hb.block _ (jR h.p)).trans h.p,(hb.block _ (jR h.b)).trans h.b,h.ad,kD h.own (Mod.of_below (X:=[]) hb) (fun _ _ h=>by cases h),h.hp,h.hb⟩
theorem PnO.res(h:PnO base w v on l):gY base w v on l w:=⟨v,rfl,rfl,h,Mod.refl _ _,fun _ hx=>.inl hx⟩
theorem gY.trans{w1 w2:World}{v1:Pn}{on2:Atr}{l2:List UInt8}(hP:v1.P=v.P)(hB:v1.B=v.B)(hx:∀x∈pnX v1,x∈pnX v∨w.heap.size≤x)(hm:Mod (pnX v) w w1)(h2:gY base w1 v1 on2 l2 w2):gY base w v on2 l2 w2:=by
 obtain⟨v2,a1,a2,a3,a4,a5⟩:=h2;refine⟨v2,a1.trans hP,a2.trans hB,a3,hm.trans a4 hx,fun x hx2=>?_⟩;rcases a5 x hx2 with h|h
 · exact hx x h
 · exact qXj
theorem gY.pre{w1 w2:World}{on2:Atr}{l2:List UInt8}(hb:Below w.heap.size w w1)(h2:gY base w1 v on2 l2 w2):gY base w v on2 l2 w2:=gY.trans rfl rfl (fun _ hx=>.inl hx) (Mod.of_below hb) h2
theorem gY.post{w1 w2:World}(h:gY base w v on l w1)(hb:Below w1.heap.size w1 w2):gY base w v on l w2:=by
 obtain⟨v',a1,a2,a3,a4,a5⟩:=h;exact⟨v',a1,a2,a3.below hb,a4.then_below hb,a5⟩
theorem PnO.facts(h:PnO base w v on l):(w.cell? ⟨v.P,0,none⟩=some (.pointer (some ⟨v.B,0,none⟩))∧w.frozen? ⟨v.P,0,none⟩=false)∧(w.cell? ⟨v.P,1,none⟩=some (.int .i64 on.fk)∧w.frozen? ⟨v.P,1,none⟩=false)∧(w.cell? ⟨v.P,2,none⟩=some (.int .i64 on.fn)∧w.frozen? ⟨v.P,2,none⟩=false)∧(w.cell? ⟨v.P,3,none⟩=some (.int .i64 on.bk)∧w.frozen? ⟨v.P,3,none⟩=false)∧(w.cell? ⟨v.P,4,none⟩=some (.int .i64 on.bn)∧w.frozen? ⟨v.P,4,none⟩=false)∧(w.cell? ⟨v.P,5,none⟩=some (.int .i64 on.fl)∧w.frozen? ⟨v.P,5,none⟩=false):=
 ⟨at_ h.p 0 _ rfl,at_ h.p 1 _ rfl,at_ h.p 2 _ rfl,at_ h.p 3 _ rfl,at_ h.p 4 _ rfl,at_ h.p 5 _ rfl⟩
theorem PnO.turn(h:PnO base w v on l){a:Atr}{w':World}(hm:Mod [v.P] w w')(hp:w'.heap[v.P]? =some (.cells (Value.pointer (some ⟨v.B,0,none⟩)::aV a).toArray 212 (0,0))):gY base w v a l w':=
 ⟨v,rfl,rfl,⟨hp,(hm.block v.B (jR h.b) (fun hx=>h.PB (jM.1 hx).symm)).trans h.b,h.ad,kD h.own hm (fun g hg hx=>(h.oP g hg).1 (jM.1 hx)),h.hp,h.hb⟩,hm.mono (fun b hb=>by rw[jM.1 hb];exact List.mem_cons_self ..),fun _ hx=>.inl hx⟩
theorem oQ{b:Nat}{c:Array Value}(h:w.heap[b]? =some (.cells c 76 (0,0)))(hc:c.size=2):WZ w b 0:=by
 refine⟨76,2,?_,by decide,by kernel_rfl⟩;simp[World.shape?,h,hc]
theorem eR(h:PnO base w v on l)(hbw:base≤w.heap.size)(s:ByteArray)(hs:l.length+s.size≤100000000):
 Calls jG 101 #[.pointer (some ⟨v.B,0,none⟩),.string s] w fun e w'=>e=.returned (.tuple #[.int .i64 s.size,.nilIface])∧gY base w v on (l++s.data.toList) w':=by
 refine(bwriteG base v.B 0 l.length v.ba v.bf (Lib.byteCells l) s w (oQ h.b rfl) ⟨at_ h.b 0 _ rfl,at_ h.b 1 _ rfl,h.ad⟩ h.own (fun e=>(h.oP _ e).2 rfl) hs hbw).mono ?_;rintro e w' ⟨he,v',w1,w2,hw1,hg,ho,hn,hB,rfl⟩;have hX:Mod (v.B::v.bf.ownBlock.toList) w w1:=by
  rcases hw1 with rfl|rfl
  · exact Mod.refl _ _
  · exact(Mod.refl _ _).setCell (a:=⟨v.B,0,none⟩) (.inl (List.mem_cons_self ..)) _
 have hX2:Mod (v.B::v.bf.ownBlock.toList) w w2:=hX.trans (Mod.of_grown hg (fun g e=>List.mem_cons_of_mem _ (jA.2 e))) (fun _ hx=>.inl hx);have hX3:Mod [v.B] w2 (w2.setCell ⟨v.B,0+1,none⟩ v'):=(Mod.refl _ _).setCell (a:=⟨v.B,0+1,none⟩) (.inl (jM.2 rfl)) _;have hX4:Mod (v.B::v.bf.ownBlock.toList) w (w2.setCell ⟨v.B,0+1,none⟩ v'):=hX2.trans (hX3.mono (fun b hb=>by rw[jM.1 hb];exact List.mem_cons_self ..)) (fun _ hx=>.inl hx);have hblk:∃x,w2.heap[v.B]? =some (.cells #[x,v.bf] 76 (0,0)):=by
  have hgb:∀W:World,W.grownBy w2 v.bf.ownBlock→(∃x,W.heap[v.B]? =some (.cells #[x,v.bf] 76 (0,0)))→∃x,w2.heap[v.B]? =some (.cells #[x,v.bf] 76 (0,0)):=fun W hg ⟨x,hx⟩=>⟨x,(hg.block v.B (jR hx) (fun e=>(h.oP _ e.symm).2 rfl)).trans hx⟩;rcases hw1 with rfl|rfl
  · exact hgb _ hg ⟨_,h.b⟩
  · exact hgb _ hg ⟨.pointer (some ⟨v.B,0,none⟩),by
     have :=vR (o:=0) (v:=.pointer (some ⟨v.B,0,none⟩)) h.b;exact this⟩
 obtain⟨x,hx⟩:=hblk;have hx0:=hB.h0.1;rw[(at_ hx 0 x rfl).1]at hx0;obtain rfl:x=.pointer (some ⟨v.B,0,none⟩):=Option.some.inj hx0;refine⟨he,{v with ba:=.pointer (some ⟨v.B,0,none⟩),bf:=v'},rfl,rfl,⟨?_,?_,.inr rfl,?_,h.hp,h.hb⟩,hX4.mono (fun b hb=>List.mem_cons_of_mem _ hb),fun y hy=>?_⟩
 · refine(hX4.block v.P (jR h.p) (fun hm=>?_)).trans h.p;rcases kJ.1 hm with e|e
   · exact h.PB e
   · exact(h.oP _ (jA.1 e)).1 rfl
 · have :=vR (o:=1) (v:=v') hx;exact this
 · have hlen:(l++s.data.toList).length=l.length+s.size:=by rw[jC,Array.length_toList];rfl
   have hby:Lib.byteCells (l++s.data.toList)=Lib.byteCells l++Lib.strCells s:=by simp[Lib.byteCells,Lib.strCells]
   rw[hlen,hby];refine kD ho hX3 (fun g hg2 hm=>?_);rw[jM.1 hm]at hg2;rcases hn _ hg2 with e|e
   · exact(h.oP _ e).2 rfl
   · have :=jR h.b;omega
 · rcases kJ.1 hy with rfl|hy
   · exact .inl (List.mem_cons_self ..)
   rcases kJ.1 hy with rfl|hy
   · exact .inl (List.mem_cons_of_mem _ (List.mem_cons_self ..))
   · exact(hn y (jA.1 hy)).imp (fun e=>List.mem_cons_of_mem _ (List.mem_cons_of_mem _ (jA.2 e))) id
end
def wE(r:Rw):List Value:=[.slice r.A r.cs.length r.cap,.bool false]
def tY(r:Rw):Rw:={r with cont:=false}
theorem V9:(jG.info? 52).map (fun i=>(i.zero,i.size,i.bytes))=some (some (.agg #[.slice none 0 0,.bool false]),2,32):=by kernel_rfl
theorem KJ:∀r,(wE r).length=2:=fun _=>rfl
theorem Ve{w:World}{base g c:Nat}{l:List Rw}(h:w.ownsRow base 52 2 (.slice (some ⟨g,0,none⟩) l.length c) l.length (uM wE l))(hc:∀r∈l,zL w r.A r.cs∧r.cs.length≤9223372036854775807):bG w (some ⟨g,0,none⟩) (l.map tY):=fun _=>by
 refine⟨g,0,rfl,fun i r hr=>?_⟩;rw[uX]at hr;obtain⟨q,hq,rfl⟩:=Option.map_eq_some_iff.1 hr;have hcell:∀j v,(wE q)[j]? =some v→w.cell? ⟨g,i*2+j,none⟩=some v:=fun j v hj=>
  (gS h (i:=i*2+j) (by rw[yN KJ l i q j hq (by have :=(jP.1 hj).1;rw[KJ]at this;exact this)];exact hj)).1
 rw[kP];exact⟨⟨hcell 0 _ rfl,hcell 1 _ rfl⟩,hc q (uB hq)⟩
theorem VZ(W:World)(x y:Value)(t:TypeId):∀j u,[x,y][j]? =some u→(W.alloc (.cells #[x,y] t)).cell? ((⟨W.heap.size,0,none⟩:Addr).add j)=some u:=fun j u hj=>by
 have h:(W.alloc (.cells #[x,y] t)).heap[W.heap.size]? =some (.cells #[x,y] t (0,0)):=jT rfl;rcases j with _|_|j
 · simp at hj;subst hj;exact(at_ h 0 _ rfl).1
 · simp at hj;subst hj;exact(at_ h 1 _ rfl).1
 · simp at hj
theorem one_row(A:Option Addr)(n c:Nat):∀u∈[Value.slice A n c,Value.bool false],u.oneCell'=true:=fun u hu=>by
 rcases kJ.1 hu with rfl|hu
 · rfl
 · rw[jM.1 hu];rfl
def Qo(l:List Rw)(w:World)(e:Ending)(w':World):Prop:=∃A c,e=.returned (.slice A l.length c)∧bG w' A (l.map tY)∧Below w.heap.size w w'
set_option maxHeartbeats 3200000 in
theorem YN(A:Option Addr)(l:List Rw)(ca:Nat)(w:World)(hl:bG w A l)(h0:0<l.length)(hz:l.length≤400):
 Calls jG 89 #[.slice A l.length ca] w (Qo l w):=by
 obtain⟨b,off,rfl,hr⟩:=hl h0;have HR:=Hd hr;obtain⟨i0,hi,hz0,hz1,hz2⟩:=info_parts V9;clear hl hr
 go_enter Tryz.func89,Tryz.ntmps89
 go_wp2_with fail
 go_loopw [3,4] (fun o i wr=>∃k:Nat,k≤l.length∧i=.int .i64 k∧wr.ownsRow w.heap.size 52 2 o (l.take k).length (uM wE (l.take k))∧Below w.heap.size w wr) (fun _ i _=>l.length-(intOf i).toNat)
 case atStart=>exact⟨0,kM _,rfl,kS _ _ _ _,jU _ _⟩
 case round=>
  obtain⟨k,hk,rfl,ho,hB⟩:=hrel
  by_cases hlt:k<l.length
  · obtain⟨⟨d0,d1⟩,-,-⟩:=(HR.o k _ (jN hlt)).below hB;have HT:Hid (uM wE (l.take (k+1))=uM wE (l.take k)++wE l[k]∧(l.take (k+1)).length=(l.take k).length+1):=Hd ⟨by rw[kQ hlt];simp only[uM,List.flatMap_append,List.flatMap_cons,List.flatMap_nil,List.append_nil],by rw[kC,kC];omega⟩;have htl:(l.take k).length≤400:=by rw[kC];omega
    obtain⟨rA,rn,rc,he⟩:∃A n c,wE l[k]=[.slice A n c,.bool false]∧Value.slice l[k].A l[k].cs.length l[k].cap=.slice A n c:=⟨_,_,_,rfl,rfl⟩;rw[he.2]at d0;have HE:=Hd he.1;have ho1:=ho.alloc (.cells #[.slice rA rn rc,.bool false] 52);have HO:=Hd ho;have HB:=Hd hB;clear he d1 ho hB
    go_wp2_with(at_builtin;refine gX rfl _ _ 46 rfl w.heap.size 52 i0 _ 2 32 Tryz.underlying46 hi hz0 hz1 hz2 rfl qZ _ (l.take k).length _ rfl ho1 ⟨wr.heap.size,0,none⟩ 1 1 [.slice rA rn rc,.bool false] rfl rfl (VZ _ _ _ _) (one_row _ _ _) qG qJ (by have :=HB.o.size;simp;omega) ?_;intro v' w2 hown' hgrow _;have HB2:=Hd (show Below w.heap.size w w2 from(HB.o.alloc HB.o.size _).grown hgrow (by have :=HB.o.size;simp;omega) (fun k hk=>(ho1.lt k hk).1));have HO2:=Hd hown';clear hown' hgrow)
    go_roundw
    case rel=>exact⟨k+1,by omega,by go_num,by rw[HT.o.1,HT.o.2,HE.o];exact HO2.o,HB2.o⟩
    case measure=>simp[intOf];omega
  · obtain rfl:k=l.length:=by omega
    rw[List.take_length]at ho;obtain⟨g,c,rfl⟩:=Je ho h0
    go_wp2
    go_ret
    refine⟨_,_,rfl,Ve ho (fun r hr=>?_),hB⟩;obtain⟨i,hi,rfl⟩:=List.getElem_of_mem hr;have :=(HR.o i _ (jN hi)).below hB;exact⟨this.2.1,this.2.2⟩
theorem zL.cell{w:World}{b off:Nat}{l:List Cl}{k:Nat}{c:Cl}(h:zL w (some ⟨b,off,none⟩) l)(hk:l[k]? =some c):Qs w b (off+k*8) c:=by
 obtain⟨b1,off1,e,hc⟩:=h (by have :=(jP.1 hk).1;omega);injection e with e
 injection e with e1 e2 _
 subst e1 e2;exact hc k c hk
end Go.Proofs.YtaefcahblmopfaaGreatDoor
namespace Go.Proofs
open Go.Shelf
def Tryz.laysItoa_ren:Go.Shelf.Ren:=⟨fun|171=>249|243=>327|246=>374|283=>398|284=>399|285=>400|286=>401|129=>381|317=>411|318=>412|319=>413|320=>414|337=>423|338=>345|n=>n,fun|3=>3|9=>9|2=>2|4=>4|171=>358|0=>0|53=>206|37=>23|5=>5|173=>360|212=>364|51=>38|20=>20|213=>365|46=>183|232=>380|233=>351|n=>n,fun|17=>4|18=>7|19=>3|n=>n⟩
theorem Tryz.laysItoa:Go.Proofs.LaysM.n171 jG Tryz.laysItoa_ren:={
 mixed:=by kernel_rfl
 f129:=Tryz.func381.trans (congrArg some qQ)
 f171:=Tryz.func249.trans (congrArg some qQ)
 f243:=Tryz.func327.trans (congrArg some qQ)
 f246:=Tryz.func374.trans (congrArg some qQ)
 f283:=Tryz.func398.trans (congrArg some qQ)
 f284:=Tryz.func399.trans (congrArg some qQ)
 f285:=Tryz.func400.trans (congrArg some qQ)
 f286:=Tryz.func401.trans (congrArg some qQ)
 f317:=Tryz.func411.trans (congrArg some qQ)
 f318:=Tryz.func412.trans (congrArg some qQ)
 f319:=Tryz.func413.trans (congrArg some qQ)
 f320:=Tryz.func414.trans (congrArg some qQ)
 f337:=Tryz.func423.trans (congrArg some qQ)
 f338:=Tryz.func345.trans (congrArg some qQ)
 t0:=Tryz.underlying0
 a0:=Tryz.isAgg0
 z0:=Tryz.sizeOf0
 v0:=Tryz.zeroValue0
 t2:=Tryz.underlying2
 a2:=Tryz.isAgg2
 z2:=Tryz.sizeOf2
 v2:=Tryz.zeroValue2
 t3:=Tryz.underlying3
 a3:=Tryz.isAgg3
 z3:=Tryz.sizeOf3
 v3:=Tryz.zeroValue3
 t4:=Tryz.underlying4
 a4:=Tryz.isAgg4
 z4:=Tryz.sizeOf4
 v4:=Tryz.zeroValue4
 t5:=Tryz.underlying5
 a5:=Tryz.isAgg5
 z5:=Tryz.sizeOf5
 v5:=Tryz.zeroValue5
 t9:=Tryz.underlying9
 a9:=Tryz.isAgg9
 z9:=Tryz.sizeOf9
 v9:=Tryz.zeroValue9
 t20:=Tryz.underlying20
 a20:=Tryz.isAgg20
 z20:=Tryz.sizeOf20
 v20:=Tryz.zeroValue20
 t37:=Tryz.underlying23
 a37:=Tryz.isAgg23
 z37:=Tryz.sizeOf23
 v37:=Tryz.zeroValue23
 t46:=Tryz.underlying183
 a46:=Tryz.isAgg183
 z46:=Tryz.sizeOf183
 v46:=Tryz.zeroValue183
 t51:=Tryz.underlying38
 a51:=Tryz.isAgg38
 z51:=Tryz.sizeOf38
 v51:=Tryz.zeroValue38
 t53:=Tryz.underlying206
 a53:=Tryz.isAgg206
 z53:=Tryz.sizeOf206
 v53:=Tryz.zeroValue206
 t171:=Tryz.underlying358
 a171:=Tryz.isAgg358
 z171:=Tryz.sizeOf358
 v171:=Tryz.zeroValue358
 t173:=Tryz.underlying360
 a173:=Tryz.isAgg360
 z173:=Tryz.sizeOf360
 v173:=Tryz.zeroValue360
 t212:=Tryz.underlying364
 a212:=Tryz.isAgg364
 z212:=Tryz.sizeOf364
 v212:=Tryz.zeroValue364
 t213:=Tryz.underlying365
 a213:=Tryz.isAgg365
 z213:=Tryz.sizeOf365
 t232:=Tryz.underlying380
 a232:=Tryz.isAgg380
 z232:=Tryz.sizeOf380
 v232:=Tryz.zeroValue380
 t233:=Tryz.underlying351
 a233:=Tryz.isAgg351
 z233:=Tryz.sizeOf351
 v233:=Tryz.zeroValue351
 g17:=by kernel_rfl
 g18:=by kernel_rfl
 g19:=by kernel_rfl
 i0:=by kernel_rfl
 i2:=by kernel_rfl
 i3:=by kernel_rfl
 i4:=by kernel_rfl
 i5:=by kernel_rfl
 i9:=by kernel_rfl
 i20:=by kernel_rfl
 i37:=by kernel_rfl
 i46:=by kernel_rfl
 i51:=by kernel_rfl
 i53:=by kernel_rfl
 i171:=by kernel_rfl
 i173:=by kernel_rfl
 i212:=by kernel_rfl
 i232:=by kernel_rfl
 i233:=by kernel_rfl
 m17:=by kernel_rfl
 m18:=by kernel_rfl
 m19:=by kernel_rfl}
end Go.Proofs
