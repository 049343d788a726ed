/- Joined by a tool of this claim out of smaller texts. Conditions: as stated. -/
import Derived.Test.YtjcpdcncfjkejaaGreatDoorSx27
set_option linter.unusedVariables false
set_option linter.unusedSimpArgs false
set_option maxRecDepth 100000
open Go.Lib renaming hid → Hd
open Go.Proofs.Tryz renaming prog → jG
open Go.RowKit.Below renaming refl → jU
open Go.IntWalk renaming i64_in → jH
open Go.IntKind renaming i64 → jP
open Nat renaming zero_le → kT, add_zero → vO
open List renaming mem_of_getElem? → uW
namespace Go.Proofs.YtjcpdcncfjkejaaGreatDoor
open Go.RowKit
set_option maxHeartbeats 6400000 in
theorem sM(a b c:Int)(ha:0≤a)(hb:0≤b)(hc:0≤c)(A:Option Addr)(l:List Sop)(ca:Nat)(A2:Option Addr)(l2:List Sop)(ca2:Nat)(w:World)(hz:l.length≤9223372036854775807)(hl:OpsAt w A l)(hz2:l2.length≤9223372036854775807)(hl2:OpsAt w A2 l2)(htz:eN w):
 Calls jG 6 #[.agg #[.int .u8 a,.int .u8 b,.int .u8 c],.slice A l.length ca,.slice A2 l2.length ca2] w (tR w):=by
 obtain⟨W0,hW0⟩:∃W0,w.alloc (.cells #[.int .u8 a,.int .u8 b,.int .u8 c] 23)=W0:=⟨_,rfl⟩;have HB0:Hid (Below w.heap.size w W0):=Hd qKb;have HX0:Hid (W0.heap[w.heap.size]? =some (.cells #[.int .u8 a,.int .u8 b,.int .u8 c] 23 (0,0))):=Hd qVj;have HW:=Hd hW0;have HAW:=Hd (fun w=>cY w);unfold eO at HAW;have HL:=Hd hl;have HL2:=Hd hl2;have HTZ:=Hd htz;clear hW0
 by_cases hsm:dI l
 rotate_left
 · have HG:=Hd (iP (hl.below HB0.o) ca hz hsm);clear hl htz hz hsm ha hb hc hl2 hz2
   go_enter Tryz.func6,Tryz.ntmps6
   go_upto_region 1 with fail
   rw[HW.o]
   go_wp2_with(first
    |(go_at_call 9;(with_reducible refine HG.o.mono ?_);rintro e w1 ⟨rfl,rfl⟩)
    |(go_at_call 10;(with_reducible refine(HAW.o _).mono ?_);rintro e w1 ⟨rfl,hb⟩;have HB1:=Hd (jN HB0.o hb);clear hb))
   go_ret
   exact⟨rfl,HB1.o⟩
 have HG:=Hd (mM (hl.below HB0.o) ca hz hsm);have HSM:=Hd hsm
 by_cases hsm2:dI l2
 rotate_left
 · have HG2:=Hd (iP (hl2.below HB0.o) ca2 hz2 hsm2);have hpv:HG=HG:=rfl;clear hl htz hz hsm ha hb hc hl2 hz2 hsm2 hpv
   go_enter Tryz.func6,Tryz.ntmps6
   go_upto_region 1 with fail
   rw[HW.o]
   go_wp2_with(first
    |(go_at_call 9;have hq:=HG.o;clear hq;(with_reducible refine HG.o.mono ?_);rintro e w1 ⟨rfl,rfl⟩;clear HG)
    |(go_at_call 9;(with_reducible refine HG2.o.mono ?_);rintro e w1 ⟨rfl,rfl⟩)
    |(go_at_call 10;(with_reducible refine(HAW.o _).mono ?_);rintro e w1 ⟨rfl,hb⟩;have HB1:=Hd (jN HB0.o hb);clear hb))
   go_ret
   exact⟨rfl,HB1.o⟩
 have HG2:=Hd (mM (hl2.below HB0.o) ca2 hz2 hsm2);have HSM2:=Hd hsm2;obtain⟨rows,hrows⟩:∃rows,rows=1+(a%12).toNat:=⟨_,rfl⟩;obtain⟨cols,hcols⟩:∃cols,cols=2+(b%20).toNat:=⟨_,rfl⟩;obtain⟨room,hroom⟩:∃room,room=(c%20).toNat:=⟨_,rfl⟩;obtain⟨r2,hr2⟩:∃r2,r2=1+(b%12).toNat:=⟨_,rfl⟩;obtain⟨c2,hc2⟩:∃c2,c2=2+(a%20).toNat:=⟨_,rfl⟩;have HMD:Hid (∀w,Calls jG 11 #[.agg #[.int .u8 a,.int .u8 b,.int .u8 c]] w (iR rows cols room w)):=Hd (fun w=>by rw[hrows,hcols,hroom];exact mW a b c w ha hb hc);have HMD2:Hid (∀w,Calls jG 11 #[.agg #[.int .u8 b,.int .u8 a,.int .u8 0]] w (iR r2 c2 0 w)):=Hd (fun w=>by rw[hr2,hc2];exact mW b a 0 w hb ha (Int.le_refl _));have HRW:Hid (1≤rows∧rows≤12∧2≤cols∧cols≤21∧room≤20):=Hd qJ;have HRW2:Hid (1≤r2∧r2≤12∧2≤c2∧c2≤21):=Hd qJ;have HMT:Hid (zF rows cols≤600):=Hd jQ;have HMT2:Hid (zF r2 c2≤600):=Hd (by have hrc:r2*c2≤12*21:=Nat.mul_le_mul qJ qJ;unfold zF;omega);obtain⟨n,hn⟩:∃n,l.length=n:=⟨_,rfl⟩;have HN:=Hd hn;have HN60:Hid (n≤60):=Hd qVq;obtain⟨n2,hn2⟩:∃n,l2.length=n:=⟨_,rfl⟩;have HN2:=Hd hn2;have HN602:Hid (n2≤60):=Hd (by rw[←hn2];exact hsm2.1);rw[hn]at HG ⊢;rw[hn2]at HG2 ⊢;clear hrows hcols hroom hl htz hz hsm ha hb hc hn hl2 hz2 hsm2 hr2 hc2 hn2
 go_enter Tryz.func6,Tryz.ntmps6
 go_upto_region 1 with fail
 rw[HW.o]
 go_upto_region 3 with(first
  |(go_at_call 9;have hq:=HG.o;clear hq;(with_reducible refine HG.o.mono ?_);rintro e w1 ⟨rfl,rfl⟩;clear HG)
  |(go_at_call 9;(with_reducible refine HG2.o.mono ?_);rintro e w1 ⟨rfl,rfl⟩)
  |(go_at_call 10;(with_reducible refine(HAW.o _).mono ?_);rintro e w1 ⟨rfl,hb⟩;have HB1:=Hd (jN HB0.o hb);have HX1:=Hd ((hb.block _ (kQ HX0.o)).trans HX0.o);clear hb))
 have x0:=(at_ HX1.o 0 _ rfl).1;have x1:=(at_ HX1.o 1 _ rfl).1;have x2:=(at_ HX1.o 2 _ rfl).1
 go_upto_region 4 with(go_at_call 11;(with_reducible refine(HMD.o _).mono ?_);rintro e w2 ⟨v0,m0,rfl,hbo,hb⟩;have HBO:=Hd hbo;have HB2:=Hd (jN HB1.o hb);have HB12:=Hd hb;have HX2:=Hd ((hb.block _ (kQ HX1.o)).trans HX1.o);clear hbo hb x0 x1 x2)
 have x0:=(at_ HX2.o 0 _ rfl).1;have x1:=(at_ HX2.o 1 _ rfl).1
 go_wp2_with(go_at_call 11;(with_reducible refine(HMD2.o _).mono ?_);rintro e w3 ⟨v1,m1,rfl,hbo,hb⟩;have HBO2:=Hd hbo;have HB3:=Hd (jN HB2.o hb);have HB23:=Hd hb;clear hbo hb x0 x1)
 obtain⟨B1,hB1⟩:∃B,B=w1.heap.size:=⟨_,rfl⟩;rw[←hB1]at HBO;obtain⟨B2,hB2⟩:∃B,B=w2.heap.size:=⟨_,rfl⟩;rw[←hB2]at HBO2;have HBB:Hid (w.heap.size≤B1∧w.heap.size≤B2):=Hd ⟨by rw[hB1];exact HB1.o.size,by rw[hB2];exact HB2.o.size⟩;obtain⟨S1,hS1⟩:∃S,v0.S=S:=⟨_,rfl⟩;obtain⟨M1,hM1⟩:∃M,m0.M=M:=⟨_,rfl⟩;obtain⟨S2,hS2⟩:∃S,v1.S=S:=⟨_,rfl⟩;obtain⟨M2,hM2⟩:∃M,m1.M=M:=⟨_,rfl⟩;rw[hS1,hM1,hS2,hM2];have HST:Hid (Sl2 B1 B2 rows cols room (0*zF rows cols) r2 c2 0 (0*zF r2 c2) w S1 M1 S2 M2 w3):=Hd ⟨_,v0,m0,_,v1,m1,⟨rZ rows cols room HRW.o.1,by simp[lA],hS1,hM1,HBO.o.below HB23.o⟩,⟨rZ r2 c2 0 HRW2.o.1,by simp[lA],hS2,hM2,HBO2.o⟩,(fun b hb hx=>by have h1:=(HBO.o.lt b hb).2;have h2:=(HBO2.o.lt b hx).1;omega),HB3.o⟩;clear hB1 hB2 hS1 hM1 hS2 hM2 HBO HBO2 HB12 HB23 HMD HMD2 HX1 HX2 HX0 HG2 HW
 go_loopw [11] (fun s11 wr=>∃i:Nat,s11=.int .i64 i∧i≤n∧Sl2 B1 B2 rows cols room (i*zF rows cols) r2 c2 0 (0*zF r2 c2) w S1 M1 S2 M2 wr) (fun s11 _=>n-(intOf s11).toNat)
 case atStart=>exact⟨0,rfl,kT _,HST.o⟩
 case round=>
  obtain⟨i,rfl,hi,hst⟩:=hrel;have HS:=Hd hst;clear hst HST;have hbnd:Hid (i*zF rows cols≤60*600):=Hd (Nat.mul_le_mul qJ7 HMT.o);have hwi:jP.wrap ((i:Int)+1)=(i:Int)+1:=jH _ qJ7
  by_cases hlt:i<n
  · have hltI:(i:Int)<(n:Int):=by omega
    obtain⟨bb,off,o,rfl,ho,hcell⟩:=(HL.o.g.below HS.o.low).at_ (i:=i) qKm;have HD:=Hd (Zf HL.o HSM.o HBB.o.1 HTZ.o qL HRW.o.2.2.1 qL qL qKv HS.o (uW ho));unfold bY at HD;have c0:=hcell 0 _ rfl;have c1:=hcell 1 _ rfl;have c2':=hcell 2 _ rfl;have c3:=hcell 3 _ rfl;have c4:=hcell 4 _ rfl;simp only[vO]at c0;clear hcell ho
    go_wp2_with(go_at_call 12;(with_reducible refine HD.o.mono ?_);rintro e w5 ⟨rfl,hs⟩;have HS3:=Hd hs;clear hs c0 c1 c2' c3 c4)
    go_roundw
    case rel=>exact⟨i+1,by go_num,by omega,by rw[Nat.add_mul,Nat.one_mul];exact HS3.o⟩
    case measure=>exact zm
  · have hltI:¬(i:Int)<(n:Int):=by omega
    clear hlt hwi;obtain⟨T1,hT1⟩:∃T,i*zF rows cols=T:=⟨_,rfl⟩;rw[hT1]at HS hbnd;clear hT1;have HST:=HS;obtain⟨W5,rfl⟩:∃W5,W5=wr:=⟨_,rfl⟩
    go_wp2_with fail
    go_loopw [12] (fun s12 wr=>∃j:Nat,s12=.int .i64 j∧j≤n2∧Sl2 B1 B2 rows cols room T1 r2 c2 0 (j*zF r2 c2) w S1 M1 S2 M2 wr) (fun s12 _=>n2-(intOf s12).toNat)
    case atStart=>exact⟨0,rfl,kT _,HST.o⟩
    case round=>
     obtain⟨j,rfl,hj,hst⟩:=hrel;have HS:=Hd hst;clear hst HST;have hbnd2:Hid (j*zF r2 c2≤60*600):=Hd (Nat.mul_le_mul qVv HMT2.o);have hwj:jP.wrap ((j:Int)+1)=(j:Int)+1:=jH _ qVv
     by_cases hlt2:j<n2
     · have hltJ:(j:Int)<(n2:Int):=by omega
       obtain⟨bb,off,o,rfl,ho,hcell⟩:=(HL2.o.g.below HS.o.low).at_ (i:=j) (by have :=HN2.o;omega);have HD:=Hd (Zf HL2.o HSM2.o HBB.o.2 HTZ.o (by have :=HRW2.o;omega) HRW2.o.2.2.1 (by have :=HRW2.o;omega) qJ (by have :=hbnd2.o;omega) HS.o.swap (uW ho));unfold bY at HD;have c0:=hcell 0 _ rfl;have c1:=hcell 1 _ rfl;have c2':=hcell 2 _ rfl;have c3:=hcell 3 _ rfl;have c4:=hcell 4 _ rfl;simp only[vO]at c0;clear hcell ho
       go_wp2_with(go_at_call 12;(with_reducible refine HD.o.mono ?_);rintro e w5 ⟨rfl,hs⟩;have HS3:=Hd hs;clear hs c0 c1 c2' c3 c4)
       go_roundw
       case rel=>exact⟨j+1,by go_num,by omega,by rw[Nat.add_mul,Nat.one_mul];exact HS3.o.swap⟩
       case measure=>exact zm
     · have hltJ:¬(j:Int)<(n2:Int):=by omega
       have HF:=Hd (YF qL HRW.o.2.2.1 qL qL qKv HBB.o.1 HS.o);clear hlt2 hwj
       go_upto_region 16 with(go_at_call 22;(with_reducible refine HF.o.mono ?_);rintro e w6 ⟨rfl,hc6⟩;have HC6:=Hd hc6;clear hc6)
       go_upto_region 17 with(go_at_call 23;(with_reducible refine HC6.o.mono ?_);rintro e w7 ⟨rfl,hs⟩;have HS7:=Hd hs;clear hs)
       have HA1:=Hd (fun w' (hb:Below w7.heap.size w7 w')=>(HS7.o.post hb).alike qL qL);have HA2:=Hd (fun w' (hb:Below w7.heap.size w7 w')=>(HS7.o.post hb).swap.alike (by have :=HRW2.o;omega) qJ);have HA1':=Hd (HA1.o w7 (jU _ _))
       go_upto_region 19 with(first
        |(go_at_call 19;have hq:=HA1'.o;clear hq;(with_reducible refine HA1'.o.mono ?_);rintro e w8 ⟨rfl,hb⟩;have HB8:=Hd hb;clear hb HA1';have HA2':=Hd (HA2.o w8 HB8.o))
        |(go_at_call 19;(with_reducible refine HA2'.o.mono ?_);rintro e w9 ⟨rfl,hb⟩;have HB9:=Hd (jN HB8.o hb);clear hb))
       have HFN:=Hd (fun w=>Kb S1 w);have HA3:=Hd (HA1.o w9 HB9.o);have HBF:=Hd (jN HS7.o.low HB9.o)
       go_wp2_with(first
        |(go_at_call 22;(with_reducible refine(HFN.o _).mono ?_);rintro e w10 ⟨rfl,rfl⟩)
        |(go_at_call 19;(with_reducible refine HA3.o.mono ?_);rintro e w11 ⟨rfl,hb⟩;have HB11:=Hd (jN HBF.o hb);clear hb))
       go_ret
       exact⟨rfl,HB11.o⟩
end Go.Proofs.YtjcpdcncfjkejaaGreatDoor
