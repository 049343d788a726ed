/- Joined by a tool of this claim out of smaller texts. Conditions: as stated. -/
import Derived.Test.YtjcpdcncfjkejaaGreatDoorSx23
set_option linter.unusedVariables false
set_option linter.unusedSimpArgs false
set_option maxRecDepth 100000
open Go.Lib renaming hid → Hd
open Go.Proofs.Tryz renaming prog → jG
open Go.RowKit.Below renaming refl → jU
open Go.IntWalk renaming i64_in → jH
open Go.IntKind renaming i64 → jP
open Nat renaming zero_le → kT, le_trans → vY, add_zero → vO
open List renaming mem_of_getElem? → uW
namespace Go.Proofs.YtjcpdcncfjkejaaGreatDoor
open Go.RowKit
set_option maxHeartbeats 6400000 in
theorem wA(a b c:Int)(ha:0≤a)(hb:0≤b)(hc:0≤c)(A:Option Addr)(l:List Sop)(ca:Nat)(w:World)(hz:l.length≤9223372036854775807)(hl:OpsAt w A l)(htz:eN w):
 Calls jG 5 #[.agg #[.int .u8 a,.int .u8 b,.int .u8 c],.slice A l.length ca] w (tR w):=by
 obtain⟨W0,hW0⟩:∃W0,w.alloc (.cells #[.int .u8 a,.int .u8 b,.int .u8 c] 23)=W0:=⟨_,rfl⟩;have HB0:Hid (Below w.heap.size w W0):=Hd qKb;have HX0:Hid (W0.heap[w.heap.size]? =some (.cells #[.int .u8 a,.int .u8 b,.int .u8 c] 23 (0,0))):=Hd qVj;have HW:=Hd hW0;have HAW:=Hd (fun w=>cY w);unfold eO at HAW;have HL:=Hd hl;have HTZ:=Hd htz;clear hW0
 by_cases hsm:dI l
 rotate_left
 · have HG:=Hd (iP (hl.below HB0.o) ca hz hsm);clear hl htz hz hsm ha hb hc
   go_enter Tryz.func5,Tryz.ntmps5
   go_upto_region 1 with fail
   rw[HW.o]
   go_wp2_with(first
    |(go_at_call 9;(with_reducible refine HG.o.mono ?_);rintro e w1 ⟨rfl,rfl⟩)
    |(go_at_call 10;(with_reducible refine(HAW.o _).mono ?_);rintro e w1 ⟨rfl,hb⟩;have HB1:=Hd (jN HB0.o hb);clear hb))
   go_ret
   exact⟨rfl,HB1.o⟩
 have HG:=Hd (mM (hl.below HB0.o) ca hz hsm);have HSM:=Hd hsm;obtain⟨rows,hrows⟩:∃rows,rows=1+(a%12).toNat:=⟨_,rfl⟩;obtain⟨cols,hcols⟩:∃cols,cols=2+(b%20).toNat:=⟨_,rfl⟩;obtain⟨room,hroom⟩:∃room,room=(c%20).toNat:=⟨_,rfl⟩;have HMD:Hid (∀w,Calls jG 11 #[.agg #[.int .u8 a,.int .u8 b,.int .u8 c]] w (iR rows cols room w)):=Hd (fun w=>by rw[hrows,hcols,hroom];exact mW a b c w ha hb hc);have HRW:Hid (1≤rows∧rows≤12∧2≤cols∧cols≤21∧room≤20):=Hd qJ;have HMT:Hid (zF rows cols≤600):=Hd jQ;obtain⟨n,hn⟩:∃n,l.length=n:=⟨_,rfl⟩;have HN:=Hd hn;have HN60:Hid (n≤60):=Hd qVq;rw[hn]at HG ⊢;clear hrows hcols hroom hl htz hz hsm ha hb hc hn
 go_enter Tryz.func5,Tryz.ntmps5
 go_upto_region 1 with fail
 rw[HW.o]
 go_upto_region 3 with(first
  |(go_at_call 9;(with_reducible refine HG.o.mono ?_);rintro e w1 ⟨rfl,rfl⟩)
  |(go_at_call 10;(with_reducible refine(HAW.o _).mono ?_);rintro e w1 ⟨rfl,hb⟩;have HB1:=Hd (jN HB0.o hb);have HX1:=Hd ((hb.block _ (kQ HX0.o)).trans HX0.o);clear hb))
 have x0:=(at_ HX1.o 0 _ rfl).1;have x1:=(at_ HX1.o 1 _ rfl).1;have x2:=(at_ HX1.o 2 _ rfl).1
 go_wp2_with(go_at_call 11;(with_reducible refine(HMD.o _).mono ?_);rintro e w2 ⟨v0,m0,rfl,hbo,hb⟩;have HBO:=Hd hbo;have HB2:=Hd (jN HB1.o hb);have HB12:=Hd hb;clear hbo hb x0 x1 x2)
 obtain⟨B,hB⟩:∃B,B=w1.heap.size:=⟨_,rfl⟩;rw[←hB]at HBO;have HBB:Hid (w.heap.size≤B):=Hd (by rw[hB];exact HB1.o.size);obtain⟨S,hS⟩:∃S,v0.S=S:=⟨_,rfl⟩;obtain⟨M,hM⟩:∃M,m0.M=M:=⟨_,rfl⟩;rw[hS,hM];have HST:Hid (wS B rows cols room (0*zF rows cols) w S M w2):=Hd ⟨_,v0,m0,rZ rows cols room HRW.o.1,by simp[lA],hS,hM,HBO.o,HB2.o⟩;clear hB hS hM HBO HB12 HMD HX1 HX0 HG HW
 go_loopw [7] (fun s7 wr=>∃i:Nat,s7=.int .i64 i∧i≤n∧wS B rows cols room (i*zF rows cols) w S M wr) (fun s7 _=>n-(intOf s7).toNat)
 case atStart=>exact⟨0,rfl,kT _,HST.o⟩
 case round=>
  obtain⟨i,rfl,hi,hst⟩:=hrel;have HS:=Hd hst;clear hst HST;have hbnd:Hid (i*zF rows cols≤60*600):=Hd (Nat.mul_le_mul qJ7 HMT.o);have hwi:jP.wrap ((i:Int)+1)=(i:Int)+1:=jH _ qJ7
  by_cases hlt:i<n
  rotate_left
  · have hltI:¬(i:Int)<(n:Int):=by omega
    obtain⟨s,v,m,hg,htl,rfl,rfl,hsb,hbw⟩:=HS.o;have HBW:=Hd hbw;have HPA:Hid (∀w',Below wr.heap.size wr w'→Calls jG 14 #[.pointer (some ⟨v.S,0,none⟩)] w' (fun e w''=>e=.returned (.pointer (some ⟨v.q.P,0,none⟩))∧w'=w'')):=Hd (fun w' hb=>fH (hsb.p.below hb));have HSH:Hid (∀w',Below wr.heap.size wr w'→Calls jG 21 #[.pointer (some ⟨v.q.P,0,none⟩)] w' (JW B w' v.q s.pg)):=Hd (fun w' hb=>ZM (hsb.p.page.below hb));obtain⟨A5,c5,hv5⟩:=gU hsb.d.doc.told;have hv5:m.q.vt=.slice A5 s.pg.told.length c5:=hv5;have y5:=hsb.d.doc.cells.2.2.2.2.2.1;rw[hv5]at y5;obtain⟨nt,hnt⟩:∃nt,nt=s.pg.told.length:=⟨_,rfl⟩;rw[←hnt]at y5;have hDp:m.q.D∉pgX v.q:=fun hx=>hsb.ap _ (show m.q.D∈scX v by simp[scX,hx]) (by simp[dmX,dcX]);have hMp:m.M∉pgX v.q:=fun hx=>hsb.ap _ (show m.M∈scX v by simp[scX,hx]) qVi;have HSE:Hid (∀w' A3 c3,w'.ownsRow B 119 3 (.slice A3 nt c3) s.pg.told.length (uS dQ s.pg.told)→pN B wr v.q {s.pg with told:=[]} w'→Calls jG 20 #[.slice A3 nt c3,.slice A5 nt c5] w' (fun e w''=>e=.returned (.bool true)∧Below w'.heap.size w' w'')):=Hd (fun w' A3 c3 ho hs=>by
     obtain⟨q',-,-,-,hmod,-⟩:=hs;have hd:=uL hsb.d.doc.told hmod (fun g hg hx=>hsb.ap g (by simp[scX,hx]) (by simp[dmX,dcX,hg]));rw[hv5]at hd;have :=J6 A3 A5 s.pg.told c3 c5 w' (mN KB ho) (mN KB hd) qKv;rw[hnt];exact this)
    have HNT:=Hd hnt;have hcM:wr.cell? ⟨m.M,0,none⟩=some (.pointer (some ⟨m.q.D,0,none⟩)):=(at_ hsb.d.blk 0 _ rfl).1;have HMOD:Hid (∀w',pN B wr v.q {s.pg with told:=[]} w'→Mod (pgX v.q) wr w'):=Hd (fun w' hs=>by obtain⟨q',-,-,-,hmod,-⟩:=hs;exact hmod);have HLOW:Hid (∀w',Mod (pgX v.q) wr w'→Below B wr w'):=Hd (fun w' hm=>hm.below (fun b hb=>(hsb.p.page.lt b hb).1) hsb.base);have HBS:Hid (B≤wr.heap.size):=Hd hsb.base;have HDP:=Hd hDp;have HMP:=Hd hMp;clear hg htl hsb hv5 hnt hbw HS hDp hMp
    go_upto_region 12 with fail
    refine Go.RL.wp_region_l 11 (fun w'=>w'.cell? ⟨m.M,0,none⟩=some (.pointer (some ⟨m.q.D,0,none⟩))∧w'.cell? ⟨m.q.D,5,none⟩=some (.slice A5 nt c5)) (fun w'=>Below wr.heap.size wr w') qQ qQ ⟨hcM,y5⟩ ((jU _ _).drew) ?_;refine Go.RL.AtL.take 0 (o:=⟨_,_,_,_,_,_⟩) (v:=?_) qQ rfl qV qQ qQ ?_ ?_;rotate_left
    · (refine Go.RL.Pure.val qK ?_;intro w' hI;obtain⟨_,_⟩:=hI;go_simp;first|done|with_reducible rfl)
    refine zP ?_;refine Go.RL.AtL.go 3 ?_
    iterate 7 refine zK ?_
    refine Go.RL.AtK.back ?_;refine Go.RL.AtL.one 1 (o:=⟨_,_,_,_,_,_⟩) (fun u=>u=.pointer (some ⟨v.q.P,0,none⟩)) (fun _ w'=>Below wr.heap.size wr w') qV qQ rfl
     (Go.RL.StabL.call 14 #[.pointer (some ⟨v.S,0,none⟩)] _ _ qK ?_ (fun w' hI hS=>?_)) ?_
    · intro w'
      go_simp
    · refine(HPA.o w' hS).mono ?_;rintro e w4 ⟨rfl,rfl⟩;exact⟨_,rfl,rfl,hI,hS⟩
    rintro u rfl;refine zP ?_;refine Go.RL.AtL.one 2 (o:=⟨_,_,_,_,_,_⟩) (fun u=>∃A3 c3,u=.slice A3 nt c3) (fun u w'=>w'.ownsRow B 119 3 u s.pg.told.length (uS dQ s.pg.told)∧pN B wr v.q {s.pg with told:=[]} w') qV qQ rfl
     (Go.RL.StabL.call 21 #[.pointer (some ⟨v.q.P,0,none⟩)] _ _ qK ?_ (fun w' hI hS=>?_)) ?_
    · intro w'
      go_simp
    · refine(HSH.o w' hS).mono ?_;rintro e w4 ⟨u,rfl,ho,hs⟩;obtain⟨A3,c3,hv3⟩:=gU ho;have hs':=hs.pre hS;obtain⟨q',-,-,-,hmod,-⟩:=hs;exact⟨u,rfl,⟨A3,c3,by rw[hv3,HNT.o]⟩,⟨hmod.cell HMP.o hI.1,hmod.cell HDP.o hI.2⟩,ho,hs'⟩
    rintro u ⟨A3,c3,rfl⟩;refine zP ?_;refine Go.RL.AtL.one 10 (o:=⟨_,_,_,_,_,_⟩) (fun u=>u=.bool true) (fun _ w'=>Below B wr w') qV qQ rfl
     (Go.RL.StabL.call 20 #[.slice A3 nt c3,.slice A5 nt c5] _ _ qK ?_ (fun w' hI hS=>?_)) ?_
    · intro w'
      go_simp
    · refine(HSE.o w' A3 c3 hS.1 hS.2).mono ?_;rintro e w4 ⟨rfl,hb⟩;exact⟨_,rfl,rfl,⟨jA hb hI.1,jA hb hI.2⟩,(HLOW.o w' (HMOD.o w' hS.2)).trans (Below.mono hb (vY HBS.o (HLOW.o w' (HMOD.o w' hS.2)).size))⟩
    rintro u rfl;refine zP ?_;refine Go.RL.AtL.done qQ (fun w' hI hS=>?_);have HF:=Hd (HBW.o.trans (Below.mono hS HBB.o));clear hI hS y5 hcM
    go_wp2
    go_ret
    exact⟨rfl,HF.o⟩
  · have hltI:(i:Int)<(n:Int):=by omega
    obtain⟨s,v,m,-,-,-,-,-,hbw⟩:=HS.o;obtain⟨bb,off,o,rfl,ho,hcell⟩:=(HL.o.g.below hbw).at_ (i:=i) qKm;have HD:=Hd (VW HL.o HSM.o HBB.o HTZ.o qL HRW.o.2.2.1 qL qL qKv HS.o (uW ho));unfold bY at HD;have c0:=hcell 0 _ rfl;have c1:=hcell 1 _ rfl;have c2:=hcell 2 _ rfl;have c3:=hcell 3 _ rfl;have c4:=hcell 4 _ rfl;simp only[vO]at c0;clear hbw hcell ho
    go_upto_region 10 with(go_at_call 12;(with_reducible refine HD.o.mono ?_);rintro e w3 ⟨rfl,hs⟩;have HS3:=Hd hs;clear hs c0 c1 c2 c3 c4)
    have HAL:=Hd (HS3.o.alike qL qL)
    go_wp2_with(go_at_call 19;(with_reducible refine HAL.o.mono ?_);rintro e w4 ⟨rfl,hb⟩;have HS4:=Hd (HS3.o.post HBB.o hb);clear hb)
    go_roundw
    case rel=>exact⟨i+1,by go_num,by omega,by rw[Nat.add_mul,Nat.one_mul];exact HS4.o⟩
    case measure=>exact zm
end Go.Proofs.YtjcpdcncfjkejaaGreatDoor
