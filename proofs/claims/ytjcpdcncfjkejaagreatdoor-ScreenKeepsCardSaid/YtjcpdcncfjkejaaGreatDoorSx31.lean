/- Joined by a tool of this claim out of smaller texts. Conditions: as stated. -/
import Derived.Test.YtjcpdcncfjkejaaGreatDoorSx17
import Derived.Test.YtjcpdcncfjkejaaGreatDoorSx25
set_option linter.unusedVariables false
set_option linter.unusedSimpArgs false
set_option maxRecDepth 100000
open Go.Lib renaming hid → Hd
open Go.Proofs.Tryz renaming prog → jG
open Go.RowKit.Below renaming refl → jU
open Go.IntWalk renaming i64_in → jH
open Go.IntKind renaming i64 → jP
open Nat renaming le_refl → jS, zero_le → kT, add_zero → vO
open And renaming intro → kM
open List renaming mem_of_getElem? → uW
namespace Go.Proofs.YtjcpdcncfjkejaaGreatDoor
open Go.RowKit
def qJq(s0 s:Sc):Prop:=s.sp=s0.pen∧s.sy=s0.y∧s.sx=inS s0∧s.has=true
def J5(B rows cols room T1:Nat)(w0:World)(S M BX:Nat)(s0:Sc)(w:World):Prop:=
 ∃s d v m,ScG rows cols room s∧s.pg.told.length≤T1∧ScG rows cols room d∧d.pg.told.length≤T1∧v.S=S∧m.M=M∧SBx B w v m s d∧qJq s0 s∧BX∉scX v++dmX m∧w.heap[BX]? =some (.cells (stL (cI s0)).toArray 47 (0,0))∧Below w0.heap.size w0 w
section
variable {B rows cols room T1 S M BX:Nat}{w0 w:World}{s0:Sc}
theorem does_x{A:Option Addr}{l:List Sop}(hl:OpsAt w0 A l)(hsm:dI l)(hB:w0.heap.size≤B)(htz:eN w0)(hr:rows≤40)(hc2:2≤cols)(hc:cols≤41)(hm:room≤100000)(ht:T1≤800000)
 (hst:J5 B rows cols room T1 w0 S M BX s0 w) {o:Sop} (ho:o∈l) (h19:o.kind≠19) (h22:o.kind≠22):Calls jG 12 #[.pointer (some ⟨S,0,none⟩),.pointer (some ⟨M,0,none⟩),.agg (bY o).toArray] w (fun e w'=>e=.returned (.tuple #[])∧J5 B rows cols room (T1+zF rows cols) w0 S M BX s0 w'):=by
 obtain⟨s,d,v,m,hg,htl,hg2,htl2,rfl,rfl,hsb,hk,hbx,hblk,hb⟩:=hst;have hrc:rows*cols≤40*41:=Nat.mul_le_mul hr hc;have hok:SopOk B w o:=⟨fun W' hb'=>(hl.gs o ho).below (hb.trans (Below.mono hb' hB)),hl.hc o ho,by have :=(hsm.2 o ho).1;omega,fun x hx=>by have :=(hsm.2 o ho).2 x hx;omega,hl.ia o ho⟩;refine(KP hsb (hg.dmi qJ hc2 qJ hm qJ) (hg2.dmi qJ hc2 qJ hm qJ) hg hg2 qJ qJ (fun x w' hx hb'=>htz x w' hx (jN hb hb')) (VZ w) o hok).mono fun e w' ⟨he,hres⟩=>⟨he,?_⟩;obtain⟨h1,h2⟩:=hg.step hc2 o;obtain⟨h3,h4⟩:=hg2.step hc2 o;have hlow:=zC.low hsb hres;obtain⟨v',m',e1,e2,e3,e4,e5,hS,hmod,hx⟩:=hres;have hks:=Wg s o h19 h22;have hlt:=kQ hblk;refine⟨_,_,v',m',h1,by omega,h3,by omega,e1,e4,hS,⟨hks.1.trans hk.1,hks.2.1.trans hk.2.1,hks.2.2.1.trans hk.2.2.1,hks.2.2.2.trans hk.2.2.2⟩,fun hx2=>?_,(hmod.block BX hlt hbx).trans hblk,hb.trans (Below.mono hlow hB)⟩;rcases hx BX hx2 with h|h
 · exact hbx h
 · omega
theorem ScG.keep{s:Sc}(h:ScG rows cols room s):ScG rows cols room (cI s):=⟨h.n.keep,h.f1,h.f1⟩
theorem Wz{s:Sc}(hg:ScG rows cols room s)(hk:qJq s0 s)(y0:0≤s0.y)(y1:s0.y<rows)(x0:0≤s0.x)(hc:2≤cols)(hcs:s0.pg.cols=cols):(gD s).y=s0.y∧(gD s).x=min s0.x ((cols:Int)-1)∧(gD s).pen.at_=s0.pen.at_∧(gD s).pen.ch=s0.pen.ch∧(gD s).pen.home=s0.pen.home∧(gD s).has=true:=by
 obtain⟨h1,h2,h3,h4⟩:=hk;have e:gD s=fM {s with pen:=fV s.pen s.sp} s.sy s.sx:=by unfold gD;rw[if_pos h4]
 rw[e,h1,h2,h3];refine⟨?_,?_,rfl,rfl,rfl,h4⟩
 · show uZ s0.y 0 ((s.pg.scr.length:Int)-1)=_;rw[hg.n.pg.hrows];unfold uZ;omega
 · show uZ (inS s0) 0 ((s.pg.cols:Int)-1)=_;rw[hg.n.pg.hcols];unfold uZ inS colsS;rw[hcs];omega
end
set_option maxHeartbeats 6400000 in
theorem wE(a b c:Int)(ha:0≤a)(hb:0≤b)(hc:0≤c)(A:Option Addr)(l:List Sop)(ca:Nat)(A2:Option Addr)(l2:List Sop)(ca2:Nat)(w:World)(hz:l.length≤9223372036854775807)(hl:OpsAt w A l)(hz2:l2.length≤9223372036854775807)(hl2:OpsAt w A2 l2)(htz:eN w):
 Calls jG 4 #[.agg #[.int .u8 a,.int .u8 b,.int .u8 c],.slice A l.length ca,.slice A2 l2.length ca2] w (tR w):=by
 obtain⟨W0,hW0⟩:∃W0,w.alloc (.cells #[.int .u8 a,.int .u8 b,.int .u8 c] 23)=W0:=⟨_,rfl⟩;have HB0:Hid (Below w.heap.size w W0):=Hd qKb;have HX0:Hid (W0.heap[w.heap.size]? =some (.cells #[.int .u8 a,.int .u8 b,.int .u8 c] 23 (0,0))):=Hd qVj;have HW:=Hd hW0;have HAW:=Hd (fun w=>cY w);unfold eO at HAW;have HL:=Hd hl;have HL2:=Hd hl2;have HTZ:=Hd htz;clear hW0
 by_cases hsm:dI l
 rotate_left
 · have HG:=Hd (iP (hl.below HB0.o) ca hz hsm);clear hl htz hz hsm ha hb hc hl2 hz2
   go_enter Tryz.func4,Tryz.ntmps4
   go_upto_region 1 with fail
   rw[HW.o]
   go_wp2_with(first
    |(go_at_call 9;(with_reducible refine HG.o.mono ?_);rintro e w1 ⟨rfl,rfl⟩)
    |(go_at_call 10;(with_reducible refine(HAW.o _).mono ?_);rintro e w1 ⟨rfl,hb⟩;have HB1:=Hd (jN HB0.o hb);clear hb))
   go_ret
   exact⟨rfl,HB1.o⟩
 have HG:=Hd (mM (hl.below HB0.o) ca hz hsm);have HSM:=Hd hsm
 by_cases hsm2:dI l2
 rotate_left
 · have HG2:=Hd (iP (hl2.below HB0.o) ca2 hz2 hsm2);have hpv:HG=HG:=rfl;clear hl htz hz hsm ha hb hc hl2 hz2 hsm2 hpv
   go_enter Tryz.func4,Tryz.ntmps4
   go_upto_region 1 with fail
   rw[HW.o]
   go_wp2_with(first
    |(go_at_call 9;have hq:=HG.o;clear hq;(with_reducible refine HG.o.mono ?_);rintro e w1 ⟨rfl,rfl⟩;clear HG)
    |(go_at_call 9;(with_reducible refine HG2.o.mono ?_);rintro e w1 ⟨rfl,rfl⟩)
    |(go_at_call 10;(with_reducible refine(HAW.o _).mono ?_);rintro e w1 ⟨rfl,hb⟩;have HB1:=Hd (jN HB0.o hb);clear hb))
   go_ret
   exact⟨rfl,HB1.o⟩
 have HG2:=Hd (mM (hl2.below HB0.o) ca2 hz2 hsm2);have HSM2:=Hd hsm2;obtain⟨rows,hrows⟩:∃rows,rows=1+(a%12).toNat:=⟨_,rfl⟩;obtain⟨cols,hcols⟩:∃cols,cols=2+(b%20).toNat:=⟨_,rfl⟩;obtain⟨room,hroom⟩:∃room,room=(c%20).toNat:=⟨_,rfl⟩;have HMD:Hid (∀w,Calls jG 11 #[.agg #[.int .u8 a,.int .u8 b,.int .u8 c]] w (iR rows cols room w)):=Hd (fun w=>by rw[hrows,hcols,hroom];exact mW a b c w ha hb hc);have HRW:Hid (1≤rows∧rows≤12∧2≤cols∧cols≤21∧room≤20):=Hd qJ;have HMT:Hid (zF rows cols≤600):=Hd jQ;obtain⟨n,hn⟩:∃n,l.length=n:=⟨_,rfl⟩;have HN:=Hd hn;have HN60:Hid (n≤60):=Hd qVq;obtain⟨n2,hn2⟩:∃n,l2.length=n:=⟨_,rfl⟩;have HN2:=Hd hn2;have HN602:Hid (n2≤60):=Hd (by rw[←hn2];exact hsm2.1);rw[hn]at HG ⊢;rw[hn2]at HG2 ⊢;clear hrows hcols hroom hl htz hz hsm ha hb hc hn hl2 hz2 hsm2 hn2
 go_enter Tryz.func4,Tryz.ntmps4
 go_upto_region 1 with fail
 rw[HW.o]
 go_upto_region 3 with(first
  |(go_at_call 9;have hq:=HG.o;clear hq;(with_reducible refine HG.o.mono ?_);rintro e w1 ⟨rfl,rfl⟩;clear HG)
  |(go_at_call 9;(with_reducible refine HG2.o.mono ?_);rintro e w1 ⟨rfl,rfl⟩)
  |(go_at_call 10;(with_reducible refine(HAW.o _).mono ?_);rintro e w1 ⟨rfl,hb⟩;have HB1:=Hd (jN HB0.o hb);have HX1:=Hd ((hb.block _ (kQ HX0.o)).trans HX0.o);clear hb))
 have x0:=(at_ HX1.o 0 _ rfl).1;have x1:=(at_ HX1.o 1 _ rfl).1;have x2:=(at_ HX1.o 2 _ rfl).1
 go_wp2_with(go_at_call 11;(with_reducible refine(HMD.o _).mono ?_);rintro e w2 ⟨v0,m0,rfl,hbo,hb⟩;have HBO:=Hd hbo;have HB2:=Hd (jN HB1.o hb);clear hbo hb x0 x1 x2)
 obtain⟨B,hB⟩:∃B,B=w1.heap.size:=⟨_,rfl⟩;rw[←hB]at HBO;have HBB:Hid (w.heap.size≤B):=Hd (by rw[hB];exact HB1.o.size);obtain⟨S,hS⟩:∃S,v0.S=S:=⟨_,rfl⟩;obtain⟨M,hM⟩:∃M,m0.M=M:=⟨_,rfl⟩;rw[hS,hM];have HST:Hid (wS B rows cols room (0*zF rows cols) w S M w2):=Hd ⟨_,v0,m0,rZ rows cols room HRW.o.1,by simp[lA],hS,hM,HBO.o,HB2.o⟩;clear hB hS hM HBO HMD HX1 HX0 HG2 HW
 go_loopw [9] (fun s9 wr=>∃i:Nat,s9=.int .i64 i∧i≤n∧wS B rows cols room (i*zF rows cols) w S M wr) (fun s9 _=>n-(intOf s9).toNat)
 case atStart=>exact⟨0,rfl,kT _,HST.o⟩
 case round=>
  obtain⟨i,rfl,hi,hst⟩:=hrel;have HS:=Hd hst;clear hst HST;have hbnd:Hid (i*zF rows cols≤60*600):=Hd (Nat.mul_le_mul qJ7 HMT.o);have hwi:jP.wrap ((i:Int)+1)=(i:Int)+1:=jH _ qJ7
  by_cases hlt:i<n
  · have hltI:(i:Int)<(n:Int):=by omega
    obtain⟨s,v,m,-,-,-,-,-,hbw⟩:=HS.o;obtain⟨bb,off,o,rfl,ho,hcell⟩:=(HL.o.g.below hbw).at_ (i:=i) qKm;have HD:=Hd (VW HL.o HSM.o HBB.o HTZ.o qL HRW.o.2.2.1 qL qL qKv HS.o (uW ho));unfold bY at HD;have c0:=hcell 0 _ rfl;have c1:=hcell 1 _ rfl;have c2':=hcell 2 _ rfl;have c3:=hcell 3 _ rfl;have c4:=hcell 4 _ rfl;simp only[vO]at c0;clear hbw hcell ho
    go_wp2_with(go_at_call 12;(with_reducible refine HD.o.mono ?_);rintro e w5 ⟨rfl,hs⟩;have HS3:=Hd hs;clear hs c0 c1 c2' c3 c4)
    go_roundw
    case rel=>exact⟨i+1,by go_num,by omega,by rw[Nat.add_mul,Nat.one_mul];exact HS3.o⟩
    case measure=>exact zm
  · have hltI:¬(i:Int)<(n:Int):=by omega
    clear hlt hwi;obtain⟨s0,v,m,hg,htl,hv,hm,hsb,hbw⟩:=HS.o;have hcs:=hg.n.pg.hcols;have HF0:=Hd (kM hg.n.y0 (kM hg.n.y1 (kM hg.n.x0 (kM hg.n.x1 hcs))));have HKP:=Hd (Jd hsb.p);rw[hv]at HKP;have HSB:=Hd hsb;have HGT:=Hd (kM hg (kM htl (kM hv (kM hm hbw))));clear hg htl hv hm hsb hbw HS hcs;obtain⟨W5,rfl⟩:∃W5,W5=wr:=⟨_,rfl⟩
    go_upto_region 11 with(go_at_call 17;(with_reducible refine HKP.o.mono ?_);rintro e w6 ⟨rfl,hr⟩;have HR6:=Hd hr;clear hr)
    have HRES:=Hd (HSB.o.step HR6.o (HSB.o.mid HR6.o));have HLOW:=Hd (HGT.o.2.2.2.2.trans (Below.mono (zC.low HSB.o HRES.o) HBB.o));obtain⟨v6,m6,e1,e2,e3,e4,e5,hS6,hmod6,hx6⟩:=HRES.o;have HSTT:=Hd (fU hS6.p);rw[e1,HGT.o.2.2.1]at HSTT;have HS6:=Hd hS6;have HE6:=Hd (kM (e1.trans HGT.o.2.2.1) (e4.trans HGT.o.2.2.2.1));clear e1 e2 e3 e4 e5 hS6 hmod6 hx6;refine wp_region_lit ?_;refine zG (.pointer (some ⟨S,0,none⟩)) ?_;refine gC rfl 13 #[.pointer (some ⟨S,0,none⟩)] qY HSTT.o (.agg (stL (cI s0)).toArray) (fun e w' h=>h.1) ?_;rintro wa ⟨-,hba⟩;refine zP ?_;refine uM (.pointer (some ⟨wa.heap.size,0,none⟩)) (wa.alloc (.cells #[.int .i64 0,.int .i64 0,.int .i64 0,.int .i64 0,.int .i64 0,.int .i64 0,.int .i64 0,.int .i64 0,.int .i64 0,.int .i64 0,.int .i64 0,.int .i64 0,.int .i64 0,.bool false,.bool false,.bool false,.int .i64 0,.int .i64 0,.bool false] 47)) qK qY ?_;refine zP ?_
    have hc1:(wa.alloc (.cells #[.int .i64 0,.int .i64 0,.int .i64 0,.int .i64 0,.int .i64 0,.int .i64 0,.int .i64 0,.int .i64 0,.int .i64 0,.int .i64 0,.int .i64 0,.int .i64 0,.int .i64 0,.bool false,.bool false,.bool false,.int .i64 0,.int .i64 0,.bool false] 47)).heap[wa.heap.size]? =some (.cells #[.int .i64 0,.int .i64 0,.int .i64 0,.int .i64 0,.int .i64 0,.int .i64 0,.int .i64 0,.int .i64 0,.int .i64 0,.int .i64 0,.int .i64 0,.int .i64 0,.int .i64 0,.bool false,.bool false,.bool false,.int .i64 0,.int .i64 0,.bool false] 47 (0,0)):=kZ rfl;have HX2:=Hd (uB (stL (cI s0)) 0 _ _ hc1 (by simp[stL]));have HB2:=Hd (jN hba (gX (jW (jU wa.heap.size wa) (.cells #[.int .i64 0,.int .i64 0,.int .i64 0,.int .i64 0,.int .i64 0,.int .i64 0,.int .i64 0,.int .i64 0,.int .i64 0,.int .i64 0,.int .i64 0,.int .i64 0,.int .i64 0,.bool false,.bool false,.bool false,.int .i64 0,.int .i64 0,.bool false] 47)) (jS wa.heap.size) (stL (cI s0)) 0));refine wpList_store_mid rfl 47 (.tmp 10) (.tmp 48) rfl (wa.heap.size) (0) ((stL (cI s0)).toArray) rfl rfl ((show World.there _ wa.heap.size 0 19 from gH hc1)) info_state19b (all_oneCell_toArray (sF (cI s0))) ?_;simp only[Act.put]
    change wpList _ _ _ _ _ ((wa.alloc (.cells #[.int .i64 0,.int .i64 0,.int .i64 0,.int .i64 0,.int .i64 0,.int .i64 0,.int .i64 0,.int .i64 0,.int .i64 0,.int .i64 0,.int .i64 0,.int .i64 0,.int .i64 0,.bool false,.bool false,.bool false,.int .i64 0,.int .i64 0,.bool false] 47)).setCells wa.heap.size 0 (stL (cI s0)));clear hc1;generalize (wa.alloc (.cells #[.int .i64 0,.int .i64 0,.int .i64 0,.int .i64 0,.int .i64 0,.int .i64 0,.int .i64 0,.int .i64 0,.int .i64 0,.int .i64 0,.int .i64 0,.int .i64 0,.int .i64 0,.bool false,.bool false,.bool false,.int .i64 0,.int .i64 0,.bool false] 47)).setCells wa.heap.size 0 (stL (cI s0))=W9 at HX2 HB2 ⊢;have HBG:Hid (w6.heap.size≤wa.heap.size):=Hd hba.size;obtain⟨BX,hBX⟩:∃b,wa.heap.size=b:=⟨_,rfl⟩;rw[hBX]at HX2 HBG ⊢;clear hBX hba;have hb9:Below w6.heap.size w6 W9:=HB2.o;have HST:Hid (J5 B rows cols room (60*600+0*zF rows cols) w S M BX s0 W9):=Hd ⟨cI s0,s0,v6,m6,HGT.o.1.keep,by show s0.pg.told.length≤_;have :=HGT.o.2.1;have :=hbnd.o;omega,HGT.o.1,by have :=HGT.o.2.1;have :=hbnd.o;omega,HE6.o.1,HE6.o.2,HS6.o.below hb9,⟨rfl,rfl,rfl,rfl⟩,(fun hx=>by have h1:=(HS6.o.lt _ hx).2;have h2:=HBG.o;omega),HX2.o,jN HLOW.o hb9⟩
    clear hb9 HX2 HB2 HBG HSTT HRES HR6 HKP HSB HS6
    go_wp2_with fail
    go_loopw [11,12] (fun s11 _ wr=>∃j:Nat,s11=.int .i64 j∧j≤n2∧J5 B rows cols room (60*600+j*zF rows cols) w S M BX s0 wr) (fun s11 _ _=>n2-(intOf s11).toNat)
    case atStart=>exact⟨0,rfl,kT _,HST.o⟩
    case round=>
     obtain⟨j,rfl,hj,hst⟩:=hrel;have HS:=Hd hst;clear hst HST;have hbnd2:Hid (j*zF rows cols≤60*600):=Hd (Nat.mul_le_mul qVv HMT.o);have hwj:jP.wrap ((j:Int)+1)=(j:Int)+1:=jH _ qVv
     by_cases hlt2:j<n2
     · have hltJ:(j:Int)<(n2:Int):=by omega
       obtain⟨s,d,v,m,-,-,-,-,-,-,-,-,-,-,hbw⟩:=HS.o;obtain⟨bb,off,o,rfl,ho,hcell⟩:=(HL2.o.g.below hbw).at_ (i:=j) (by have :=HN2.o;omega);have HO:=Hd (uW ho);have c0:=hcell 0 _ rfl;have c1:=hcell 1 _ rfl;have c2':=hcell 2 _ rfl;have c3:=hcell 3 _ rfl;have c4:=hcell 4 _ rfl;simp only[vO]at c0;clear hbw hcell ho
       by_cases h19:o.kind=19
       · rw[h19]at c0;have HS3:Hid (J5 B rows cols room (60*600+(j+1)*zF rows cols) w S M BX s0 wr):=Hd (by
          obtain⟨s,d,v,m,g1,g2,g3,g4,g5⟩:=HS.o;exact⟨s,d,v,m,g1,by rw[Nat.add_mul,Nat.one_mul];omega,g3,by rw[Nat.add_mul,Nat.one_mul];omega,g5⟩)
         clear c1 c2' c3 c4 h19
         go_wp2
         go_roundw
         case rel=>exact⟨j+1,by go_num,by omega,HS3.o⟩
         case measure=>exact zm
       by_cases h22:o.kind=22
       · rw[h22]at c0;have HS3:Hid (J5 B rows cols room (60*600+(j+1)*zF rows cols) w S M BX s0 wr):=Hd (by
          obtain⟨s,d,v,m,g1,g2,g3,g4,g5⟩:=HS.o;exact⟨s,d,v,m,g1,by rw[Nat.add_mul,Nat.one_mul];omega,g3,by rw[Nat.add_mul,Nat.one_mul];omega,g5⟩)
         clear c1 c2' c3 c4 h19 h22
         go_wp2
         go_roundw
         case rel=>exact⟨j+1,by go_num,by omega,HS3.o⟩
         case measure=>exact zm
       have HD:=Hd (does_x HL2.o HSM2.o HBB.o HTZ.o qL HRW.o.2.2.1 qL qL (by have :=hbnd2.o;omega) HS.o HO.o h19 h22);have q19:(o.kind != 19)=true:=by simp[h19]
       have q22:(o.kind != 22)=true:=by simp[h22]
       have q19':(o.kind==19)=false:=zb h19;have q22':(o.kind==22)=false:=zb h22;unfold bY at HD;clear h19 h22
       go_wp2_with(go_at_call 12;(with_reducible refine HD.o.mono ?_);rintro e w5 ⟨rfl,hs⟩;have HS3:=Hd hs;clear hs c0 c1 c2' c3 c4)
       go_roundw
       case rel=>exact⟨j+1,by go_num,by omega,by rw[Nat.add_mul,Nat.one_mul,←Nat.add_assoc];exact HS3.o⟩
       case measure=>exact zm
     · have hltJ:¬(j:Int)<(n2:Int):=by omega
       clear hlt2 hwj;obtain⟨s,d,v,m,hg,htl,-,-,hv,hm,hsb,hk,hbx,hblk,hbw⟩:=HS.o;obtain⟨f1,f2,f3,f4,f5⟩:=HF0.o;have HKB:=Hd (Wz hg hk f1 f2 f3 HRW.o.2.2.1 f5);have HRS:=Hd (sS hsb.p);rw[hv]at HRS;have HSP:=Hd hsb.p;have HVV:=Hd (kM hv (kM (fun hx=>hbx (List.mem_append_left _ hx)) (kM hblk (kM hbw (hg.n.pg.hcols)))));have hpc:(gD s).pg=s.pg:=by unfold gD;split<;>rfl
       have HPC:=Hd hpc;clear hg htl hv hm hsb hk hbx hblk hbw f1 f2 f4 f5 hpc HS;obtain⟨W5,rfl⟩:∃W5,W5=wr:=⟨_,rfl⟩
       go_upto_region 19 with(go_at_call 18;(with_reducible refine HRS.o.mono ?_);rintro e w6 ⟨rfl,hr⟩;have HR6:=Hd hr;clear hr)
       have HXB:Hid (w6.heap[BX]? =some (.cells (stL (cI s0)).toArray 47 (0,0))):=Hd ((HR6.o.modr.block BX (kQ HVV.o.2.2.1) HVV.o.2.1).trans HVV.o.2.2.1);have HLW:=Hd (HVV.o.2.2.2.1.trans (Below.mono (uR.low HSP.o HR6.o) HBB.o));obtain⟨v6,e1,e2,e3,hS6,-,-⟩:=HR6.o;have HSTT:=Hd (fU hS6);rw[e1,HVV.o.1]at HSTT;have HPA:Hid (∀w',Below w6.heap.size w6 w'→Calls jG 14 #[.pointer (some ⟨S,0,none⟩)] w' (fun e w''=>e=.returned (.pointer (some ⟨v6.q.P,0,none⟩))∧Below w'.heap.size w' w'')):=Hd (fun w' hb=>by rw[←HVV.o.1,←e1];exact(fH (hS6.below hb)).mono (fun e w2 hh=>⟨hh.1,by rw[←hh.2];exact jU _ _⟩));have HCO:Hid (∀w',Below w6.heap.size w6 w'→Calls jG 16 #[.pointer (some ⟨v6.q.P,0,none⟩)] w' (fun e w''=>e=.returned (.int .i64 cols)∧Below w'.heap.size w' w'')):=Hd (fun w' hb=>by
        have :=(wW (hS6.page.below hb)).mono (fun e w2 hh=>kM hh.1 (show Below w'.heap.size w' w2 by rw[←hh.2];exact jU _ _));rw[HPC.o,HVV.o.2.2.2.2]at this;exact this)
       obtain⟨P9,hP9⟩:∃P9,v6.q.P=P9:=⟨_,rfl⟩;rw[hP9]at HPA HCO;clear e1 e2 e3 hS6 hP9 HRS;obtain⟨s9,hs9⟩:∃s9,gD s=s9:=⟨_,rfl⟩;rw[hs9]at HSTT HKB;clear hs9 HPC;refine wp_region_lit ?_;refine zG (.pointer (some ⟨S,0,none⟩)) ?_;refine gC rfl 13 #[.pointer (some ⟨S,0,none⟩)] qY HSTT.o (.agg (stL s9).toArray) (fun e w' h=>h.1) ?_;rintro wa ⟨-,hba⟩;refine zP ?_;refine uM (.pointer (some ⟨wa.heap.size,0,none⟩)) (wa.alloc (.cells #[.int .i64 0,.int .i64 0,.int .i64 0,.int .i64 0,.int .i64 0,.int .i64 0,.int .i64 0,.int .i64 0,.int .i64 0,.int .i64 0,.int .i64 0,.int .i64 0,.int .i64 0,.bool false,.bool false,.bool false,.int .i64 0,.int .i64 0,.bool false] 47)) qK qY ?_;refine zP ?_
       have hc1:(wa.alloc (.cells #[.int .i64 0,.int .i64 0,.int .i64 0,.int .i64 0,.int .i64 0,.int .i64 0,.int .i64 0,.int .i64 0,.int .i64 0,.int .i64 0,.int .i64 0,.int .i64 0,.int .i64 0,.bool false,.bool false,.bool false,.int .i64 0,.int .i64 0,.bool false] 47)).heap[wa.heap.size]? =some (.cells #[.int .i64 0,.int .i64 0,.int .i64 0,.int .i64 0,.int .i64 0,.int .i64 0,.int .i64 0,.int .i64 0,.int .i64 0,.int .i64 0,.int .i64 0,.int .i64 0,.int .i64 0,.bool false,.bool false,.bool false,.int .i64 0,.int .i64 0,.bool false] 47 (0,0)):=kZ rfl;have HX2:=Hd (uB (stL s9) 0 _ _ hc1 (by simp[stL]));have HB2:=Hd (jN hba (gX (jW (jU wa.heap.size wa) (.cells #[.int .i64 0,.int .i64 0,.int .i64 0,.int .i64 0,.int .i64 0,.int .i64 0,.int .i64 0,.int .i64 0,.int .i64 0,.int .i64 0,.int .i64 0,.int .i64 0,.int .i64 0,.bool false,.bool false,.bool false,.int .i64 0,.int .i64 0,.bool false] 47)) (jS wa.heap.size) (stL s9) 0));refine wpList_store_mid rfl 47 (.tmp 13) (.tmp 76) rfl (wa.heap.size) (0) ((stL s9).toArray) rfl rfl ((show World.there _ wa.heap.size 0 19 from gH hc1)) info_state19b (all_oneCell_toArray (sF s9)) ?_;simp only[Act.put]
       change wpList _ _ _ _ _ ((wa.alloc (.cells #[.int .i64 0,.int .i64 0,.int .i64 0,.int .i64 0,.int .i64 0,.int .i64 0,.int .i64 0,.int .i64 0,.int .i64 0,.int .i64 0,.int .i64 0,.int .i64 0,.int .i64 0,.bool false,.bool false,.bool false,.int .i64 0,.int .i64 0,.bool false] 47)).setCells wa.heap.size 0 (stL s9));clear hc1;generalize (wa.alloc (.cells #[.int .i64 0,.int .i64 0,.int .i64 0,.int .i64 0,.int .i64 0,.int .i64 0,.int .i64 0,.int .i64 0,.int .i64 0,.int .i64 0,.int .i64 0,.int .i64 0,.int .i64 0,.bool false,.bool false,.bool false,.int .i64 0,.int .i64 0,.bool false] 47)).setCells wa.heap.size 0 (stL s9)=W9 at HX2 HB2 ⊢;have HBG:Hid (w6.heap.size≤wa.heap.size):=Hd hba.size;obtain⟨BY,hBX⟩:∃b,wa.heap.size=b:=⟨_,rfl⟩;rw[hBX]at HX2 HBG ⊢;clear hBX hba;have hb9:Below w6.heap.size w6 W9:=HB2.o;have hxb:W9.heap[BX]? =some (.cells (stL (cI s0)).toArray 47 (0,0)):=(hb9.block _ (kQ HXB.o)).trans HXB.o;have HB9:=Hd (jN HLW.o hb9);have HPA:Hid (∀w',Below W9.heap.size W9 w'→Calls jG 14 #[.pointer (some ⟨S,0,none⟩)] w' (fun e w''=>e=.returned (.pointer (some ⟨P9,0,none⟩))∧Below w'.heap.size w' w'')):=Hd (fun w' hb=>HPA.o w' (jN HB2.o hb))
       have HCO:Hid (∀w',Below W9.heap.size W9 w'→Calls jG 16 #[.pointer (some ⟨P9,0,none⟩)] w' (fun e w''=>e=.returned (.int .i64 cols)∧Below w'.heap.size w' w'')):=Hd (fun w' hb=>HCO.o w' (jN HB2.o hb));obtain⟨k1,k2,k3,k4,k5,k6⟩:=HKB.o;have hyb:=HX2.o;unfold stL at hyb hxb;rw[k1,k2,k3,k4,k5,k6]at hyb;obtain⟨x1,hx1⟩:∃x1,min s0.x ((cols:Int)-1)=x1:=⟨_,rfl⟩;rw[hx1]at hyb;have HMN:Hid ((if(cols:Int)-1<s0.x then(cols:Int)-1 else s0.x)=x1):=Hd (by rw[←hx1];split<;>omega);have HMN2:Hid ((if(cols:Int)<s0.x+1 then(cols:Int)-1 else s0.x)=x1):=Hd (by rw[←hx1];split<;>omega);have HMN3:Hid (min s0.x ((cols:Int)-1)=x1):=Hd hx1;have hwc:jP.wrap ((cols:Int)-1)=(cols:Int)-1:=jH _ qL;obtain⟨pt,hpt⟩:∃p,s9.pen.put=p:=⟨_,rfl⟩;obtain⟨wp,hwp⟩:∃p,s9.pen.wrap=p:=⟨_,rfl⟩;obtain⟨tp,htp⟩:∃p,s9.top=p:=⟨_,rfl⟩;obtain⟨bt,hbt⟩:∃p,s9.bot=p:=⟨_,rfl⟩;rw[hpt,hwp,htp,hbt]at hyb
       have hyb:W9.heap[BY]? =some (.cells #[.int .i64 s0.y,.int .i64 x1,.int .i64 s0.pen.at_.fk,.int .i64 s0.pen.at_.fn,.int .i64 s0.pen.at_.bk,.int .i64 s0.pen.at_.bn,.int .i64 s0.pen.at_.fl,.int .i64 s0.pen.ch.g0,.int .i64 s0.pen.ch.g1,.int .i64 s0.pen.ch.g2,.int .i64 s0.pen.ch.g3,.int .i64 s0.pen.ch.use,.int .i64 s0.pen.ch.once,.bool pt,.bool wp,.bool s0.pen.home,.int .i64 tp,.int .i64 bt,.bool true] 47 (0,0)):=hyb;have hxb:W9.heap[BX]? =some (.cells #[.int .i64 s0.y,.int .i64 s0.x,.int .i64 s0.pen.at_.fk,.int .i64 s0.pen.at_.fn,.int .i64 s0.pen.at_.bk,.int .i64 s0.pen.at_.bn,.int .i64 s0.pen.at_.fl,.int .i64 s0.pen.ch.g0,.int .i64 s0.pen.ch.g1,.int .i64 s0.pen.ch.g2,.int .i64 s0.pen.ch.g3,.int .i64 s0.pen.ch.use,.int .i64 s0.pen.ch.once,.bool s0.pen.put,.bool s0.pen.wrap,.bool s0.pen.home,.int .i64 s0.top,.int .i64 s0.bot,.bool true] 47 (0,0)):=hxb;clear k1 k2 k3 k4 k5 k6 hx1 hpt hwp htp hbt hb9 f3 HKB HX2 HB2 HBG HSTT HR6 HXB HLW HSP HVV;refine wpList_nil ?_
       go_upto_region 20 with fail
       refine gG 48 (fun w'=>Below W9.heap.size W9 w'∧w'.heap[BX]? =some (.cells #[.int .i64 s0.y,.int .i64 s0.x,.int .i64 s0.pen.at_.fk,.int .i64 s0.pen.at_.fn,.int .i64 s0.pen.at_.bk,.int .i64 s0.pen.at_.bn,.int .i64 s0.pen.at_.fl,.int .i64 s0.pen.ch.g0,.int .i64 s0.pen.ch.g1,.int .i64 s0.pen.ch.g2,.int .i64 s0.pen.ch.g3,.int .i64 s0.pen.ch.use,.int .i64 s0.pen.ch.once,.bool s0.pen.put,.bool s0.pen.wrap,.bool s0.pen.home,.int .i64 s0.top,.int .i64 s0.bot,.bool true] 47 (0,0))∧w'.heap[BY]? =some (.cells #[.int .i64 s0.y,.int .i64 x1,.int .i64 s0.pen.at_.fk,.int .i64 s0.pen.at_.fn,.int .i64 s0.pen.at_.bk,.int .i64 s0.pen.at_.bn,.int .i64 s0.pen.at_.fl,.int .i64 s0.pen.ch.g0,.int .i64 s0.pen.ch.g1,.int .i64 s0.pen.ch.g2,.int .i64 s0.pen.ch.g3,.int .i64 s0.pen.ch.use,.int .i64 s0.pen.ch.once,.bool pt,.bool wp,.bool s0.pen.home,.int .i64 tp,.int .i64 bt,.bool true] 47 (0,0))) qQ qQ (fun w1 w2 hS hb=>⟨jN hS.1 hb,(hb.block _ (kQ hS.2.1)).trans hS.2.1,(hb.block _ (kQ hS.2.2)).trans hS.2.2⟩) ⟨(jU _ _).drew,hxb,hyb⟩ ?_;clear hxb hyb;refine AtN.go 0 ?_
       iterate 8 (refine AtC.take (o:=⟨_,_,_,_,_,_⟩) (v:=?_) qX rfl qV qX qX ?_ ?_;rotate_left;(focus(refine uY.val qK ?_;intro w' hS;obtain⟨-,hx,hy⟩:=hS;have xq0:=(at_ hx 0 (.int .i64 s0.y) rfl).1;have yq0:=(at_ hy 0 (.int .i64 s0.y) rfl).1;clear hx hy;go_simp;first|done|with_reducible rfl));refine zP ?_)
       refine AtC.back ?_;refine AtN.go 8 ?_
       iterate 7 (refine AtC.take (o:=⟨_,_,_,_,_,_⟩) (v:=?_) qX rfl qV qX qX ?_ ?_;rotate_left;(focus(refine uY.val qK ?_;intro w' hS;obtain⟨-,hx,hy⟩:=hS;have xq1:=(at_ hx 1 (.int .i64 s0.x) rfl).1;have yq1:=(at_ hy 1 (.int .i64 x1) rfl).1;clear hx hy;go_simp;first|done|with_reducible rfl));refine zP ?_)
       refine AtC.back ?_;refine AtN.take 15 (o:=⟨_,_,_,_,_,_⟩) (v:=.pointer (some ⟨P9,0,none⟩)) qX rfl qV qX qX (uY.call1 14 #[.pointer (some ⟨S,0,none⟩)] (.pointer (some ⟨P9,0,none⟩)) qK qB (fun w' hS=>HPA.o _ hS.1)) ?_;refine zP ?_;refine AtN.take 16 (o:=⟨_,_,_,_,_,_⟩) (v:=.int .i64 cols) qX rfl qV qX qX (uY.call1 16 #[.pointer (some ⟨P9,0,none⟩)] (.int .i64 cols) qK qB (fun w' hS=>HCO.o _ hS.1)) ?_;refine zP ?_;refine AtN.take 17 (o:=⟨_,_,_,_,_,_⟩) (v:=?_) qX rfl qV qX qX ?_ ?_;rotate_left
       · (refine uY.val qK ?_;intro w' hS;obtain⟨-,hx,hy⟩:=hS;clear hx hy;go_simp;first|done|with_reducible rfl)
       refine zP ?_;refine AtN.take 18 (o:=⟨_,_,_,_,_,_⟩) (v:=.int .i64 x1) qX rfl qV qX qX (uY.val qK (fun w' hS=>by go_simp;first|done|exact HMN3.o|exact HMN.o|(rw[HMN2.o]))) ?_;refine zP ?_;refine AtN.go 19 ?_
       iterate 3 (refine AtC.take (o:=⟨_,_,_,_,_,_⟩) (v:=?_) qX rfl qV qX qX ?_ ?_;rotate_left;(focus(refine uY.val qK ?_;intro w' hS;obtain⟨-,hx,hy⟩:=hS;clear hx hy;go_simp;first|done|with_reducible rfl));refine zP ?_)
       refine AtC.back ?_
       as_aux_lemma=>
       refine AtN.go 22 ?_
       iterate 7 (refine AtC.take (o:=⟨_,_,_,_,_,_⟩) (v:=?_) qX rfl qV qX qX ?_ ?_;rotate_left;(focus(refine uY.val qK ?_;intro w' hS;obtain⟨-,hx,hy⟩:=hS;have xq2:=(at_ hx 2 (.int .i64 s0.pen.at_.fk) rfl).1;have xq3:=(at_ hx 3 (.int .i64 s0.pen.at_.fn) rfl).1;have xq4:=(at_ hx 4 (.int .i64 s0.pen.at_.bk) rfl).1;have xq5:=(at_ hx 5 (.int .i64 s0.pen.at_.bn) rfl).1;have xq6:=(at_ hx 6 (.int .i64 s0.pen.at_.fl) rfl).1;have yq2:=(at_ hy 2 (.int .i64 s0.pen.at_.fk) rfl).1;have yq3:=(at_ hy 3 (.int .i64 s0.pen.at_.fn) rfl).1;have yq4:=(at_ hy 4 (.int .i64 s0.pen.at_.bk) rfl).1;have yq5:=(at_ hy 5 (.int .i64 s0.pen.at_.bn) rfl).1;have yq6:=(at_ hy 6 (.int .i64 s0.pen.at_.fl) rfl).1;clear hx hy;go_simp;first|done|with_reducible rfl));refine zP ?_)
       refine AtC.back ?_;refine AtN.go 29 ?_
       iterate 7 (refine AtC.take (o:=⟨_,_,_,_,_,_⟩) (v:=?_) qX rfl qV qX qX ?_ ?_;rotate_left;(focus(refine uY.val qK ?_;intro w' hS;obtain⟨-,hx,hy⟩:=hS;have xq7:=(at_ hx 7 (.int .i64 s0.pen.ch.g0) rfl).1;have xq8:=(at_ hx 8 (.int .i64 s0.pen.ch.g1) rfl).1;have xq9:=(at_ hx 9 (.int .i64 s0.pen.ch.g2) rfl).1;have xq10:=(at_ hx 10 (.int .i64 s0.pen.ch.g3) rfl).1;have xq11:=(at_ hx 11 (.int .i64 s0.pen.ch.use) rfl).1;have xq12:=(at_ hx 12 (.int .i64 s0.pen.ch.once) rfl).1;have yq7:=(at_ hy 7 (.int .i64 s0.pen.ch.g0) rfl).1;have yq8:=(at_ hy 8 (.int .i64 s0.pen.ch.g1) rfl).1;have yq9:=(at_ hy 9 (.int .i64 s0.pen.ch.g2) rfl).1;have yq10:=(at_ hy 10 (.int .i64 s0.pen.ch.g3) rfl).1;have yq11:=(at_ hy 11 (.int .i64 s0.pen.ch.use) rfl).1;have yq12:=(at_ hy 12 (.int .i64 s0.pen.ch.once) rfl).1;clear hx hy;go_simp;first|done|with_reducible rfl));refine zP ?_)
       refine AtC.back ?_
       as_aux_lemma=>
       refine AtN.go 36 ?_
       iterate 9 (refine AtC.take (o:=⟨_,_,_,_,_,_⟩) (v:=?_) qX rfl qV qX qX ?_ ?_;rotate_left;(focus(refine uY.val qK ?_;intro w' hS;obtain⟨-,hx,hy⟩:=hS;have xq15:=(at_ hx 15 (.bool s0.pen.home) rfl).1;have yq15:=(at_ hy 15 (.bool s0.pen.home) rfl).1;clear hx hy;go_simp;first|done|with_reducible rfl));refine zP ?_)
       refine AtC.back ?_;refine AtN.go 45 ?_
       iterate 3 (refine AtC.take (o:=⟨_,_,_,_,_,_⟩) (v:=?_) qX rfl qV qX qX ?_ ?_;rotate_left;(focus(refine uY.val qK ?_;intro w' hS;obtain⟨-,hx,hy⟩:=hS;have yq18:=(at_ hy 18 (.bool true) rfl).1;clear hx hy;go_simp;first|done|with_reducible rfl));refine zP ?_)
       refine AtC.back ?_;refine AtN.done qX (fun w' hS=>?_);have HBF:=Hd (jN HB9.o hS.1);clear hS
       go_wp2
       go_ret
       exact⟨rfl,HBF.o⟩
end Go.Proofs.YtjcpdcncfjkejaaGreatDoor
