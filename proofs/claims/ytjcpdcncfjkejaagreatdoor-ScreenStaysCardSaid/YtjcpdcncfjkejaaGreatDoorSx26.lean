/- Joined by a tool of this claim out of smaller texts. Conditions: as stated. -/
import Derived.Test.YtjcpdcncfjkejaaGreatDoorSx23
set_option linter.unusedVariables false
set_option linter.unusedSimpArgs false
set_option maxRecDepth 100000
open Go.Lib renaming hid → Hd
open Go.Proofs.Tryz renaming prog → jG
open Go.RowKit.Below renaming refl → jU
open Go.IntWalk renaming i64_in → jH
open Go.IntKind renaming i64 → jP
open Nat renaming le_refl → jS, zero_le → kT, add_zero → vO
open And renaming intro → kM
open List renaming mem_of_getElem? → uW
namespace Go.Proofs.YtjcpdcncfjkejaaGreatDoor
open Go.RowKit
set_option maxHeartbeats 6400000 in
theorem wT(a b c:Int)(ha:0≤a)(hb:0≤b)(hc:0≤c)(A:Option Addr)(l:List Sop)(ca:Nat)(w:World)(hz:l.length≤9223372036854775807)(hl:OpsAt w A l)(htz:eN w):
 Calls jG 3 #[.agg #[.int .u8 a,.int .u8 b,.int .u8 c],.slice A l.length ca] w (tR w):=by
 obtain⟨W0,hW0⟩:∃W0,w.alloc (.cells #[.int .u8 a,.int .u8 b,.int .u8 c] 23)=W0:=⟨_,rfl⟩;have HB0:Hid (Below w.heap.size w W0):=Hd qKb;have HX0:Hid (W0.heap[w.heap.size]? =some (.cells #[.int .u8 a,.int .u8 b,.int .u8 c] 23 (0,0))):=Hd qVj;have HW:=Hd hW0;have HAW:=Hd (fun w=>cY w);unfold eO at HAW;have HL:=Hd hl;have HTZ:=Hd htz;clear hW0
 by_cases hsm:dI l
 rotate_left
 · have HG:=Hd (iP (hl.below HB0.o) ca hz hsm);clear hl htz hz hsm ha hb hc
   go_enter Tryz.func3,Tryz.ntmps3
   go_upto_region 1 with fail
   rw[HW.o]
   go_wp2_with(first
    |(go_at_call 9;(with_reducible refine HG.o.mono ?_);rintro e w1 ⟨rfl,rfl⟩)
    |(go_at_call 10;(with_reducible refine(HAW.o _).mono ?_);rintro e w1 ⟨rfl,hb⟩;have HB1:=Hd (jN HB0.o hb);clear hb))
   go_ret
   exact⟨rfl,HB1.o⟩
 have HG:=Hd (mM (hl.below HB0.o) ca hz hsm);have HSM:=Hd hsm;obtain⟨rows,hrows⟩:∃rows,rows=1+(a%12).toNat:=⟨_,rfl⟩;obtain⟨cols,hcols⟩:∃cols,cols=2+(b%20).toNat:=⟨_,rfl⟩;obtain⟨room,hroom⟩:∃room,room=(c%20).toNat:=⟨_,rfl⟩;have HMD:Hid (∀w,Calls jG 11 #[.agg #[.int .u8 a,.int .u8 b,.int .u8 c]] w (iR rows cols room w)):=Hd (fun w=>by rw[hrows,hcols,hroom];exact mW a b c w ha hb hc);have HRW:Hid (1≤rows∧rows≤12∧2≤cols∧cols≤21∧room≤20):=Hd qJ;have HMT:Hid (zF rows cols≤600):=Hd jQ;obtain⟨n,hn⟩:∃n,l.length=n:=⟨_,rfl⟩;have HN:=Hd hn;have HN60:Hid (n≤60):=Hd qVq;rw[hn]at HG ⊢;clear hrows hcols hroom hl htz hz hsm ha hb hc hn
 go_enter Tryz.func3,Tryz.ntmps3
 go_upto_region 1 with fail
 rw[HW.o]
 go_upto_region 3 with(first
  |(go_at_call 9;(with_reducible refine HG.o.mono ?_);rintro e w1 ⟨rfl,rfl⟩)
  |(go_at_call 10;(with_reducible refine(HAW.o _).mono ?_);rintro e w1 ⟨rfl,hb⟩;have HB1:=Hd (jN HB0.o hb);have HX1:=Hd ((hb.block _ (kQ HX0.o)).trans HX0.o);clear hb))
 have x0:=(at_ HX1.o 0 _ rfl).1;have x1:=(at_ HX1.o 1 _ rfl).1;have x2:=(at_ HX1.o 2 _ rfl).1
 go_wp2_with(go_at_call 11;(with_reducible refine(HMD.o _).mono ?_);rintro e w2 ⟨v0,m0,rfl,hbo,hb⟩;have HBO:=Hd hbo;have HB2:=Hd (jN HB1.o hb);have HB12:=Hd hb;clear hbo hb x0 x1 x2)
 obtain⟨B,hB⟩:∃B,B=w1.heap.size:=⟨_,rfl⟩;rw[←hB]at HBO;have HBB:Hid (w.heap.size≤B):=Hd (by rw[hB];exact HB1.o.size);obtain⟨S,hS⟩:∃S,v0.S=S:=⟨_,rfl⟩;obtain⟨M,hM⟩:∃M,m0.M=M:=⟨_,rfl⟩;rw[hS,hM];have HST:Hid (wS B rows cols room (0*zF rows cols) w S M w2):=Hd ⟨_,v0,m0,rZ rows cols room HRW.o.1,by simp[lA],hS,hM,HBO.o,HB2.o⟩;clear hB hS hM HBO HB12 HMD HX1 HX0 HG HW
 go_loopw [7] (fun s7 wr=>∃i:Nat,s7=.int .i64 i∧i≤n∧wS B rows cols room (i*zF rows cols) w S M wr) (fun s7 _=>n-(intOf s7).toNat)
 case atStart=>exact⟨0,rfl,kT _,HST.o⟩
 case round=>
  obtain⟨i,rfl,hi,hst⟩:=hrel;have HS:=Hd hst;clear hst HST;have hbnd:Hid (i*zF rows cols≤60*600):=Hd (Nat.mul_le_mul qJ7 HMT.o);have hwi:jP.wrap ((i:Int)+1)=(i:Int)+1:=jH _ qJ7
  by_cases hlt:i<n
  rotate_left
  · have hltI:¬(i:Int)<(n:Int):=by omega
    obtain⟨s,v,m,-,-,-,-,-,hbw⟩:=HS.o;have HBW:=Hd hbw;clear hbw
    go_wp2
    go_ret
    exact⟨rfl,HBW.o⟩
  · have hltI:(i:Int)<(n:Int):=by omega
    obtain⟨s,v,m,-,-,-,-,-,hbw⟩:=HS.o;obtain⟨bb,off,o,rfl,ho,hcell⟩:=(HL.o.g.below hbw).at_ (i:=i) qKm;have HD:=Hd (VW HL.o HSM.o HBB.o HTZ.o qL HRW.o.2.2.1 qL qL qKv HS.o (uW ho));unfold bY at HD;have c0:=hcell 0 _ rfl;have c1:=hcell 1 _ rfl;have c2:=hcell 2 _ rfl;have c3:=hcell 3 _ rfl;have c4:=hcell 4 _ rfl;simp only[vO]at c0;clear hbw hcell ho
    go_upto_region 10 with(go_at_call 12;(with_reducible refine HD.o.mono ?_);rintro e w3 ⟨rfl,hs⟩;have HS3:=Hd hs;clear hs c0 c1 c2 c3 c4)
    have HS3':=Hd HS3.o;obtain⟨s,v,m,hg,htl,hv,hm,hsb,hbw⟩:=HS3.o;have HST:=Hd (fU hsb.p);rw[hv]at HST;have HPA:Hid (∀w',Below w3.heap.size w3 w'→Calls jG 14 #[.pointer (some ⟨S,0,none⟩)] w' (fun e w''=>e=.returned (.pointer (some ⟨v.q.P,0,none⟩))∧Below w'.heap.size w' w'')):=Hd (fun w' hb=>by rw[←hv];exact(fH (hsb.p.below hb)).mono (fun e w2 hh=>⟨hh.1,by rw[←hh.2];exact jU _ _⟩));have HRO:Hid (∀w',Below w3.heap.size w3 w'→Calls jG 15 #[.pointer (some ⟨v.q.P,0,none⟩)] w' (fun e w''=>e=.returned (.int .i64 s.pg.scr.length)∧Below w'.heap.size w' w'')):=Hd (fun w' hb=>(rJ (hsb.p.page.below hb)).mono (fun e w2 hh=>⟨hh.1,by rw[←hh.2];exact jU _ _⟩));have HCO:Hid (∀w',Below w3.heap.size w3 w'→Calls jG 16 #[.pointer (some ⟨v.q.P,0,none⟩)] w' (fun e w''=>e=.returned (.int .i64 s.pg.cols)∧Below w'.heap.size w' w'')):=Hd (fun w' hb=>(wW (hsb.p.page.below hb)).mono (fun e w2 hh=>⟨hh.1,by rw[←hh.2];exact jU _ _⟩));rw[hg.n.pg.hrows]at HRO;rw[hg.n.pg.hcols]at HCO;have HFA:=Hd (kM hg.n.y0 (kM hg.n.y1 (kM hg.n.x0 (kM hg.n.x1 (kM hg.n.t0 (kM hg.n.b1 hg.n.tb2))))));clear hg htl hv hm hsb hbw HS;refine wp_region_lit ?_;refine zG (.pointer (some ⟨S,0,none⟩)) ?_
    refine gC rfl 13 #[.pointer (some ⟨S,0,none⟩)] qY HST.o (.agg (stL s).toArray) (fun e w' h=>h.1) ?_;rintro w4 ⟨-,hb4⟩;refine zP ?_;refine zG (.pointer (some ⟨S,0,none⟩)) ?_;refine gC rfl 14 #[.pointer (some ⟨S,0,none⟩)] qY (HPA.o w4 hb4) (.pointer (some ⟨v.q.P,0,none⟩)) (fun e w' h=>h.1) ?_;rintro w5 ⟨-,hb5⟩;replace hb5:=jN hb4 hb5;refine zP ?_;refine gC rfl 15 #[.pointer (some ⟨v.q.P,0,none⟩)] qY (HRO.o w5 hb5) (.int .i64 rows) (fun e w' h=>h.1) ?_;rintro w6 ⟨-,hb6⟩;replace hb6:=jN hb5 hb6;refine zP ?_;refine zG (.pointer (some ⟨S,0,none⟩)) ?_;refine gC rfl 14 #[.pointer (some ⟨S,0,none⟩)] qY (HPA.o w6 hb6) (.pointer (some ⟨v.q.P,0,none⟩)) (fun e w' h=>h.1) ?_;rintro w7 ⟨-,hb7⟩;replace hb7:=jN hb6 hb7;refine zP ?_;refine gC rfl 16 #[.pointer (some ⟨v.q.P,0,none⟩)] qY (HCO.o w7 hb7) (.int .i64 cols) (fun e w' h=>h.1) ?_;rintro w8 ⟨-,hb8⟩;replace hb8:=jN hb7 hb8;refine zP ?_
    refine uM (.pointer (some ⟨w8.heap.size,0,none⟩)) (w8.alloc (.cells #[.int .i64 0,.int .i64 0,.int .i64 0,.int .i64 0,.int .i64 0,.int .i64 0,.int .i64 0,.int .i64 0,.int .i64 0,.int .i64 0,.int .i64 0,.int .i64 0,.int .i64 0,.bool false,.bool false,.bool false,.int .i64 0,.int .i64 0,.bool false] 47)) qK qY ?_;refine zP ?_;have hc1:(w8.alloc (.cells #[.int .i64 0,.int .i64 0,.int .i64 0,.int .i64 0,.int .i64 0,.int .i64 0,.int .i64 0,.int .i64 0,.int .i64 0,.int .i64 0,.int .i64 0,.int .i64 0,.int .i64 0,.bool false,.bool false,.bool false,.int .i64 0,.int .i64 0,.bool false] 47)).heap[w8.heap.size]? =some (.cells #[.int .i64 0,.int .i64 0,.int .i64 0,.int .i64 0,.int .i64 0,.int .i64 0,.int .i64 0,.int .i64 0,.int .i64 0,.int .i64 0,.int .i64 0,.int .i64 0,.int .i64 0,.bool false,.bool false,.bool false,.int .i64 0,.int .i64 0,.bool false] 47 (0,0)):=kZ rfl;have HX2:=Hd (uB (stL s) 0 _ _ hc1 (by simp[stL]))
    have HB2:=Hd (jN hb8 (gX (jW (jU w8.heap.size w8) (.cells #[.int .i64 0,.int .i64 0,.int .i64 0,.int .i64 0,.int .i64 0,.int .i64 0,.int .i64 0,.int .i64 0,.int .i64 0,.int .i64 0,.int .i64 0,.int .i64 0,.int .i64 0,.bool false,.bool false,.bool false,.int .i64 0,.int .i64 0,.bool false] 47)) (jS w8.heap.size) (stL s) 0));refine wpList_store_mid rfl 47 (.tmp 8) (.tmp 39) rfl (w8.heap.size) (0) ((stL s).toArray) rfl rfl ((show World.there _ w8.heap.size 0 19 from gH hc1)) iG (all_oneCell_toArray (sF s)) ?_;simp only[Act.put];change wpList _ _ _ _ _ ((w8.alloc (.cells #[.int .i64 0,.int .i64 0,.int .i64 0,.int .i64 0,.int .i64 0,.int .i64 0,.int .i64 0,.int .i64 0,.int .i64 0,.int .i64 0,.int .i64 0,.int .i64 0,.int .i64 0,.bool false,.bool false,.bool false,.int .i64 0,.int .i64 0,.bool false] 47)).setCells w8.heap.size 0 (stL s));clear hc1 hb4 hb5 hb6 hb7 hb8;generalize (w8.alloc (.cells #[.int .i64 0,.int .i64 0,.int .i64 0,.int .i64 0,.int .i64 0,.int .i64 0,.int .i64 0,.int .i64 0,.int .i64 0,.int .i64 0,.int .i64 0,.int .i64 0,.int .i64 0,.bool false,.bool false,.bool false,.int .i64 0,.int .i64 0,.bool false] 47)).setCells w8.heap.size 0 (stL s)=W9 at HX2 HB2 ⊢
    obtain⟨BX,hBX⟩:∃b,w8.heap.size=b:=⟨_,rfl⟩;rw[hBX]at HX2 ⊢;clear hBX;have HX2:Hid (W9.heap[BX]? =some (.cells (stL s).toArray 47 (0,0))):=Hd HX2.o;have HS9:=Hd (HS3'.o.post HBB.o HB2.o);obtain⟨f0,-⟩:=at_ HX2.o 0 (.int .i64 s.y) rfl;obtain⟨f1,-⟩:=at_ HX2.o 1 (.int .i64 s.x) rfl;obtain⟨f16,-⟩:=at_ HX2.o 16 (.int .i64 s.top) rfl;obtain⟨f17,-⟩:=at_ HX2.o 17 (.int .i64 s.bot) rfl;obtain⟨p1,p2,p3,p4,p5,p6,p7⟩:=HFA.o;generalize s.y=sy at f0 p1 p2;generalize s.x=sx at f1 p3 p4;generalize s.top=st at f16 p5 p7;generalize s.bot=sb at f17 p6 p7;have hr12:=HRW.o.2.1;have hwr:jP.wrap ((rows:Int)-1)=(rows:Int)-1:=jH _ qJ;have q1:¬sy<0:=by omega
    have q2:¬(rows:Int)≤sy:=by omega
    have q3:¬sx<0:=by omega
    have q4:¬(cols:Int)<sx:=by omega
    have q5:¬st<0:=by omega
    have q6:¬(rows:Int)≤sb:=by omega
    clear p1 p2 p3 p4 p5 p6 hr12;rcases p7 with hlt2|⟨h1,h2⟩
    · have q7:¬sb≤st:=by omega
      clear hlt2 hwr
      go_wp2
      go_roundw
      case rel=>exact⟨i+1,by go_num,by omega,by rw[Nat.add_mul,Nat.one_mul];exact HS9.o⟩
      case measure=>exact zm
    · subst h1
      by_cases h3:sb≤0
      · have h4:((0:Int)==0)=true:=rfl;have q8:(sb==(rows:Int)-1)=true:=by rw[h2];exact beq_self_eq_true _
        clear h2 q5
        go_wp2
        go_roundw
        case rel=>exact⟨i+1,by go_num,by omega,by rw[Nat.add_mul,Nat.one_mul];exact HS9.o⟩
        case measure=>exact zm
      · clear h2 hwr q5
        go_wp2
        go_roundw
        case rel=>exact⟨i+1,by go_num,by omega,by rw[Nat.add_mul,Nat.one_mul];exact HS9.o⟩
        case measure=>exact zm
end Go.Proofs.YtjcpdcncfjkejaaGreatDoor
