/- Joined by a tool of this claim out of smaller texts. Conditions: as stated. -/
import Derived.Test.YtjcpdcncfjkejaaGreatDoorSx22
set_option linter.unusedVariables false
set_option linter.unusedSimpArgs false
set_option maxRecDepth 100000
open Go.Lib renaming hid → Hd
open Go.Proofs.Tryz renaming prog → jG
open Go.RowKit.Below renaming refl → jU
open Go.IntWalk renaming i64_in → jH
open Go.IntKind renaming i64 → jP
namespace Go.Proofs.YtjcpdcncfjkejaaGreatDoor
open Go.RowKit
theorem Wd:(jG.info? 34).map (·.size)=some 5:=by kernel_rfl
section
variable {B:Nat}{w:World}{v:Sv}{m:Mv}{s d:Sc}{rows cols room:Nat}
set_option maxHeartbeats 12800000 in
theorem KP(h:SBx B w v m s d)(hi:DmI rows cols room s)(hi2:DmI rows cols room d)(hg:ScG rows cols room s)(hg2:ScG rows cols room d)(ht:s.pg.told.length+2*(rows*cols)+10≤900000)(ht2:d.pg.told.length+2*(rows*cols)+10≤900000)(htz:eN w)(hlz:oS w)(o:Sop)(hok:SopOk B w o):
 Calls jG 12 #[.pointer (some ⟨v.S,0,none⟩),.pointer (some ⟨m.M,0,none⟩),.agg (bY o).toArray] w (DoesX B w v m (vG s o) (vG d o)):=by
 obtain⟨W,hW⟩:∃W,w.alloc (.cells (bY o).toArray 34)=W:=⟨_,rfl⟩;have hb0:Below w.heap.size w W:=by rw[←hW];exact jW (jU _ _) _
 have hc0:W.heap[w.heap.size]? =some (.cells (bY o).toArray 34 (0,0)):=by rw[←hW];exact kZ rfl
 have HC0:Hid (XZ W w.heap.size o):=Hd (by rw[←hW];exact XZ.new o);have HZ0:=Hd hc0;have HS0:=Hd (h.below hb0);have HB0:=Hd hb0;have HW:=Hd hW;have HBX:Hid (w.heap.size∉scX v):=Hd (fun hx=>by have :=(h.p.lt _ hx).2;omega);have HI:=Hd hi;have HG:=Hd hg;have HT:=Hd ht;have HI2:=Hd hi2;have HG2:=Hd hg2;have HT2:=Hd ht2;have HTZ0:Hid (eN W):=Hd (fun x w' hx hb=>htz x w' hx (jN hb0 hb));have HLZ0:Hid (oS W):=Hd (fun x w' hx hb=>hlz x w' hx (jN hb0 hb));have hlow0:Below B w W:=Below.mono hb0 h.base;have HOK:=Hd (hok.to hlow0);have HGS0:=Hd (hok.g W hlow0);have hlow:∀{s1:Sc} {w1:World},uR B W v s1 w1→Below B W w1:=fun hs=>uR.low HS0.o.p hs;have HOPT:=Hd (qQl HS0.o hi2 o);clear hW hb0 h hi hg ht hi2 hg2 ht2 htz hlz hok hc0 hlow0;obtain⟨k,a,b,r,A,H,cap⟩:=o
 go_enter Tryz.func12,Tryz.ntmps12
 go_upto_region 1 with fail
 rw[HW.o];clear HW;obtain⟨c0,c1,c2,c3,c4⟩:=HC0.o;simp only at c0 c1 c2 c3 c4
 go_upto_region 3 with fail
 clear c0
 by_cases h0:k=0
 · as_aux_lemma=>
   subst h0;have HQ:Hid (vG s ⟨0,a,b,r,A,H,cap⟩=cA s r∧vG d ⟨0,a,b,r,A,H,cap⟩=cA d r):=Hd ⟨rfl,rfl⟩;have hp0:=QK HS0.o.p HI.o.n.sci qKe r;have HD:Hid (∀w1,uR B W v (cA s r) w1→Calls jG 36 #[.pointer (some ⟨m.M,0,none⟩),.int .i32 r] w1 (vB B w1 m (cA d r))):=Hd (fun w1 hs=>by
    have hd:=HS0.o.mid hs;exact QP hd HI2.o qV4 r)
   have hp0:Calls jG 33 #[.pointer (some ⟨v.S,0,none⟩),.int .i32 r] W (gQ B W v (cA s r)):=hp0;obtain⟨S1,hS1⟩:∃S1,cA s r=S1:=⟨_,rfl⟩;obtain⟨D1,hD1⟩:∃D1,cA d r=D1:=⟨_,rfl⟩;have HQ:Hid (vG s ⟨0,a,b,r,A,H,cap⟩=S1∧vG d ⟨0,a,b,r,A,H,cap⟩=D1):=Hd ⟨HQ.o.1.trans hS1,HQ.o.2.trans hD1⟩;rw[hS1]at hp0 HD;rw[hD1]at HD;clear hS1 hD1;have HP:=Hd hp0;clear hp0;clear c1 c2 c4 HTZ0 HLZ0 HOK HGS0 HG HT HG2 HT2
   go_upto_region 5 with(go_at_call 33;(with_reducible refine HP.o.mono ?_);rintro e w1 ⟨rfl,hr⟩;have HR1:=Hd hr;clear hr)
   replace c3:=HR1.o.modr.cell HBX.o c3;have HD1:=Hd (HD.o _ HR1.o)
   go_wp2_with(go_at_call 36;(with_reducible refine HD1.o.mono ?_);rintro e w2 ⟨rfl,hr⟩;have HR2:=Hd hr;clear hr)
   go_end0
   rw[HQ.o.1,HQ.o.2];exact qXo
 have q0:(k==0)=false:=zb h0;have H0:=Hd h0;clear h0
 go_upto_region 6 with fail
 clear q0
 by_cases h1:k=1
 · as_aux_lemma=>
   subst h1;have HQ:Hid (vG s ⟨1,a,b,r,A,H,cap⟩=bZ s a∧vG d ⟨1,a,b,r,A,H,cap⟩=bZ d a):=Hd ⟨rfl,rfl⟩;have hp0:=Vz HS0.o.p HI.o.n HI.o.r HI.o.c2 HI.o.c qKe a;have HD:Hid (∀w1,uR B W v (bZ s a) w1→Calls jG 38 #[.pointer (some ⟨m.M,0,none⟩),.int .i64 a] w1 (vB B w1 m (bZ d a))):=Hd (fun w1 hs=>by
    have hd:=HS0.o.mid hs;exact xY hd HI2.o qV4 a)
   have hp0:Calls jG 37 #[.pointer (some ⟨v.S,0,none⟩),.int .i64 a] W (gQ B W v (bZ s a)):=hp0;obtain⟨S1,hS1⟩:∃S1,bZ s a=S1:=⟨_,rfl⟩;obtain⟨D1,hD1⟩:∃D1,bZ d a=D1:=⟨_,rfl⟩;have HQ:Hid (vG s ⟨1,a,b,r,A,H,cap⟩=S1∧vG d ⟨1,a,b,r,A,H,cap⟩=D1):=Hd ⟨HQ.o.1.trans hS1,HQ.o.2.trans hD1⟩;rw[hS1]at hp0 HD;rw[hD1]at HD;clear hS1 hD1;have HP:=Hd hp0;clear hp0;clear c2 c3 c4 HTZ0 HLZ0 HOK HGS0 HG HT HG2 HT2
   go_upto_region 8 with(go_at_call 37;(with_reducible refine HP.o.mono ?_);rintro e w1 ⟨rfl,hr⟩;have HR1:=Hd hr;clear hr)
   replace c1:=HR1.o.modr.cell HBX.o c1;have HD1:=Hd (HD.o _ HR1.o)
   go_wp2_with(go_at_call 38;(with_reducible refine HD1.o.mono ?_);rintro e w2 ⟨rfl,hr⟩;have HR2:=Hd hr;clear hr)
   go_end0
   rw[HQ.o.1,HQ.o.2];exact qXo
 have q1:(k==1)=false:=zb h1;have H1:=Hd h1;clear h1
 go_upto_region 9 with fail
 clear q1
 by_cases h2:k=2
 · as_aux_lemma=>
   subst h2;have HQ:Hid (vG s ⟨2,a,b,r,A,H,cap⟩=fX s (vK H)∧vG d ⟨2,a,b,r,A,H,cap⟩=fX d (vK H)):=Hd ⟨rfl,rfl⟩;have hp0:=Uf HS0.o.p HG.o.f1 HGS0.o cap HOK.o.hc HOK.o.h1 HOK.o.h2;have HD:Hid (∀w1,uR B W v (fX s (vK H)) w1→Calls jG 40 #[.pointer (some ⟨m.M,0,none⟩),.slice A H.length cap] w1 (vB B w1 m (fX d (vK H)))):=Hd (fun w1 hs=>by
    have hd:=HS0.o.mid hs;exact Jh hd HG2.o.f1 (HOK.o.g _ (hlow hs)) cap HOK.o.h1 HOK.o.h2)
   have hp0:Calls jG 39 #[.pointer (some ⟨v.S,0,none⟩),.slice A H.length cap] W (gQ B W v (fX s (vK H))):=hp0;obtain⟨S1,hS1⟩:∃S1,fX s (vK H)=S1:=⟨_,rfl⟩;obtain⟨D1,hD1⟩:∃D1,fX d (vK H)=D1:=⟨_,rfl⟩;have HQ:Hid (vG s ⟨2,a,b,r,A,H,cap⟩=S1∧vG d ⟨2,a,b,r,A,H,cap⟩=D1):=Hd ⟨HQ.o.1.trans hS1,HQ.o.2.trans hD1⟩;rw[hS1]at hp0 HD;rw[hD1]at HD;clear hS1 hD1;have HP:=Hd hp0;clear hp0;clear c1 c2 c3 HTZ0 HLZ0 HOK HGS0 HG HT HG2 HT2
   go_upto_region 11 with(go_at_call 39;(with_reducible refine HP.o.mono ?_);rintro e w1 ⟨rfl,hr⟩;have HR1:=Hd hr;clear hr)
   replace c4:=HR1.o.modr.cell HBX.o c4;have HD1:=Hd (HD.o _ HR1.o)
   go_wp2_with(go_at_call 40;(with_reducible refine HD1.o.mono ?_);rintro e w2 ⟨rfl,hr⟩;have HR2:=Hd hr;clear hr)
   go_end0
   rw[HQ.o.1,HQ.o.2];exact qXo
 have q2:(k==2)=false:=zb h2;have H2:=Hd h2;clear h2
 go_upto_region 12 with fail
 clear q2
 by_cases h3:k=3
 · as_aux_lemma=>
   subst h3;have HQ:Hid (vG s ⟨3,a,b,r,A,H,cap⟩=nD s∧vG d ⟨3,a,b,r,A,H,cap⟩=nD d):=Hd ⟨rfl,rfl⟩;have hp0:=Xg HS0.o.p HI.o.n.sci;have hp0:Calls jG 41 #[.pointer (some ⟨v.S,0,none⟩)] W (gQ B W v (nD s)):=hp0;obtain⟨S1,hS1⟩:∃S1,nD s=S1:=⟨_,rfl⟩;obtain⟨D1,hD1⟩:∃D1,nD d=D1:=⟨_,rfl⟩;have HQ:Hid (vG s ⟨3,a,b,r,A,H,cap⟩=S1∧vG d ⟨3,a,b,r,A,H,cap⟩=D1):=Hd ⟨HQ.o.1.trans hS1,HQ.o.2.trans hD1⟩;rw[hS1]at hp0;have HP:=Hd hp0;clear hp0;clear c1 c2 c3 c4 HTZ0 HLZ0 HOK HGS0 HG HT HG2 HT2
   go_upto_region 14 with(go_at_call 41;(with_reducible refine HP.o.mono ?_);rintro e w1 ⟨rfl,hr⟩;have HR1:=Hd hr;clear hr)
   have hin:=HI2.o.n.inS HI2.o.c2;have hci:=HI2.o.c;have hmx:(if(1:Int)<inS d then inS d-1 else 0)=D1.x:=by rw[←hD1];unfold nD;show _=max 0 (inS d-1);split<;>omega
   have HX1:Hid (D1={d with x:=D1.x}):=Hd (by rw[←hD1];rfl);obtain⟨x1,hx1⟩:∃x1,D1.x=x1:=⟨_,rfl⟩;rw[hx1]at hmx HX1;have hwi:jP.wrap (inS d-1)=inS d-1:=jH _ qJ;have HD1:=Hd (HS0.o.mid HR1.o);have HIN:=Hd (bF HD1.o HI2.o.n.x0);obtain⟨i1,hi1⟩:∃i1,inS d=i1:=⟨_,rfl⟩;rw[hi1]at hmx hwi HIN;have HIN1:=Hd (HIN.o _ (jU _ _));clear hin hci hS1 hD1 hx1 hi1;refine wp_region_lit ?_;refine zG (.pointer (some ⟨m.M,0,none⟩)) ?_;refine zG (.pointer (some ⟨m.M,0,none⟩)) ?_;refine gC rfl 42 #[.pointer (some ⟨m.M,0,none⟩)] qY HIN1.o (.int .i64 i1) (fun e w' h=>h.1) ?_;rintro w5 ⟨-,hb5⟩;have HD5:=Hd (HD1.o.post hb5);refine zP ?_;refine zGs (.int .i64 (i1-1)) ?_;refine zGs (.int .i64 x1) ?_;obtain⟨d0,d0f⟩:=HD5.o.cellAt 17 (.int .i64 d.x) (fun _=>rfl);clear hmx hwi hb5
   go_wp2
   go_end0
   rw[HQ.o.1,HQ.o.2];exact⟨rfl,zC.pre HB0.o (HS0.o.step HR1.o (by rw[HX1.o];exact HD5.o.put 17 (.int .i64 x1) (s':={d with x:=x1}) (fun _=>rfl) rfl rfl))⟩
 have q3:(k==3)=false:=zb h3;have H3:=Hd h3;clear h3
 go_upto_region 15 with fail
 clear q3
 by_cases h4:k=4
 · as_aux_lemma=>
   subst h4;have HQ:Hid (vG s ⟨4,a,b,r,A,H,cap⟩={s with x:=0}∧vG d ⟨4,a,b,r,A,H,cap⟩={d with x:=0}):=Hd ⟨rfl,rfl⟩;have hp0:=Vy HS0.o.p;have hp0:Calls jG 43 #[.pointer (some ⟨v.S,0,none⟩)] W (gQ B W v ({s with x:=0})):=hp0;have HP:=Hd hp0;clear hp0;clear c1 c2 c3 c4 HTZ0 HLZ0 HOK HGS0 HG HT HG2 HT2
   go_upto_region 17 with(go_at_call 43;(with_reducible refine HP.o.mono ?_);rintro e w1 ⟨rfl,hr⟩;have HR1:=Hd hr;clear hr)
   have HD1:=Hd (HS0.o.mid HR1.o);obtain⟨d0,d0f⟩:=HD1.o.cellAt 17 (.int .i64 d.x) (fun _=>rfl)
   go_wp2
   go_end0
   rw[HQ.o.1,HQ.o.2];exact⟨rfl,zC.pre HB0.o (HS0.o.step HR1.o (HD1.o.put 17 (.int .i64 0) (s':={d with x:=0}) (fun _=>rfl) rfl rfl))⟩
 have q4:(k==4)=false:=zb h4;have H4:=Hd h4;clear h4
 go_upto_region 18 with fail
 clear q4
 by_cases h5:k=5
 · as_aux_lemma=>
   subst h5;have HQ:Hid (vG s ⟨5,a,b,r,A,H,cap⟩=(zM s).1∧vG d ⟨5,a,b,r,A,H,cap⟩=(zM d).1):=Hd ⟨rfl,rfl⟩;have hp0:=Xu HS0.o.p HI.o.n.sci qKe;have HD:Hid (∀w1,uR B W v ((zM s).1) w1→Calls jG 45 #[.pointer (some ⟨m.M,0,none⟩)] w1 (Yn B w1 m (zM d))):=Hd (fun w1 hs=>by
    have hd:=HS0.o.mid hs;exact wU hd HI2.o)
   have hp0:Calls jG 44 #[.pointer (some ⟨v.S,0,none⟩)] W (gQ B W v ((zM s).1)):=hp0;obtain⟨S1,hS1⟩:∃S1,(zM s).1=S1:=⟨_,rfl⟩;obtain⟨D1,hD1⟩:∃D1,(zM d).1=D1:=⟨_,rfl⟩;have HF:Hid ((zM d).1=D1):=Hd hD1;have HQ:Hid (vG s ⟨5,a,b,r,A,H,cap⟩=S1∧vG d ⟨5,a,b,r,A,H,cap⟩=D1):=Hd ⟨HQ.o.1.trans hS1,HQ.o.2.trans hD1⟩;rw[hS1]at hp0 HD;clear hS1 hD1;have HP:=Hd hp0;clear hp0;clear c1 c2 c3 c4 HTZ0 HLZ0 HOK HGS0 HG HT HG2 HT2
   go_upto_region 20 with(go_at_call 44;(with_reducible refine HP.o.mono ?_);rintro e w1 ⟨rfl,hr⟩;have HR1:=Hd hr;clear hr)
   have HD1:=Hd (HD.o _ HR1.o)
   go_wp2_with(go_at_call 45;(with_reducible refine HD1.o.mono ?_);rintro e w2 ⟨rfl,hr⟩;have HR2:=Hd hr;clear hr)
   go_end0
   rw[HQ.o.1,HQ.o.2];exact⟨rfl,zC.pre HB0.o (HS0.o.step HR1.o (by rw[←HF.o];exact HR2.o))⟩
 have q5:(k==5)=false:=zb h5;have H5:=Hd h5;clear h5
 go_upto_region 21 with fail
 clear q5
 by_cases h6:k=6
 · as_aux_lemma=>
   subst h6;have HQ:Hid (vG s ⟨6,a,b,r,A,H,cap⟩=yY s∧vG d ⟨6,a,b,r,A,H,cap⟩=yY d):=Hd ⟨rfl,rfl⟩;have hp0:=JF HS0.o.p HI.o.n.sci qKe;have HD:Hid (∀w1,uR B W v (yY s) w1→Calls jG 47 #[.pointer (some ⟨m.M,0,none⟩)] w1 (vB B w1 m (yY d))):=Hd (fun w1 hs=>by
    have hd:=HS0.o.mid hs;exact rP hd HI2.o)
   have hp0:Calls jG 46 #[.pointer (some ⟨v.S,0,none⟩)] W (gQ B W v (yY s)):=hp0;obtain⟨S1,hS1⟩:∃S1,yY s=S1:=⟨_,rfl⟩;obtain⟨D1,hD1⟩:∃D1,yY d=D1:=⟨_,rfl⟩;have HQ:Hid (vG s ⟨6,a,b,r,A,H,cap⟩=S1∧vG d ⟨6,a,b,r,A,H,cap⟩=D1):=Hd ⟨HQ.o.1.trans hS1,HQ.o.2.trans hD1⟩;rw[hS1]at hp0 HD;rw[hD1]at HD;clear hS1 hD1;have HP:=Hd hp0;clear hp0;clear c1 c2 c3 c4 HTZ0 HLZ0 HOK HGS0 HG HT HG2 HT2
   go_upto_region 23 with(go_at_call 46;(with_reducible refine HP.o.mono ?_);rintro e w1 ⟨rfl,hr⟩;have HR1:=Hd hr;clear hr)
   have HD1:=Hd (HD.o _ HR1.o)
   go_wp2_with(go_at_call 47;(with_reducible refine HD1.o.mono ?_);rintro e w2 ⟨rfl,hr⟩;have HR2:=Hd hr;clear hr)
   go_end0
   rw[HQ.o.1,HQ.o.2];exact qXo
 have q6:(k==6)=false:=zb h6;have H6:=Hd h6;clear h6
 go_upto_region 24 with fail
 clear q6
 by_cases h7:k=7
 · as_aux_lemma=>
   subst h7;have HQ:Hid (vG s ⟨7,a,b,r,A,H,cap⟩=lO s a∧vG d ⟨7,a,b,r,A,H,cap⟩=lO d a):=Hd ⟨rfl,rfl⟩;have hp0:=X3 HS0.o.p HTZ0.o HLZ0.o (by rw[HI.o.n.st];have :=HI.o.c2;omega) a;have HD:Hid (∀w1,uR B W v (lO s a) w1→Calls jG 49 #[.pointer (some ⟨m.M,0,none⟩),.int .i64 a] w1 (vB B w1 m (lO d a))):=Hd (fun w1 hs=>by
    have hd:=HS0.o.mid hs;exact Vn hd HI2.o a)
   have hp0:Calls jG 48 #[.pointer (some ⟨v.S,0,none⟩),.int .i64 a] W (gQ B W v (lO s a)):=hp0;obtain⟨S1,hS1⟩:∃S1,lO s a=S1:=⟨_,rfl⟩;obtain⟨D1,hD1⟩:∃D1,lO d a=D1:=⟨_,rfl⟩;have HQ:Hid (vG s ⟨7,a,b,r,A,H,cap⟩=S1∧vG d ⟨7,a,b,r,A,H,cap⟩=D1):=Hd ⟨HQ.o.1.trans hS1,HQ.o.2.trans hD1⟩;rw[hS1]at hp0 HD;rw[hD1]at HD;clear hS1 hD1;have HP:=Hd hp0;clear hp0;clear c2 c3 c4 HTZ0 HLZ0 HOK HGS0 HG HT HG2 HT2
   go_upto_region 26 with(go_at_call 48;(with_reducible refine HP.o.mono ?_);rintro e w1 ⟨rfl,hr⟩;have HR1:=Hd hr;clear hr)
   replace c1:=HR1.o.modr.cell HBX.o c1;have HD1:=Hd (HD.o _ HR1.o)
   go_wp2_with(go_at_call 49;(with_reducible refine HD1.o.mono ?_);rintro e w2 ⟨rfl,hr⟩;have HR2:=Hd hr;clear hr)
   go_end0
   rw[HQ.o.1,HQ.o.2];exact qXo
 have q7:(k==7)=false:=zb h7;have H7:=Hd h7;clear h7
 go_upto_region 27 with fail
 clear q7
 by_cases h8:k=8
 · as_aux_lemma=>
   subst h8;have HQ:Hid (vG s ⟨8,a,b,r,A,H,cap⟩=dF s a b∧vG d ⟨8,a,b,r,A,H,cap⟩=dF d a b):=Hd ⟨rfl,rfl⟩;have hp0:=Jc HS0.o.p HI.o.n.t0 HI.o.n.tb (by rw[HI.o.n.pg.hrows];exact HI.o.n.b1) a b;have HD:Hid (∀w1,uR B W v (dF s a b) w1→Calls jG 51 #[.pointer (some ⟨m.M,0,none⟩),.int .i64 a,.int .i64 b] w1 (vB B w1 m (dF d a b))):=Hd (fun w1 hs=>by
    have hd:=HS0.o.mid hs;exact wG hd HI2.o a b)
   have hp0:Calls jG 50 #[.pointer (some ⟨v.S,0,none⟩),.int .i64 a,.int .i64 b] W (gQ B W v (dF s a b)):=hp0;obtain⟨S1,hS1⟩:∃S1,dF s a b=S1:=⟨_,rfl⟩;obtain⟨D1,hD1⟩:∃D1,dF d a b=D1:=⟨_,rfl⟩;have HQ:Hid (vG s ⟨8,a,b,r,A,H,cap⟩=S1∧vG d ⟨8,a,b,r,A,H,cap⟩=D1):=Hd ⟨HQ.o.1.trans hS1,HQ.o.2.trans hD1⟩;rw[hS1]at hp0 HD;rw[hD1]at HD;clear hS1 hD1;have HP:=Hd hp0;clear hp0;clear c3 c4 HTZ0 HLZ0 HOK HGS0 HG HT HG2 HT2
   go_upto_region 29 with(go_at_call 50;(with_reducible refine HP.o.mono ?_);rintro e w1 ⟨rfl,hr⟩;have HR1:=Hd hr;clear hr)
   replace c1:=HR1.o.modr.cell HBX.o c1;replace c2:=HR1.o.modr.cell HBX.o c2;have HD1:=Hd (HD.o _ HR1.o)
   go_wp2_with(go_at_call 51;(with_reducible refine HD1.o.mono ?_);rintro e w2 ⟨rfl,hr⟩;have HR2:=Hd hr;clear hr)
   go_end0
   rw[HQ.o.1,HQ.o.2];exact qXo
 have q8:(k==8)=false:=zb h8;have H8:=Hd h8;clear h8
 go_upto_region 30 with fail
 clear q8
 by_cases h9:k=9
 · as_aux_lemma=>
   subst h9;have HQ:Hid (vG s ⟨9,a,b,r,A,H,cap⟩=goS s a b∧vG d ⟨9,a,b,r,A,H,cap⟩=goS d a b):=Hd ⟨rfl,rfl⟩;have hp0:=sGo_any HS0.o.p HI.o.n HI.o.r HI.o.c2 HI.o.c a b;have HD:Hid (∀w1,uR B W v (goS s a b) w1→Calls jG 53 #[.pointer (some ⟨m.M,0,none⟩),.int .i64 a,.int .i64 b] w1 (vB B w1 m (goS d a b))):=Hd (fun w1 hs=>by
    have hd:=HS0.o.mid hs;exact UK hd HI2.o a b)
   have hp0:Calls jG 52 #[.pointer (some ⟨v.S,0,none⟩),.int .i64 a,.int .i64 b] W (gQ B W v (goS s a b)):=hp0;obtain⟨S1,hS1⟩:∃S1,goS s a b=S1:=⟨_,rfl⟩;obtain⟨D1,hD1⟩:∃D1,goS d a b=D1:=⟨_,rfl⟩;have HQ:Hid (vG s ⟨9,a,b,r,A,H,cap⟩=S1∧vG d ⟨9,a,b,r,A,H,cap⟩=D1):=Hd ⟨HQ.o.1.trans hS1,HQ.o.2.trans hD1⟩;rw[hS1]at hp0 HD;rw[hD1]at HD;clear hS1 hD1;have HP:=Hd hp0;clear hp0;clear c3 c4 HTZ0 HLZ0 HOK HGS0 HG HT HG2 HT2
   go_upto_region 32 with(go_at_call 52;(with_reducible refine HP.o.mono ?_);rintro e w1 ⟨rfl,hr⟩;have HR1:=Hd hr;clear hr)
   replace c1:=HR1.o.modr.cell HBX.o c1;replace c2:=HR1.o.modr.cell HBX.o c2;have HD1:=Hd (HD.o _ HR1.o)
   go_wp2_with(go_at_call 53;(with_reducible refine HD1.o.mono ?_);rintro e w2 ⟨rfl,hr⟩;have HR2:=Hd hr;clear hr)
   go_end0
   rw[HQ.o.1,HQ.o.2];exact qXo
 have q9:(k==9)=false:=zb h9;have H9:=Hd h9;clear h9
 go_upto_region 33 with fail
 clear q9
 by_cases h10:k=10
 · as_aux_lemma=>
   subst h10;have HQ:Hid (vG s ⟨10,a,b,r,A,H,cap⟩=yR s a b∧vG d ⟨10,a,b,r,A,H,cap⟩=yR d a b):=Hd ⟨rfl,rfl⟩;have hp0:=Kz HS0.o.p a b;have HD:Hid (∀w1,uR B W v (yR s a b) w1→Calls jG 55 #[.pointer (some ⟨m.M,0,none⟩),.int .i64 a,.int .i64 b] w1 (vB B w1 m (yR d a b))):=Hd (fun w1 hs=>by
    have hd:=HS0.o.mid hs;exact tX hd HI2.o a b)
   have hp0:Calls jG 54 #[.pointer (some ⟨v.S,0,none⟩),.int .i64 a,.int .i64 b] W (gQ B W v (yR s a b)):=hp0;obtain⟨S1,hS1⟩:∃S1,yR s a b=S1:=⟨_,rfl⟩;obtain⟨D1,hD1⟩:∃D1,yR d a b=D1:=⟨_,rfl⟩;have HQ:Hid (vG s ⟨10,a,b,r,A,H,cap⟩=S1∧vG d ⟨10,a,b,r,A,H,cap⟩=D1):=Hd ⟨HQ.o.1.trans hS1,HQ.o.2.trans hD1⟩;rw[hS1]at hp0 HD;rw[hD1]at HD;clear hS1 hD1;have HP:=Hd hp0;clear hp0;clear c3 c4 HTZ0 HLZ0 HOK HGS0 HG HT HG2 HT2
   go_upto_region 35 with(go_at_call 54;(with_reducible refine HP.o.mono ?_);rintro e w1 ⟨rfl,hr⟩;have HR1:=Hd hr;clear hr)
   replace c1:=HR1.o.modr.cell HBX.o c1;replace c2:=HR1.o.modr.cell HBX.o c2;have HD1:=Hd (HD.o _ HR1.o)
   go_wp2_with(go_at_call 55;(with_reducible refine HD1.o.mono ?_);rintro e w2 ⟨rfl,hr⟩;have HR2:=Hd hr;clear hr)
   go_end0
   rw[HQ.o.1,HQ.o.2];exact qXo
 have q10:(k==10)=false:=zb h10;have H10:=Hd h10;clear h10
 go_upto_region 36 with fail
 clear q10
 by_cases h11:k=11
 · as_aux_lemma=>
   subst h11;have HQ:Hid (vG s ⟨11,a,b,r,A,H,cap⟩=vX s a∧vG d ⟨11,a,b,r,A,H,cap⟩=vX d a):=Hd ⟨rfl,rfl⟩;have hp0:=oK HS0.o.p HI.o.n HI.o.r HI.o.c2 HI.o.c a;have HD:Hid (∀w1,uR B W v (vX s a) w1→Calls jG 57 #[.pointer (some ⟨m.M,0,none⟩),.int .i64 a] w1 (vB B w1 m (vX d a))):=Hd (fun w1 hs=>by
    have hd:=HS0.o.mid hs;exact iI hd HI2.o a)
   have hp0:Calls jG 56 #[.pointer (some ⟨v.S,0,none⟩),.int .i64 a] W (gQ B W v (vX s a)):=hp0;obtain⟨S1,hS1⟩:∃S1,vX s a=S1:=⟨_,rfl⟩;obtain⟨D1,hD1⟩:∃D1,vX d a=D1:=⟨_,rfl⟩;have HQ:Hid (vG s ⟨11,a,b,r,A,H,cap⟩=S1∧vG d ⟨11,a,b,r,A,H,cap⟩=D1):=Hd ⟨HQ.o.1.trans hS1,HQ.o.2.trans hD1⟩;rw[hS1]at hp0 HD;rw[hD1]at HD;clear hS1 hD1;have HP:=Hd hp0;clear hp0;clear c2 c3 c4 HTZ0 HLZ0 HOK HGS0 HG HT HG2 HT2
   go_upto_region 38 with(go_at_call 56;(with_reducible refine HP.o.mono ?_);rintro e w1 ⟨rfl,hr⟩;have HR1:=Hd hr;clear hr)
   replace c1:=HR1.o.modr.cell HBX.o c1;have HD1:=Hd (HD.o _ HR1.o)
   go_wp2_with(go_at_call 57;(with_reducible refine HD1.o.mono ?_);rintro e w2 ⟨rfl,hr⟩;have HR2:=Hd hr;clear hr)
   go_end0
   rw[HQ.o.1,HQ.o.2];exact qXo
 have q11:(k==11)=false:=zb h11;have H11:=Hd h11;clear h11
 go_upto_region 39 with fail
 clear q11
 by_cases h12:k=12
 · as_aux_lemma=>
   subst h12;have HQ:Hid (vG s ⟨12,a,b,r,A,H,cap⟩=pV s a∧vG d ⟨12,a,b,r,A,H,cap⟩=pV d a):=Hd ⟨rfl,rfl⟩;have hp0:=QV HS0.o.p HI.o.n HI.o.r HI.o.c2 HI.o.c qKe a;have HD:Hid (∀w1,uR B W v (pV s a) w1→Calls jG 59 #[.pointer (some ⟨m.M,0,none⟩),.int .i64 a] w1 (vB B w1 m (pV d a))):=Hd (fun w1 hs=>by
    have hd:=HS0.o.mid hs;exact oX hd HI2.o a)
   have hp0:Calls jG 58 #[.pointer (some ⟨v.S,0,none⟩),.int .i64 a] W (gQ B W v (pV s a)):=hp0;obtain⟨S1,hS1⟩:∃S1,pV s a=S1:=⟨_,rfl⟩;obtain⟨D1,hD1⟩:∃D1,pV d a=D1:=⟨_,rfl⟩;have HQ:Hid (vG s ⟨12,a,b,r,A,H,cap⟩=S1∧vG d ⟨12,a,b,r,A,H,cap⟩=D1):=Hd ⟨HQ.o.1.trans hS1,HQ.o.2.trans hD1⟩;rw[hS1]at hp0 HD;rw[hD1]at HD;clear hS1 hD1;have HP:=Hd hp0;clear hp0;clear c2 c3 c4 HTZ0 HLZ0 HOK HGS0 HG HT HG2 HT2
   go_upto_region 41 with(go_at_call 58;(with_reducible refine HP.o.mono ?_);rintro e w1 ⟨rfl,hr⟩;have HR1:=Hd hr;clear hr)
   replace c1:=HR1.o.modr.cell HBX.o c1;have HD1:=Hd (HD.o _ HR1.o)
   go_wp2_with(go_at_call 59;(with_reducible refine HD1.o.mono ?_);rintro e w2 ⟨rfl,hr⟩;have HR2:=Hd hr;clear hr)
   go_end0
   rw[HQ.o.1,HQ.o.2];exact qXo
 have q12:(k==12)=false:=zb h12;have H12:=Hd h12;clear h12
 go_upto_region 42 with fail
 clear q12
 by_cases h13:k=13
 · as_aux_lemma=>
   subst h13;have HQ:Hid (vG s ⟨13,a,b,r,A,H,cap⟩=yH s a∧vG d ⟨13,a,b,r,A,H,cap⟩=yH d a):=Hd ⟨rfl,rfl⟩;have hp0:=aV HS0.o.p HI.o.n.sci a;have HD:Hid (∀w1,uR B W v (yH s a) w1→Calls jG 61 #[.pointer (some ⟨m.M,0,none⟩),.int .i64 a,.int .i64 0] w1 (vB B w1 m (yH d a))):=Hd (fun w1 hs=>by
    have hd:=HS0.o.mid hs;exact xM hd HI2.o a)
   have hp0:Calls jG 60 #[.pointer (some ⟨v.S,0,none⟩),.int .i64 a] W (gQ B W v (yH s a)):=hp0;obtain⟨S1,hS1⟩:∃S1,yH s a=S1:=⟨_,rfl⟩;obtain⟨D1,hD1⟩:∃D1,yH d a=D1:=⟨_,rfl⟩;have HQ:Hid (vG s ⟨13,a,b,r,A,H,cap⟩=S1∧vG d ⟨13,a,b,r,A,H,cap⟩=D1):=Hd ⟨HQ.o.1.trans hS1,HQ.o.2.trans hD1⟩;rw[hS1]at hp0 HD;rw[hD1]at HD;clear hS1 hD1;have HP:=Hd hp0;clear hp0;clear c2 c3 c4 HTZ0 HLZ0 HOK HGS0 HG HT HG2 HT2
   go_upto_region 44 with(go_at_call 60;(with_reducible refine HP.o.mono ?_);rintro e w1 ⟨rfl,hr⟩;have HR1:=Hd hr;clear hr)
   replace c1:=HR1.o.modr.cell HBX.o c1;have HD1:=Hd (HD.o _ HR1.o)
   go_wp2_with(go_at_call 61;(with_reducible refine HD1.o.mono ?_);rintro e w2 ⟨rfl,hr⟩;have HR2:=Hd hr;clear hr)
   go_end0
   rw[HQ.o.1,HQ.o.2];exact qXo
 have q13:(k==13)=false:=zb h13;have H13:=Hd h13;clear h13
 go_upto_region 45 with fail
 clear q13
 by_cases h14:k=14
 · as_aux_lemma=>
   subst h14;have HQ:Hid (vG s ⟨14,a,b,r,A,H,cap⟩=pB s a∧vG d ⟨14,a,b,r,A,H,cap⟩=pB d a):=Hd ⟨rfl,rfl⟩;have hp0:=wK HS0.o.p a;have HD:Hid (∀w1,uR B W v (pB s a) w1→Calls jG 61 #[.pointer (some ⟨m.M,0,none⟩),.int .i64 a,.int .i64 1] w1 (vB B w1 m (pB d a))):=Hd (fun w1 hs=>by
    have hd:=HS0.o.mid hs;exact xW hd HI2.o a)
   have hp0:Calls jG 62 #[.pointer (some ⟨v.S,0,none⟩),.int .i64 a] W (gQ B W v (pB s a)):=hp0;obtain⟨S1,hS1⟩:∃S1,pB s a=S1:=⟨_,rfl⟩;obtain⟨D1,hD1⟩:∃D1,pB d a=D1:=⟨_,rfl⟩;have HQ:Hid (vG s ⟨14,a,b,r,A,H,cap⟩=S1∧vG d ⟨14,a,b,r,A,H,cap⟩=D1):=Hd ⟨HQ.o.1.trans hS1,HQ.o.2.trans hD1⟩;rw[hS1]at hp0 HD;rw[hD1]at HD;clear hS1 hD1;have HP:=Hd hp0;clear hp0;clear c2 c3 c4 HTZ0 HLZ0 HOK HGS0 HG HT HG2 HT2
   go_upto_region 47 with(go_at_call 62;(with_reducible refine HP.o.mono ?_);rintro e w1 ⟨rfl,hr⟩;have HR1:=Hd hr;clear hr)
   replace c1:=HR1.o.modr.cell HBX.o c1;have HD1:=Hd (HD.o _ HR1.o)
   go_wp2_with(go_at_call 61;(with_reducible refine HD1.o.mono ?_);rintro e w2 ⟨rfl,hr⟩;have HR2:=Hd hr;clear hr)
   go_end0
   rw[HQ.o.1,HQ.o.2];exact qXo
 have q14:(k==14)=false:=zb h14;have H14:=Hd h14;clear h14
 go_upto_region 48 with fail
 clear q14
 by_cases h15:k=15
 · as_aux_lemma=>
   subst h15;have HQ:Hid (vG s ⟨15,a,b,r,A,H,cap⟩=pP s a∧vG d ⟨15,a,b,r,A,H,cap⟩=pP d a):=Hd ⟨rfl,rfl⟩;have hp0:=wZ HS0.o.p a;have HD:Hid (∀w1,uR B W v (pP s a) w1→Calls jG 61 #[.pointer (some ⟨m.M,0,none⟩),.int .i64 a,.int .i64 2] w1 (vB B w1 m (pP d a))):=Hd (fun w1 hs=>by
    have hd:=HS0.o.mid hs;exact xH hd HI2.o a)
   have hp0:Calls jG 63 #[.pointer (some ⟨v.S,0,none⟩),.int .i64 a] W (gQ B W v (pP s a)):=hp0;obtain⟨S1,hS1⟩:∃S1,pP s a=S1:=⟨_,rfl⟩;obtain⟨D1,hD1⟩:∃D1,pP d a=D1:=⟨_,rfl⟩;have HQ:Hid (vG s ⟨15,a,b,r,A,H,cap⟩=S1∧vG d ⟨15,a,b,r,A,H,cap⟩=D1):=Hd ⟨HQ.o.1.trans hS1,HQ.o.2.trans hD1⟩;rw[hS1]at hp0 HD;rw[hD1]at HD;clear hS1 hD1;have HP:=Hd hp0;clear hp0;clear c2 c3 c4 HTZ0 HLZ0 HOK HGS0 HG HT HG2 HT2
   go_upto_region 50 with(go_at_call 63;(with_reducible refine HP.o.mono ?_);rintro e w1 ⟨rfl,hr⟩;have HR1:=Hd hr;clear hr)
   replace c1:=HR1.o.modr.cell HBX.o c1;have HD1:=Hd (HD.o _ HR1.o)
   go_wp2_with(go_at_call 61;(with_reducible refine HD1.o.mono ?_);rintro e w2 ⟨rfl,hr⟩;have HR2:=Hd hr;clear hr)
   go_end0
   rw[HQ.o.1,HQ.o.2];exact qXo
 have q15:(k==15)=false:=zb h15;have H15:=Hd h15;clear h15
 go_upto_region 51 with fail
 clear q15
 by_cases h16:k=16
 · as_aux_lemma=>
   subst h16;have HQ:Hid (vG s ⟨16,a,b,r,A,H,cap⟩=gF s a∧vG d ⟨16,a,b,r,A,H,cap⟩=gF d a):=Hd ⟨rfl,rfl⟩;have hp0:=wJ HS0.o.p a qKe HOK.o.ia;have HD:Hid (∀w1,uR B W v (gF s a) w1→Calls jG 65 #[.pointer (some ⟨m.M,0,none⟩),.int .i64 a,.int .i64 1] w1 (vB B w1 m (gF d a))):=Hd (fun w1 hs=>by
    have hd:=HS0.o.mid hs;exact xU hd HI2.o a)
   have hp0:Calls jG 64 #[.pointer (some ⟨v.S,0,none⟩),.int .i64 a] W (gQ B W v (gF s a)):=hp0;obtain⟨S1,hS1⟩:∃S1,gF s a=S1:=⟨_,rfl⟩;obtain⟨D1,hD1⟩:∃D1,gF d a=D1:=⟨_,rfl⟩;have HQ:Hid (vG s ⟨16,a,b,r,A,H,cap⟩=S1∧vG d ⟨16,a,b,r,A,H,cap⟩=D1):=Hd ⟨HQ.o.1.trans hS1,HQ.o.2.trans hD1⟩;rw[hS1]at hp0 HD;rw[hD1]at HD;clear hS1 hD1;have HP:=Hd hp0;clear hp0;clear c2 c3 c4 HTZ0 HLZ0 HOK HGS0 HG HT HG2 HT2
   go_upto_region 53 with(go_at_call 64;(with_reducible refine HP.o.mono ?_);rintro e w1 ⟨rfl,hr⟩;have HR1:=Hd hr;clear hr)
   replace c1:=HR1.o.modr.cell HBX.o c1;have HD1:=Hd (HD.o _ HR1.o)
   go_wp2_with(go_at_call 65;(with_reducible refine HD1.o.mono ?_);rintro e w2 ⟨rfl,hr⟩;have HR2:=Hd hr;clear hr)
   go_end0
   rw[HQ.o.1,HQ.o.2];exact qXo
 have q16:(k==16)=false:=zb h16;have H16:=Hd h16;clear h16
 go_upto_region 54 with fail
 clear q16
 by_cases h17:k=17
 · as_aux_lemma=>
   subst h17;have HQ:Hid (vG s ⟨17,a,b,r,A,H,cap⟩=gR s a∧vG d ⟨17,a,b,r,A,H,cap⟩=gR d a):=Hd ⟨rfl,rfl⟩;have hp0:=wV HS0.o.p a qKe HOK.o.ia;have HD:Hid (∀w1,uR B W v (gR s a) w1→Calls jG 65 #[.pointer (some ⟨m.M,0,none⟩),.int .i64 a,.int .i64 2] w1 (vB B w1 m (gR d a))):=Hd (fun w1 hs=>by
    have hd:=HS0.o.mid hs;exact xG hd HI2.o a)
   have hp0:Calls jG 66 #[.pointer (some ⟨v.S,0,none⟩),.int .i64 a] W (gQ B W v (gR s a)):=hp0;obtain⟨S1,hS1⟩:∃S1,gR s a=S1:=⟨_,rfl⟩;obtain⟨D1,hD1⟩:∃D1,gR d a=D1:=⟨_,rfl⟩;have HQ:Hid (vG s ⟨17,a,b,r,A,H,cap⟩=S1∧vG d ⟨17,a,b,r,A,H,cap⟩=D1):=Hd ⟨HQ.o.1.trans hS1,HQ.o.2.trans hD1⟩;rw[hS1]at hp0 HD;rw[hD1]at HD;clear hS1 hD1;have HP:=Hd hp0;clear hp0;clear c2 c3 c4 HTZ0 HLZ0 HOK HGS0 HG HT HG2 HT2
   go_upto_region 56 with(go_at_call 66;(with_reducible refine HP.o.mono ?_);rintro e w1 ⟨rfl,hr⟩;have HR1:=Hd hr;clear hr)
   replace c1:=HR1.o.modr.cell HBX.o c1;have HD1:=Hd (HD.o _ HR1.o)
   go_wp2_with(go_at_call 65;(with_reducible refine HD1.o.mono ?_);rintro e w2 ⟨rfl,hr⟩;have HR2:=Hd hr;clear hr)
   go_end0
   rw[HQ.o.1,HQ.o.2];exact qXo
 have q17:(k==17)=false:=zb h17;have H17:=Hd h17;clear h17
 go_upto_region 57 with fail
 clear q17
 by_cases h18:k=18
 · as_aux_lemma=>
   subst h18;have HQ:Hid (vG s ⟨18,a,b,r,A,H,cap⟩=bJ s a∧vG d ⟨18,a,b,r,A,H,cap⟩=bJ d a):=Hd ⟨rfl,rfl⟩;have hp0:=Vp HS0.o.p a qKe HOK.o.ia;have HD:Hid (∀w1,uR B W v (bJ s a) w1→Calls jG 68 #[.pointer (some ⟨m.M,0,none⟩),.int .i64 a] w1 (vB B w1 m (bJ d a))):=Hd (fun w1 hs=>by
    have hd:=HS0.o.mid hs;exact xX hd HI2.o a)
   have hp0:Calls jG 67 #[.pointer (some ⟨v.S,0,none⟩),.int .i64 a] W (gQ B W v (bJ s a)):=hp0;obtain⟨S1,hS1⟩:∃S1,bJ s a=S1:=⟨_,rfl⟩;obtain⟨D1,hD1⟩:∃D1,bJ d a=D1:=⟨_,rfl⟩;have HQ:Hid (vG s ⟨18,a,b,r,A,H,cap⟩=S1∧vG d ⟨18,a,b,r,A,H,cap⟩=D1):=Hd ⟨HQ.o.1.trans hS1,HQ.o.2.trans hD1⟩;rw[hS1]at hp0 HD;rw[hD1]at HD;clear hS1 hD1;have HP:=Hd hp0;clear hp0;clear c2 c3 c4 HTZ0 HLZ0 HOK HGS0 HG HT HG2 HT2
   go_upto_region 59 with(go_at_call 67;(with_reducible refine HP.o.mono ?_);rintro e w1 ⟨rfl,hr⟩;have HR1:=Hd hr;clear hr)
   replace c1:=HR1.o.modr.cell HBX.o c1;have HD1:=Hd (HD.o _ HR1.o)
   go_wp2_with(go_at_call 68;(with_reducible refine HD1.o.mono ?_);rintro e w2 ⟨rfl,hr⟩;have HR2:=Hd hr;clear hr)
   go_end0
   rw[HQ.o.1,HQ.o.2];exact qXo
 have q18:(k==18)=false:=zb h18;have H18:=Hd h18;clear h18
 go_upto_region 60 with fail
 clear q18
 by_cases h19:k=19
 · as_aux_lemma=>
   subst h19;have HQ:Hid (vG s ⟨19,a,b,r,A,H,cap⟩=cI s∧vG d ⟨19,a,b,r,A,H,cap⟩=cI d):=Hd ⟨rfl,rfl⟩;have hp0:=Jd HS0.o.p;have HD:Hid (∀w1,uR B W v (cI s) w1→Calls jG 69 #[.pointer (some ⟨m.M,0,none⟩)] w1 (vB B w1 m (cI d))):=Hd (fun w1 hs=>by
    have hd:=HS0.o.mid hs;exact Ji hd HI2.o)
   have hp0:Calls jG 17 #[.pointer (some ⟨v.S,0,none⟩)] W (gQ B W v (cI s)):=hp0;obtain⟨S1,hS1⟩:∃S1,cI s=S1:=⟨_,rfl⟩;obtain⟨D1,hD1⟩:∃D1,cI d=D1:=⟨_,rfl⟩;have HQ:Hid (vG s ⟨19,a,b,r,A,H,cap⟩=S1∧vG d ⟨19,a,b,r,A,H,cap⟩=D1):=Hd ⟨HQ.o.1.trans hS1,HQ.o.2.trans hD1⟩;rw[hS1]at hp0 HD;rw[hD1]at HD;clear hS1 hD1;have HP:=Hd hp0;clear hp0;clear c1 c2 c3 c4 HTZ0 HLZ0 HOK HGS0 HG HT HG2 HT2
   go_upto_region 62 with(go_at_call 17;(with_reducible refine HP.o.mono ?_);rintro e w1 ⟨rfl,hr⟩;have HR1:=Hd hr;clear hr)
   have HD1:=Hd (HD.o _ HR1.o)
   go_wp2_with(go_at_call 69;(with_reducible refine HD1.o.mono ?_);rintro e w2 ⟨rfl,hr⟩;have HR2:=Hd hr;clear hr)
   go_end0
   rw[HQ.o.1,HQ.o.2];exact qXo
 have q19:(k==19)=false:=zb h19;have H19:=Hd h19;clear h19
 go_upto_region 63 with fail
 clear q19
 by_cases h20:k=20
 · as_aux_lemma=>
   subst h20;have HQ:Hid (vG s ⟨20,a,b,r,A,H,cap⟩=gD s∧vG d ⟨20,a,b,r,A,H,cap⟩=gD d):=Hd ⟨rfl,rfl⟩;have hp0:=sS HS0.o.p;have HD:Hid (∀w1,uR B W v (gD s) w1→Calls jG 70 #[.pointer (some ⟨m.M,0,none⟩)] w1 (vB B w1 m (gD d))):=Hd (fun w1 hs=>by
    have hd:=HS0.o.mid hs;exact tV hd HI2.o)
   have hp0:Calls jG 18 #[.pointer (some ⟨v.S,0,none⟩)] W (gQ B W v (gD s)):=hp0;obtain⟨S1,hS1⟩:∃S1,gD s=S1:=⟨_,rfl⟩;obtain⟨D1,hD1⟩:∃D1,gD d=D1:=⟨_,rfl⟩;have HQ:Hid (vG s ⟨20,a,b,r,A,H,cap⟩=S1∧vG d ⟨20,a,b,r,A,H,cap⟩=D1):=Hd ⟨HQ.o.1.trans hS1,HQ.o.2.trans hD1⟩;rw[hS1]at hp0 HD;rw[hD1]at HD;clear hS1 hD1;have HP:=Hd hp0;clear hp0;clear c1 c2 c3 c4 HTZ0 HLZ0 HOK HGS0 HG HT HG2 HT2
   go_upto_region 65 with(go_at_call 18;(with_reducible refine HP.o.mono ?_);rintro e w1 ⟨rfl,hr⟩;have HR1:=Hd hr;clear hr)
   have HD1:=Hd (HD.o _ HR1.o)
   go_wp2_with(go_at_call 70;(with_reducible refine HD1.o.mono ?_);rintro e w2 ⟨rfl,hr⟩;have HR2:=Hd hr;clear hr)
   go_end0
   rw[HQ.o.1,HQ.o.2];exact qXo
 have q20:(k==20)=false:=zb h20;have H20:=Hd h20;clear h20
 go_upto_region 66 with fail
 clear q20
 by_cases h21:k=21
 · as_aux_lemma=>
   subst h21;have HQ:Hid (vG s ⟨21,a,b,r,A,H,cap⟩=eE s∧vG d ⟨21,a,b,r,A,H,cap⟩=eE d):=Hd ⟨rfl,rfl⟩;have hp0:=Ui HS0.o.p;have HD:Hid (∀w1,uR B W v (eE s) w1→Calls jG 72 #[.pointer (some ⟨m.M,0,none⟩)] w1 (vB B w1 m (eE d))):=Hd (fun w1 hs=>by
    have hd:=HS0.o.mid hs;exact Jl hd HI2.o)
   have hp0:Calls jG 71 #[.pointer (some ⟨v.S,0,none⟩)] W (gQ B W v (eE s)):=hp0;obtain⟨S1,hS1⟩:∃S1,eE s=S1:=⟨_,rfl⟩;obtain⟨D1,hD1⟩:∃D1,eE d=D1:=⟨_,rfl⟩;have HQ:Hid (vG s ⟨21,a,b,r,A,H,cap⟩=S1∧vG d ⟨21,a,b,r,A,H,cap⟩=D1):=Hd ⟨HQ.o.1.trans hS1,HQ.o.2.trans hD1⟩;rw[hS1]at hp0 HD;rw[hD1]at HD;clear hS1 hD1;have HP:=Hd hp0;clear hp0;clear c1 c2 c3 c4 HTZ0 HLZ0 HOK HGS0 HG HT HG2 HT2
   go_upto_region 68 with(go_at_call 71;(with_reducible refine HP.o.mono ?_);rintro e w1 ⟨rfl,hr⟩;have HR1:=Hd hr;clear hr)
   have HD1:=Hd (HD.o _ HR1.o)
   go_wp2_with(go_at_call 72;(with_reducible refine HD1.o.mono ?_);rintro e w2 ⟨rfl,hr⟩;have HR2:=Hd hr;clear hr)
   go_end0
   rw[HQ.o.1,HQ.o.2];exact qXo
 have q21:(k==21)=false:=zb h21;have H21:=Hd h21;clear h21
 go_upto_region 69 with fail
 clear q21
 by_cases h22:k=22
 · as_aux_lemma=>
   subst h22;have HQ:Hid (vG s ⟨22,a,b,r,A,H,cap⟩=fW s∧vG d ⟨22,a,b,r,A,H,cap⟩=fW d):=Hd ⟨rfl,rfl⟩;have hp0:=Xk HS0.o.p;have HD:Hid (∀w1,uR B W v (fW s) w1→Calls jG 74 #[.pointer (some ⟨m.M,0,none⟩)] w1 (vB B w1 m (fW d))):=Hd (fun w1 hs=>by
    have hd:=HS0.o.mid hs;exact QB hd HI2.o)
   have hp0:Calls jG 73 #[.pointer (some ⟨v.S,0,none⟩)] W (gQ B W v (fW s)):=hp0;obtain⟨S1,hS1⟩:∃S1,fW s=S1:=⟨_,rfl⟩;obtain⟨D1,hD1⟩:∃D1,fW d=D1:=⟨_,rfl⟩;have HQ:Hid (vG s ⟨22,a,b,r,A,H,cap⟩=S1∧vG d ⟨22,a,b,r,A,H,cap⟩=D1):=Hd ⟨HQ.o.1.trans hS1,HQ.o.2.trans hD1⟩;rw[hS1]at hp0 HD;rw[hD1]at HD;clear hS1 hD1;have HP:=Hd hp0;clear hp0;clear c1 c2 c3 c4 HTZ0 HLZ0 HOK HGS0 HG HT HG2 HT2
   go_upto_region 71 with(go_at_call 73;(with_reducible refine HP.o.mono ?_);rintro e w1 ⟨rfl,hr⟩;have HR1:=Hd hr;clear hr)
   have HD1:=Hd (HD.o _ HR1.o)
   go_wp2_with(go_at_call 74;(with_reducible refine HD1.o.mono ?_);rintro e w2 ⟨rfl,hr⟩;have HR2:=Hd hr;clear hr)
   go_end0
   rw[HQ.o.1,HQ.o.2];exact qXo
 have q22:(k==22)=false:=zb h22;have H22:=Hd h22;clear h22
 go_upto_region 2 with fail
 clear q22;have HQ:Hid (vG s ⟨k,a,b,r,A,H,cap⟩=cP s ⟨k,a,b,r,A,H,cap⟩∧vG d ⟨k,a,b,r,A,H,cap⟩=cP d ⟨k,a,b,r,A,H,cap⟩):=Hd (by refine⟨?_,?_⟩<;>unfold vG<;>rw[if_neg H0.o,if_neg H1.o,if_neg H2.o,if_neg H3.o,if_neg H4.o,if_neg H5.o,if_neg H6.o,if_neg H7.o,if_neg H8.o,if_neg H9.o,if_neg H10.o,if_neg H11.o,if_neg H12.o,if_neg H13.o,if_neg H14.o,if_neg H15.o,if_neg H16.o,if_neg H17.o,if_neg H18.o,if_neg H19.o,if_neg H20.o,if_neg H21.o,if_neg H22.o]);clear c1 c2 c3 c4 HC0;refine wp_region_lit ?_;refine zG (.pointer (some ⟨v.S,0,none⟩)) ?_;refine zG (.pointer (some ⟨m.M,0,none⟩)) ?_;refine uF qK 34 (.tmp 5) rfl (w.heap.size) (0) rfl (bY ⟨k,a,b,r,A,H,cap⟩) _ (kA HZ0.o) Tryz.underlying34 rfl Wd ?_;refine zP ?_
 go_wp2_with(go_at_call 75;(with_reducible refine HOPT.o.mono ?_);rintro e w2 ⟨rfl,hr⟩;have HR2:=Hd hr;clear hr)
 go_end0
 rw[HQ.o.1,HQ.o.2];exact⟨rfl,zC.pre HB0.o HR2.o⟩
theorem KC(h:SB B w v m s)(hi:DmI rows cols room s)(hg:ScG rows cols room s)(ht:s.pg.told.length+2*(rows*cols)+10≤900000)(htz:eN w)(hlz:oS w)(o:Sop)(hok:SopOk B w o):
 Calls jG 12 #[.pointer (some ⟨v.S,0,none⟩),.pointer (some ⟨m.M,0,none⟩),.agg (bY o).toArray] w (DoesS B w v m (vG s o)):=KP h hi hi hg hg ht ht htz hlz o hok
end
end Go.Proofs.YtjcpdcncfjkejaaGreatDoor
