/- Joined by a tool of this claim out of smaller texts. Conditions: as stated. -/
import Derived.Test.YtjcpdcncfjkejaaGreatDoorSx02
import Derived.Test.YtjcpdcncfjkejaaGreatDoorSx22
set_option linter.unusedVariables false
set_option linter.unusedSimpArgs false
set_option maxRecDepth 100000
open Go.Lib renaming hid → Hd
open Go.Proofs.Tryz renaming prog → jG
open Go.RowKit.Below renaming refl → jU
open Go.IntWalk renaming i64_in → jH
open Go.IntKind renaming i64 → jP
open And renaming intro → kM
namespace Go.Proofs.YtjcpdcncfjkejaaGreatDoor
open Go.RowKit
theorem J8{w:World}:eR w none []:=⟨fun h=>absurd h qV,fun h hh=>(by cases hh)⟩
section
variable {B:Nat}{w w0:World}{m:Mv}{d:Sc}{rows cols room:Nat}
def qJn(B:Nat)(w0:World)(m:Mv)(e:Ending)(w':World):Prop:=e=.returned (.tuple #[])∧∃d',uN B w0 m d' w'
set_option maxHeartbeats 12800000 in
theorem Wo(h:uN B w0 m d w)(hi2:DmI rows cols room d)(hf2:zZ d.pen.at_.fl)(ht2:d.pg.told.length+2*(rows*cols)+10≤900000)(k a b:Int)(hk0:0≤k)(hk1:k<23):
 Calls jG 12 #[.pointer none,.pointer (some ⟨m.M,0,none⟩),.agg (bY ⟨k,a,b,97,none,[],0⟩).toArray] w (qJn B w0 m):=by
 obtain⟨W,hW⟩:∃W,w.alloc (.cells (bY ⟨k,a,b,97,none,[],0⟩).toArray 34)=W:=⟨_,rfl⟩;have hb0:Below w.heap.size w W:=by rw[←hW];exact jW (jU _ _) _
 have HC0:Hid (XZ W w.heap.size ⟨k,a,b,97,none,[],0⟩):=Hd (by rw[←hW];exact XZ.new _);have HS0:=Hd (h.post hb0);have HW:=Hd hW;have HI2:=Hd hi2;have HF2:=Hd hf2;have HT2:=Hd ht2;have HK:=Hd (kM hk0 hk1);clear hW hb0 h hi2 hf2 ht2 hk0 hk1
 go_enter Tryz.func12,Tryz.ntmps12
 go_upto_region 1 with fail
 rw[HW.o];clear HW;obtain⟨c0,c1,c2,c3,c4⟩:=HC0.o;simp only at c0 c1 c2 c3 c4
 go_upto_region 3 with fail
 clear c0
 by_cases h0:k=0
 · as_aux_lemma=>
   subst h0;have HP:=Hd (nPrint 97 W);have HD:Hid (∀w1,Below W.heap.size W w1→Calls jG 36 #[.pointer (some ⟨m.M,0,none⟩),.int .i32 97] w1 (vB B w0 m (cA d 97))):=Hd (fun w1 hs=>by
    have hd:=HS0.o.post hs;exact QP hd HI2.o qV4 97)
   clear c1 c2 c4 HF2 HT2
   go_upto_region 5 with(go_at_call 33;(with_reducible refine HP.o.mono ?_);rintro e w1 ⟨rfl,hr⟩;have HB1:=Hd hr;clear hr)
   replace c3:=jA HB1.o c3;have HD1:=Hd (HD.o _ HB1.o)
   go_wp2_with(go_at_call 36;(with_reducible refine HD1.o.mono ?_);rintro e w2 ⟨rfl,hr⟩;have HR2:=Hd hr;clear hr)
   go_end0
   exact⟨rfl,_,HR2.o⟩
 have q0:(k==0)=false:=zb h0;have H0:=Hd h0;clear h0
 go_upto_region 6 with fail
 clear q0
 by_cases h1:k=1
 · as_aux_lemma=>
   subst h1;have HP:=Hd (nRepeat a W);have HD:Hid (∀w1,Below W.heap.size W w1→Calls jG 38 #[.pointer (some ⟨m.M,0,none⟩),.int .i64 a] w1 (vB B w0 m (bZ d a))):=Hd (fun w1 hs=>by
    have hd:=HS0.o.post hs;exact xY hd HI2.o qV4 a)
   clear c2 c3 c4 HF2 HT2
   go_upto_region 8 with(go_at_call 37;(with_reducible refine HP.o.mono ?_);rintro e w1 ⟨rfl,hr⟩;have HB1:=Hd hr;clear hr)
   replace c1:=jA HB1.o c1;have HD1:=Hd (HD.o _ HB1.o)
   go_wp2_with(go_at_call 38;(with_reducible refine HD1.o.mono ?_);rintro e w2 ⟨rfl,hr⟩;have HR2:=Hd hr;clear hr)
   go_end0
   exact⟨rfl,_,HR2.o⟩
 have q1:(k==1)=false:=zb h1;have H1:=Hd h1;clear h1
 go_upto_region 9 with fail
 clear q1
 by_cases h2:k=2
 · as_aux_lemma=>
   subst h2;have HP:=Hd (nTurn none 0 0 W);have HD:Hid (∀w1,Below W.heap.size W w1→Calls jG 40 #[.pointer (some ⟨m.M,0,none⟩),.slice none 0 0] w1 (vB B w0 m (fX d (vK [])))):=Hd (fun w1 hs=>by
    have hd:=HS0.o.post hs;exact Jh hd HF2.o J8 0 qV qV)
   clear c1 c2 c3 HF2 HT2
   go_upto_region 11 with(go_at_call 39;(with_reducible refine HP.o.mono ?_);rintro e w1 ⟨rfl,hr⟩;have HB1:=Hd hr;clear hr)
   replace c4:=jA HB1.o c4;have HD1:=Hd (HD.o _ HB1.o)
   go_wp2_with(go_at_call 40;(with_reducible refine HD1.o.mono ?_);rintro e w2 ⟨rfl,hr⟩;have HR2:=Hd hr;clear hr)
   go_end0
   exact⟨rfl,_,HR2.o⟩
 have q2:(k==2)=false:=zb h2;have H2:=Hd h2;clear h2
 go_upto_region 12 with fail
 clear q2
 by_cases h3:k=3
 · as_aux_lemma=>
   subst h3;have HP:=Hd (nBack W);clear c1 c2 c3 c4 HF2 HT2
   go_upto_region 14 with(go_at_call 41;(with_reducible refine HP.o.mono ?_);rintro e w1 ⟨rfl,hr⟩;have HB1:=Hd hr;clear hr)
   have hin:=HI2.o.n.inS HI2.o.c2;have hci:=HI2.o.c;obtain⟨x1,hx1⟩:∃x1,(nD d).x=x1:=⟨_,rfl⟩;have hmx:(if(1:Int)<inS d then inS d-1 else 0)=x1:=by rw[←hx1];unfold nD;show _=max 0 (inS d-1);split<;>omega
   have hwi:jP.wrap (inS d-1)=inS d-1:=jH _ qJ;have HD1:=Hd (HS0.o.post HB1.o);have HIN:=Hd (bF HD1.o HI2.o.n.x0);obtain⟨i1,hi1⟩:∃i1,inS d=i1:=⟨_,rfl⟩;rw[hi1]at hmx hwi HIN;have HIN1:=Hd (HIN.o _ (jU _ _));clear hin hci hx1 hi1;refine wp_region_lit ?_;refine zG (.pointer (some ⟨m.M,0,none⟩)) ?_;refine zG (.pointer (some ⟨m.M,0,none⟩)) ?_;refine gC rfl 42 #[.pointer (some ⟨m.M,0,none⟩)] qY HIN1.o (.int .i64 i1) (fun e w' h=>h.1) ?_;rintro w5 ⟨-,hb5⟩;have HD5:=Hd (HD1.o.post hb5);refine zP ?_;refine zGs (.int .i64 (i1-1)) ?_;refine zGs (.int .i64 x1) ?_;obtain⟨d0,d0f⟩:=HD5.o.cellAt 17 (.int .i64 d.x) (fun _=>rfl);clear hmx hwi hb5
   go_wp2
   go_end0
   exact⟨rfl,_,HD5.o.put 17 (.int .i64 x1) (s':={d with x:=x1}) (fun _=>rfl) rfl rfl⟩
 have q3:(k==3)=false:=zb h3;have H3:=Hd h3;clear h3
 go_upto_region 15 with fail
 clear q3
 by_cases h4:k=4
 · as_aux_lemma=>
   subst h4;have HP:=Hd (nReturn W);clear c1 c2 c3 c4 HF2 HT2
   go_upto_region 17 with(go_at_call 43;(with_reducible refine HP.o.mono ?_);rintro e w1 ⟨rfl,hr⟩;have HB1:=Hd hr;clear hr)
   have HD1:=Hd (HS0.o.post HB1.o);obtain⟨d0,d0f⟩:=HD1.o.cellAt 17 (.int .i64 d.x) (fun _=>rfl)
   go_wp2
   go_end0
   exact⟨rfl,_,HD1.o.put 17 (.int .i64 0) (s':={d with x:=0}) (fun _=>rfl) rfl rfl⟩
 have q4:(k==4)=false:=zb h4;have H4:=Hd h4;clear h4
 go_upto_region 18 with fail
 clear q4
 by_cases h5:k=5
 · as_aux_lemma=>
   subst h5;have HP:=Hd (nFeed W);have HD:Hid (∀w1,Below W.heap.size W w1→Calls jG 45 #[.pointer (some ⟨m.M,0,none⟩)] w1 (Yn B w0 m (zM d))):=Hd (fun w1 hs=>by
    have hd:=HS0.o.post hs;exact wU hd HI2.o)
   clear c1 c2 c3 c4 HF2 HT2
   go_upto_region 20 with(go_at_call 44;(with_reducible refine HP.o.mono ?_);rintro e w1 ⟨rfl,hr⟩;have HB1:=Hd hr;clear hr)
   have HD1:=Hd (HD.o _ HB1.o)
   go_wp2_with(go_at_call 45;(with_reducible refine HD1.o.mono ?_);rintro e w2 ⟨rfl,hr⟩;have HR2:=Hd hr;clear hr)
   go_end0
   exact⟨rfl,_,HR2.o⟩
 have q5:(k==5)=false:=zb h5;have H5:=Hd h5;clear h5
 go_upto_region 21 with fail
 clear q5
 by_cases h6:k=6
 · as_aux_lemma=>
   subst h6;have HP:=Hd (WI W);have HD:Hid (∀w1,Below W.heap.size W w1→Calls jG 47 #[.pointer (some ⟨m.M,0,none⟩)] w1 (vB B w0 m (yY d))):=Hd (fun w1 hs=>by
    have hd:=HS0.o.post hs;exact rP hd HI2.o)
   clear c1 c2 c3 c4 HF2 HT2
   go_upto_region 23 with(go_at_call 46;(with_reducible refine HP.o.mono ?_);rintro e w1 ⟨rfl,hr⟩;have HB1:=Hd hr;clear hr)
   have HD1:=Hd (HD.o _ HB1.o)
   go_wp2_with(go_at_call 47;(with_reducible refine HD1.o.mono ?_);rintro e w2 ⟨rfl,hr⟩;have HR2:=Hd hr;clear hr)
   go_end0
   exact⟨rfl,_,HR2.o⟩
 have q6:(k==6)=false:=zb h6;have H6:=Hd h6;clear h6
 go_upto_region 24 with fail
 clear q6
 by_cases h7:k=7
 · as_aux_lemma=>
   subst h7;have HP:=Hd (nTab a W);have HD:Hid (∀w1,Below W.heap.size W w1→Calls jG 49 #[.pointer (some ⟨m.M,0,none⟩),.int .i64 a] w1 (vB B w0 m (lO d a))):=Hd (fun w1 hs=>by
    have hd:=HS0.o.post hs;exact Vn hd HI2.o a)
   clear c2 c3 c4 HF2 HT2
   go_upto_region 26 with(go_at_call 48;(with_reducible refine HP.o.mono ?_);rintro e w1 ⟨rfl,hr⟩;have HB1:=Hd hr;clear hr)
   replace c1:=jA HB1.o c1;have HD1:=Hd (HD.o _ HB1.o)
   go_wp2_with(go_at_call 49;(with_reducible refine HD1.o.mono ?_);rintro e w2 ⟨rfl,hr⟩;have HR2:=Hd hr;clear hr)
   go_end0
   exact⟨rfl,_,HR2.o⟩
 have q7:(k==7)=false:=zb h7;have H7:=Hd h7;clear h7
 go_upto_region 27 with fail
 clear q7
 by_cases h8:k=8
 · as_aux_lemma=>
   subst h8;have HP:=Hd (nMove a b W);have HD:Hid (∀w1,Below W.heap.size W w1→Calls jG 51 #[.pointer (some ⟨m.M,0,none⟩),.int .i64 a,.int .i64 b] w1 (vB B w0 m (dF d a b))):=Hd (fun w1 hs=>by
    have hd:=HS0.o.post hs;exact wG hd HI2.o a b)
   clear c3 c4 HF2 HT2
   go_upto_region 29 with(go_at_call 50;(with_reducible refine HP.o.mono ?_);rintro e w1 ⟨rfl,hr⟩;have HB1:=Hd hr;clear hr)
   replace c1:=jA HB1.o c1;replace c2:=jA HB1.o c2;have HD1:=Hd (HD.o _ HB1.o)
   go_wp2_with(go_at_call 51;(with_reducible refine HD1.o.mono ?_);rintro e w2 ⟨rfl,hr⟩;have HR2:=Hd hr;clear hr)
   go_end0
   exact⟨rfl,_,HR2.o⟩
 have q8:(k==8)=false:=zb h8;have H8:=Hd h8;clear h8
 go_upto_region 30 with fail
 clear q8
 by_cases h9:k=9
 · as_aux_lemma=>
   subst h9;have HP:=Hd (nGo a b W);have HD:Hid (∀w1,Below W.heap.size W w1→Calls jG 53 #[.pointer (some ⟨m.M,0,none⟩),.int .i64 a,.int .i64 b] w1 (vB B w0 m (goS d a b))):=Hd (fun w1 hs=>by
    have hd:=HS0.o.post hs;exact UK hd HI2.o a b)
   clear c3 c4 HF2 HT2
   go_upto_region 32 with(go_at_call 52;(with_reducible refine HP.o.mono ?_);rintro e w1 ⟨rfl,hr⟩;have HB1:=Hd hr;clear hr)
   replace c1:=jA HB1.o c1;replace c2:=jA HB1.o c2;have HD1:=Hd (HD.o _ HB1.o)
   go_wp2_with(go_at_call 53;(with_reducible refine HD1.o.mono ?_);rintro e w2 ⟨rfl,hr⟩;have HR2:=Hd hr;clear hr)
   go_end0
   exact⟨rfl,_,HR2.o⟩
 have q9:(k==9)=false:=zb h9;have H9:=Hd h9;clear h9
 go_upto_region 33 with fail
 clear q9
 by_cases h10:k=10
 · as_aux_lemma=>
   subst h10;have HP:=Hd (qQr a b W);have HD:Hid (∀w1,Below W.heap.size W w1→Calls jG 55 #[.pointer (some ⟨m.M,0,none⟩),.int .i64 a,.int .i64 b] w1 (vB B w0 m (yR d a b))):=Hd (fun w1 hs=>by
    have hd:=HS0.o.post hs;exact tX hd HI2.o a b)
   clear c3 c4 HF2 HT2
   go_upto_region 35 with(go_at_call 54;(with_reducible refine HP.o.mono ?_);rintro e w1 ⟨rfl,hr⟩;have HB1:=Hd hr;clear hr)
   replace c1:=jA HB1.o c1;replace c2:=jA HB1.o c2;have HD1:=Hd (HD.o _ HB1.o)
   go_wp2_with(go_at_call 55;(with_reducible refine HD1.o.mono ?_);rintro e w2 ⟨rfl,hr⟩;have HR2:=Hd hr;clear hr)
   go_end0
   exact⟨rfl,_,HR2.o⟩
 have q10:(k==10)=false:=zb h10;have H10:=Hd h10;clear h10
 go_upto_region 36 with fail
 clear q10
 by_cases h11:k=11
 · as_aux_lemma=>
   subst h11;have HP:=Hd (YY a W);have HD:Hid (∀w1,Below W.heap.size W w1→Calls jG 57 #[.pointer (some ⟨m.M,0,none⟩),.int .i64 a] w1 (vB B w0 m (vX d a))):=Hd (fun w1 hs=>by
    have hd:=HS0.o.post hs;exact iI hd HI2.o a)
   clear c2 c3 c4 HF2 HT2
   go_upto_region 38 with(go_at_call 56;(with_reducible refine HP.o.mono ?_);rintro e w1 ⟨rfl,hr⟩;have HB1:=Hd hr;clear hr)
   replace c1:=jA HB1.o c1;have HD1:=Hd (HD.o _ HB1.o)
   go_wp2_with(go_at_call 57;(with_reducible refine HD1.o.mono ?_);rintro e w2 ⟨rfl,hr⟩;have HR2:=Hd hr;clear hr)
   go_end0
   exact⟨rfl,_,HR2.o⟩
 have q11:(k==11)=false:=zb h11;have H11:=Hd h11;clear h11
 go_upto_region 39 with fail
 clear q11
 by_cases h12:k=12
 · as_aux_lemma=>
   subst h12;have HP:=Hd (YX a W);have HD:Hid (∀w1,Below W.heap.size W w1→Calls jG 59 #[.pointer (some ⟨m.M,0,none⟩),.int .i64 a] w1 (vB B w0 m (pV d a))):=Hd (fun w1 hs=>by
    have hd:=HS0.o.post hs;exact oX hd HI2.o a)
   clear c2 c3 c4 HF2 HT2
   go_upto_region 41 with(go_at_call 58;(with_reducible refine HP.o.mono ?_);rintro e w1 ⟨rfl,hr⟩;have HB1:=Hd hr;clear hr)
   replace c1:=jA HB1.o c1;have HD1:=Hd (HD.o _ HB1.o)
   go_wp2_with(go_at_call 59;(with_reducible refine HD1.o.mono ?_);rintro e w2 ⟨rfl,hr⟩;have HR2:=Hd hr;clear hr)
   go_end0
   exact⟨rfl,_,HR2.o⟩
 have q12:(k==12)=false:=zb h12;have H12:=Hd h12;clear h12
 go_upto_region 42 with fail
 clear q12
 by_cases h13:k=13
 · as_aux_lemma=>
   subst h13;have HP:=Hd (ZS a W);have HD:Hid (∀w1,Below W.heap.size W w1→Calls jG 61 #[.pointer (some ⟨m.M,0,none⟩),.int .i64 a,.int .i64 0] w1 (vB B w0 m (yH d a))):=Hd (fun w1 hs=>by
    have hd:=HS0.o.post hs;exact xM hd HI2.o a)
   clear c2 c3 c4 HF2 HT2
   go_upto_region 44 with(go_at_call 60;(with_reducible refine HP.o.mono ?_);rintro e w1 ⟨rfl,hr⟩;have HB1:=Hd hr;clear hr)
   replace c1:=jA HB1.o c1;have HD1:=Hd (HD.o _ HB1.o)
   go_wp2_with(go_at_call 61;(with_reducible refine HD1.o.mono ?_);rintro e w2 ⟨rfl,hr⟩;have HR2:=Hd hr;clear hr)
   go_end0
   exact⟨rfl,_,HR2.o⟩
 have q13:(k==13)=false:=zb h13;have H13:=Hd h13;clear h13
 go_upto_region 45 with fail
 clear q13
 by_cases h14:k=14
 · as_aux_lemma=>
   subst h14;have HP:=Hd (VQ a W);have HD:Hid (∀w1,Below W.heap.size W w1→Calls jG 61 #[.pointer (some ⟨m.M,0,none⟩),.int .i64 a,.int .i64 1] w1 (vB B w0 m (pB d a))):=Hd (fun w1 hs=>by
    have hd:=HS0.o.post hs;exact xW hd HI2.o a)
   clear c2 c3 c4 HF2 HT2
   go_upto_region 47 with(go_at_call 62;(with_reducible refine HP.o.mono ?_);rintro e w1 ⟨rfl,hr⟩;have HB1:=Hd hr;clear hr)
   replace c1:=jA HB1.o c1;have HD1:=Hd (HD.o _ HB1.o)
   go_wp2_with(go_at_call 61;(with_reducible refine HD1.o.mono ?_);rintro e w2 ⟨rfl,hr⟩;have HR2:=Hd hr;clear hr)
   go_end0
   exact⟨rfl,_,HR2.o⟩
 have q14:(k==14)=false:=zb h14;have H14:=Hd h14;clear h14
 go_upto_region 48 with fail
 clear q14
 by_cases h15:k=15
 · as_aux_lemma=>
   subst h15;have HP:=Hd (VK a W);have HD:Hid (∀w1,Below W.heap.size W w1→Calls jG 61 #[.pointer (some ⟨m.M,0,none⟩),.int .i64 a,.int .i64 2] w1 (vB B w0 m (pP d a))):=Hd (fun w1 hs=>by
    have hd:=HS0.o.post hs;exact xH hd HI2.o a)
   clear c2 c3 c4 HF2 HT2
   go_upto_region 50 with(go_at_call 63;(with_reducible refine HP.o.mono ?_);rintro e w1 ⟨rfl,hr⟩;have HB1:=Hd hr;clear hr)
   replace c1:=jA HB1.o c1;have HD1:=Hd (HD.o _ HB1.o)
   go_wp2_with(go_at_call 61;(with_reducible refine HD1.o.mono ?_);rintro e w2 ⟨rfl,hr⟩;have HR2:=Hd hr;clear hr)
   go_end0
   exact⟨rfl,_,HR2.o⟩
 have q15:(k==15)=false:=zb h15;have H15:=Hd h15;clear h15
 go_upto_region 51 with fail
 clear q15
 by_cases h16:k=16
 · as_aux_lemma=>
   subst h16;have HP:=Hd (Ka a W);have HD:Hid (∀w1,Below W.heap.size W w1→Calls jG 65 #[.pointer (some ⟨m.M,0,none⟩),.int .i64 a,.int .i64 1] w1 (vB B w0 m (gF d a))):=Hd (fun w1 hs=>by
    have hd:=HS0.o.post hs;exact xU hd HI2.o a)
   clear c2 c3 c4 HF2 HT2
   go_upto_region 53 with(go_at_call 64;(with_reducible refine HP.o.mono ?_);rintro e w1 ⟨rfl,hr⟩;have HB1:=Hd hr;clear hr)
   replace c1:=jA HB1.o c1;have HD1:=Hd (HD.o _ HB1.o)
   go_wp2_with(go_at_call 65;(with_reducible refine HD1.o.mono ?_);rintro e w2 ⟨rfl,hr⟩;have HR2:=Hd hr;clear hr)
   go_end0
   exact⟨rfl,_,HR2.o⟩
 have q16:(k==16)=false:=zb h16;have H16:=Hd h16;clear h16
 go_upto_region 54 with fail
 clear q16
 by_cases h17:k=17
 · as_aux_lemma=>
   subst h17;have HP:=Hd (VJ a W);have HD:Hid (∀w1,Below W.heap.size W w1→Calls jG 65 #[.pointer (some ⟨m.M,0,none⟩),.int .i64 a,.int .i64 2] w1 (vB B w0 m (gR d a))):=Hd (fun w1 hs=>by
    have hd:=HS0.o.post hs;exact xG hd HI2.o a)
   clear c2 c3 c4 HF2 HT2
   go_upto_region 56 with(go_at_call 66;(with_reducible refine HP.o.mono ?_);rintro e w1 ⟨rfl,hr⟩;have HB1:=Hd hr;clear hr)
   replace c1:=jA HB1.o c1;have HD1:=Hd (HD.o _ HB1.o)
   go_wp2_with(go_at_call 65;(with_reducible refine HD1.o.mono ?_);rintro e w2 ⟨rfl,hr⟩;have HR2:=Hd hr;clear hr)
   go_end0
   exact⟨rfl,_,HR2.o⟩
 have q17:(k==17)=false:=zb h17;have H17:=Hd h17;clear h17
 go_upto_region 57 with fail
 clear q17
 by_cases h18:k=18
 · as_aux_lemma=>
   subst h18;have HP:=Hd (nScroll a W);have HD:Hid (∀w1,Below W.heap.size W w1→Calls jG 68 #[.pointer (some ⟨m.M,0,none⟩),.int .i64 a] w1 (vB B w0 m (bJ d a))):=Hd (fun w1 hs=>by
    have hd:=HS0.o.post hs;exact xX hd HI2.o a)
   clear c2 c3 c4 HF2 HT2
   go_upto_region 59 with(go_at_call 67;(with_reducible refine HP.o.mono ?_);rintro e w1 ⟨rfl,hr⟩;have HB1:=Hd hr;clear hr)
   replace c1:=jA HB1.o c1;have HD1:=Hd (HD.o _ HB1.o)
   go_wp2_with(go_at_call 68;(with_reducible refine HD1.o.mono ?_);rintro e w2 ⟨rfl,hr⟩;have HR2:=Hd hr;clear hr)
   go_end0
   exact⟨rfl,_,HR2.o⟩
 have q18:(k==18)=false:=zb h18;have H18:=Hd h18;clear h18
 go_upto_region 60 with fail
 clear q18
 by_cases h19:k=19
 · as_aux_lemma=>
   subst h19;have HP:=Hd (nKeep W);have HD:Hid (∀w1,Below W.heap.size W w1→Calls jG 69 #[.pointer (some ⟨m.M,0,none⟩)] w1 (vB B w0 m (cI d))):=Hd (fun w1 hs=>by
    have hd:=HS0.o.post hs;exact Ji hd HI2.o)
   clear c1 c2 c3 c4 HF2 HT2
   go_upto_region 62 with(go_at_call 17;(with_reducible refine HP.o.mono ?_);rintro e w1 ⟨rfl,hr⟩;have HB1:=Hd hr;clear hr)
   have HD1:=Hd (HD.o _ HB1.o)
   go_wp2_with(go_at_call 69;(with_reducible refine HD1.o.mono ?_);rintro e w2 ⟨rfl,hr⟩;have HR2:=Hd hr;clear hr)
   go_end0
   exact⟨rfl,_,HR2.o⟩
 have q19:(k==19)=false:=zb h19;have H19:=Hd h19;clear h19
 go_upto_region 63 with fail
 clear q19
 by_cases h20:k=20
 · as_aux_lemma=>
   subst h20;have HP:=Hd (qQq W);have HD:Hid (∀w1,Below W.heap.size W w1→Calls jG 70 #[.pointer (some ⟨m.M,0,none⟩)] w1 (vB B w0 m (gD d))):=Hd (fun w1 hs=>by
    have hd:=HS0.o.post hs;exact tV hd HI2.o)
   clear c1 c2 c3 c4 HF2 HT2
   go_upto_region 65 with(go_at_call 18;(with_reducible refine HP.o.mono ?_);rintro e w1 ⟨rfl,hr⟩;have HB1:=Hd hr;clear hr)
   have HD1:=Hd (HD.o _ HB1.o)
   go_wp2_with(go_at_call 70;(with_reducible refine HD1.o.mono ?_);rintro e w2 ⟨rfl,hr⟩;have HR2:=Hd hr;clear hr)
   go_end0
   exact⟨rfl,_,HR2.o⟩
 have q20:(k==20)=false:=zb h20;have H20:=Hd h20;clear h20
 go_upto_region 66 with fail
 clear q20
 by_cases h21:k=21
 · as_aux_lemma=>
   subst h21;have HP:=Hd (nFill W);have HD:Hid (∀w1,Below W.heap.size W w1→Calls jG 72 #[.pointer (some ⟨m.M,0,none⟩)] w1 (vB B w0 m (eE d))):=Hd (fun w1 hs=>by
    have hd:=HS0.o.post hs;exact Jl hd HI2.o)
   clear c1 c2 c3 c4 HF2 HT2
   go_upto_region 68 with(go_at_call 71;(with_reducible refine HP.o.mono ?_);rintro e w1 ⟨rfl,hr⟩;have HB1:=Hd hr;clear hr)
   have HD1:=Hd (HD.o _ HB1.o)
   go_wp2_with(go_at_call 72;(with_reducible refine HD1.o.mono ?_);rintro e w2 ⟨rfl,hr⟩;have HR2:=Hd hr;clear hr)
   go_end0
   exact⟨rfl,_,HR2.o⟩
 have q21:(k==21)=false:=zb h21;have H21:=Hd h21;clear h21
 go_upto_region 69 with fail
 clear q21
 by_cases h22:k=22
 · as_aux_lemma=>
   subst h22;have HP:=Hd (nReset W);have HD:Hid (∀w1,Below W.heap.size W w1→Calls jG 74 #[.pointer (some ⟨m.M,0,none⟩)] w1 (vB B w0 m (fW d))):=Hd (fun w1 hs=>by
    have hd:=HS0.o.post hs;exact QB hd HI2.o)
   clear c1 c2 c3 c4 HF2 HT2
   go_upto_region 71 with(go_at_call 73;(with_reducible refine HP.o.mono ?_);rintro e w1 ⟨rfl,hr⟩;have HB1:=Hd hr;clear hr)
   have HD1:=Hd (HD.o _ HB1.o)
   go_wp2_with(go_at_call 74;(with_reducible refine HD1.o.mono ?_);rintro e w2 ⟨rfl,hr⟩;have HR2:=Hd hr;clear hr)
   go_end0
   exact⟨rfl,_,HR2.o⟩
 have q22:(k==22)=false:=zb h22;have H22:=Hd h22;clear h22;clear q22;exact absurd HK.o (by have :=H0.o;have :=H1.o;have :=H2.o;have :=H3.o;have :=H4.o;have :=H5.o;have :=H6.o;have :=H7.o;have :=H8.o;have :=H9.o;have :=H10.o;have :=H11.o;have :=H12.o;have :=H13.o;have :=H14.o;have :=H15.o;have :=H16.o;have :=H17.o;have :=H18.o;have :=H19.o;have :=H20.o;have :=H21.o;have :=H22.o;omega)
end
end Go.Proofs.YtjcpdcncfjkejaaGreatDoor
