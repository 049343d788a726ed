/- Joined by a tool of this claim out of smaller texts. Conditions: as stated. -/
import Derived.Test.YtaefcahblmopfaaGreatDoorDj12
import Derived.Maps.AppendAt
set_option linter.unusedVariables false
set_option linter.unusedSimpArgs false
set_option maxRecDepth 100000
open Go.Lib renaming hid → Hd
open List renaming setIfInBounds_toArray → jZ, set_cons_zero → jX, set_cons_succ → jY, getElem?_eq_getElem → jN, getElem?_eq_some_iff → jP, drop_succ_cons → jL, take_succ_cons → jS, drop_zero → jO, take_zero → kK
open Go.Proofs.Tryz renaming prog → jG
open Go.RowKit.Below renaming refl → jU
open Nat renaming le_refl → jD, zero_le → kM, zero_add → kP, add_zero → uA
open Go.IntWalk renaming i64_in → jF
open Go.IntKind renaming i64 → jE
open ByteArray renaming empty → kH
namespace Go.Proofs.YtaefcahblmopfaaGreatDoor
open Go.RowKit
def bA(k n:Int):Bool:=decide (k=0∧n=0∨k=1∧0≤n∧n<256∨k=2∧0≤n∧n<16777216)
def mB(n f:Int):Bool:=if n<0 then false else decide (n/f%2=1)
def sO(fk fn bk bn fl:Int):Bool:=bA fk fn&&bA bk bn&&decide (0≤fl)&&decide (fl<1024)&& !(mB fl 8&&mB fl 256)
theorem rW(k n:Int):(k=0∧(n=0∧bA k n=true∨n≠0∧bA k n=false))∨(k=1∧(0≤n∧n<256∧bA k n=true∨n<0∧bA k n=false∨256≤n∧bA k n=false))∨(k=2∧(0≤n∧n<16777216∧bA k n=true∨n<0∧bA k n=false∨16777216≤n∧bA k n=false))∨(k≠0∧k≠1∧k≠2∧bA k n=false):=by
 unfold bA;simp only[decide_eq_true_eq,decide_eq_false_iff_not];omega
theorem aA(k n:Int)(w:World):Calls jG 60 #[.agg #[.int .i64 k,.int .i64 n]] w fun e w'=>e=.returned (.bool (bA k n))∧Below w.heap.size w w':=by
 have HC:=rW k n;generalize bA k n=b at HC ⊢;rcases HC with⟨rfl,⟨rfl,rfl⟩|⟨h,rfl⟩⟩|⟨rfl,⟨h0,h1,rfl⟩|⟨h0,rfl⟩|⟨h0,rfl⟩⟩|⟨rfl,⟨h0,h1,rfl⟩|⟨h0,rfl⟩|⟨h0,rfl⟩⟩|⟨h0,h1,h2,rfl⟩
 all_goals
  go_enter Tryz.func60,Tryz.ntmps60
  go_wp2
  go_ret
  refine⟨?_,by repeat(first|exact jU _ _|refine jH ?_ _)⟩;simp
  try omega
theorem Ql(k n:Int)(hc:bA k n=true)(w:World):Calls jG 164 #[.agg #[.int .i64 k,.int .i64 n]] w fun e w'=>e=.returned (.bool true)∧Below w.heap.size w w':=by
 have HC:=rW k n;rw[hc]at HC;clear hc;rcases HC with⟨rfl,⟨rfl,_⟩|⟨_,h⟩⟩|⟨rfl,⟨h0,h1,_⟩|⟨_,h⟩|⟨_,h⟩⟩|⟨rfl,⟨h0,h1,_⟩|⟨_,h⟩|⟨_,h⟩⟩|⟨_,_,_,h⟩
 all_goals try(cases h;done)
 all_goals
  go_enter Tryz.func164,Tryz.ntmps164
  go_wp2
  go_ret
  refine⟨?_,by repeat(first|exact jU _ _|refine jH ?_ _)⟩;simp
  try omega
theorem Jg(n f:Int)(w:World)(h0:0≤n)(h1:n<1024)(hf:0<f)(hf2:f≤1024):Calls jG 61 #[.int .i64 n,.int .i64 f] w fun e w'=>e=.returned (.bool (mB n f))∧w=w':=by
 have hq:n.tdiv f=n/f:=Int.tdiv_eq_ediv_of_nonneg h0;have hqn:0≤n/f:=Int.ediv_nonneg h0 qJ;have hql:n/f≤n:=Int.ediv_le_self _ h0;have hr:(n/f).tmod 2=n/f%2:=Int.tmod_eq_emod_of_nonneg hqn;have hfz:(f==0)=false:=beq_eq_false_iff_ne.2 qJ;have hf0:¬f=0:=by omega
 have hn:¬n<0:=by omega
 have hw1:jE.wrap (n/f)=n/f:=jF _ qJ;have hw2:jE.wrap (n/f%2)=n/f%2:=jF _ qJ;have he:mB n f=(n/f%2==1):=by
  unfold mB;rw[if_neg hn]
  by_cases h:n/f%2=1
  · rw[h];rfl
  · rw[beq_eq_false_iff_ne.2 h,decide_eq_false h]
 rw[he];clear he
 go_enter Tryz.func61,Tryz.ntmps61
 go_wp2
 go_ret
 exact⟨rfl,rfl⟩
set_option maxHeartbeats 1600000 in
theorem wG(fk fn bk bn fl:Int)(w:World):Calls jG 32 #[.agg #[.int .i64 fk,.int .i64 fn,.int .i64 bk,.int .i64 bn,.int .i64 fl]] w fun e w'=>e=.returned (.bool (sO fk fn bk bn fl))∧Below w.heap.size w w':=by
 have HF:=Hd (fun w=>aA fk fn w);have HB:=Hd (fun w=>aA bk bn w);unfold sO;obtain⟨b1,hb1⟩:∃b,bA fk fn=b:=⟨_,rfl⟩;obtain⟨b2,hb2⟩:∃b,bA bk bn=b:=⟨_,rfl⟩;rw[hb1]at HF ⊢;rw[hb2]at HB ⊢;clear hb1 hb2;cases b1
 · go_enter Tryz.func32,Tryz.ntmps32
   go_wp2_with(go_at_call 60;refine(HF.o _).mono ?_;rintro e w1 ⟨rfl,hb1⟩;have hB1:=jW (show Below w.heap.size w _ from by repeat(first|exact jU _ _|refine jH ?_ _)) hb1;have e2:=(uY hb1 (jT rfl) 2 _ rfl).1;have e3:=(uY hb1 (jT rfl) 3 _ rfl).1;have e4:=(uY hb1 (jT rfl) 4 _ rfl).1)
   go_ret
   exact⟨by simp,hB1⟩
 cases b2
 · go_enter Tryz.func32,Tryz.ntmps32
   go_wp2_with(first|(go_at_call 60;(with_reducible refine(HF.o _).mono ?_);rintro e w1 ⟨rfl,hb1⟩;have hB1:=jW (show Below w.heap.size w _ from by repeat(first|exact jU _ _|refine jH ?_ _)) hb1;have e2:=(uY hb1 (jT rfl) 2 _ rfl).1;have e3:=(uY hb1 (jT rfl) 3 _ rfl).1;have e4:=(uY hb1 (jT rfl) 4 _ rfl).1)|(go_at_call 60;(with_reducible refine(HB.o _).mono ?_);rintro e w2 ⟨rfl,hb2⟩;have hB2:=jW (show Below w.heap.size w _ from by repeat(first|exact hB1|refine jH ?_ _)) hb2;have f4:=kZ hb2 e4))
   go_ret
   exact⟨by simp,hB2⟩
 by_cases h0:0≤fl
 rotate_left
 · have h0':fl<0:=by omega
   go_enter Tryz.func32,Tryz.ntmps32
   go_wp2_with(first|(go_at_call 60;(with_reducible refine(HF.o _).mono ?_);rintro e w1 ⟨rfl,hb1⟩;have hB1:=jW (show Below w.heap.size w _ from by repeat(first|exact jU _ _|refine jH ?_ _)) hb1;have e2:=(uY hb1 (jT rfl) 2 _ rfl).1;have e3:=(uY hb1 (jT rfl) 3 _ rfl).1;have e4:=(uY hb1 (jT rfl) 4 _ rfl).1)|(go_at_call 60;(with_reducible refine(HB.o _).mono ?_);rintro e w2 ⟨rfl,hb2⟩;have hB2:=jW (show Below w.heap.size w _ from by repeat(first|exact hB1|refine jH ?_ _)) hb2;have f4:=kZ hb2 e4))
   go_ret
   refine⟨?_,hB2⟩;rw[decide_eq_false (show ¬0≤fl by omega)];simp
 by_cases h1:fl<1024
 rotate_left
 · have h1':1024≤fl:=by omega
   go_enter Tryz.func32,Tryz.ntmps32
   go_wp2_with(first|(go_at_call 60;(with_reducible refine(HF.o _).mono ?_);rintro e w1 ⟨rfl,hb1⟩;have hB1:=jW (show Below w.heap.size w _ from by repeat(first|exact jU _ _|refine jH ?_ _)) hb1;have e2:=(uY hb1 (jT rfl) 2 _ rfl).1;have e3:=(uY hb1 (jT rfl) 3 _ rfl).1;have e4:=(uY hb1 (jT rfl) 4 _ rfl).1)|(go_at_call 60;(with_reducible refine(HB.o _).mono ?_);rintro e w2 ⟨rfl,hb2⟩;have hB2:=jW (show Below w.heap.size w _ from by repeat(first|exact hB1|refine jH ?_ _)) hb2;have f4:=kZ hb2 e4))
   go_ret
   refine⟨?_,hB2⟩;rw[decide_eq_false (show ¬fl<1024 by omega)];simp
 have H8:=Hd (fun w=>Jg fl 8 w h0 h1 qJ qJ);have H256:=Hd (fun w=>Jg fl 256 w h0 h1 qJ qJ);obtain⟨b3,hb3⟩:∃b,mB fl 8=b:=⟨_,rfl⟩;obtain⟨b4,hb4⟩:∃b,mB fl 256=b:=⟨_,rfl⟩;rw[hb3]at H8 ⊢;rw[hb4]at H256 ⊢;clear hb3 hb4;cases b3<;>cases b4<;>
 · go_enter Tryz.func32,Tryz.ntmps32
   go_wp2_with(first|(go_at_call 60;(with_reducible refine(HF.o _).mono ?_);rintro e w1 ⟨rfl,hb1⟩;have hB1:=jW (show Below w.heap.size w _ from by repeat(first|exact jU _ _|refine jH ?_ _)) hb1;have e2:=(uY hb1 (jT rfl) 2 _ rfl).1;have e3:=(uY hb1 (jT rfl) 3 _ rfl).1;have e4:=(uY hb1 (jT rfl) 4 _ rfl).1)|(go_at_call 60;(with_reducible refine(HB.o _).mono ?_);rintro e w2 ⟨rfl,hb2⟩;have hB2:=jW (show Below w.heap.size w _ from by repeat(first|exact hB1|refine jH ?_ _)) hb2;have f4:=kZ hb2 e4)|(go_at_call 61;(with_reducible refine(H8.o _).mono ?_);rintro e w1 ⟨rfl,rfl⟩)|(go_at_call 61;(with_reducible refine(H256.o _).mono ?_);rintro e w1 ⟨rfl,rfl⟩))
   go_ret
   exact⟨by simp[h0,h1],hB2⟩
theorem Yu:∀f:Fin 1024,bits .andNot .i64 (f.val:Int) 1023=0∧(mB (f.val:Int) 8=true∧mB (f.val:Int) 256=true∨¬bits .and .i64 (f.val:Int) 264=264):=by decide +kernel
theorem Qm(fk fn bk bn fl:Int)(h:sO fk fn bk bn fl=true)(w:World):Calls jG 93 #[.agg #[.int .i64 fk,.int .i64 fn,.int .i64 bk,.int .i64 bn,.int .i64 fl]] w fun e w'=>e=.returned (.bool true)∧Below w.heap.size w w':=by
 unfold sO at h;simp only[Bool.and_eq_true,decide_eq_true_eq,Bool.not_eq_true']at h;obtain⟨⟨⟨⟨hf,hb⟩,h0⟩,h1⟩,h2⟩:=h;have HF:=Hd (fun w=>Ql fk fn hf w);have HB:=Hd (fun w=>Ql bk bn hb w);have hfl:=Yu ⟨fl.toNat,by omega⟩;rw[show(((⟨fl.toNat,by omega⟩:Fin 1024).val:Nat):Int)=fl from by show((fl.toNat:Nat):Int)=fl;omega]at hfl;obtain⟨hx,hy⟩:=hfl;have hy':¬bits .and .i64 fl 264=264:=by
  rcases hy with⟨a,b⟩|h
  · rw[a,b]at h2;cases h2
  · exact h
 clear hf hb h0 h1 h2 hy
 go_enter Tryz.func93,Tryz.ntmps93
 go_wp2_with(first|(go_at_call 164;(with_reducible refine(HF.o _).mono ?_);rintro e w1 ⟨rfl,hb1⟩;have hB1:=jW (show Below w.heap.size w _ from by repeat(first|exact jU _ _|refine jH ?_ _)) hb1;have e2:=(uY hb1 (jT rfl) 2 _ rfl).1;have e3:=(uY hb1 (jT rfl) 3 _ rfl).1;have e4:=(uY hb1 (jT rfl) 4 _ rfl).1)|(go_at_call 164;(with_reducible refine(HB.o _).mono ?_);rintro e w2 ⟨rfl,hb2⟩;have hB2:=jW (show Below w.heap.size w _ from by repeat(first|exact hB1|refine jH ?_ _)) hb2;have f4:=kZ hb2 e4))
 go_ret
 refine⟨?_,hB2⟩;simp[hx,hy']
def wV(c:Cl):Prop:=(c.r=0∧c.more=kH∧c.half=0)∨(c.r≠0∧fD c.more∧(c.half=0∧vB c.r=1∨c.half=1∧vB c.r=2∨c.half=2∧vB c.r=2))
def gF(c:Cl):Prop:=wV c∧sO c.fk c.fn c.bk c.bn c.fl=true∧(c.r=0→c.fk=0∧c.fn=0∧c.fl=0)
set_option maxHeartbeats 1600000 in
theorem qQe(c:Cl)(h:wV c)(w:World):Calls jG 92 #[clV c] w fun e w'=>e=.returned (.bool true)∧Below w.heap.size w w':=by
 obtain⟨r,more,half,fk,fn,bk,bn,fl⟩:=c;unfold clV;rcases h with⟨h1,h2,h3⟩|⟨h1,h2,h3⟩
 · simp only at h1 h2 h3;subst h1 h2 h3
   go_enter Tryz.func92,Tryz.ntmps92
   go_wp2
   go_ret
   exact⟨by first|rfl|simp,by repeat(first|exact jU _ _|refine jH ?_ _)⟩
 · simp only at h1 h2 h3;have HM:=Hd (fun w=>UK more h2 w);have HW:=Hd (fun w=>cT r w);clear h2;rcases h3 with⟨rfl,h3⟩|⟨rfl,h3⟩|⟨rfl,h3⟩
   all_goals
    rw[h3]at HW;clear h3
    go_enter Tryz.func92,Tryz.ntmps92
    go_wp2_with(first|(go_at_call 162;(with_reducible refine(HW.o _).mono ?_);rintro e w1 ⟨rfl,hb1⟩;have e1:=(uY hb1 (jT rfl) 1 _ rfl).1;have hB1:=jW (show Below w.heap.size w _ from by repeat(first|exact jU _ _|refine jH ?_ _)) hb1)|(go_at_call 163;(with_reducible refine(HM.o _).mono ?_);rintro e w2 ⟨rfl,hb2⟩))
    go_ret
    exact⟨by first|rfl|simp,jW hB1 hb2⟩
set_option maxHeartbeats 1600000 in
theorem U5(c:Cl)(h:gF c)(w:World):Calls jG 50 #[clV c] w fun e w'=>e=.returned (.bool true)∧Below w.heap.size w w':=by
 obtain⟨r,more,half,fk,fn,bk,bn,fl⟩:=c;unfold clV;obtain⟨hc,ha,h0⟩:=h;have hh:¬half=3:=by rcases hc with⟨_,_,h⟩|⟨_,_,⟨h,_⟩|⟨h,_⟩|⟨h,_⟩⟩<;>(simp only at h;omega)
 simp only at ha h0;have HA:=Hd (fun w=>Qm fk fn bk bn fl ha w);clear hc ha
 by_cases hr:r=0
 · obtain⟨rfl,rfl,rfl⟩:=h0 hr;subst hr;clear h0
   go_enter Tryz.func50,Tryz.ntmps50
   go_wp2_with(go_at_call 93;(with_reducible refine(HA.o _).mono ?_);rintro e w2 ⟨rfl,hb2⟩)
   go_ret
   exact⟨by first|rfl|simp[hh],jW qA hb2⟩
 · clear h0
   go_enter Tryz.func50,Tryz.ntmps50
   go_wp2_with(go_at_call 93;(with_reducible refine(HA.o _).mono ?_);rintro e w2 ⟨rfl,hb2⟩)
   go_ret
   exact⟨by first|rfl|simp[hh],jW qA hb2⟩
theorem nN{w:World}{base g c:Nat}{X:List Cl}(h:CrO w base g c X):pT kV 8 w (some ⟨g,0,none⟩) X:=fun _=>by
 refine⟨g,0,rfl,fun i x hi j v hj=>?_⟩;rw[kP];exact(gS h (i:=i*8+j) (by rw[yN vQ X i x j hi (by have :=(jP.1 hj).1;rw[vQ]at this;exact this)];exact hj)).1
theorem iW{w:World}{A:Option Addr}{l:List Cl}(h:zL w A l):pT kV 8 w A l:=fun h0=>by
 obtain⟨b,off,hA,hc⟩:=h h0;refine⟨b,off,hA,fun i c hi j v hv=>?_⟩;obtain⟨c0,c1,c2,c3,c4,c5,c6,c7⟩:=hc i c hi;rcases j with _|_|_|_|_|_|_|_|j<;>simp[kV]at hv<;>subst hv<;>assumption
set_option maxHeartbeats 3200000 in
theorem Yw(A:Option Addr)(l:List Cl)(ca:Nat)(w:World)(hl:zL w A l)(h0:0<l.length)(hz:l.length≤1000)(hm:uJ l=l)(hok:∀c∈l,wV c):
 Calls jG 49 #[.slice A l.length ca] w fun e w'=>e=.returned (.bool true)∧Below w.heap.size w w':=by
 have HM:=Hd (KP A l ca w (iW hl) h0 qJ);rw[hm]at HM;have HL:=Hd hl;have HOK:=Hd hok;clear hl hm hok
 go_enter Tryz.func49,Tryz.ntmps49
 go_wp2_with(go_at_call 56;(with_reducible refine HM.o.mono ?_);rintro e w1 ⟨g,cap,rfl,hcr,hb1⟩)
 have HG:=Hd (nN hcr h0);have HB1:=Hd hb1;clear hcr hb1
 go_loopw [8] (fun i wr=>∃k:Nat,k≤l.length∧i=.int .i64 k∧Below w1.heap.size w1 wr) (fun i _=>l.length-(intOf i).toNat)
 case atStart=>exact⟨0,kM _,rfl,jU _ _⟩
 case round=>
  obtain⟨k,hk,rfl,hB⟩:=hrel
  by_cases hlt:k<l.length
  · obtain⟨g',off',hg',hcm⟩:=HG.o;simp only[Option.some.injEq,Addr.mk.injEq]at hg';obtain⟨rfl,rfl,-⟩:=hg';obtain⟨b,off,rfl,hcl⟩:=HL.o h0;have hget:=jN hlt;have hm:=hcm k _ hget;have hr:=((hcl k _ hget).below HB1.o).below hB;have hcok:=HOK.o _ (List.getElem_mem hlt);generalize l[k]=c at hm hr hcok;clear hcm hcl hget;have HF:=Hd (fun w=>qQe c hcok w);clear hcok;obtain⟨r0,r1,r2,r3,r4,r5,r6,r7⟩:=hr;have m0:=kZ hB (hm 0 _ rfl);have m1:=kZ hB (hm 1 _ rfl);have m2:=kZ hB (hm 2 _ rfl);have m3:=kZ hB (hm 3 _ rfl);have m4:=kZ hB (hm 4 _ rfl);have m5:=kZ hB (hm 5 _ rfl);have m6:=kZ hB (hm 6 _ rfl);have m7:=kZ hB (hm 7 _ rfl);clear hm;simp only[kP,uA]at m0 m1 m2 m3 m4 m5 m6 m7;obtain⟨cr,cm,chf,c3,c4,c5,c6,c7⟩:=c;unfold clV at HF;simp only at HF r0 r1 r2 r3 r4 r5 r6 r7 m0 m1 m2 m3 m4 m5 m6 m7
    go_upto_region 4 with fail
    have hBA:=(jU wr.heap.size wr).alloc (jD _) (.cells #[.int .i32 cr,.string cm,.int .i64 chf,.int .i64 c3,.int .i64 c4,.int .i64 c5,.int .i64 c6,.int .i64 c7] 65);have n0:=(at_ (jT (W:=wr) (o:=(.cells #[.int .i32 cr,.string cm,.int .i64 chf,.int .i64 c3,.int .i64 c4,.int .i64 c5,.int .i64 c6,.int .i64 c7] 65)) rfl) 0 _ rfl).1;have n1:=(at_ (jT (W:=wr) (o:=(.cells #[.int .i32 cr,.string cm,.int .i64 chf,.int .i64 c3,.int .i64 c4,.int .i64 c5,.int .i64 c6,.int .i64 c7] 65)) rfl) 1 _ rfl).1;have n2:=(at_ (jT (W:=wr) (o:=(.cells #[.int .i32 cr,.string cm,.int .i64 chf,.int .i64 c3,.int .i64 c4,.int .i64 c5,.int .i64 c6,.int .i64 c7] 65)) rfl) 2 _ rfl).1;have n3:=(at_ (jT (W:=wr) (o:=(.cells #[.int .i32 cr,.string cm,.int .i64 chf,.int .i64 c3,.int .i64 c4,.int .i64 c5,.int .i64 c6,.int .i64 c7] 65)) rfl) 3 _ rfl).1;have n4:=(at_ (jT (W:=wr) (o:=(.cells #[.int .i32 cr,.string cm,.int .i64 chf,.int .i64 c3,.int .i64 c4,.int .i64 c5,.int .i64 c6,.int .i64 c7] 65)) rfl) 4 _ rfl).1;have n5:=(at_ (jT (W:=wr) (o:=(.cells #[.int .i32 cr,.string cm,.int .i64 chf,.int .i64 c3,.int .i64 c4,.int .i64 c5,.int .i64 c6,.int .i64 c7] 65)) rfl) 5 _ rfl).1
    have n6:=(at_ (jT (W:=wr) (o:=(.cells #[.int .i32 cr,.string cm,.int .i64 chf,.int .i64 c3,.int .i64 c4,.int .i64 c5,.int .i64 c6,.int .i64 c7] 65)) rfl) 6 _ rfl).1;have n7:=(at_ (jT (W:=wr) (o:=(.cells #[.int .i32 cr,.string cm,.int .i64 chf,.int .i64 c3,.int .i64 c4,.int .i64 c5,.int .i64 c6,.int .i64 c7] 65)) rfl) 7 _ rfl).1;replace r0:=kZ hBA r0;replace r1:=kZ hBA r1;replace r2:=kZ hBA r2;replace r3:=kZ hBA r3;replace r4:=kZ hBA r4;replace r5:=kZ hBA r5;replace r6:=kZ hBA r6;replace r7:=kZ hBA r7;have HB2:=Hd (jH hB (.cells #[.int .i32 cr,.string cm,.int .i64 chf,.int .i64 c3,.int .i64 c4,.int .i64 c5,.int .i64 c6,.int .i64 c7] 65));have hsN:=World.size_alloc wr (.cells #[.int .i32 cr,.string cm,.int .i64 chf,.int .i64 c3,.int .i64 c4,.int .i64 c5,.int .i64 c6,.int .i64 c7] 65);clear hBA m0 m1 m2 m3 m4 m5 m6 m7;generalize hW:wr.alloc (.cells #[.int .i32 cr,.string cm,.int .i64 chf,.int .i64 c3,.int .i64 c4,.int .i64 c5,.int .i64 c6,.int .i64 c7] 65)=W at n0 n1 n2 n3 n4 n5 n6 n7 r0 r1 r2 r3 r4 r5 r6 r7 HB2 hsN ⊢;clear hW;obtain⟨N,hN⟩:∃N,wr.heap.size=N:=⟨_,rfl⟩;rw[hN]at n0 n1 n2 n3 n4 n5 n6 n7 hsN ⊢;clear hN
    refine kW 5 (fun w'=>Below W.heap.size W w'∧w'.cell? ⟨N,0,none⟩=some (.int .i32 cr)∧w'.cell? ⟨N,1,none⟩=some (.string cm)∧w'.cell? ⟨N,2,none⟩=some (.int .i64 chf)∧w'.cell? ⟨N,3,none⟩=some (.int .i64 c3)∧w'.cell? ⟨N,4,none⟩=some (.int .i64 c4)∧w'.cell? ⟨N,5,none⟩=some (.int .i64 c5)∧w'.cell? ⟨N,6,none⟩=some (.int .i64 c6)∧w'.cell? ⟨N,7,none⟩=some (.int .i64 c7)∧w'.cell? ⟨b,off+k*8,none⟩=some (.int .i32 cr)∧w'.cell? ⟨b,off+k*8+1,none⟩=some (.string cm)∧w'.cell? ⟨b,off+k*8+2,none⟩=some (.int .i64 chf)∧w'.cell? ⟨b,off+k*8+3,none⟩=some (.int .i64 c3)∧w'.cell? ⟨b,off+k*8+4,none⟩=some (.int .i64 c4)∧w'.cell? ⟨b,off+k*8+5,none⟩=some (.int .i64 c5)∧w'.cell? ⟨b,off+k*8+6,none⟩=some (.int .i64 c6)∧w'.cell? ⟨b,off+k*8+7,none⟩=some (.int .i64 c7)) qQ qQ ?_ ?_
    · exact⟨(jU _ _).drew,n0,n1,n2,n3,n4,n5,n6,n7,r0,r1,r2,r3,r4,r5,r6,r7⟩
    simp only[jS,kK,jL,jO]
    repeat(
     (first
      |refine kF qK ?_
      |(refine kT ?_ qK ?_ ?_;rotate_left;(focus(intro w' hS;obtain⟨_,_,_,_,_,_,_,_,_,_,_,_,_,_,_,_,_⟩:=hS;go_simp;first|done|with_reducible rfl))))
     simp only[Act.put,jZ,jX,jY])
    refine kE (fun w' hS=>?_);obtain⟨hb2,n0',n1',n2',n3',n4',n5',n6',n7',_⟩:=hS;have HB3:=Hd (jW HB2.o hb2);clear hb2
    go_wp2_with(go_at_call 92;(with_reducible refine(HF.o _).mono ?_);rintro e w3 ⟨rfl,hb3⟩)
    go_roundw
    case rel=>exact⟨k+1,by omega,by go_num,jW HB3.o hb3⟩
    case measure=>simp[intOf];omega
  · obtain rfl:k=l.length:=by omega
    go_wp2
    go_ret
    exact⟨by first|rfl|simp,jW HB1.o hB⟩
theorem Je{w:World}{base n size:Nat}{e:TypeId}{v:Value}{xs:List Value}(h:w.ownsRow base e size v n xs)(hn:0<n):∃g c,v=.slice (some ⟨g,0,none⟩) n c:=by
 rcases h.2 with⟨-,h0⟩|⟨g,cap,cur,rfl,-⟩
 · omega
 · exact⟨g,cap,rfl⟩
section
variable {P:Program}
theorem gX{ops:Array Oper}{rest:List Oper}{o:Oper}{a:Act}{w:World}{Q:Exit→Act→World→Prop}(hgd:o.guard=none)(s x:Operand)(t:TypeId)
 (ho:o.op=.call {callee:=.builtin .append,args:=#[s,x],argTypes:=#[t,t]}) (base:Nat) (e:TypeId) (i:TypeInfo) (z:Value) (size bytes:Nat) (ht:P.underlying t=some (.slice e)) (hi:P.info? e=some i) (hz:i.zero=some z) (hsize:i.size=size) (hby:i.bytes=bytes) (hzs:z.cells.size=size) (hsz:0<size)
 (v:Value) (n:Nat) (xs:List Value) (hs:a.eval s=v) (hown:w.ownsRow base e size v n xs) (ad:Addr) (m c:Nat) (news:List Value) (hx:a.eval x=.slice (some ad) m c) (hl:news.length=m*size) (hnews:∀j u,news[j]? =some u→w.cell? (ad.add j)=some u) (h1:∀u∈news,u.oneCell'=true)
 (h63:n+m≤maxLen) (hbytes:(n+m)*bytes≤140737488355328) (hbase:base≤w.heap.size)
 (h:∀v' w',w'.ownsRow base e size v' (n+m) (xs++news)→w.grownBy w' v.ownBlock→(∀g,v'.ownBlock=some g→v.ownBlock=some g∨w.heap.size≤g)→wpList P ops Q rest (a.put o.dst v') w'):wpList P ops Q (o::rest) a w:=by
 obtain⟨v',w',hr,h2,h3,-,h4⟩:=run_append_own_at (P:=P) w base t o.type e i z size bytes ht hi hz hsize hby hzs hsz v n xs hown ad m c news hl hnews h1 h63 hbytes hbase;refine wpList_plain hgd fun K hK=>?_;unfold Oper.wp execOp;simp only[ho,resolve,invoke,builtin,Sem.run_bind,Sem.run_pure,Result.andThen_ok,List.map_toArray,List.map_cons,List.map_nil,hs,hx,hr];exact hK _ _ (h _ _ h2 h3 (fun g hg=>by
  rcases h4 with h4|h4
  · exact .inl (by rw[←h4];exact hg)
  · rw[h4]at hg;injection hg with hg;exact .inr qJ))
end
end Go.Proofs.YtaefcahblmopfaaGreatDoor
