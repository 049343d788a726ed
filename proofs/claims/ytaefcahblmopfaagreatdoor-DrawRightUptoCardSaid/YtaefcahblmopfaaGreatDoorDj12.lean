/- Joined by a tool of this claim out of smaller texts. Conditions: as stated. -/
import Derived.Test.YtaefcahblmopfaaGreatDoorDj11
import Derived.Maps.OwnIn
import Derived.Lib.ConvBytes
import Derived.LoopN
import Derived.Deep.OwnRows
set_option linter.unusedVariables false
set_option linter.unusedSimpArgs false
set_option maxRecDepth 100000
open Go.Lib renaming hid → Hd
open Go.Proofs.Tryz renaming prog → jG
open Go.RowKit.Below renaming refl → jU
open List renaming mem_singleton → jM, getElem?_eq_getElem → jN, getElem?_eq_some_iff → jP, length_append → jC, take_succ_eq_append_getElem → kQ, getD_eq_getElem?_getD → kX, append_assoc → kG, mem_append → kU, replicate → kN, getElem?_eq_none → uZ, getElem?_map → uX, length_replicate → uG, ext_getElem? → gM
open Nat renaming le_refl → jD, le_trans → jI, zero_le → kM, zero_add → kP
open Go.IntWalk renaming i64_in → jF
open Go.IntKind renaming i64 → jE
open And renaming intro → kY
open ByteArray renaming empty → kH
open Go.World renaming ownsRow_nil → kS
namespace Go.Proofs.YtaefcahblmopfaaGreatDoor
def zG:Dk→List Int→List Int×Dk
 |d,[]=>([],d)
 |d,c::cs=>((gG d c).1++(zG (gG d c).2 cs).1,(zG (gG d c).2 cs).2)
theorem wY(d:Dk)(a b:List Int):zG d (a++b)=((zG d a).1++(zG (zG d a).2 b).1,(zG (zG d a).2 b).2):=by
 induction a generalizing d with
 |nil=>simp[zG]
 |cons c a ih=>simp[zG,ih]
theorem aR(d:Dk)(l:List Int){i:Nat}(hi:i<l.length):
 zG d (l.take (i+1))=((zG d (l.take i)).1++(gG (zG d (l.take i)).2 l[i]).1,(gG (zG d (l.take i)).2 l[i]).2):=by
 rw[kQ hi,wY];simp[zG]
def rB(bs:List Int):List Int:=(zG ⟨0,0,0,0,0⟩ bs).1++(dU (zG ⟨0,0,0,0,0⟩ bs).2).1
theorem JR(d:Dk)(c:Int):(gG d c).1.length≤2:=by
 have hb:∀d:Dk,(pB d c).1.length≤1:=fun d=>by
  unfold pB
  split
  · simp
  split
  · simp
  · simp
 unfold gG
 split
 · have :=hb d;omega
 split
 · have :=hb (cF d);simp;omega
 split
 · simp
 · simp
theorem runG_le(d:Dk)(l:List Int):(zG d l).1.length≤2*l.length:=by
 induction l generalizing d with
 |nil=>simp[zG]
 |cons c l ih=>have :=ih (gG d c).2;have :=JR d c;simp[zG];omega
theorem runG_ok(d:Dk)(l:List Int)(hd:DkOk d)(hl:∀x∈l,0≤x∧x≤255):DkOk (zG d l).2:=by
 induction l generalizing d with
 |nil=>exact hd
 |cons c l ih=>exact ih _ (hd.step (hl c (List.mem_cons_self ..))) (fun x hx=>hl x (List.mem_cons_of_mem _ hx))
def VH(d:Dk)(p:List Int):Prop:=
 (d.need=0∧d.hv=0∧p=[])
 ∨(∃c,194≤c∧c<224∧d.n=c-192∧d.need=1∧d.hv=1∧d.lo=128∧d.hi=191∧p=[c])
 ∨(∃c,224≤c∧c<240∧d.n=c-224∧d.need=2∧d.hv=1∧(c=224→d.lo=160)∧(c≠224→d.lo=128)∧(c=237→d.hi=159)∧(c≠237→d.hi=191)∧p=[c])
 ∨(∃c x,224≤c∧c<240∧128≤x∧x≤191∧(c=224→160≤x)∧(c=237→x≤159)∧d.n=64*(c-224)+(x-128)∧d.need=1∧d.hv=2∧d.lo=128∧d.hi=191∧p=[c,x])
 ∨(∃c,240≤c∧c≤244∧d.n=c-240∧d.need=3∧d.hv=1∧(c=240→d.lo=144)∧(c≠240→d.lo=128)∧(c=244→d.hi=143)∧(c≠244→d.hi=191)∧p=[c])
 ∨(∃c x,240≤c∧c≤244∧128≤x∧x≤191∧(c=240→144≤x)∧(c=244→x≤143)∧d.n=64*(c-240)+(x-128)∧d.need=2∧d.hv=2∧d.lo=128∧d.hi=191∧p=[c,x])
 ∨(∃c x y,240≤c∧c≤244∧128≤x∧x≤191∧128≤y∧y≤191∧(c=240→144≤x)∧(c=244→x≤143)∧d.n=64*(64*(c-240)+(x-128))+(y-128)∧d.need=1∧d.hv=3∧d.lo=128∧d.hi=191∧p=[c,x,y])
theorem aP{r:Int}(h:0≤r∧r≤1114111∧(r<55296∨57343<r)):vE r=true:=by unfold vE;simp;omega
theorem qVm{r a b:Int}(h1:128≤r)(h2:r<2048)(ha:a=192+r/64)(hb:b=128+r%64):kO r=[a,b]:=by
 unfold kO;rw[if_neg qJ,if_pos h2,ha,hb]
theorem qVl{r a b c:Int}(h1:2048≤r)(h2:r<65536)(ha:a=224+r/4096)(hb:b=128+r/64%64)(hc:c=128+r%64):kO r=[a,b,c]:=by
 unfold kO;rw[if_neg qJ,if_neg qJ,if_pos h2,ha,hb,hc]
theorem qVk{r a b c d:Int}(h1:65536≤r)(ha:a=240+r/262144)(hb:b=128+r/4096%64)(hc:c=128+r/64%64)(hd:d=128+r%64):kO r=[a,b,c,d]:=by
 unfold kO;rw[if_neg qJ,if_neg qJ,if_neg qJ,ha,hb,hc,hd]
theorem VH.step{d:Dk}{p:List Int}{c:Int}(h:VH d p)(hc:0≤c∧c≤255)(hb:65533∉(gG d c).1):
 ∃p',VH (gG d c).2 p'∧p++[c]=(gG d c).1.flatMap kO++p'∧∀r∈(gG d c).1,vE r=true:=by
 obtain⟨n,need,hv,lo,hi⟩:=d;unfold VH at h;simp only at h;rcases h with⟨e1,e2,rfl⟩|h
 · subst e1 e2;rw[show gG ⟨n,0,0,lo,hi⟩ c=pB ⟨n,0,0,lo,hi⟩ c from if_pos rfl]at hb ⊢;unfold pB at hb ⊢
   by_cases h1:c<128
   · have s1:yW c=1:=if_pos h1;rw[s1,if_neg qZ,if_pos rfl];refine⟨[],.inl ⟨rfl,rfl,rfl⟩,?_,fun r hr=>?_⟩
     · show[c]=(kO c++[])++[];unfold kO;rw[if_pos h1];rfl
     · rw[jM.1 hr];exact aP qJ
   by_cases h2:c<194∨244<c
   · have s1:yW c=0:=by unfold yW;rw[if_neg h1,if_pos h2]
     rw[s1,if_pos rfl]at hb;exact absurd qV hb
   have hs:¬yW c=0∧¬yW c=1:=by
    unfold yW;rw[if_neg h1,if_neg h2]
    split
    · decide
    split<;>decide
   rw[if_neg hs.1,if_neg hs.2];refine⟨[c],?_,rfl,fun r hr=>by cases hr⟩;unfold pI
   by_cases h3:c<224
   · rw[if_pos h3];exact .inr (.inl ⟨c,by omega,h3,by show c%32=_;omega,rfl,rfl,rfl,rfl,rfl⟩)
   rw[if_neg h3]
   by_cases h4:c<240
   · rw[if_pos h4];refine .inr (.inr (.inl ⟨c,by omega,h4,by show c%16=_;omega,rfl,rfl,fun h=>if_pos h,fun h=>if_neg h,fun h=>if_pos h,fun h=>if_neg h,rfl⟩))
   rw[if_neg h4];exact .inr (.inr (.inr (.inr (.inl ⟨c,by omega,by omega,by show c%8=_;omega,rfl,rfl,fun h=>if_pos h,fun h=>if_neg h,fun h=>if_pos h,fun h=>if_neg h,rfl⟩))))
 have hn0:need≠0:=by
  rcases h with⟨x,h⟩|⟨x,h⟩|⟨x,y,h⟩|⟨x,h⟩|⟨x,y,h⟩|⟨x,y,z,h⟩<;>omega
 by_cases hr:c<lo∨hi<c
 · rw[show gG ⟨n,need,hv,lo,hi⟩ c=(65533::(pB (cF ⟨n,need,hv,lo,hi⟩) c).1,(pB (cF ⟨n,need,hv,lo,hi⟩) c).2)from by unfold gG;rw[if_neg hn0,if_pos hr]]at hb;exact absurd (List.mem_cons_self ..) hb
 by_cases h1:need=1
 · rw[show gG ⟨n,need,hv,lo,hi⟩ c=([64*n+c%64],⟨64*n+c%64,0,0,128,191⟩)from by unfold gG;rw[if_neg hn0,if_neg hr,if_pos h1]];refine⟨[],.inl ⟨rfl,rfl,rfl⟩,?_,fun r hr=>?_⟩
   · show p++[c]=(kO (64*n+c%64)++[])++[];rw[List.append_nil,List.append_nil];rcases h with⟨x,h⟩|⟨x,h⟩|⟨x,y,h⟩|⟨x,h⟩|⟨x,y,h⟩|⟨x,y,z,h⟩
     · obtain⟨a1,a2,a3,a4,a5,a6,a7,rfl⟩:=h;rw[qVm (a:=x) (b:=c) qJ qJ qJ qJ];rfl
     · omega
     · obtain⟨a1,a2,a3,a4,a5,a6,a7,a8,a9,a10,a11,rfl⟩:=h;rw[qVl (a:=x) (b:=y) (c:=c) qJ qJ qJ qJ qJ];rfl
     · omega
     · omega
     · obtain⟨a1,a2,a3,a4,a5,a6,a7,a8,a9,a10,a11,a12,a13,rfl⟩:=h;rw[qVk (a:=x) (b:=y) (c:=z) (d:=c) qJ qJ qJ qJ qJ];rfl
   · rw[jM.1 hr];refine aP ?_;rcases h with⟨x,h⟩|⟨x,h⟩|⟨x,y,h⟩|⟨x,h⟩|⟨x,y,h⟩|⟨x,y,z,h⟩<;>omega
 · rw[show gG ⟨n,need,hv,lo,hi⟩ c=([],⟨64*n+c%64,need-1,hv+1,128,191⟩)from by unfold gG;rw[if_neg hn0,if_neg hr,if_neg h1]];refine⟨p++[c],?_,by simp,fun r hr=>by cases hr⟩;rcases h with⟨x,h⟩|⟨x,h⟩|⟨x,y,h⟩|⟨x,h⟩|⟨x,y,h⟩|⟨x,y,z,h⟩
   · omega
   · obtain⟨a1,a2,a3,a4,a5,a6,a7,a8,a9,rfl⟩:=h;exact .inr (.inr (.inr (.inl ⟨x,c,by omega,by omega,by omega,by omega,by omega,by omega,by show 64*n+c%64=_;omega,by show need-1=1;omega,by show hv+1=2;omega,rfl,rfl,rfl⟩)))
   · omega
   · obtain⟨a1,a2,a3,a4,a5,a6,a7,a8,a9,rfl⟩:=h;exact .inr (.inr (.inr (.inr (.inr (.inl ⟨x,c,by omega,by omega,by omega,by omega,by omega,by omega,by show 64*n+c%64=_;omega,by show need-1=2;omega,by show hv+1=2;omega,rfl,rfl,rfl⟩)))))
   · obtain⟨a1,a2,a3,a4,a5,a6,a7,a8,a9,a10,a11,rfl⟩:=h;exact .inr (.inr (.inr (.inr (.inr (.inr ⟨x,y,c,by omega,by omega,by omega,by omega,by omega,by omega,by omega,by omega,by show 64*n+c%64=_;omega,by show need-1=1;omega,by show hv+1=3;omega,rfl,rfl,rfl⟩)))))
   · omega
theorem VH.run{d:Dk}{p l:List Int}(h:VH d p)(hl:∀x∈l,0≤x∧x≤255)(hb:65533∉(zG d l).1):
 ∃p',VH (zG d l).2 p'∧p++l=(zG d l).1.flatMap kO++p'∧∀r∈(zG d l).1,vE r=true:=by
 induction l generalizing d p with
 |nil=>exact⟨p,h,by simp[zG],fun r hr=>by cases hr⟩
 |cons c l ih=>
  have hb':65533∉(gG d c).1∧65533∉(zG (gG d c).2 l).1:=by
   constructor
   · exact fun h=>hb (kU.2 (.inl h))
   · exact fun h=>hb (kU.2 (.inr h))
  obtain⟨p1,h1,e1,s1⟩:=h.step (hl c (List.mem_cons_self ..)) hb'.1;obtain⟨p2,h2,e2,s2⟩:=ih h1 (fun x hx=>hl x (List.mem_cons_of_mem _ hx)) hb'.2;refine⟨p2,h2,?_,fun r hr=>?_⟩
  · show p++(c::l)=((gG d c).1++(zG (gG d c).2 l).1).flatMap kO++p2;rw[List.flatMap_append,kG,←e2,←kG,←e1];simp
  · rcases kU.1 hr with hr|hr
    · exact s1 r hr
    · exact s2 r hr
theorem UD{bs:List Int}(hl:∀x∈bs,0≤x∧x≤255)(hb:65533∉rB bs):bs=(rB bs).flatMap kO∧∀r∈rB bs,vE r=true:=by
 unfold rB at hb ⊢;obtain⟨p,h1,h2,h3⟩:=VH.run (d:=⟨0,0,0,0,0⟩) (p:=[]) (.inl ⟨rfl,rfl,rfl⟩) hl (fun h=>hb (kU.2 (.inl h)));generalize zG ⟨0,0,0,0,0⟩ bs=R at h1 h2 h3 hb ⊢;have he:R.2.hv=0:=by
  by_cases h:R.2.hv=0
  · exact h
  · exact absurd (kU.2 (.inr (by unfold dU;rw[if_neg h];simp))) hb
 have hp:p=[]:=by
  unfold VH at h1;rcases h1 with⟨_,_,h⟩|⟨x,h⟩|⟨x,h⟩|⟨x,y,h⟩|⟨x,h⟩|⟨x,y,h⟩|⟨x,y,z,h⟩
  · exact h
  all_goals omega
 have h0:(dU R.2).1=[]:=by unfold dU;rw[if_pos he]
 rw[h0,List.append_nil];exact⟨by rw[hp,List.append_nil]at h2;exact h2,h3⟩
theorem XX:vB 65533=1:=by decide +kernel
theorem allG_le(bs:List Int):(rB bs).length≤2*bs.length+1:=by
 unfold rB;have :=runG_le ⟨0,0,0,0,0⟩ bs;have h1:∀d:Dk,(dU d).1.length≤1:=fun d=>by unfold dU;split<;>simp
 have :=h1 (zG ⟨0,0,0,0,0⟩ bs).2;rw[jC];omega
open Go.RowKit
attribute [local go_sem] Oper.semAt_some
theorem nM:(jG.info? 21).map (fun i=>(i.zero,i.size,i.bytes))=some (some (.int .i32 0),1,4):=by kernel_rfl
theorem Qz(args:Array Value)(w:World):(callFunc 376 args).run jG w=.ok (.enter 376 args) w:=by kernel_rfl
theorem VA(n:Nat)(a:Option Addr)(len cap:Nat)(w:World):
 CallsIn Fence.wide n jG 330 #[.slice a len cap] w fun e w'=>e=.returned (.func (.func 376) #[] #[.pointer (some ⟨w.heap.size,0,none⟩)])∧w'=w.alloc (.cells #[.slice a len cap] 23):=by
 refine callsIn_of_wp Tryz.func330 rfl trivial ?_ rfl;simp only[Tryz.ntmps330,List.size_toArray,List.length_cons,List.length_nil,Nat.reduceAdd,Nat.reduceSub,Array.replicate_succ,Array.replicate_zero,List.push_toArray,List.append_toArray,List.nil_append,List.cons_append]
 gi_wp2
 go_ret
 exact⟨rfl,rfl⟩
def RdI(w:World)(d:Nat)(pre:List Int)(W:World):Prop:=(∃v,Boxed W w.heap.size 136 v∧W.ownsRow (d+1) 21 1 v pre.length (pre.map (.int .i32)))∧Below w.heap.size w W
def qZb(W:World)(A:Option Addr)(bs:List Int):Prop:=0<bs.length→∃g off,A=some ⟨g,off,none⟩∧∀i x,bs[i]? =some x→W.cell? ⟨g,off+i,none⟩=some (.int .u8 x)
def eM(L:List Int)(w:World)(e:Ending)(w':World):Prop:=∃v,e=.returned v∧w'.ownsRow w.heap.size 21 1 v L.length (L.map (.int .i32))∧Below w.heap.size w w'
set_option maxHeartbeats 3200000 in
theorem qQ2(A:Option Addr)(bs L:List Int)(ca:Nat)(w:World)(hL:∀r∈L,vE r=true)(hbs:bs=L.flatMap kO)(hz:bs.length≤10000)(hlz:L.length≤10000)(hb:qZb w A bs):
 Calls jG 256 #[.slice A bs.length ca] w (eM L w):=by
 have hok:Hid (∀d:Dk,d.need=0∧d.hv=0→fH d bs∧(yO d bs).1=L∧(yO d bs).2.need=0∧(yO d bs).2.hv=0):=Hd (fun d hd=>by rw[hbs];exact Qc L hL d hd);clear hbs hL;have HB:=Hd hb;clear hb;obtain⟨i0,hi,hz0,hz1,hz2⟩:=info_parts nM;refine(callsIn_wide (n:=5)).1 ?_;refine callsIn_of_wp_marks Tryz.func256 rfl trivial ?_ rfl;simp only[Tryz.ntmps256,List.size_toArray,List.length_cons,List.length_nil,Nat.reduceAdd,Nat.reduceSub,Array.replicate_succ,Array.replicate_zero,List.push_toArray,List.append_toArray,List.nil_append,List.cons_append]
 gi_wp2_with (refine⟨trivial,?_⟩;gi_at_call 330;refine(VA _ _ _ _ _).mono ?_;rintro e w' ⟨rfl,rfl⟩)
 have bO:=Boxed.new w 136 (.slice none 0 0);have bN:=Boxed.new (w.alloc (.cells #[.slice none 0 0] 136)) 23 (.slice A bs.length ca);rw[World.size_alloc]at bN;have hB0:Below w.heap.size w ((w.alloc (.cells #[.slice none 0 0] 136)).alloc (.cells #[.slice A bs.length ca] 23)):=((jU _ w).alloc (jD _) _).alloc qV _;have hs0:((w.alloc (.cells #[.slice none 0 0] 136)).alloc (.cells #[.slice A bs.length ca] 23)).heap.size=w.heap.size+2:=by simp
 have bO2:=bO.alloc (.cells #[.slice A bs.length ca] 23);generalize (w.alloc (.cells #[.slice none 0 0] 136)).alloc (.cells #[.slice A bs.length ca] 23)=W0 at bN hB0 hs0 bO2 ⊢;refine iK (α:=Int) rfl qZ (gf:=376) (lb:=#[.pointer (some ⟨w.heap.size+1,0,none⟩)]) rfl trivial Qz (encs:=fun x:Int=>#[Value.int .i32 x]) (Kp:=KpD w.heap.size (w.heap.size+3) (w.heap.size+4)) (xs:=L) (d:=w.heap.size+4) qJ
  (fun W hbW hsW=>?seq) (fun h k=>KpD.trans h k) (fun W o'=>?kb) (fun _=>rfl) (RdI w (w.heap.size+4)) ?own ?start
  (fun x=>{tmps:=#[.slice A bs.length ca,undef,.slice none 0 0,.pointer (some ⟨w.heap.size,0,none⟩),.int .i32 x,.slice A bs.length ca,.func (.func 376) #[] #[.pointer (some ⟨w.heap.size+1,0,none⟩)],.int .i32 x,undef,undef,undef,undef,undef],defers:=[]}) ?assign ?body ?done
 case seq=>
  have :=WA (5-1) qZ (w.heap.size+3) w.heap.size (w.heap.size+1) ca A bs L hok.o hz W qJ qJ qJ qJ ((hbW.cell (p:=⟨w.heap.size+1,0,none⟩) (by rw[hs0];exact Nat.lt_succ_self _)).trans bN.cell) (fun h0=>by
   obtain⟨g,off,rfl,hc⟩:=HB.o h0;have hg:=uE (hc 0 _ (jN h0));exact⟨g,off,rfl,by omega,by omega,by omega,fun i x hx=>kZ ((hB0.trans (hbW.mono qJ))) (hc i x hx)⟩)
  rw[hsW,hs0]at this;rw[hs0];exact this
 case kb=>
  rw[hs0];exact⟨by rw[World.putObj_size];exact jD _,fun k _ _ hk=>World.putObj_heap_other hk⟩
 case own=>
  rintro pre W W' r ⟨⟨v,hv,ho⟩,hB⟩ hg hr;rw[hs0]at hr;refine⟨⟨v,hv.kept hg qZp,kD ho (Mod.of_grown (X:=[r]) hg (fun g e=>by cases e;simp)) (fun g e hm=>?_)⟩,hB.grown hg hB.size (fun k e=>by cases e;omega)⟩;obtain rfl:g=r:=by simpa using hm
  rcases ho.2 with⟨rfl,_⟩|⟨g',cap,cur,rfl,hb,_,_⟩
  · cases e
  · obtain rfl:g'=g:=by simpa[Value.ownBlock]using e
    omega
 case start=>exact⟨⟨_,bO2,kS _ _ _ _⟩,hB0⟩
 case assign=>
  intro l x W K hK
  gi_wp2
  exact hK
 case body=>
  rintro l pre x W ⟨⟨v,hv,hrow⟩,hB⟩ hlt hd;have hc:=hv.cell
  gi_wp2_with (gi_at_builtin;refine wpListIn_append_own _ rfl _ _ 136 rfl (w.heap.size+5) 21 i0 (.int .i32 0) 1 4 Tryz.underlying136 hi hz0 hz1 hz2 rfl qZ _ _ _ rfl (hrow.alloc _) ⟨W.heap.size,0,none⟩ 1 1 [.int .i32 x] rfl rfl (cell_one_new _ _ _) qZd qG qJ qY ?_;intro v' w1 hown' hgrow _;obtain⟨g',cap',rfl⟩:=ownsRow_succ hown';obtain⟨hv1,hv2,hr2,hk2,hb2⟩:=hv.appended qZ (pQ hrow (base':=w.heap.size) qJ) hB.size (jD _) (pQ hown' (base':=w.heap.size) qJ) hgrow;have hrw:=hown'.kept (grownBy_setCell' w1 w.heap.size (.slice (some ⟨g',0,none⟩) (pre.length+1) cap')) (.inr (hv1.not_row (t:=136) qZ hown').symm);have hc1:=hv1.cell;have hf1:=hv1.frozen;have hgv:=Hd hgrow;clear hgrow)
  refine⟨hk2,⟨hb2.size,fun k hk h1 h2=>?_⟩,⟨_,hv2,by simpa using hrw⟩,hB.trans hb2⟩;refine(Below.heap_setCell w1 ⟨w.heap.size,0,none⟩ _ k h1).trans ((hgv.o.block k qY (fun e=>?_)).trans (Below.heap_alloc W _ k qJ));rcases hrow.2 with⟨rfl,_⟩|⟨g2,cap,cur,rfl,hb,_,_⟩
  · cases e
  · have e:some k=(Value.slice (some ⟨g2,0,none⟩) pre.length cap).ownBlock:=e;obtain rfl:k=g2:=by simpa[Value.ownBlock]using e
    omega
 case done=>
  rintro W ⟨⟨v,hv,hrow⟩,hB⟩ hK;have hc:=hv.cell
  gi_wp2
  refine⟨by simp,.inl ⟨_,_,rfl,run_takeDeferred hK,?_⟩⟩;exact qXq
attribute [local go_sem] Oper.semAt_some
def LB(ob:Nat)(W:World)(k:Nat):Prop:=∃o n c,W.cell? ⟨ob,0,none⟩=some (.slice (some ⟨k,o,none⟩) n c)
def KpG(ob lr:Nat)(W W':World):Prop:=W.heap.size≤W'.heap.size∧(∀k,k<W.heap.size→k≠ob→k≠lr→¬LB ob W k→W'.heap[k]? =W.heap[k]?)∧(∀k,LB ob W' k→LB ob W k∨(W.heap.size≤k∧k<W'.heap.size))
theorem KpG.trans{ob lr:Nat}{A B C:World}(h:KpG ob lr A B)(k:KpG ob lr B C):KpG ob lr A C:=by
 refine⟨jI h.1 k.1,fun i a b c d=>?_,fun i hi=>?_⟩
 · refine(k.2.1 i (Nat.lt_of_lt_of_le a h.1) b c (fun e=>?_)).trans (h.2.1 i a b c d);rcases h.2.2 i e with e|e
   · exact d e
   · omega
 · rcases k.2.2 i hi with e|e
   · rcases h.2.2 i e with e|e
     · exact .inl e
     · exact .inr ⟨e.1,Nat.lt_of_lt_of_le e.2 k.1⟩
   · exact .inr ⟨jI h.1 e.1,e.2⟩
theorem KpG.cell{ob lr:Nat}{W W':World}(h:KpG ob lr W W'){b o:Nat}(hb:b<W.heap.size)(h1:b≠ob)(h2:b≠lr)(h3:¬LB ob W b):W'.cell? ⟨b,o,none⟩=W.cell? ⟨b,o,none⟩∧W'.frozen? ⟨b,o,none⟩=W.frozen? ⟨b,o,none⟩:=
 ⟨World.cell?_of_block (h.2.1 b hb h1 h2 h3),World.frozen?_of_block (h.2.1 b hb h1 h2 h3)⟩
theorem gL.keptG{ob lr d:Nat}{W W':World}(h:KpG ob lr W W'){x:Dk}(h1:d≠ob)(h2:d≠lr)(h3:¬LB ob W d)(hd:gL W d x):gL W' d x:=by
 have k:=fun o=>h.cell (b:=d) (o:=o) hd.lt h1 h2 h3;obtain⟨a0,a1,a2,a3,a4⟩:=hd;exact qXo
theorem tV.keptG{ob lr d:Nat}{W W':World}{A:Option Addr}{bs:List Int}(h:KpG ob lr W W')(hl:∀k,LB ob W k→d<k)(hb:tV W ob lr d A bs):tV W' ob lr d A bs:=fun h0=>by
 obtain⟨g,off,e,h1,h2,h3,h4⟩:=hb h0;exact⟨g,off,e,h1,h2,h3,fun i x hx=>(h.cell (uE (h4 i x hx)) h2 h3 (fun hk=>by have :=hl g hk;omega)).1.trans (h4 i x hx)⟩
def LBs(ob d:Nat)(W:World):Prop:=∀k,LB ob W k→d<k∧k<W.heap.size
theorem LBs.grown{ob d:Nat}{W W':World}(h:LBs ob d W)(hg:W.grownBy W' (some d))(ho:ob<W.heap.size)(hd:ob≠d):LBs ob d W':=fun k ⟨o,n,c,hk⟩=>by
 have hk':W.cell? ⟨ob,0,none⟩=some (.slice (some ⟨k,o,none⟩) n c):=(World.cell?_of_block (hg.block ob ho (fun e=>hd (by injection e)))).symm.trans hk;have :=h k ⟨o,n,c,hk'⟩;exact⟨this.1,Nat.lt_of_lt_of_le this.2 hg.size⟩
theorem LBs.same{ob d:Nat}{W W':World}(h:LBs ob d W)(hg:W.grownBy W' (some d))(ho:ob<W.heap.size)(hd:ob≠d):∀k,LB ob W' k→k<W.heap.size:=fun k ⟨o,n,c,hk⟩=>
 (h k ⟨o,n,c,(World.cell?_of_block (hg.block ob ho (fun e=>hd (by injection e)))).symm.trans hk⟩).2
theorem LBs.kept{ob lr d:Nat}{W W':World}(h:LBs ob d W)(hk:KpG ob lr W W')(hd:d<W.heap.size):LBs ob d W':=fun k hl=>by
 rcases hk.2.2 k hl with e|e
 · have :=h k e;exact⟨this.1,Nat.lt_of_lt_of_le this.2 hk.1⟩
 · exact⟨by omega,e.2⟩
theorem Kv{W:World}{lo:Nat}{u:Value}{L:List Int}(h:Qn W lo u L)(h0:0<L.length):∃g cap,u=.slice (some ⟨g,0,none⟩) L.length cap∧lo≤g∧∀i x,L[i]? =some x→W.cell? ⟨g,i,none⟩=some (.int .i32 x):=by
 have hh:=h;rcases h.2 with⟨_,h1⟩|⟨g,cap,cur,rfl,h1,_⟩
 · omega
 · exact⟨g,cap,rfl,h1,fun i x hx=>(gS hh (i:=i) (by simp[hx])).1⟩
theorem qJl(d:Dk)(l:List Int)(k:Nat):(zG d (l.take k)).1.length≤(zG d l).1.length:=by
 have :=wY d (l.take k) (l.drop k);rw[List.take_append_drop]at this;rw[this];simp
theorem WO{l:List Int}(h:l.length≤2):l=[]∨(∃r,l=[r])∨∃r s,l=[r,s]:=by
 match l,h with
 |[],_=>exact .inl rfl
 |[r],_=>exact .inr (.inl ⟨r,rfl⟩)
 |[r,s],_=>exact .inr (.inr ⟨r,s,rfl⟩)
theorem Yi(d:Dk):(dU d).1=[]∨(dU d).1=[65533]:=by unfold dU;split<;>simp
set_option maxHeartbeats 3200000 in
theorem WT(n:Nat)(hn:1≤n)(l ob bb ca:Nat)(A:Option Addr)(bs:List Int)(hr:∀x∈bs,0≤x∧x≤255)(hz:bs.length≤10000)
 (W:World) (hob:ob<W.heap.size) (hl:l<W.heap.size) (hbb:bb≠ob) (hbl:bb≠l) (hb:W.cell? ⟨bb,0,none⟩=some (.slice A bs.length ca)) (hLB:∀k,¬LB ob W k) (hbs:tV W ob l W.heap.size A bs):
 SeqD Fence.wide n jG l 376 #[.pointer (some ⟨bb,0,none⟩)] (fun x:Int=>#[Value.int .i32 x]) (KpG ob l) W.heap.size (rB bs) W:=by
 intro J hJ hY h0;have HBS:=Hd hbs;have HR:=Hd hr;have HALL:=Hd (show(zG ⟨0,0,0,0,0⟩ bs).1++(dU (zG ⟨0,0,0,0,0⟩ bs).2).1=rB bs from rfl);have HOK:=Hd (fun k=>runG_ok ⟨0,0,0,0,0⟩ (bs.take k) DkOk.zero (fun x hx=>hr x (List.mem_of_mem_take hx)));clear hbs hr;have hbW:=uE hb;have hD0:gL (W.alloc (.cells #[.int .i32 0,.int .i64 0,.int .i64 0,.int .u8 0,.int .u8 0] 132)) W.heap.size ⟨0,0,0,0,0⟩:=⟨at_ (jT rfl) 0 _ rfl,at_ (jT rfl) 1 _ rfl,at_ (jT rfl) 2 _ rfl,at_ (jT rfl) 3 _ rfl,at_ (jT rfl) 4 _ rfl⟩;have hg0:=zN (gA W (some W.heap.size)) (.cells #[.int .i32 0,.int .i64 0,.int .i64 0,.int .u8 0,.int .u8 0] 132);have hb1:=WQ hg0 qJ hb;have hL0:LBs ob W.heap.size (W.alloc (.cells #[.int .i32 0,.int .i64 0,.int .i64 0,.int .u8 0,.int .u8 0] 132)):=LBs.grown (fun k hk=>absurd hk (hLB k)) hg0 hob qJ;have HB1:=Hd (kY hD0 (kY (HBS.o.grown hg0) (kY (hJ _ _ _ h0 hg0) hL0)));clear hD0 hg0 hb h0 hL0 hLB;refine callsIn_of_wp Tryz.func376 rfl trivial ?_ rfl;simp only[Tryz.ntmps376,List.size_toArray,List.length_cons,List.length_nil,Nat.reduceAdd,Nat.reduceSub,Array.replicate_succ,Array.replicate_zero,List.push_toArray,List.append_toArray,List.nil_append,List.cons_append]
 gi_wp2
 gi_loopw [12] (fun i wr=>∃k:Nat,k≤bs.length∧i=.int .i64 k∧gL wr W.heap.size (zG ⟨0,0,0,0,0⟩ (bs.take k)).2∧tV wr ob l W.heap.size A bs∧J (zG ⟨0,0,0,0,0⟩ (bs.take k)).1 wr∧LBs ob W.heap.size wr) (fun i _=>bs.length-(intOf i).toNat)
 case atStart=>exact⟨0,kM _,rfl,HB1.o.1,HB1.o.2.1,HB1.o.2.2.1,HB1.o.2.2.2⟩
 case round=>
  obtain⟨k,hk,rfl,hdec,hbk,hj,hlb⟩:=hrel;have hobw:ob<wr.heap.size:=by have :=hdec.lt;omega
  have hlw:l<wr.heap.size:=by have :=hdec.lt;omega
  by_cases hlt:k<bs.length
  · obtain⟨g,off,rfl,hg1,hg2,hg3,hcs⟩:=hbk qJ;have hc:=hcs k _ (sQ hlt);have hxr:=HR.o _ (List.getElem_mem hlt);have HT:=Hd (aR ⟨0,0,0,0,0⟩ bs hlt);have HLEN:=Hd (qJl ⟨0,0,0,0,0⟩ bs (k+1));have HS:=Hd (YO hdec (HOK.o k) _ hxr);have hlx:=JR (zG ⟨0,0,0,0,0⟩ (bs.take k)).2 bs[k];have HBK:=Hd hbk;have HJ:=Hd hj;have HLB:=Hd hlb;clear hdec hbk hj hcs hlb hxr;rw[HT.o]at HLEN;have HLEN2:Hid (((zG ⟨0,0,0,0,0⟩ (bs.take k)).1++(gG (zG ⟨0,0,0,0,0⟩ (bs.take k)).2 bs[k]).1).length≤(rB bs).length):=Hd (by
     have hal:(rB bs).length=(zG ⟨0,0,0,0,0⟩ bs).1.length+(dU (zG ⟨0,0,0,0,0⟩ bs).2).1.length:=by rw[←HALL.o,jC]
     rw[hal];exact jI HLEN.o (Nat.le_add_right _ _))
    clear HLEN;generalize hx:bs[k]=x at hc HS HT HLEN2 hlx;generalize (zG ⟨0,0,0,0,0⟩ (bs.take k)).2=D at HS HT HLEN2 hlx;generalize (zG ⟨0,0,0,0,0⟩ (bs.take k)).1=P at HJ HT HLEN2;generalize gG D x=X at HS HT HLEN2 hlx;obtain⟨x1,D'⟩:=X;clear hx;simp only at hlx;rcases WO hlx with rfl|⟨r,rfl⟩|⟨r,s,rfl⟩
    · gi_wp2_with (refine⟨trivial,?_⟩;gi_at_call 69;refine(callsIn_wide.2 HS.o).mono ?_;rintro e W1 ⟨v,rfl,hv,hd1,hgr⟩;obtain⟨A1,c1,rfl⟩:=uT hv)
      refine wpIn_loop_rounds 1 ?_;rw[roundsIn_succ]
      gi_wp2
      go_roundw
      case rel=>exact⟨k+1,by omega,by simp,by rw[HT.o];exact hd1,HBK.o.grown hgr,by rw[HT.o];simpa using hJ _ _ _ HJ.o hgr,HLB.o.grown hgr hobw qJ⟩
      case measure=>simp[intOf];omega
    · gi_wp2_with (refine⟨trivial,?_⟩;gi_at_call 69;refine(callsIn_wide.2 HS.o).mono ?_;rintro e W1 ⟨v,rfl,hv,hd1,hgr⟩;obtain⟨g',cap',rfl,hg',hcell⟩:=Kv hv (show 0<List.length _ from Nat.succ_pos _))
      have hj1:=hJ _ _ _ HJ.o hgr;have hc1:=hcell 0 _ rfl;have HLB1:=Hd (HLB.o.grown hgr hobw qJ);obtain⟨fn,tmps,assign,body,hy,hR⟩:=hY _ r W1 hj1 (by have :=HLEN2.o;simp at this;omega) hd1.lt;have HD1:=Hd hd1;have HBK1:=Hd (HBK.o.grown hgr);clear hj1 hv hcell hd1;refine wpIn_loop_rounds 2 ?_;rw[roundsIn_succ]
      gi_wp2
      refine hR.mono ?_;rintro e W3 ⟨rfl,hJ3,hk3⟩;have HJ3:=Hd hJ3;have HK3:=Hd hk3;clear hJ3 hk3
      gi_wp2
      rw[roundsIn_succ]
      gi_wp2
      go_roundw
      case rel=>exact⟨k+1,by omega,by simp,by rw[HT.o];exact HD1.o.keptG HK3.o qJ qJ (fun e=>by have :=HLB1.o _ e;omega),HBK1.o.keptG HK3.o (fun k hk=>(HLB1.o k hk).1),by rw[HT.o];exact HJ3.o,HLB1.o.kept HK3.o HD1.o.lt⟩
      case measure=>simp[intOf];omega
    · gi_wp2_with (refine⟨trivial,?_⟩;gi_at_call 69;refine(callsIn_wide.2 HS.o).mono ?_;rintro e W1 ⟨v,rfl,hv,hd1,hgr⟩;obtain⟨g',cap',rfl,hg',hcell⟩:=Kv hv (show 0<List.length _ from Nat.succ_pos _))
      have hj1:=hJ _ _ _ HJ.o hgr;have hc1:=hcell 0 _ rfl;have hc2:=hcell 1 _ rfl;have HLB1:=Hd (HLB.o.grown hgr hobw qJ);have hnl:¬LB ob W1 g':=fun e=>by have :=HLB.o.same hgr hobw qJ _ e;omega
      obtain⟨fn,tmps,assign,body,hy,hR⟩:=hY _ r W1 hj1 (by have :=HLEN2.o;simp at this;omega) hd1.lt;have HD1:=Hd hd1;have HBK1:=Hd (HBK.o.grown hgr);clear hj1 hv hcell hd1;refine wpIn_loop_rounds 3 ?_;rw[roundsIn_succ]
      gi_wp2
      refine hR.mono ?_;rintro e W3 ⟨rfl,hJ3,hk3⟩;have hc3:W3.cell? ⟨g',1,none⟩=some (.int .i32 s):=(hk3.cell (uE hc2) qJ qJ hnl).1.trans hc2;have HD3:=Hd (HD1.o.keptG hk3 qJ qJ (fun e=>by have :=HLB1.o _ e;omega));have HBK3:=Hd (HBK1.o.keptG hk3 (fun k hk=>(HLB1.o k hk).1));have HLB3:=Hd (HLB1.o.kept hk3 HD1.o.lt);obtain⟨fn2,tmps2,assign2,body2,hy2,hR2⟩:=hY _ s W3 hJ3 (by have :=HLEN2.o;simp at this ⊢;omega) HD3.o.lt;clear hJ3 hk3 hc1 hc2 hnl hR hy
      gi_wp2
      rw[roundsIn_succ]
      gi_wp2
      refine hR2.mono ?_;rintro e W5 ⟨rfl,hJ5,hk5⟩;have HJ5:=Hd hJ5;have HK5:=Hd hk5;clear hJ5 hk5
      gi_wp2
      rw[roundsIn_succ]
      gi_wp2
      go_roundw
      case rel=>exact⟨k+1,by omega,by simp,by rw[HT.o];exact HD3.o.keptG HK5.o qJ qJ (fun e=>by have :=HLB3.o _ e;omega),HBK3.o.keptG HK5.o (fun k hk=>(HLB3.o k hk).1),by rw[HT.o];simpa using HJ5.o,HLB3.o.kept HK5.o HD3.o.lt⟩
      case measure=>simp[intOf];omega
  · obtain rfl:k=bs.length:=by omega
    rw[List.take_length]at hdec hj;have HE:=Hd (Z8 hdec);have HJ:=Hd hj;have HLB:=Hd hlb;have HA2:=Hd HALL.o;have hec:=Yi (zG ⟨0,0,0,0,0⟩ bs).2;clear hdec hj hlb hbk;generalize (zG ⟨0,0,0,0,0⟩ bs).1=P at HJ HA2;generalize (zG ⟨0,0,0,0,0⟩ bs).2=D at HE HA2 hec;generalize dU D=X at HE HA2 hec;obtain⟨x1,D'⟩:=X;simp only at hec HA2;rcases hec with rfl|rfl
    · gi_wp2_with (refine⟨trivial,?_⟩;gi_at_call 66;refine(callsIn_wide.2 HE.o).mono ?_;rintro e W1 ⟨v,rfl,hv,hd1,hgr⟩;obtain⟨A1,c1,rfl⟩:=uT hv)
      refine wpIn_loop_rounds 1 ?_;rw[roundsIn_succ]
      gi_wp2
      go_end0
      exact⟨⟨_,rfl⟩,by rw[←HA2.o,List.append_nil];exact hJ _ _ _ HJ.o hgr⟩
    · gi_wp2_with (refine⟨trivial,?_⟩;gi_at_call 66;refine(callsIn_wide.2 HE.o).mono ?_;rintro e W1 ⟨v,rfl,hv,hd1,hgr⟩;obtain⟨g',cap',rfl,hg',hcell⟩:=Kv hv (show 0<List.length _ from Nat.succ_pos _))
      have hj1:=hJ _ _ _ HJ.o hgr;have hc1:=hcell 0 _ rfl;obtain⟨fn,tmps,assign,body,hy,hR⟩:=hY _ 65533 W1 hj1 (by rw[←HA2.o];simp) hd1.lt;clear hj1 hv hcell hd1;refine wpIn_loop_rounds 2 ?_;rw[roundsIn_succ]
      gi_wp2
      refine hR.mono ?_;rintro e W3 ⟨rfl,hJ3,hk3⟩;have HJ3:=Hd hJ3;clear hJ3 hk3
      gi_wp2
      rw[roundsIn_succ]
      gi_wp2
      go_end0
      exact⟨⟨_,rfl⟩,by rw[←HA2.o];exact HJ3.o⟩
set_option maxHeartbeats 3200000 in
theorem WI(A:Option Addr)(bs L:List Int)(ca:Nat)(w:World)(hL:L=rB bs)(hbs:∀x∈bs,0≤x∧x≤255)(hz:bs.length≤10000)(hlz:L.length≤30000)(hb:qZb w A bs):
 Calls jG 256 #[.slice A bs.length ca] w (eM L w):=by
 have HBR:=Hd hbs;have HLA:=Hd hL;clear hbs hL;have HB:=Hd hb;clear hb;obtain⟨i0,hi,hz0,hz1,hz2⟩:=info_parts nM;refine(callsIn_wide (n:=5)).1 ?_;refine callsIn_of_wp_marks Tryz.func256 rfl trivial ?_ rfl;simp only[Tryz.ntmps256,List.size_toArray,List.length_cons,List.length_nil,Nat.reduceAdd,Nat.reduceSub,Array.replicate_succ,Array.replicate_zero,List.push_toArray,List.append_toArray,List.nil_append,List.cons_append]
 gi_wp2_with (refine⟨trivial,?_⟩;gi_at_call 330;refine(VA _ _ _ _ _).mono ?_;rintro e w' ⟨rfl,rfl⟩)
 have bO:=Boxed.new w 136 (.slice none 0 0);have bN:=Boxed.new (w.alloc (.cells #[.slice none 0 0] 136)) 23 (.slice A bs.length ca);rw[World.size_alloc]at bN;have hB0:Below w.heap.size w ((w.alloc (.cells #[.slice none 0 0] 136)).alloc (.cells #[.slice A bs.length ca] 23)):=((jU _ w).alloc (jD _) _).alloc qV _;have hs0:((w.alloc (.cells #[.slice none 0 0] 136)).alloc (.cells #[.slice A bs.length ca] 23)).heap.size=w.heap.size+2:=by simp
 have bO2:=bO.alloc (.cells #[.slice A bs.length ca] 23);generalize (w.alloc (.cells #[.slice none 0 0] 136)).alloc (.cells #[.slice A bs.length ca] 23)=W0 at bN hB0 hs0 bO2 ⊢;refine iK (α:=Int) rfl qZ (gf:=376) (lb:=#[.pointer (some ⟨w.heap.size+1,0,none⟩)]) rfl trivial Qz (encs:=fun x:Int=>#[Value.int .i32 x]) (Kp:=KpG w.heap.size (w.heap.size+3)) (xs:=L) (d:=w.heap.size+4) qJ
  (fun W hbW hsW=>?seq) (fun h k=>KpG.trans h k) (fun W o'=>?kb) (fun _=>rfl) (RdI w (w.heap.size+4)) ?own ?start
  (fun x=>{tmps:=#[.slice A bs.length ca,undef,.slice none 0 0,.pointer (some ⟨w.heap.size,0,none⟩),.int .i32 x,.slice A bs.length ca,.func (.func 376) #[] #[.pointer (some ⟨w.heap.size+1,0,none⟩)],.int .i32 x,undef,undef,undef,undef,undef],defers:=[]}) ?assign ?body ?done
 case seq=>
  have :=WT (5-1) qZ (w.heap.size+3) w.heap.size (w.heap.size+1) ca A bs HBR.o hz W qJ qJ qJ qJ ((hbW.cell (p:=⟨w.heap.size+1,0,none⟩) (by rw[hs0];exact Nat.lt_succ_self _)).trans bN.cell) (fun k ⟨o,n,c,hk⟩=>by rw[(hbW.cell (p:=⟨w.heap.size,0,none⟩) (by rw[hs0];exact Nat.lt_succ_of_lt (Nat.lt_succ_self _))).trans bO2.cell]at hk;cases hk) (fun h0=>by
   obtain⟨g,off,rfl,hc⟩:=HB.o h0;have hg:=uE (hc 0 _ (jN h0));exact⟨g,off,rfl,by omega,by omega,by omega,fun i x hx=>kZ ((hB0.trans (hbW.mono qJ))) (hc i x hx)⟩)
  rw[hsW,hs0,←HLA.o]at this;rw[hs0];exact this
 case kb=>
  rw[hs0];exact⟨by rw[World.putObj_size];exact jD _,fun k _ _ hk _=>World.putObj_heap_other hk,fun k ⟨o,n,c,hk⟩=>.inl ⟨o,n,c,(World.cell?_of_block (World.putObj_heap_other (by intro e;have e2:w.heap.size=w.heap.size+2+1:=e;omega))).symm.trans hk⟩⟩
 case own=>
  rintro pre W W' r ⟨⟨v,hv,ho⟩,hB⟩ hg hr;rw[hs0]at hr;refine⟨⟨v,hv.kept hg qZp,kD ho (Mod.of_grown (X:=[r]) hg (fun g e=>by cases e;simp)) (fun g e hm=>?_)⟩,hB.grown hg hB.size (fun k e=>by cases e;omega)⟩;obtain rfl:g=r:=by simpa using hm
  rcases ho.2 with⟨rfl,_⟩|⟨g',cap,cur,rfl,hb,_,_⟩
  · cases e
  · obtain rfl:g'=g:=by simpa[Value.ownBlock]using e
    omega
 case start=>exact⟨⟨_,bO2,kS _ _ _ _⟩,hB0⟩
 case assign=>
  intro l x W K hK
  gi_wp2
  exact hK
 case body=>
  rintro l pre x W ⟨⟨v,hv,hrow⟩,hB⟩ hlt hd;have hc:=hv.cell
  gi_wp2_with (gi_at_builtin;refine wpListIn_append_own_at _ rfl _ _ 136 rfl (w.heap.size+5) 21 i0 (.int .i32 0) 1 4 Tryz.underlying136 hi hz0 hz1 hz2 rfl qZ _ _ _ rfl (hrow.alloc _) ⟨W.heap.size,0,none⟩ 1 1 [.int .i32 x] rfl rfl (cell_one_new _ _ _) qZd qG qJ qY ?_;intro v' w1 hown' hgrow _ hat;obtain⟨g',cap',rfl⟩:=ownsRow_succ hown';have HAT:=Hd hat;clear hat;obtain⟨hv1,hv2,hr2,hk2,hb2⟩:=hv.appended qZ (pQ hrow (base':=w.heap.size) qJ) hB.size (jD _) (pQ hown' (base':=w.heap.size) qJ) hgrow;have hrw:=hown'.kept (grownBy_setCell' w1 w.heap.size (.slice (some ⟨g',0,none⟩) (pre.length+1) cap')) (.inr (hv1.not_row (t:=136) qZ hown').symm);have hc1:=hv1.cell;have hf1:=hv1.frozen;have hgv:=Hd hgrow;have hsz1:=hgrow.size;rw[World.size_alloc]at hsz1;clear hgrow)
  refine⟨hk2,⟨hb2.size,fun k hk h1 h2 h3=>?_,fun k ⟨o,nn,cc,hk⟩=>?_⟩,⟨_,hv2,by simpa using hrw⟩,hB.trans hb2⟩
  · refine(Below.heap_setCell w1 ⟨w.heap.size,0,none⟩ _ k h1).trans ((hgv.o.block k qY (fun e=>?_)).trans (Below.heap_alloc W _ k qJ));rcases hrow.2 with⟨rfl,_⟩|⟨g2,cap,cur,rfl,hb,_,_⟩
    · cases e
    · have e:some k=(Value.slice (some ⟨g2,0,none⟩) pre.length cap).ownBlock:=e;obtain rfl:k=g2:=by simpa[Value.ownBlock]using e
      exact h3 ⟨_,_,_,hc⟩
  · have hkc:=hv2.cell.symm.trans hk;simp only[Option.some.injEq,Value.slice.injEq,Addr.mk.injEq,and_true]at hkc;obtain⟨⟨rfl,-⟩,-,-⟩:=hkc;rcases HAT.o with e|e
    · left
      rcases hrow.2 with⟨rfl,_⟩|⟨g2,cap,cur,rfl,hb,_,_⟩
      · cases e
      · have e:(Value.slice (some ⟨g',0,none⟩) (pre.length+1) cap').ownBlock=(Value.slice (some ⟨g2,0,none⟩) pre.length cap).ownBlock:=e;obtain rfl:g'=g2:=by simpa[Value.ownBlock]using e
        exact⟨_,_,_,hc⟩
    · right
      have e:(Value.slice (some ⟨g',0,none⟩) (pre.length+1) cap').ownBlock=some (W.alloc (.cells #[.int .i32 x] 21)).heap.size:=e;have e2:g'=W.heap.size+1:=by simpa[Value.ownBlock]using e
      obtain⟨cur4,hcur4⟩:=uR hown' (g:=g') rfl;have h4:=jR hcur4;simp;omega
 case done=>
  rintro W ⟨⟨v,hv,hrow⟩,hB⟩ hK;have hc:=hv.cell
  gi_wp2
  refine⟨by simp,.inl ⟨_,_,rfl,run_takeDeferred hK,?_⟩⟩;exact qXq
def fD(s:ByteArray):Prop:=∃L:List Int,(∀r∈L,vE r=true∧vB r=0)∧s=strOfNums (L.flatMap kO)∧s.size≤32
theorem cB(r:Int)(h:vE r=true):∀x∈kO r,0≤x∧x<256:=by
 have hr:0≤r∧r≤1114111:=by unfold vE at h;simp at h;omega
 unfold kO
 repeat' split
 all_goals
  intro x hx;simp at hx;omega
theorem lH(r:Int):1≤(kO r).length:=by
 unfold kO
 repeat' split
 all_goals simp
theorem gJ(xs:List Int):(strOfNums xs).size=xs.length:=by
 show(List.map _ xs).toArray.size=_;simp
theorem ZJ(r:Int)(h:vE r=true):(vD r).size=(kO r).length:=by rw[dQ r h,gJ]
theorem eI(L:List Int):L.length≤(L.flatMap kO).length:=by
 induction L with
 |nil=>simp
 |cons r L ih=>rw[List.flatMap_cons,jC,List.length_cons];have :=lH r;omega
theorem K6(xs:List Int)(hx:∀x∈xs,0≤x∧x<256)(i:Nat)(x:Int)(h:xs[i]? =some x):((((strOfNums xs).data.toList.getD i 0).toNat:Nat):Int)=x:=by
 obtain⟨hi,rfl⟩:=jP.1 h;have :=hx _ (List.getElem_mem hi);show((((List.map (fun n:Int=>UInt8.ofNat n.toNat) xs).toArray.toList.getD i 0).toNat:Nat):Int)=xs[i];rw[kX];simp[hi];omega
theorem Qb(w:World)(e:TypeId)(xs:List Int)(hx:∀x∈xs,0≤x∧x<256):qZb (Lib.bytesWorld w e (strOfNums xs)) (some ⟨w.heap.size,0,none⟩) xs:=fun _=>
 ⟨w.heap.size,0,rfl,fun i x hi=>by
  rw[kP,Lib.bytesWorld_cell w e _ i (by rw[gJ];exact(jP.1 hi).1),K6 xs hx i x hi]⟩
theorem dH(w:World)(e:TypeId)(s:ByteArray):Below w.heap.size w (Lib.bytesWorld w e s):=
 ⟨rfl,rfl,rfl,by rw[Lib.bytesWorld_size];omega,fun k hk=>Lib.bytesWorld_at_old w e s k hk⟩
theorem mA(s:ByteArray)(w:World):(convert 9 23 (.string s)).run jG w=.ok (.slice (some ⟨w.heap.size,0,none⟩) s.size (grownCap w s.size 0 5)) (Lib.bytesWorld w 5 s):=
 Lib.run_convert_string_bytes w _ _ _ s Tryz.underlying9 Tryz.underlying23 Tryz.underlying5
theorem xP{w:World}{base:Nat}{L:List Int}{v:Value}(h:w.ownsRow base 21 1 v L.length (L.map (.int .i32))):∃A c,v=.slice A L.length c∧∀i x,L[i]? =some x→∃g,A=some ⟨g,0,none⟩∧w.cell? ⟨g,i,none⟩=some (.int .i32 x):=by
 rcases h.2 with⟨rfl,h0⟩|⟨g,cap,cur,rfl,h1⟩
 · exact⟨none,0,by rw[h0],fun i x hx=>by rw[List.length_eq_zero_iff.1 h0]at hx;simp at hx⟩
 · exact⟨_,cap,rfl,fun i x hx=>⟨g,rfl,by
    have h2:=h.cells (g:=g) rfl i (.int .i32 x) (by simp[hx])
    rwa[show(⟨g,0,none⟩:Addr).add i=⟨g,i,none⟩from by unfold Addr.add;split<;>simp_all]at h2⟩⟩
set_option maxHeartbeats 1600000 in
theorem UK(s:ByteArray)(h:fD s)(w:World):Calls jG 163 #[.string s] w fun e w'=>e=.returned (.bool true)∧Below w.heap.size w w':=by
 obtain⟨L,hL,rfl,hz⟩:=h;obtain⟨xs,hxs⟩:∃xs,xs=L.flatMap kO:=⟨_,rfl⟩;rw[←hxs]at hz ⊢;have hsz:=gJ xs;have hlx:L.length≤xs.length:=by rw[hxs];exact eI L
 have hxr:∀x∈xs,0≤x∧x<256:=by
  rw[hxs];intro x hx;obtain⟨r,hr,hx⟩:=List.mem_flatMap.1 hx;exact cB r (hL r hr).1 x hx
 have hg1:¬32<(strOfNums xs).size:=by omega
 have hl32:L.length≤32:=by omega
 have HX:=Hd hxs;have HLL:=Hd hL;have HSZ:=Hd hsz;have hcv:=mA (strOfNums xs) w;have HBI:=Hd (Qb w 5 xs hxr);have HBB:=Hd (dH w 5 (strOfNums xs));clear hxs hL hsz hxr;have HA:Hid (∀(c:Nat) (w1:World),qZb w1 (some ⟨w.heap.size,0,none⟩) xs→Calls jG 256 #[.slice (some ⟨w.heap.size,0,none⟩) (strOfNums xs).size c] w1 (eM L w1)):=Hd (fun c w1 hb=>by
  rw[HSZ.o];exact qQ2 _ xs L c w1 (fun r hr=>(HLL.o r hr).1) HX.o (by have :=HSZ.o;omega) (by have :=HSZ.o;omega) hb)
 generalize Lib.bytesWorld w 5 (strOfNums xs)=wb at hcv HBI HBB
 go_enter Tryz.func163,Tryz.ntmps163
 go_wp2_with(go_at_call 256;(with_reducible refine(HA.o _ _ HBI.o).mono ?_);rintro e w1 ⟨v,rfl,ho,hb1⟩;obtain⟨A,c,rfl,hA⟩:=xP ho;have HB1:=Hd (jW HBB.o hb1);clear hb1 ho)
 have hAA:=Hd hA;clear hA
 go_loopw [3,13] (fun n i wr=>∃k:Nat,k≤L.length∧i=.int .i64 k∧n=.int .i64 (((L.take k).flatMap kO).length:Nat)∧Below w.heap.size w wr∧Below w1.heap.size w1 wr) (fun _ i _=>L.length-(intOf i).toNat)
 case atStart=>exact⟨0,kM _,rfl,rfl,HB1.o,jU _ _⟩
 case round=>
  obtain⟨k,hk,rfl,rfl,hB,hb⟩:=hrel;have HTL:Hid (((L.take k).flatMap kO).length≤xs.length):=Hd (by
   rw[HX.o]
   conv=>rhs;rw[←List.take_append_drop k L,List.flatMap_append,jC]
   omega)
  by_cases hlt:k<L.length
  · obtain⟨g,rfl,hc0⟩:=hAA.o k _ (jN hlt);have hc:=kZ hb hc0;have hr:=HLL.o _ (List.getElem_mem hlt);have HT:Hid ((L.take (k+1)).flatMap kO=(L.take k).flatMap kO++kO L[k]):=Hd (by rw[kQ hlt,List.flatMap_append];simp);clear hc0;generalize L[k]=r at hc hr HT;have HW:=Hd (fun w=>cT r w);have HU:=Hd (fun w=>lO r w);have hpl:=ZJ r hr.1;have hp32:=iY r;rw[hr.2]at HW;clear hr;obtain⟨q,hq⟩:∃q,q=((L.take k).flatMap kO).length:=⟨_,rfl⟩;rw[←hq]at HTL ⊢;have hq2:q≤32:=by have :=HTL.o;have :=HSZ.o;omega
    have hw2:jE.wrap ((q:Int)+((vD r).size:Nat))=((q+(vD r).size:Nat):Int):=by rw[jF _ qJ];omega
    have HQ:=Hd hq;have HPL:=Hd hpl;clear hq hpl hp32
    go_wp2_with(first|(go_at_call 162;(with_reducible refine(HW.o _).mono ?_);rintro e w2 ⟨rfl,hb2⟩)|(go_at_call 102;(with_reducible refine(HU.o _).mono ?_);rintro e w3 ⟨rfl,hb3⟩))
    go_roundw
    case rel=>exact⟨k+1,by omega,by go_num,by rw[HT.o,jC,←HQ.o,←HPL.o,Int.natCast_add],jW (jW hB hb2) hb3,jW (jW hb hb2) hb3⟩
    case measure=>simp[intOf];omega
  · obtain rfl:k=L.length:=by omega
    have he:(L.take L.length).flatMap kO=xs:=by rw[List.take_length,HX.o]
    have hse:((((L.take L.length).flatMap kO).length:Nat):Int)=((strOfNums xs).size:Nat):=by rw[he,HSZ.o]
    rw[hse];clear hse he
    go_wp2
    go_ret
    exact⟨by simp,hB⟩
theorem YD{α:Type}{enc:α→List Value}{K:Nat}(hl:∀x,(enc x).length=K)(hK:0<K)(z:α)(n:Nat):(madeCells (enc z).toArray (n*K)).toList=uM enc (kN n z):=by
 refine gM fun m=>?_
 by_cases hm:m<n*K
 · have hd:m/K<n:=(Nat.div_lt_iff_lt_mul hK).2 hm;have h1:(kN n z)[m/K]? =some z:=by rw[List.getElem?_replicate];rw[if_pos hd]
   have h2:=yN hl (kN n z) (m/K) z (m%K) h1 (Nat.mod_lt _ hK);rw[show m/K*K+m%K=m by rw[Nat.mul_comm];exact Nat.div_add_mod m K]at h2;rw[h2];have hj:m%K<(enc z).length:=by rw[hl];exact Nat.mod_lt _ hK
   unfold madeCells;simp only[Array.toList_map,Array.toList_range,uX,List.getElem?_range hm,Option.map_some];rw[jN hj]
   congr 1
   have hs:(enc z).toArray.size=K:=by rw[List.size_toArray,hl]
   rw[hs,getElem!_pos _ _ (by rw[hs];exact Nat.mod_lt _ hK)];simp
 · rw[uZ qZ6,uZ (by rw[pM hl,uG];omega)]
theorem Vx(r:Int)(w:World):Calls jG 94 #[.int .i32 r] w fun e w'=>e=.returned (.bool (vE r))∧w=w':=by
 unfold vE
 by_cases h1:0≤r<;>by_cases h2:r≤1114111<;>by_cases h3:r<55296<;>by_cases h4:57343<r<;>
 · go_enter Tryz.func94,Tryz.ntmps94
   go_wp2
   go_ret
   refine⟨?_,rfl⟩;simp[h1,h2,h3,h4]
   try omega
def nE(w:World)(v:Value)(xs:List Int):Prop:=(xs=[]∧v=.slice none 0 0)∨∃g c,v=.slice (some ⟨g,0,none⟩) xs.length c∧w.heap[g]? =some (.cells (xs.map (Value.int .u8)).toArray 5 (0,0))
def qQu(b:ByteArray)(w:World)(e:Ending)(w':World):Prop:=∃v xs,e=.returned v∧nE w' v xs∧strOfNums xs=b∧Below w.heap.size w w'
theorem Jn:(jG.info? 5).map (fun i=>(i.zero,i.size,i.bytes))=some (some (.int .u8 0),1,1):=by kernel_rfl
theorem YL(n:Nat):madeCells #[Value.int .u8 0] n=(kN n (Value.int .u8 0)).toArray:=by
 have h:=YD (enc:=fun v:Value=>[v]) (K:=1) (fun _=>rfl) qZ (Value.int .u8 0) n;rw[Nat.mul_one]at h;refine Array.ext' (h.trans ?_);clear h
 induction n with
 |zero=>rfl
 |succ n ih=>
  rw[List.replicate_succ];show Value.int .u8 0::uM _ (kN n (Value.int .u8 0))=_;rw[ih]
theorem rK(n:Nat)(h:n≤1000)(W:World):Sem.run jG (Instr.makeSlice 23 (.int .i64 (n:Int)) (.int .i64 (n:Int))) W=.ok (.slice (some ⟨W.heap.size,0,none⟩) n n) (W.alloc (.cells (kN n (Value.int .u8 0)).toArray 5)):=by
 rw[←YL];exact run_make_row' 23 5 (.int .u8 0) 1 Tryz.underlying23 Jn rfl .i64 .i64 n qJ qJ W
set_option maxHeartbeats 1600000 in
theorem nY(r:Int)(w:World):Calls jG 52 #[.int .i32 r] w (qQu (vD r) w):=by
 have HS:=Hd (fun w=>Vx r w);cases hs:vE r with
 |false=>
  have HV:=Hd (show vD r=kH from by unfold vD;rw[hs];rfl);rw[hs]at HS;clear hs
  go_enter Tryz.func52,Tryz.ntmps52
  go_wp2_with(go_at_call 94;refine(HS.o _).mono ?_;rintro e w1 ⟨rfl,rfl⟩)
  go_ret
  exact⟨_,[],rfl,.inl ⟨rfl,rfl⟩,by rw[HV.o];rfl,jU _ _⟩
 |true=>
  rw[hs]at HS;have hr:0≤r∧r≤1114111:=by unfold vE at hs;simp at hs;omega
  obtain⟨hr0,hr1⟩:=hr
  by_cases hA:r<128
  · have HV:=Hd (show vD r=⟨#[r.toNat.toUInt8]⟩from by unfold vD;rw[hs,if_pos rfl,if_pos hA]);clear hs;have hA1:¬127<r:=by omega
    have hA2:¬2047<r:=by omega
    have hA3:¬65535<r:=by omega
    go_enter Tryz.func52,Tryz.ntmps52
    go_wp2_with(go_at_call 94;refine(HS.o _).mono ?_;rintro e w1 ⟨rfl,rfl⟩)
    refine wp_loop_rounds 4 ?_;rw[rounds_succ];go_wp2;rw[rounds_succ];go_wp2;rw[rounds_succ];go_wp2;rw[rounds_succ];go_wp2
    go_ret
    exact⟨_,[r],rfl,.inr ⟨w.heap.size+1,1,rfl,jT qV⟩,by rw[HV.o];rfl,jH (jH (jU _ _) _) _⟩
  by_cases hB:r<2048
  · have HV:=Hd (show vD r=⟨#[(192+r/64).toNat.toUInt8,(128+r%64).toNat.toUInt8]⟩from by unfold vD;rw[hs,if_pos rfl,if_neg (show ¬r<0x80 from hA),if_pos hB]);clear hs;have hmk:∀W:World,Sem.run jG (Instr.makeSlice 23 (.int .i64 2) (.int .i64 2)) W=.ok (.slice (some ⟨W.heap.size,0,none⟩) 2 2) (W.alloc (.cells #[.int .u8 0,.int .u8 0] 5)):=fun W=>rK 2 qJ W;have hA1:127<r:=by omega
    have hA2:¬2047<r:=by omega
    have hA3:¬65535<r:=by omega
    go_enter Tryz.func52,Tryz.ntmps52
    go_wp2_with(go_at_call 94;refine(HS.o _).mono ?_;rintro e w1 ⟨rfl,rfl⟩)
    refine wp_loop_rounds 4 ?_;rw[rounds_succ];go_wp2;rw[rounds_succ];go_wp2;rw[rounds_succ];go_wp2;rw[rounds_succ];go_wp2;refine wp_loop_rounds 2 ?_;rw[rounds_succ];go_wp2;rw[rounds_succ];go_wp2
    go_ret
    exact⟨_,[192+r/64,128+r%64],rfl,.inr ⟨w.heap.size+1,2,rfl,vJ (jT qV)⟩,by rw[HV.o];rfl,jH (jH (jH (jU _ _) _) _) _⟩
  by_cases hC:r<65536
  · have HV:=Hd (show vD r=⟨#[(224+r/4096).toNat.toUInt8,(128+r/64%64).toNat.toUInt8,(128+r%64).toNat.toUInt8]⟩from by unfold vD;rw[hs,if_pos rfl,if_neg (show ¬r<0x80 from hA),if_neg (show ¬r<0x800 from hB),if_pos hC]);clear hs;have hmk:∀W:World,Sem.run jG (Instr.makeSlice 23 (.int .i64 3) (.int .i64 3)) W=.ok (.slice (some ⟨W.heap.size,0,none⟩) 3 3) (W.alloc (.cells #[.int .u8 0,.int .u8 0,.int .u8 0] 5)):=fun W=>rK 3 qJ W;have hA1:127<r:=by omega
    have hA2:2047<r:=by omega
    have hA3:¬65535<r:=by omega
    have hdd:r/64/64=r/4096:=by omega
    go_enter Tryz.func52,Tryz.ntmps52
    go_wp2_with(go_at_call 94;refine(HS.o _).mono ?_;rintro e w1 ⟨rfl,rfl⟩)
    refine wp_loop_rounds 4 ?_;rw[rounds_succ];go_wp2;rw[rounds_succ];go_wp2;rw[rounds_succ];go_wp2;rw[rounds_succ];go_wp2;refine wp_loop_rounds 3 ?_;rw[rounds_succ];go_wp2;rw[rounds_succ];go_wp2;rw[rounds_succ];go_wp2
    go_ret
    exact⟨_,[224+r/4096,128+r/64%64,128+r%64],rfl,.inr ⟨w.heap.size+1,3,rfl,vJ (jT qV)⟩,by rw[HV.o];rfl,jH (jH (jH (jU _ _) _) _) _⟩
  have HV:=Hd (show vD r=⟨#[(240+r/262144).toNat.toUInt8,(128+r/4096%64).toNat.toUInt8,(128+r/64%64).toNat.toUInt8,(128+r%64).toNat.toUInt8]⟩from by unfold vD;rw[hs,if_pos rfl,if_neg (show ¬r<0x80 from hA),if_neg (show ¬r<0x800 from hB),if_neg (show ¬r<0x10000 from hC)]);clear hs;have hmk:∀W:World,Sem.run jG (Instr.makeSlice 23 (.int .i64 4) (.int .i64 4)) W=.ok (.slice (some ⟨W.heap.size,0,none⟩) 4 4) (W.alloc (.cells #[.int .u8 0,.int .u8 0,.int .u8 0,.int .u8 0] 5)):=fun W=>rK 4 qJ W;have hA1:127<r:=by omega
  have hA2:2047<r:=by omega
  have hA3:65535<r:=by omega
  have hdd:r/64/64=r/4096:=by omega
  have hdd2:r/4096/64=r/262144:=by omega
  go_enter Tryz.func52,Tryz.ntmps52
  go_wp2_with(go_at_call 94;refine(HS.o _).mono ?_;rintro e w1 ⟨rfl,rfl⟩)
  refine wp_loop_rounds 4 ?_;rw[rounds_succ];go_wp2;rw[rounds_succ];go_wp2;rw[rounds_succ];go_wp2;rw[rounds_succ];go_wp2;refine wp_loop_rounds 4 ?_;rw[rounds_succ];go_wp2;rw[rounds_succ];go_wp2;rw[rounds_succ];go_wp2;rw[rounds_succ];go_wp2
  go_ret
  exact⟨_,[240+r/262144,128+r/4096%64,128+r/64%64,128+r%64],rfl,.inr ⟨w.heap.size+1,4,rfl,vJ (jT qV)⟩,by rw[HV.o];rfl,jH (jH (jH (jU _ _) _) _) _⟩
theorem nE.below{w w':World}{v:Value}{xs:List Int}(h:nE w v xs)(hb:Below w.heap.size w w'):nE w' v xs:=by
 rcases h with h|⟨g,c,hv,hg⟩
 · exact .inl h
 · exact .inr ⟨g,c,hv,(hb.block g (jR hg)).trans hg⟩
theorem rH{w:World}{v:Value}{xs:List Int}(h:nE w v xs):(convert 23 9 v).run jG w=.ok (.string (strOfNums xs)) w:=by
 rcases h with⟨rfl,rfl⟩|⟨g,c,rfl,hg⟩
 · kernel_rfl
 · exact sE xs xs.length c g w 5 hg rfl
end Go.Proofs.YtaefcahblmopfaaGreatDoor
