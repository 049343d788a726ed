/- Joined by a tool of this claim out of smaller texts. Conditions: as stated. -/
import Derived.Test.YtaefcahblmopfaaGreatDoorDg21
import Derived.Lib.ConvBytes
import Derived.LoopN
import Derived.Deep.OwnRows
set_option linter.unusedVariables false
set_option linter.unusedSimpArgs false
set_option maxRecDepth 100000
open Go.Lib renaming hid → Hd
open List renaming setIfInBounds_toArray → jZ, set_cons_zero → jX, set_cons_succ → jY, getElem?_eq_getElem → jN, getElem?_eq_some_iff → jP, length_append → jC, getD_eq_getElem?_getD → kV, take_succ_eq_append_getElem → kY, replicate → kW, getElem?_map → uV, getElem?_eq_none → uZ, length_replicate → uX, ext_getElem? → gU
open Go.Proofs.Tryz renaming prog → jG
open Go.RowKit.Below renaming refl → jU
open Nat renaming le_refl → jD, zero_le → kB, zero_add → kP, add_zero → uS
open Go.IntWalk renaming i64_in → jF
open Go.IntKind renaming i64 → jE
open ByteArray renaming empty → kU
open Go.World renaming ownsRow_nil → kD
namespace Go.Proofs.YtaefcahblmopfaaGreatDoor
open Go.RowKit
attribute [local go_sem] Oper.semAt_some
theorem JA:(jG.info? 21).map (fun i=>(i.zero,i.size,i.bytes))=some (some (.int .i32 0),1,4):=by kernel_rfl
theorem Yc(args:Array Value)(w:World):(callFunc 376 args).run jG w=.ok (.enter 376 args) w:=by kernel_rfl
theorem qQd(n:Nat)(a:Option Addr)(len cap:Nat)(w:World):
 CallsIn Fence.wide n jG 330 #[.slice a len cap] w fun e w'=>e=.returned (.func (.func 376) #[] #[.pointer (some ⟨w.heap.size,0,none⟩)])∧w'=w.alloc (.cells #[.slice a len cap] 23):=by
 refine callsIn_of_wp Tryz.func330 rfl trivial ?_ rfl;simp only[Tryz.ntmps330,List.size_toArray,List.length_cons,List.length_nil,Nat.reduceAdd,Nat.reduceSub,Array.replicate_succ,Array.replicate_zero,List.push_toArray,List.append_toArray,List.nil_append,List.cons_append]
 gi_wp2
 go_ret
 exact⟨rfl,rfl⟩
def RdI(w:World)(d:Nat)(pre:List Int)(W:World):Prop:=(∃v,Boxed W w.heap.size 136 v∧W.ownsRow (d+1) 21 1 v pre.length (pre.map (.int .i32)))∧Below w.heap.size w W
def BsAt(W:World)(A:Option Addr)(bs:List Int):Prop:=0<bs.length→∃g off,A=some ⟨g,off,none⟩∧∀i x,bs[i]? =some x→W.cell? ⟨g,off+i,none⟩=some (.int .u8 x)
def KJ(L:List Int)(w:World)(e:Ending)(w':World):Prop:=∃v,e=.returned v∧w'.ownsRow w.heap.size 21 1 v L.length (L.map (.int .i32))∧Below w.heap.size w w'
set_option maxHeartbeats 3200000 in
theorem qQf(A:Option Addr)(bs L:List Int)(ca:Nat)(w:World)(hL:∀r∈L,gD r=true)(hbs:bs=L.flatMap vK)(hz:bs.length≤10000)(hlz:L.length≤10000)(hb:BsAt w A bs):
 Calls jG 256 #[.slice A bs.length ca] w (KJ L w):=by
 have hok:Hid (∀d:Dk,d.need=0∧d.hv=0→fX d bs∧(yT d bs).1=L∧(yT d bs).2.need=0∧(yT d bs).2.hv=0):=Hd (fun d hd=>by rw[hbs];exact QD L hL d hd);clear hbs hL;have HB:=Hd hb;clear hb;obtain⟨i0,hi,hz0,hz1,hz2⟩:=info_parts JA;refine(callsIn_wide (n:=5)).1 ?_;refine callsIn_of_wp_marks Tryz.func256 rfl trivial ?_ rfl;simp only[Tryz.ntmps256,List.size_toArray,List.length_cons,List.length_nil,Nat.reduceAdd,Nat.reduceSub,Array.replicate_succ,Array.replicate_zero,List.push_toArray,List.append_toArray,List.nil_append,List.cons_append]
 gi_wp2_with (refine⟨trivial,?_⟩;gi_at_call 330;refine(qQd _ _ _ _ _).mono ?_;rintro e w' ⟨rfl,rfl⟩)
 have bO:=Boxed.new w 136 (.slice none 0 0);have bN:=Boxed.new (w.alloc (.cells #[.slice none 0 0] 136)) 23 (.slice A bs.length ca);rw[World.size_alloc]at bN;have hB0:Below w.heap.size w ((w.alloc (.cells #[.slice none 0 0] 136)).alloc (.cells #[.slice A bs.length ca] 23)):=((jU _ w).alloc (jD _) _).alloc qV _;have hs0:((w.alloc (.cells #[.slice none 0 0] 136)).alloc (.cells #[.slice A bs.length ca] 23)).heap.size=w.heap.size+2:=by simp
 have bO2:=bO.alloc (.cells #[.slice A bs.length ca] 23);generalize (w.alloc (.cells #[.slice none 0 0] 136)).alloc (.cells #[.slice A bs.length ca] 23)=W0 at bN hB0 hs0 bO2 ⊢;refine sF (α:=Int) rfl qZ (gf:=376) (lb:=#[.pointer (some ⟨w.heap.size+1,0,none⟩)]) rfl trivial Yc (encs:=fun x:Int=>#[Value.int .i32 x]) (Kp:=KpD w.heap.size (w.heap.size+3) (w.heap.size+4)) (xs:=L) (d:=w.heap.size+4) qJ
  (fun W hbW hsW=>?seq) (fun h k=>KpD.trans h k) (fun W o'=>?kb) (fun _=>rfl) (RdI w (w.heap.size+4)) ?own ?start
  (fun x=>{tmps:=#[.slice A bs.length ca,undef,.slice none 0 0,.pointer (some ⟨w.heap.size,0,none⟩),.int .i32 x,.slice A bs.length ca,.func (.func 376) #[] #[.pointer (some ⟨w.heap.size+1,0,none⟩)],.int .i32 x,undef,undef,undef,undef,undef],defers:=[]}) ?assign ?body ?done
 case seq=>
  have :=Uw (5-1) qZ (w.heap.size+3) w.heap.size (w.heap.size+1) ca A bs L hok.o hz W qJ qJ qJ qJ ((hbW.cell (p:=⟨w.heap.size+1,0,none⟩) (by rw[hs0];exact Nat.lt_succ_self _)).trans bN.cell) (fun h0=>by
   obtain⟨g,off,rfl,hc⟩:=HB.o h0;have hg:=vG (hc 0 _ (jN h0));exact⟨g,off,rfl,by omega,by omega,by omega,fun i x hx=>kZ ((hB0.trans (hbW.mono qJ))) (hc i x hx)⟩)
  rw[hsW,hs0]at this;rw[hs0];exact this
 case kb=>
  rw[hs0];exact⟨by rw[World.putObj_size];exact jD _,fun k _ _ hk=>World.putObj_heap_other hk⟩
 case own=>
  rintro pre W W' r ⟨⟨v,hv,ho⟩,hB⟩ hg hr;rw[hs0]at hr;refine⟨⟨v,hv.kept hg qVu,kC ho (Mod.of_grown (X:=[r]) hg (fun g e=>by cases e;simp)) (fun g e hm=>?_)⟩,hB.grown hg hB.size (fun k e=>by cases e;omega)⟩;obtain rfl:g=r:=by simpa using hm
  rcases ho.2 with⟨rfl,_⟩|⟨g',cap,cur,rfl,hb,_,_⟩
  · cases e
  · obtain rfl:g'=g:=by simpa[Value.ownBlock]using e
    omega
 case start=>exact⟨⟨_,bO2,kD _ _ _ _⟩,hB0⟩
 case assign=>
  intro l x W K hK
  gi_wp2
  exact hK
 case body=>
  rintro l pre x W ⟨⟨v,hv,hrow⟩,hB⟩ hlt hd;have hc:=hv.cell
  gi_wp2_with (gi_at_builtin;refine wpListIn_append_own _ rfl _ _ 136 rfl (w.heap.size+5) 21 i0 (.int .i32 0) 1 4 Tryz.underlying136 hi hz0 hz1 hz2 rfl qZ _ _ _ rfl (hrow.alloc _) ⟨W.heap.size,0,none⟩ 1 1 [.int .i32 x] rfl rfl (cell_one_new _ _ _) qVw qU qJ qY ?_;intro v' w1 hown' hgrow _;obtain⟨g',cap',rfl⟩:=ownsRow_succ hown';obtain⟨hv1,hv2,hr2,hk2,hb2⟩:=hv.appended qZ (pS hrow (base':=w.heap.size) qJ) hB.size (jD _) (pS hown' (base':=w.heap.size) qJ) hgrow;have hrw:=hown'.kept (grownBy_setCell' w1 w.heap.size (.slice (some ⟨g',0,none⟩) (pre.length+1) cap')) (.inr (hv1.not_row (t:=136) qZ hown').symm);have hc1:=hv1.cell;have hf1:=hv1.frozen;have hgv:=Hd hgrow;clear hgrow)
  refine⟨hk2,⟨hb2.size,fun k hk h1 h2=>?_⟩,⟨_,hv2,by simpa using hrw⟩,hB.trans hb2⟩;refine(Below.heap_setCell w1 ⟨w.heap.size,0,none⟩ _ k h1).trans ((hgv.o.block k qY (fun e=>?_)).trans (Below.heap_alloc W _ k qJ));rcases hrow.2 with⟨rfl,_⟩|⟨g2,cap,cur,rfl,hb,_,_⟩
  · cases e
  · have e:some k=(Value.slice (some ⟨g2,0,none⟩) pre.length cap).ownBlock:=e;obtain rfl:k=g2:=by simpa[Value.ownBlock]using e
    omega
 case done=>
  rintro W ⟨⟨v,hv,hrow⟩,hB⟩ hK;have hc:=hv.cell
  gi_wp2
  refine⟨by simp,.inl ⟨_,_,rfl,run_takeDeferred hK,?_⟩⟩;exact⟨_,results_tmp rfl _ _ _,v,rfl,ownsRow_putObj (pS hrow (base':=w.heap.size) qJ) _ hK rfl,hB.grown (grownBy_putObj' W _ _) hB.size (fun k e=>by cases e;omega)⟩
def xJ(s:ByteArray):Prop:=∃L:List Int,(∀r∈L,gD r=true∧gZ r=0)∧s=strOfNums (L.flatMap vK)∧s.size≤32
theorem dA(r:Int)(h:gD r=true):∀x∈vK r,0≤x∧x<256:=by
 have hr:0≤r∧r≤1114111:=by unfold gD at h;simp at h;omega
 unfold vK
 repeat' split
 all_goals
  intro x hx;simp at hx;omega
theorem Yi(r:Int):1≤(vK r).length:=by
 unfold vK
 repeat' split
 all_goals simp
theorem gE(xs:List Int):(strOfNums xs).size=xs.length:=by
 show(List.map _ xs).toArray.size=_;simp
theorem qJa(r:Int)(h:gD r=true):(vO r).size=(vK r).length:=by rw[lG r h,gE]
theorem aR(L:List Int):L.length≤(L.flatMap vK).length:=by
 induction L with
 |nil=>simp
 |cons r L ih=>rw[List.flatMap_cons,jC,List.length_cons];have :=Yi r;omega
theorem Wm(xs:List Int)(hx:∀x∈xs,0≤x∧x<256)(i:Nat)(x:Int)(h:xs[i]? =some x):((((strOfNums xs).data.toList.getD i 0).toNat:Nat):Int)=x:=by
 obtain⟨hi,rfl⟩:=jP.1 h;have :=hx _ (List.getElem_mem hi);show((((List.map (fun n:Int=>UInt8.ofNat n.toNat) xs).toArray.toList.getD i 0).toNat:Nat):Int)=xs[i];rw[kV];simp[hi];omega
theorem Zp(w:World)(e:TypeId)(xs:List Int)(hx:∀x∈xs,0≤x∧x<256):BsAt (Lib.bytesWorld w e (strOfNums xs)) (some ⟨w.heap.size,0,none⟩) xs:=fun _=>
 ⟨w.heap.size,0,rfl,fun i x hi=>by
  rw[kP,Lib.bytesWorld_cell w e _ i (by rw[gE];exact(jP.1 hi).1),Wm xs hx i x hi]⟩
theorem mA(w:World)(e:TypeId)(s:ByteArray):Below w.heap.size w (Lib.bytesWorld w e s):=
 ⟨rfl,rfl,rfl,by rw[Lib.bytesWorld_size];omega,fun k hk=>Lib.bytesWorld_at_old w e s k hk⟩
theorem QU(s:ByteArray)(w:World):(convert 9 23 (.string s)).run jG w=.ok (.slice (some ⟨w.heap.size,0,none⟩) s.size (grownCap w s.size 0 5)) (Lib.bytesWorld w 5 s):=
 Lib.run_convert_string_bytes w _ _ _ s Tryz.underlying9 Tryz.underlying23 Tryz.underlying5
theorem UD{w:World}{base:Nat}{L:List Int}{v:Value}(h:w.ownsRow base 21 1 v L.length (L.map (.int .i32))):∃A c,v=.slice A L.length c∧∀i x,L[i]? =some x→∃g,A=some ⟨g,0,none⟩∧w.cell? ⟨g,i,none⟩=some (.int .i32 x):=by
 rcases h.2 with⟨rfl,h0⟩|⟨g,cap,cur,rfl,h1⟩
 · exact⟨none,0,by rw[h0],fun i x hx=>by rw[List.length_eq_zero_iff.1 h0]at hx;simp at hx⟩
 · exact⟨_,cap,rfl,fun i x hx=>⟨g,rfl,by
    have h2:=h.cells (g:=g) rfl i (.int .i32 x) (by simp[hx])
    rwa[show(⟨g,0,none⟩:Addr).add i=⟨g,i,none⟩from by unfold Addr.add;split<;>simp_all]at h2⟩⟩
set_option maxHeartbeats 1600000 in
theorem Yg(s:ByteArray)(h:xJ s)(w:World):Calls jG 163 #[.string s] w fun e w'=>e=.returned (.bool true)∧Below w.heap.size w w':=by
 obtain⟨L,hL,rfl,hz⟩:=h;obtain⟨xs,hxs⟩:∃xs,xs=L.flatMap vK:=⟨_,rfl⟩;rw[←hxs]at hz ⊢;have hsz:=gE xs;have hlx:L.length≤xs.length:=by rw[hxs];exact aR L
 have hxr:∀x∈xs,0≤x∧x<256:=by
  rw[hxs];intro x hx;obtain⟨r,hr,hx⟩:=List.mem_flatMap.1 hx;exact dA r (hL r hr).1 x hx
 have hg1:¬32<(strOfNums xs).size:=by omega
 have hl32:L.length≤32:=by omega
 have HX:=Hd hxs;have HLL:=Hd hL;have HSZ:=Hd hsz;have hcv:=QU (strOfNums xs) w;have HBI:=Hd (Zp w 5 xs hxr);have HBB:=Hd (mA w 5 (strOfNums xs));clear hxs hL hsz hxr;have HA:Hid (∀(c:Nat) (w1:World),BsAt w1 (some ⟨w.heap.size,0,none⟩) xs→Calls jG 256 #[.slice (some ⟨w.heap.size,0,none⟩) (strOfNums xs).size c] w1 (KJ L w1)):=Hd (fun c w1 hb=>by
  rw[HSZ.o];exact qQf _ xs L c w1 (fun r hr=>(HLL.o r hr).1) HX.o (by have :=HSZ.o;omega) (by have :=HSZ.o;omega) hb)
 generalize Lib.bytesWorld w 5 (strOfNums xs)=wb at hcv HBI HBB
 go_enter Tryz.func163,Tryz.ntmps163
 go_wp2_with(go_at_call 256;(with_reducible refine(HA.o _ _ HBI.o).mono ?_);rintro e w1 ⟨v,rfl,ho,hb1⟩;obtain⟨A,c,rfl,hA⟩:=UD ho;have HB1:=Hd (jM HBB.o hb1);clear hb1 ho)
 have hAA:=Hd hA;clear hA
 go_loopw [3,13] (fun n i wr=>∃k:Nat,k≤L.length∧i=.int .i64 k∧n=.int .i64 (((L.take k).flatMap vK).length:Nat)∧Below w.heap.size w wr∧Below w1.heap.size w1 wr) (fun _ i _=>L.length-(intOf i).toNat)
 case atStart=>exact⟨0,kB _,rfl,rfl,HB1.o,jU _ _⟩
 case round=>
  obtain⟨k,hk,rfl,rfl,hB,hb⟩:=hrel;have HTL:Hid (((L.take k).flatMap vK).length≤xs.length):=Hd (by
   rw[HX.o]
   conv=>rhs;rw[←List.take_append_drop k L,List.flatMap_append,jC]
   omega)
  by_cases hlt:k<L.length
  · obtain⟨g,rfl,hc0⟩:=hAA.o k _ (jN hlt);have hc:=kZ hb hc0;have hr:=HLL.o _ (List.getElem_mem hlt);have HT:Hid ((L.take (k+1)).flatMap vK=(L.take k).flatMap vK++vK L[k]):=Hd (by rw[kY hlt,List.flatMap_append];simp);clear hc0;generalize L[k]=r at hc hr HT;have HW:=Hd (fun w=>hZ r w);have HU:=Hd (fun w=>rP r w);have hpl:=qJa r hr.1;have hp32:=tQ r;rw[hr.2]at HW;clear hr;obtain⟨q,hq⟩:∃q,q=((L.take k).flatMap vK).length:=⟨_,rfl⟩;rw[←hq]at HTL ⊢;have hq2:q≤32:=by have :=HTL.o;have :=HSZ.o;omega
    have hw2:jE.wrap ((q:Int)+((vO r).size:Nat))=((q+(vO r).size:Nat):Int):=by rw[jF _ qJ];omega
    have HQ:=Hd hq;have HPL:=Hd hpl;clear hq hpl hp32
    go_wp2_with(first|(go_at_call 162;(with_reducible refine(HW.o _).mono ?_);rintro e w2 ⟨rfl,hb2⟩)|(go_at_call 102;(with_reducible refine(HU.o _).mono ?_);rintro e w3 ⟨rfl,hb3⟩))
    go_roundw
    case rel=>exact⟨k+1,by omega,by go_num,by rw[HT.o,jC,←HQ.o,←HPL.o,Int.natCast_add],jM (jM hB hb2) hb3,jM (jM hb hb2) hb3⟩
    case measure=>simp[intOf];omega
  · obtain rfl:k=L.length:=by omega
    have he:(L.take L.length).flatMap vK=xs:=by rw[List.take_length,HX.o]
    have hse:((((L.take L.length).flatMap vK).length:Nat):Int)=((strOfNums xs).size:Nat):=by rw[he,HSZ.o]
    rw[hse];clear hse he
    go_wp2
    go_ret
    exact⟨by simp,hB⟩
def Kl(c:Cl):Prop:=(c.r=0∧c.more=kU∧c.half=0)∨(c.r≠0∧xJ c.more∧(c.half=0∧gZ c.r=1∨c.half=1∧gZ c.r=2∨c.half=2∧gZ c.r=2))
def gL(c:Cl):Prop:=Kl c∧iL c.fk c.fn c.bk c.bn c.fl=true∧(c.r=0→c.fk=0∧c.fn=0∧c.fl=0)
set_option maxHeartbeats 1600000 in
theorem Z7(c:Cl)(h:Kl c)(w:World):Calls jG 92 #[clV c] w fun e w'=>e=.returned (.bool true)∧Below w.heap.size w w':=by
 obtain⟨r,more,half,fk,fn,bk,bn,fl⟩:=c;unfold clV;rcases h with⟨h1,h2,h3⟩|⟨h1,h2,h3⟩
 · simp only at h1 h2 h3;subst h1 h2 h3
   go_enter Tryz.func92,Tryz.ntmps92
   go_wp2
   go_ret
   exact⟨by first|rfl|simp,by repeat(first|exact jU _ _|refine jH ?_ _)⟩
 · simp only at h1 h2 h3;have HM:=Hd (fun w=>Yg more h2 w);have HW:=Hd (fun w=>hZ r w);clear h2;rcases h3 with⟨rfl,h3⟩|⟨rfl,h3⟩|⟨rfl,h3⟩
   all_goals
    rw[h3]at HW;clear h3
    go_enter Tryz.func92,Tryz.ntmps92
    go_wp2_with(first|(go_at_call 162;(with_reducible refine(HW.o _).mono ?_);rintro e w1 ⟨rfl,hb1⟩;have e1:=(vT hb1 (jA rfl) 1 _ rfl).1;have hB1:=jM (show Below w.heap.size w _ from by repeat(first|exact jU _ _|refine jH ?_ _)) hb1)|(go_at_call 163;(with_reducible refine(HM.o _).mono ?_);rintro e w2 ⟨rfl,hb2⟩))
    go_ret
    exact⟨by first|rfl|simp,jM hB1 hb2⟩
set_option maxHeartbeats 1600000 in
theorem V4(c:Cl)(h:gL c)(w:World):Calls jG 50 #[clV c] w fun e w'=>e=.returned (.bool true)∧Below w.heap.size w w':=by
 obtain⟨r,more,half,fk,fn,bk,bn,fl⟩:=c;unfold clV;obtain⟨hc,ha,h0⟩:=h;have hh:¬half=3:=by rcases hc with⟨_,_,h⟩|⟨_,_,⟨h,_⟩|⟨h,_⟩|⟨h,_⟩⟩<;>(simp only at h;omega)
 simp only at ha h0;have HA:=Hd (fun w=>QT fk fn bk bn fl ha w);clear hc ha
 by_cases hr:r=0
 · obtain⟨rfl,rfl,rfl⟩:=h0 hr;subst hr;clear h0
   go_enter Tryz.func50,Tryz.ntmps50
   go_wp2_with(go_at_call 93;(with_reducible refine(HA.o _).mono ?_);rintro e w2 ⟨rfl,hb2⟩)
   go_ret
   exact qZt
 · clear h0
   go_enter Tryz.func50,Tryz.ntmps50
   go_wp2_with(go_at_call 93;(with_reducible refine(HA.o _).mono ?_);rintro e w2 ⟨rfl,hb2⟩)
   go_ret
   exact qZt
theorem Xr{α:Type}{enc:α→List Value}{K:Nat}(hl:∀x,(enc x).length=K)(hK:0<K)(z:α)(n:Nat):(madeCells (enc z).toArray (n*K)).toList=uY enc (kW n z):=by
 refine gU fun m=>?_
 by_cases hm:m<n*K
 · have hd:m/K<n:=(Nat.div_lt_iff_lt_mul hK).2 hm;have h1:(kW n z)[m/K]? =some z:=by rw[List.getElem?_replicate];rw[if_pos hd]
   have h2:=yQ hl (kW n z) (m/K) z (m%K) h1 (Nat.mod_lt _ hK);rw[show m/K*K+m%K=m by rw[Nat.mul_comm];exact Nat.div_add_mod m K]at h2;rw[h2];have hj:m%K<(enc z).length:=by rw[hl];exact Nat.mod_lt _ hK
   unfold madeCells;simp only[Array.toList_map,Array.toList_range,uV,List.getElem?_range hm,Option.map_some];rw[jN hj]
   congr 1
   have hs:(enc z).toArray.size=K:=by rw[List.size_toArray,hl]
   rw[hs,getElem!_pos _ _ (by rw[hs];exact Nat.mod_lt _ hK)];simp
 · rw[uZ qV0,uZ (by rw[pW hl,uX];omega)]
theorem Vq(r:Int)(w:World):Calls jG 94 #[.int .i32 r] w fun e w'=>e=.returned (.bool (gD r))∧w=w':=by
 unfold gD
 by_cases h1:0≤r<;>by_cases h2:r≤1114111<;>by_cases h3:r<55296<;>by_cases h4:57343<r<;>
 · go_enter Tryz.func94,Tryz.ntmps94
   go_wp2
   go_ret
   refine⟨?_,rfl⟩;simp[h1,h2,h3,h4]
   try omega
def nR(w:World)(v:Value)(xs:List Int):Prop:=(xs=[]∧v=.slice none 0 0)∨∃g c,v=.slice (some ⟨g,0,none⟩) xs.length c∧w.heap[g]? =some (.cells (xs.map (Value.int .u8)).toArray 5 (0,0))
def U6(b:ByteArray)(w:World)(e:Ending)(w':World):Prop:=∃v xs,e=.returned v∧nR w' v xs∧strOfNums xs=b∧Below w.heap.size w w'
theorem JE:(jG.info? 5).map (fun i=>(i.zero,i.size,i.bytes))=some (some (.int .u8 0),1,1):=by kernel_rfl
theorem Xt(n:Nat):madeCells #[Value.int .u8 0] n=(kW n (Value.int .u8 0)).toArray:=by
 have h:=Xr (enc:=fun v:Value=>[v]) (K:=1) (fun _=>rfl) qZ (Value.int .u8 0) n;rw[Nat.mul_one]at h;refine Array.ext' (h.trans ?_);clear h
 induction n with
 |zero=>rfl
 |succ n ih=>
  rw[List.replicate_succ];show Value.int .u8 0::uY _ (kW n (Value.int .u8 0))=_;rw[ih]
theorem oS(n:Nat)(h:n≤1000)(W:World):Sem.run jG (Instr.makeSlice 23 (.int .i64 (n:Int)) (.int .i64 (n:Int))) W=.ok (.slice (some ⟨W.heap.size,0,none⟩) n n) (W.alloc (.cells (kW n (Value.int .u8 0)).toArray 5)):=by
 rw[←Xt];exact run_make_row' 23 5 (.int .u8 0) 1 Tryz.underlying23 JE rfl .i64 .i64 n qJ qJ W
set_option maxHeartbeats 1600000 in
theorem JY(r:Int)(w:World):Calls jG 52 #[.int .i32 r] w (U6 (vO r) w):=by
 have HS:=Hd (fun w=>Vq r w);cases hs:gD r with
 |false=>
  have HV:=Hd (show vO r=kU from by unfold vO;rw[hs];rfl);rw[hs]at HS;clear hs
  go_enter Tryz.func52,Tryz.ntmps52
  go_wp2_with(go_at_call 94;refine(HS.o _).mono ?_;rintro e w1 ⟨rfl,rfl⟩)
  go_ret
  exact⟨_,[],rfl,.inl ⟨rfl,rfl⟩,by rw[HV.o];rfl,jU _ _⟩
 |true=>
  rw[hs]at HS;have hr:0≤r∧r≤1114111:=by unfold gD at hs;simp at hs;omega
  obtain⟨hr0,hr1⟩:=hr
  by_cases hA:r<128
  · have HV:=Hd (show vO r=⟨#[r.toNat.toUInt8]⟩from by unfold vO;rw[hs,if_pos rfl,if_pos hA]);clear hs;have hA1:¬127<r:=by omega
    have hA2:¬2047<r:=by omega
    have hA3:¬65535<r:=by omega
    go_enter Tryz.func52,Tryz.ntmps52
    go_wp2_with(go_at_call 94;refine(HS.o _).mono ?_;rintro e w1 ⟨rfl,rfl⟩)
    refine wp_loop_rounds 4 ?_;rw[rounds_succ];go_wp2;rw[rounds_succ];go_wp2;rw[rounds_succ];go_wp2;rw[rounds_succ];go_wp2
    go_ret
    exact⟨_,[r],rfl,.inr ⟨w.heap.size+1,1,rfl,jA qV⟩,by rw[HV.o];rfl,jH (jH (jU _ _) _) _⟩
  by_cases hB:r<2048
  · have HV:=Hd (show vO r=⟨#[(192+r/64).toNat.toUInt8,(128+r%64).toNat.toUInt8]⟩from by unfold vO;rw[hs,if_pos rfl,if_neg (show ¬r<0x80 from hA),if_pos hB]);clear hs;have hmk:∀W:World,Sem.run jG (Instr.makeSlice 23 (.int .i64 2) (.int .i64 2)) W=.ok (.slice (some ⟨W.heap.size,0,none⟩) 2 2) (W.alloc (.cells #[.int .u8 0,.int .u8 0] 5)):=fun W=>oS 2 qJ W;have hA1:127<r:=by omega
    have hA2:¬2047<r:=by omega
    have hA3:¬65535<r:=by omega
    go_enter Tryz.func52,Tryz.ntmps52
    go_wp2_with(go_at_call 94;refine(HS.o _).mono ?_;rintro e w1 ⟨rfl,rfl⟩)
    refine wp_loop_rounds 4 ?_;rw[rounds_succ];go_wp2;rw[rounds_succ];go_wp2;rw[rounds_succ];go_wp2;rw[rounds_succ];go_wp2;refine wp_loop_rounds 2 ?_;rw[rounds_succ];go_wp2;rw[rounds_succ];go_wp2
    go_ret
    exact⟨_,[192+r/64,128+r%64],rfl,.inr ⟨w.heap.size+1,2,rfl,uA (jA qV)⟩,by rw[HV.o];rfl,jH (jH (jH (jU _ _) _) _) _⟩
  by_cases hC:r<65536
  · have HV:=Hd (show vO r=⟨#[(224+r/4096).toNat.toUInt8,(128+r/64%64).toNat.toUInt8,(128+r%64).toNat.toUInt8]⟩from by unfold vO;rw[hs,if_pos rfl,if_neg (show ¬r<0x80 from hA),if_neg (show ¬r<0x800 from hB),if_pos hC]);clear hs;have hmk:∀W:World,Sem.run jG (Instr.makeSlice 23 (.int .i64 3) (.int .i64 3)) W=.ok (.slice (some ⟨W.heap.size,0,none⟩) 3 3) (W.alloc (.cells #[.int .u8 0,.int .u8 0,.int .u8 0] 5)):=fun W=>oS 3 qJ W;have hA1:127<r:=by omega
    have hA2:2047<r:=by omega
    have hA3:¬65535<r:=by omega
    have hdd:r/64/64=r/4096:=by omega
    go_enter Tryz.func52,Tryz.ntmps52
    go_wp2_with(go_at_call 94;refine(HS.o _).mono ?_;rintro e w1 ⟨rfl,rfl⟩)
    refine wp_loop_rounds 4 ?_;rw[rounds_succ];go_wp2;rw[rounds_succ];go_wp2;rw[rounds_succ];go_wp2;rw[rounds_succ];go_wp2;refine wp_loop_rounds 3 ?_;rw[rounds_succ];go_wp2;rw[rounds_succ];go_wp2;rw[rounds_succ];go_wp2
    go_ret
    exact⟨_,[224+r/4096,128+r/64%64,128+r%64],rfl,.inr ⟨w.heap.size+1,3,rfl,uA (jA qV)⟩,by rw[HV.o];rfl,jH (jH (jH (jU _ _) _) _) _⟩
  have HV:=Hd (show vO r=⟨#[(240+r/262144).toNat.toUInt8,(128+r/4096%64).toNat.toUInt8,(128+r/64%64).toNat.toUInt8,(128+r%64).toNat.toUInt8]⟩from by unfold vO;rw[hs,if_pos rfl,if_neg (show ¬r<0x80 from hA),if_neg (show ¬r<0x800 from hB),if_neg (show ¬r<0x10000 from hC)]);clear hs;have hmk:∀W:World,Sem.run jG (Instr.makeSlice 23 (.int .i64 4) (.int .i64 4)) W=.ok (.slice (some ⟨W.heap.size,0,none⟩) 4 4) (W.alloc (.cells #[.int .u8 0,.int .u8 0,.int .u8 0,.int .u8 0] 5)):=fun W=>oS 4 qJ W;have hA1:127<r:=by omega
  have hA2:2047<r:=by omega
  have hA3:65535<r:=by omega
  have hdd:r/64/64=r/4096:=by omega
  have hdd2:r/4096/64=r/262144:=by omega
  go_enter Tryz.func52,Tryz.ntmps52
  go_wp2_with(go_at_call 94;refine(HS.o _).mono ?_;rintro e w1 ⟨rfl,rfl⟩)
  refine wp_loop_rounds 4 ?_;rw[rounds_succ];go_wp2;rw[rounds_succ];go_wp2;rw[rounds_succ];go_wp2;rw[rounds_succ];go_wp2;refine wp_loop_rounds 4 ?_;rw[rounds_succ];go_wp2;rw[rounds_succ];go_wp2;rw[rounds_succ];go_wp2;rw[rounds_succ];go_wp2
  go_ret
  exact⟨_,[240+r/262144,128+r/4096%64,128+r/64%64,128+r%64],rfl,.inr ⟨w.heap.size+1,4,rfl,uA (jA qV)⟩,by rw[HV.o];rfl,jH (jH (jH (jU _ _) _) _) _⟩
theorem nR.below{w w':World}{v:Value}{xs:List Int}(h:nR w v xs)(hb:Below w.heap.size w w'):nR w' v xs:=by
 rcases h with h|⟨g,c,hv,hg⟩
 · exact .inl h
 · exact .inr ⟨g,c,hv,(hb.block g (jL hg)).trans hg⟩
theorem QH{w:World}{v:Value}{xs:List Int}(h:nR w v xs):(convert 23 9 v).run jG w=.ok (.string (strOfNums xs)) w:=by
 rcases h with⟨rfl,rfl⟩|⟨g,c,rfl,hg⟩
 · kernel_rfl
 · exact sM xs xs.length c g w 5 hg rfl
def Xw(n:Nat):Int:=if n=2 then 192 else if n=3 then 224 else 240
def qJx(n:Nat):Int:=if n=2 then 32 else if n=3 then 16 else 8
def iE:Int→List Int→Int
 |r,[]=>r
 |r,y::ys=>if y<128∨191<y then -1 else iE (64*r+y-128) ys
def lF(xs:List Int):Int:=
 if xs.length=0∨4<xs.length then -1
 else if xs.length=1 then xs.headD 0
 else if xs.headD 0-Xw xs.length<0∨qJx xs.length≤xs.headD 0-Xw xs.length then -1
 else iE (xs.headD 0-Xw xs.length) (xs.drop 1)
def nT(k:Nat):Int:=if k=1 then 32 else if k=2 then 2048 else if k=3 then 131072 else 8388608
theorem Xo(ys:List Int):∀(r:Int) (k:Nat),1≤k→k+ys.length≤4→0≤r→r<nT k→ -1≤iE r ys∧iE r ys<8388608:=by
 induction ys with
 |nil=>
  intro r k h1 h2 h3 h4;simp only[iE];unfold nT at h4;refine⟨by omega,?_⟩
  split at h4
  · omega
  · split at h4
    · omega
    · split at h4<;>omega
 |cons y ys ih=>
  intro r k h1 h2 h3 h4;simp only[iE];rw[List.length_cons]at h2
  split
  · omega
  · refine ih _ (k+1) qJ qJ qJ ?_;unfold nT at h4 ⊢;obtain rfl|rfl|rfl:k=1∨k=2∨k=3:=by omega
    all_goals
     simp at h4 ⊢;omega
theorem oL(xs:List Int)(h:∀x∈xs,0≤x∧x<256): -1≤lF xs∧lF xs<8388608:=by
 unfold lF
 split
 · omega
 · split
   · have hx:xs.headD 0=0∨xs.headD 0∈xs:=by cases xs<;>simp
     rcases hx with hx|hx
     · omega
     · have :=h _ hx;omega
   · split
     · omega
     · refine Xo _ _ 1 (jD _) jJ qJ ?_;unfold nT;rw[if_pos rfl];have :qJx xs.length≤32:=by unfold qJx;split<;>(try split)<;>omega
       omega
def BsS(w:World)(g off:Nat)(xs:List Int):Prop:=∀i x,xs[i]? =some x→w.cell? ⟨g,off+i,none⟩=some (.int .u8 x)
theorem BsS.below{w w':World}{g off:Nat}{xs:List Int}(h:BsS w g off xs)(hb:Below w.heap.size w w'):BsS w' g off xs:=fun i x hx=>kZ hb (h i x hx)
theorem BsS.at_{w:World}{g off:Nat}{xs:List Int}(h:BsS w g off xs){i:Nat}(hi:i<xs.length):w.cell? ⟨g,off+i,none⟩=some (.int .u8 xs[i]):=h i _ (jN hi)
set_option maxHeartbeats 3200000 in
theorem fK(g off ca:Nat)(xs:List Int)(w:World)(hx:∀x∈xs,0≤x∧x<256)(h0:0<xs.length)(h4:xs.length≤4)(hb:BsS w g off xs):
 Calls jG 265 #[.slice (some ⟨g,off,none⟩) xs.length ca] w fun e w'=>e=.returned (.int .i32 (lF xs))∧Below w.heap.size w w':=by
 have hc0:=hb.at_ h0;have hh:xs.headD 0=xs[0]:=by cases xs<;>first|rfl|(simp at h0)
 have hr0:=hx _ (List.getElem_mem h0);rw[uS]at hc0
 by_cases h1:xs.length=1
 · have hv:lF xs=xs[0]:=by unfold lF;rw[if_neg qJ,if_pos h1,hh]
   rw[hv,h1];generalize xs[0]=x0 at hc0 hr0;have hw:IntKind.i32.wrap x0=x0:=IntWalk.i32_in _ qJ;clear hv hh
   go_enter Tryz.func265,Tryz.ntmps265
   go_wp2
   go_ret
   exact⟨rfl,jU _ _⟩
 · have hv:lF xs=if xs[0]-Xw xs.length<0∨qJx xs.length≤xs[0]-Xw xs.length then -1 else iE (xs[0]-Xw xs.length) (xs.drop 1):=by unfold lF;rw[if_neg qJ,if_neg h1,hh]
   obtain⟨n,hn⟩:∃n,n=xs.length:=⟨_,rfl⟩;have HB:Hid (∀i,i<n→∃x,w.cell? ⟨g,off+i,none⟩=some (.int .u8 x)∧0≤x∧x<256∧xs.drop i=x::xs.drop (i+1)):=Hd (fun i hi=>⟨_,hb.at_ (i:=i) qJ,(hx _ (List.getElem_mem _)).1,(hx _ (List.getElem_mem _)).2,List.drop_eq_getElem_cons qJ⟩);have HDN:Hid (xs.drop n=[]):=Hd (by rw[hn];exact List.drop_length);clear hx hb hh;generalize xs[0]=x0 at hc0 hr0 hv;rw[←hn]at hv h0 h4 h1 ⊢;clear hn;have hlen:n=2∨n=3∨n=4:=by omega
   obtain⟨lo,hlo⟩:∃lo,Xw n=lo:=⟨_,rfl⟩;obtain⟨lm,hlm⟩:∃lm,qJx n=lm:=⟨_,rfl⟩;rw[hlo,hlm]at hv;have hlc:(n=2∧lo=192∧lm=32)∨(n=3∧lo=224∧lm=16)∨(n=4∧lo=240∧lm=8):=by
    subst hlo hlm;rcases hlen with rfl|rfl|rfl
    · exact .inl ⟨rfl,rfl,rfl⟩
    · exact .inr (.inl ⟨rfl,rfl,rfl⟩)
    · exact .inr (.inr ⟨rfl,rfl,rfl⟩)
   clear hlo hlm;have hw1:IntKind.i32.wrap x0=x0:=IntWalk.i32_in _ qJ;have hw2:IntKind.i32.wrap (x0-lo)=x0-lo:=IntWalk.i32_in _ qJ;have hg:=vG hc0;have hgn:¬w.heap.size=g:=by omega
   have hgn2:¬g=w.heap.size:=by omega
   by_cases hA:x0-lo<0
   · rw[if_pos (.inl hA)]at hv;rw[hv];clear hv HB HDN hlen;rcases hlc with⟨rfl,rfl,rfl⟩|⟨rfl,rfl,rfl⟩|⟨rfl,rfl,rfl⟩
     all_goals
      go_enter Tryz.func265,Tryz.ntmps265
      go_wp2
      go_ret
      exact⟨rfl,by repeat(first|exact jU _ _|refine jH ?_ _)⟩
   · by_cases hC:lm≤x0-lo
     · rw[if_pos (.inr hC)]at hv;rw[hv];clear hv HB HDN hlen;rcases hlc with⟨rfl,rfl,rfl⟩|⟨rfl,rfl,rfl⟩|⟨rfl,rfl,rfl⟩
       all_goals
        go_enter Tryz.func265,Tryz.ntmps265
        go_wp2
        go_ret
        exact⟨rfl,by repeat(first|exact jU _ _|refine jH ?_ _)⟩
     · rw[if_neg qJ]at hv;have HV:=Hd hv;clear hv hlen;obtain⟨V,hV⟩:∃V,lF xs=V:=⟨_,rfl⟩;rw[hV]at HV ⊢;clear hV;have hA':0≤x0-lo:=by omega
       have hC':x0-lo<lm:=by omega
       have hfin:Hid (∀(W1 W2:World) (o1 o2:Obj),W1=(w.alloc o1).alloc o2→Below w.heap.size w W1):=Hd (fun W1 _ o1 o2 h=>h▸jH (jH (jU _ _) _) _);rcases hlc with⟨rfl,rfl,rfl⟩|⟨rfl,rfl,rfl⟩|⟨rfl,rfl,rfl⟩
       · go_enter Tryz.func265,Tryz.ntmps265
         go_wp2
         go_loopw [6,5] (fun i r wr=>∃(k:Nat) (rv:Int),1≤k∧k≤2∧i=.int .i64 k∧r=.int .i32 rv∧0≤rv∧rv<nT k∧Hid (V=iE rv (xs.drop k))∧Below w.heap.size w wr) (fun i _ _=>2-(intOf i).toNat)
         case atStart=>exact⟨1,_,jD _,by omega,rfl,rfl,hA',by unfold nT;rw[if_pos rfl];omega,HV,hfin.o _ w _ _ rfl⟩
         case round=>
          obtain⟨k,rv,hk1,hk2,rfl,rfl,hv0,hv1,HVk,hB⟩:=hrel
          by_cases hlt:k<2
          · obtain⟨x,hxc,hx0,hx1,hxd⟩:=HB.o k hlt;have hc:=kZ hB hxc;have HXD:=Hd hxd;clear hxc hxd;have hcap:rv<131072∧64*rv+x<8388864∧64*rv+64≤nT (k+1):=by
             unfold nT at hv1 ⊢;obtain rfl|rfl|rfl:k=1∨k=2∨k=3:=by omega
             all_goals
              simp at hv1 ⊢;omega
            obtain⟨hq1,hq2,hq3⟩:=hcap;have z1:IntKind.i32.wrap (64*rv)=64*rv:=IntWalk.i32_in _ qJ;have z2:IntKind.i32.wrap x=x:=IntWalk.i32_in _ qJ;have z3:IntKind.i32.wrap (64*rv+x)=64*rv+x:=IntWalk.i32_in _ qJ;have z4:IntKind.i32.wrap (64*rv+x-128)=64*rv+x-128:=IntWalk.i32_in _ qJ
            by_cases hl:x<128∨191<x
            · have hV:V= -1:=by rw[HVk.o,HXD.o];simp only[iE];rw[if_pos hl]
              have HVV:=Hd hV;clear hV hq1 hq2 hq3;rcases hl with hl|hl
              · go_wp2
                go_ret
                exact qZu
              · have hl2:¬x<128:=by omega
                go_wp2
                go_ret
                exact qZu
            · have hl1:¬x<128:=by omega
              have hl2:¬191<x:=by omega
              have HN2:Hid (V=iE (64*rv+x-128) (xs.drop (k+1))):=Hd qVg;clear hl
              go_wp2
              go_roundw
              case rel=>exact⟨k+1,_,by omega,by omega,by go_num,rfl,by omega,by omega,HN2,hB⟩
              case measure=>simp[intOf];omega
          · obtain rfl:k=2:=by omega
            go_wp2
            go_ret
            refine⟨?_,hB⟩;have :=HVk.o;rw[HDN.o]at this;rw[this];rfl
       · go_enter Tryz.func265,Tryz.ntmps265
         go_wp2
         go_loopw [6,5] (fun i r wr=>∃(k:Nat) (rv:Int),1≤k∧k≤3∧i=.int .i64 k∧r=.int .i32 rv∧0≤rv∧rv<nT k∧Hid (V=iE rv (xs.drop k))∧Below w.heap.size w wr) (fun i _ _=>3-(intOf i).toNat)
         case atStart=>exact⟨1,_,jD _,by omega,rfl,rfl,hA',by unfold nT;rw[if_pos rfl];omega,HV,hfin.o _ w _ _ rfl⟩
         case round=>
          obtain⟨k,rv,hk1,hk2,rfl,rfl,hv0,hv1,HVk,hB⟩:=hrel
          by_cases hlt:k<3
          · obtain⟨x,hxc,hx0,hx1,hxd⟩:=HB.o k hlt;have hc:=kZ hB hxc;have HXD:=Hd hxd;clear hxc hxd;have hcap:rv<131072∧64*rv+x<8388864∧64*rv+64≤nT (k+1):=by
             unfold nT at hv1 ⊢;obtain rfl|rfl|rfl:k=1∨k=2∨k=3:=by omega
             all_goals
              simp at hv1 ⊢;omega
            obtain⟨hq1,hq2,hq3⟩:=hcap;have z1:IntKind.i32.wrap (64*rv)=64*rv:=IntWalk.i32_in _ qJ;have z2:IntKind.i32.wrap x=x:=IntWalk.i32_in _ qJ;have z3:IntKind.i32.wrap (64*rv+x)=64*rv+x:=IntWalk.i32_in _ qJ;have z4:IntKind.i32.wrap (64*rv+x-128)=64*rv+x-128:=IntWalk.i32_in _ qJ
            by_cases hl:x<128∨191<x
            · have hV:V= -1:=by rw[HVk.o,HXD.o];simp only[iE];rw[if_pos hl]
              have HVV:=Hd hV;clear hV hq1 hq2 hq3;rcases hl with hl|hl
              · go_wp2
                go_ret
                exact qZu
              · have hl2:¬x<128:=by omega
                go_wp2
                go_ret
                exact qZu
            · have hl1:¬x<128:=by omega
              have hl2:¬191<x:=by omega
              have HN2:Hid (V=iE (64*rv+x-128) (xs.drop (k+1))):=Hd qVg;clear hl
              go_wp2
              go_roundw
              case rel=>exact⟨k+1,_,by omega,by omega,by go_num,rfl,by omega,by omega,HN2,hB⟩
              case measure=>simp[intOf];omega
          · obtain rfl:k=3:=by omega
            go_wp2
            go_ret
            refine⟨?_,hB⟩;have :=HVk.o;rw[HDN.o]at this;rw[this];rfl
       · go_enter Tryz.func265,Tryz.ntmps265
         go_wp2
         go_loopw [6,5] (fun i r wr=>∃(k:Nat) (rv:Int),1≤k∧k≤4∧i=.int .i64 k∧r=.int .i32 rv∧0≤rv∧rv<nT k∧Hid (V=iE rv (xs.drop k))∧Below w.heap.size w wr) (fun i _ _=>4-(intOf i).toNat)
         case atStart=>exact⟨1,_,jD _,by omega,rfl,rfl,hA',by unfold nT;rw[if_pos rfl];omega,HV,hfin.o _ w _ _ rfl⟩
         case round=>
          obtain⟨k,rv,hk1,hk2,rfl,rfl,hv0,hv1,HVk,hB⟩:=hrel
          by_cases hlt:k<4
          · obtain⟨x,hxc,hx0,hx1,hxd⟩:=HB.o k hlt;have hc:=kZ hB hxc;have HXD:=Hd hxd;clear hxc hxd;have hcap:rv<131072∧64*rv+x<8388864∧64*rv+64≤nT (k+1):=by
             unfold nT at hv1 ⊢;obtain rfl|rfl|rfl:k=1∨k=2∨k=3:=by omega
             all_goals
              simp at hv1 ⊢;omega
            obtain⟨hq1,hq2,hq3⟩:=hcap;have z1:IntKind.i32.wrap (64*rv)=64*rv:=IntWalk.i32_in _ qJ;have z2:IntKind.i32.wrap x=x:=IntWalk.i32_in _ qJ;have z3:IntKind.i32.wrap (64*rv+x)=64*rv+x:=IntWalk.i32_in _ qJ;have z4:IntKind.i32.wrap (64*rv+x-128)=64*rv+x-128:=IntWalk.i32_in _ qJ
            by_cases hl:x<128∨191<x
            · have hV:V= -1:=by rw[HVk.o,HXD.o];simp only[iE];rw[if_pos hl]
              have HVV:=Hd hV;clear hV hq1 hq2 hq3;rcases hl with hl|hl
              · go_wp2
                go_ret
                exact qZu
              · have hl2:¬x<128:=by omega
                go_wp2
                go_ret
                exact qZu
            · have hl1:¬x<128:=by omega
              have hl2:¬191<x:=by omega
              have HN2:Hid (V=iE (64*rv+x-128) (xs.drop (k+1))):=Hd qVg;clear hl
              go_wp2
              go_roundw
              case rel=>exact⟨k+1,_,by omega,by omega,by go_num,rfl,by omega,by omega,HN2,hB⟩
              case measure=>simp[intOf];omega
          · obtain rfl:k=4:=by omega
            go_wp2
            go_ret
            refine⟨?_,hB⟩;have :=HVk.o;rw[HDN.o]at this;rw[this];rfl
theorem conv_bs{w:World}{g off:Nat}{xs:List Int}(h:BsS w g off xs)(ca:Nat):(convert 23 9 (.slice (some ⟨g,off,none⟩) xs.length ca)).run jG w=.ok (.string (strOfNums xs)) w:=by
 refine run_convert_bytes_arg w 23 5 Tryz.underlying23 Tryz.underlying5 g off xs.length ca xs rfl (fun i hi=>?_) 9 Tryz.underlying9;rw[h.at_ hi,kV,jN hi];rfl
def U4(b:ByteArray)(v:Value)(w:World):Prop:=∃ys,nR w v ys∧strOfNums ys=b
theorem U4.pers(b:ByteArray)(v:Value):rW (U4 b v):=fun w w' ⟨ys,h,e⟩ hb=>⟨ys,h.below hb,e⟩
theorem U4.conv{b:ByteArray}{v:Value}{w:World}(h:U4 b v w):(convert 23 9 v).run jG w=.ok (.string b) w:=by
 obtain⟨ys,h,e⟩:=h;rw[QH h,e]
def UJ(xs:List Int)(w:World)(e:Ending)(w':World):Prop:=∃t:Bool,e=.returned (.bool t)∧(t=true→0≤lF xs∧vO (lF xs)=strOfNums xs)∧Below w.heap.size w w'
set_option maxHeartbeats 3200000 in
theorem ris_any(g off ca:Nat)(xs:List Int)(w:World)(hx:∀x∈xs,0≤x∧x<256)(h0:0<xs.length)(h4:xs.length≤4)(hb:BsS w g off xs):
 Calls jG 264 #[.slice (some ⟨g,off,none⟩) xs.length ca] w (UJ xs w):=by
 have HN:=Hd (fK g off ca xs w hx h0 h4 hb);have HX:=Hd hb;have hrg:=oL xs hx;unfold UJ;obtain⟨n,hn⟩:∃n,n=xs.length:=⟨_,rfl⟩;have HCV:Hid (∀w',BsS w' g off xs→(convert 23 9 (.slice (some ⟨g,off,none⟩) n ca)).run jG w'=.ok (.string (strOfNums xs)) w'):=Hd (fun w' h=>by rw[hn];exact conv_bs h ca);rw[←hn]at HN ⊢;clear hx hb hn h0 h4;generalize lF xs=v at HN hrg ⊢
 by_cases hv:v<0
 · obtain rfl:v= -1:=by omega
   go_enter Tryz.func264,Tryz.ntmps264
   go_upto_region 2 with(go_at_call 265;(with_reducible refine HN.o.mono ?_);rintro e w1 ⟨rfl,hb1⟩)
   refine pV 8 (fun w'=>Below w1.heap.size w1 w') qQ qQ ?_ ?_ ?_
   · exact fun w1 w2 hS hb=>jM hS hb
   · exact(jU _ _).drew
   refine AtN.go 0 ?_
   iterate 8 (refine AtC.take (o:=⟨_,_,_,_,_,_⟩) (v:=?_) qQ rfl qV qQ qQ ?_ ?_;rotate_left;(focus(first|(refine uJ.skip ?_;rfl)|(refine uJ.val qK ?_;intro w' hS;obtain hS0:=hS;go_simp;first|done|with_reducible rfl)));simp only[Act.put,jZ,jX,jY])
   refine AtC.back ?_;refine AtN.done qQ (fun w' hS=>?_)
   go_wp2
   go_ret
   exact⟨_,rfl,fun h=>by simp at h,jM hb1 hS⟩
 · have hv':0≤v:=by omega
   have HU:=Hd (fun w=>JY v w)
   go_enter Tryz.func264,Tryz.ntmps264
   go_upto_region 2 with(go_at_call 265;(with_reducible refine HN.o.mono ?_);rintro e w1 ⟨rfl,hb1⟩)
   refine pV 8 (fun w'=>Below w1.heap.size w1 w'∧BsS w' g off xs) qQ qQ ?_ ?_ ?_
   · exact fun w1 w2 hS hb=>⟨jM hS.1 hb,hS.2.below hb⟩
   · exact⟨(jU _ _).drew,HX.o.below ((jM hb1 (jU _ _).drew))⟩
   refine AtN.go 0 ?_
   iterate 4 (refine AtC.take (o:=⟨_,_,_,_,_,_⟩) (v:=?_) qQ rfl qV qQ qQ ?_ ?_;rotate_left;(focus(first|exact uJ.skip qK|(refine uJ.val qK ?_;intro w' hS;obtain⟨_,_⟩:=hS;go_simp;first|done|with_reducible rfl)));simp only[Act.put,jZ,jX,jY])
   refine AtC.back ?_;refine AtN.take 6 (o:=⟨_,_,_,_,_,_⟩) (v:=?_) qQ rfl qV qQ qQ ?_ ?_;rotate_left
   · first|exact uJ.skip qK|(refine uJ.val qK ?_;intro w' hS;obtain⟨_,_⟩:=hS;go_simp;first|done|with_reducible rfl)
   simp only[Act.put,jZ,jX,jY];refine AtN.take 7 (o:=⟨_,_,_,_,_,_⟩) (v:=.string (strOfNums xs)) qQ rfl qV qQ qQ (uJ.val qK (fun w' hS=>by have hcv:=HCV.o w' hS.2;go_simp)) ?_;simp only[Act.put,jZ,jX,jY];refine AtN.one 4 (o:=⟨_,_,_,_,_,_⟩) (fun _=>True) (U4 (vO v)) qV qQ rfl (U4.pers _) (uJ.call 52 #[.int .i32 v] _ _ qK qM (fun w' hS=>(HU.o w').mono (fun e w2 ⟨u,ys,he,hu,hy,hb⟩=>⟨u,he,⟨trivial,ys,hu,hy⟩,hb⟩))) ?_;rintro U hU;simp only[Act.put,jZ,jX,jY];refine AtN.take 5 (o:=⟨_,_,_,_,_,_⟩) (v:=.string (vO v)) qQ rfl qV qQ qQ (uJ.val qK (fun w' hS=>by have hcv:=hS.2.conv;go_simp)) ?_;simp only[Act.put,jZ,jX,jY];refine AtN.done qQ (fun w' hS=>?_)
   go_wp2
   go_ret
   exact⟨_,rfl,fun h=>⟨hv',WideShapes.bytes_inj (by rw[←ByteArray.toList_eq,←ByteArray.toList_eq];simpa using h)⟩,jM hb1 hS.1.1⟩
end Go.Proofs.YtaefcahblmopfaaGreatDoor
