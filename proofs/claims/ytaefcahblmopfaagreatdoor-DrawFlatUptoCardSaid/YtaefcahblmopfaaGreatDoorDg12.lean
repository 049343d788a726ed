/- Joined by a tool of this claim out of smaller texts. Conditions: as stated. -/
import Derived.Test.YtaefcahblmopfaaGreatDoorDg11
import Derived.Lib.TrailingZeros
import Derived.Lib.BitFns
set_option linter.unusedVariables false
set_option linter.unusedSimpArgs false
set_option maxRecDepth 100000
open Go.Lib renaming hid → Hd
open List renaming setIfInBounds_toArray → jZ, set_cons_zero → jX, set_cons_succ → jY, mem_singleton → jW, getElem?_eq_getElem → jN, drop_succ_cons → jR, take_succ_cons → jS, drop_zero → jO, mem_cons → kJ, take_zero → kK, getD_eq_getElem?_getD → kV, replicate → kW, mem_append → kM, getElem?_map → uV
open Go.Proofs.Tryz renaming prog → jG
open Go.RowKit.Below renaming refl → jU
open Nat renaming le_refl → jD, le_trans → jI
open Go.IntWalk renaming i64_in → jF
open Option renaming mem_toList → jT
open Go.IntKind renaming i64 → jE
open Array renaming getElem?_eq_some_iff → kN
open Go.World renaming setCell → uB
namespace Go.Proofs.YtaefcahblmopfaaGreatDoor
open Go.RowKit
def iB(c:Ch):List Value:=[.int .i64 c.g0,.int .i64 c.g1,.int .i64 c.g2,.int .i64 c.g3,.int .i64 c.use,.int .i64 c.once]
def chV(c:Ch):Value:=.agg #[.int .i64 c.g0,.int .i64 c.g1,.int .i64 c.g2,.int .i64 c.g3,.int .i64 c.use,.int .i64 c.once]
theorem K4:∀c,∀v∈iB c,v.oneCell'=true:=fun c v hv=>by
 simp only[iB,kJ,List.not_mem_nil,or_false]at hv;rcases hv with rfl|rfl|rfl|rfl|rfl|rfl<;>rfl
theorem Kq:(jG.info? 99).map (·.size)=some 6:=by kernel_rfl
theorem aC:(jG.info? 321).map (·.size)=some 31:=by kernel_rfl
section
variable {P:Program}
theorem sI{fn:Func}{u p:Tmp}{ty:TypeId}(h:fn.results=#[.tmp u,.cell p ty])(tmps:Array Value)(w:World):
 (results fn tmps).run P w=((asAddr (tmps.getD p undef)).run P w).andThen fun a w1=>((loadVar ty a).run P w1).andThen fun v w2=>.ok (.tuple #[tmps.getD u undef,v]) w2:=by
 simp only[results,h];simp[Sem.run_bind,Result.andThen]
theorem mJ(w:World)(t e:TypeId)(n:Nat)(cs:Array Value)(k:IntKind)(i:Int)(v:Value)(h:P.underlying t=some (.array n e))(h0:0≤i)(h1:i<n)(hs:(sizeOf e).run P w=.ok 1 w)(ha:(isAgg e).run P w=.ok false w)(hv:cs.toList[i.toNat]? =some v):
 (Instr.index t (.agg cs) (.int k i)).run P w=.ok v w:=by
 have hc:0≤i∧i<(n:Int):=⟨h0,h1⟩;have hv2:cs[i.toNat]? =some v:=by rw[←Array.getElem?_toList];exact hv
 simp[Instr.index,part,run_underlying h,asIntOf,hc,hs,ha,hv2,Result.andThen,go_sem]
theorem bY{fn:Func}{p:Tmp}{ty:TypeId}{d:TypeDesc}(hr:fn.results=#[.cell p ty])(tmps:Array Value)(w:World)(b:Nat)(cs:List Value)(hp:tmps.getD p undef=.pointer (some ⟨b,0,none⟩))(h:w.rangeAt b 0 cs)
 (hu:P.underlying ty=some d) (hd:d.isRow=true) (hi:(P.info? ty).map (·.size)=some cs.length):(results fn tmps).run P w=.ok (.agg cs.toArray) w:=by
 rw[fC hr,hp];have :=run_loadVar_mid (P:=P) w b 0 ty cs _ h hu hd hi;simp only[asAddr,Sem.run_pure,Result.andThen_ok,this]
theorem VA{fn:Func}{u p:Tmp}{ty:TypeId}{d:TypeDesc}(hr:fn.results=#[.tmp u,.cell p ty])(tmps:Array Value)(w:World)(b:Nat)(cs:List Value)(hp:tmps.getD p undef=.pointer (some ⟨b,0,none⟩))(h:w.rangeAt b 0 cs)
 (hu:P.underlying ty=some d) (hd:d.isRow=true) (hi:(P.info? ty).map (·.size)=some cs.length):(results fn tmps).run P w=.ok (.tuple #[tmps.getD u undef,.agg cs.toArray]) w:=by
 rw[sI hr,hp];have :=run_loadVar_mid (P:=P) w b 0 ty cs _ h hu hd hi;simp only[asAddr,Sem.run_pure,Result.andThen_ok,this]
end
theorem yN{B:Nat}{W w1:World}(h:Below B W w1){b:Nat}(hb:B≤b):∀(vs:List Value) (o:Nat),Below B W (w1.setCells b o vs)
 |[],_=>h
 |v::vs,o=>yN (h.setCell (p:=⟨b,o,none⟩) hb v) hb vs (o+1)
theorem WG(c:Ch):∃k:Nat,k<4∧VQ c=k:=by
 unfold VQ
 split
 · next h=>exact⟨c.once.toNat,by omega,by omega⟩
 split
 · exact⟨c.use.toNat,by omega,by omega⟩
 · exact⟨0,by decide,rfl⟩
theorem ZO(w:World):Calls jG 114 #[] w fun e w'=>e=.returned (chV gS)∧Below w.heap.size w w':=by
 go_enter Tryz.func114,Tryz.ntmps114
 go_wp2
 exact bodyPost_ret (bY rfl _ _ w.heap.size (iB gS) rfl (uU (jA rfl)) Tryz.underlying99 rfl Kq) rfl ⟨rfl,jH (jU _ _) _⟩
theorem V7(c:Ch)(w:World):Calls jG 275 #[chV c] w fun e w'=>e=.returned (.int .i64 (VQ c))∧Below w.heap.size w w':=by
 obtain⟨g0,g1,g2,g3,u,o⟩:=c;unfold VQ chV;simp only[]
 by_cases h2:o=2
 · subst h2;rw[if_pos (Or.inl rfl)]
   go_enter Tryz.func275,Tryz.ntmps275
   go_wp2
   go_ret
   exact qZh
 by_cases h3:o=3
 · subst h3;rw[if_pos (Or.inr rfl)]
   go_enter Tryz.func275,Tryz.ntmps275
   go_wp2
   go_ret
   exact qZh
 have e2:(o==2)=false:=by simpa using h2
 have e3:(o==3)=false:=by simpa using h3
 rw[if_neg qJ]
 by_cases hu:0≤u
 · by_cases hu3:u≤3
   · rw[if_pos ⟨hu,hu3⟩]
     go_enter Tryz.func275,Tryz.ntmps275
     go_wp2
     go_ret
     exact qZh
   · rw[if_neg qJ]
     go_enter Tryz.func275,Tryz.ntmps275
     go_wp2
     go_ret
     exact qZh
 · rw[if_neg qJ]
   go_enter Tryz.func275,Tryz.ntmps275
   go_wp2
   go_ret
   exact qZh
def fR:List Value:=[.int .i32 9670,.int .i32 9618,.int .i32 9225,.int .i32 9228,.int .i32 9229,.int .i32 9226,.int .i32 176,.int .i32 177,.int .i32 9252,.int .i32 9227,.int .i32 9496,.int .i32 9488,.int .i32 9484,.int .i32 9492,.int .i32 9532,.int .i32 9146,.int .i32 9147,.int .i32 9472,.int .i32 9148,.int .i32 9149,.int .i32 9500,.int .i32 9508,.int .i32 9524,.int .i32 9516,.int .i32 9474,.int .i32 8804,.int .i32 8805,.int .i32 960,.int .i32 8800,.int .i32 163,.int .i32 183]
theorem YT(k:Nat)(hk:k<31):fR[k]? =some (.int .i32 (QZ.getD k 0)):=by
 have e:fR=QZ.map (fun r=>Value.int .i32 r):=rfl;rw[e,uV,kV,jN (show k<QZ.length from hk)];rfl
theorem YS:∀v∈fR,v.oneCell'=true:=by
 intro v hv;rw[show fR=QZ.map (fun r=>Value.int .i32 r)from rfl]at hv;obtain⟨r,-,rfl⟩:=List.mem_map.1 hv;rfl
set_option maxHeartbeats 1600000 in
theorem Yb(w:World):Calls jG 338 #[] w fun e w'=>e=.returned (.agg fR.toArray)∧Below w.heap.size w w':=by
 go_enter Tryz.func338,Tryz.ntmps338
 go_upto_region 1 with fail
 generalize hW:World.alloc _ _=W;have hb2:Below w.heap.size w W:=by rw[←hW];exact jH (jU _ _) _
 have hc2:W.heap[w.heap.size]? =some (.cells (kW 31 (Value.int .i32 0)).toArray 321 (0,0)):=by rw[←hW];exact jA rfl
 refine wp_region_lit ?_;refine jB (.agg fR.toArray) qK (by go_simp;rfl) ?_;simp only[Act.put,jZ,jX,jY];refine wpList_store_mid rfl 321 (.tmp 0) (.tmp 1) rfl (w.heap.size) (0) (fR.toArray) rfl rfl ((show W.there w.heap.size 0 31 from pX hc2)) aC (all_oneCell_toArray YS) ?_;simp only[Act.put]
 go_wp2
 have hw:=uC fR 0 _ W hc2 qZ;exact bodyPost_ret (bY rfl _ _ w.heap.size fR rfl (uU hw) Tryz.underlying321 rfl aC) rfl ⟨rfl,yN hb2 (jD _) _ _⟩
def Jx(kind r:Int)(w:World)(e:Ending)(w':World):Prop:=e=.returned (.int .i32 (xR kind r))∧Below w.heap.size w w'
set_option maxHeartbeats 1600000 in
theorem YO(kind r:Int)(w:World):Calls jG 274 #[.int .i64 kind,.int .i32 r] w (Jx kind r w):=by
 have HD:=Hd (fun w=>Yb w);unfold Jx xR
 by_cases k1:kind=65
 · subst k1
   by_cases r1:r=35
   · subst r1
     go_enter Tryz.func274,Tryz.ntmps274
     go_wp2
     go_ret
     exact⟨rfl,jU _ _⟩
   · have e1:(r==35)=false:=by simpa using r1
     rw[if_neg qJ,if_neg qJ,if_neg qJ];clear r1
     go_enter Tryz.func274,Tryz.ntmps274
     go_wp2
     go_ret
     exact⟨rfl,jU _ _⟩
 have e1:(kind==65)=false:=by simpa using k1
 rw[if_neg (fun h=>k1 h.1)]
 by_cases k2:kind=48
 · subst k2
   by_cases r1:r=95
   · subst r1;clear e1
     go_enter Tryz.func274,Tryz.ntmps274
     go_wp2
     go_ret
     exact⟨rfl,jU _ _⟩
   · have e2:(r==95)=false:=by simpa using r1
     rw[if_neg qJ];clear e1 k1
     by_cases h1:96≤r
     · by_cases h2:r≤126
       · rw[if_pos ⟨rfl,h1,h2⟩];have hk:=YT (r-96).toNat qJ;have hw:IntKind.i32.wrap (r-96)=r-96:=IntWalk.i32_in _ qJ;have HK:=Hd hk;clear hk
         go_enter Tryz.func274,Tryz.ntmps274
         go_wp2_with(go_at_call 338;refine(HD.o _).mono ?_;rintro e w1 ⟨rfl,hb⟩;have HB:=Hd hb;clear hb)
         rw[mJ w1 _ _ 31 fR.toArray _ _ _ Tryz.underlying321 qJ qJ (Tryz.sizeOf21 _) (Tryz.isAgg21 _) HK.o]
         go_wp2
         go_ret
         exact⟨rfl,HB.o⟩
       · rw[if_neg qJ]
         go_enter Tryz.func274,Tryz.ntmps274
         go_wp2
         go_ret
         exact⟨rfl,jU _ _⟩
     · rw[if_neg qJ]
       go_enter Tryz.func274,Tryz.ntmps274
       go_wp2
       go_ret
       exact⟨rfl,jU _ _⟩
 · have e2:(kind==48)=false:=by simpa using k2
   rw[if_neg qJ,if_neg qJ]
   go_enter Tryz.func274,Tryz.ntmps274
   go_wp2
   go_ret
   exact⟨rfl,jU _ _⟩
def Ki(c:Ch)(r:Int)(w:World)(e:Ending)(w':World):Prop:=e=.returned (.tuple #[.int .i32 (qJw c r),chV (JD c)])∧Below w.heap.size w w'
set_option maxHeartbeats 1600000 in
theorem qKm(c:Ch)(r:Int)(w:World):Calls jG 180 #[chV c,.int .i32 r] w (Ki c r w):=by
 have HU:=Hd (fun w=>V7 c w);have HS:=Hd (fun k w=>YO k r w);obtain⟨k,hk,hku⟩:=WG c;unfold Ki qJw;rw[hku]at HU ⊢;clear hku;obtain⟨g0,g1,g2,g3,u,o⟩:=c;unfold chV setC JD at *;simp only[]at HU ⊢;have HX:=Hd (uA (o:=.cells (iB ⟨0,0,0,0,0,0⟩).toArray 99) (jA (W:=w) (b:=w.heap.size) (o:=.cells (iB ⟨g0,g1,g2,g3,u,o⟩).toArray 99) rfl));have HY:=Hd (jA (W:=w.alloc (.cells (iB ⟨g0,g1,g2,g3,u,o⟩).toArray 99)) (b:=w.heap.size+1) (o:=.cells (iB ⟨0,0,0,0,0,0⟩).toArray 99) qV);have HB0:=Hd (jH (jH (jU w.heap.size w) (.cells (iB ⟨g0,g1,g2,g3,u,o⟩).toArray 99)) (.cells (iB ⟨0,0,0,0,0,0⟩).toArray 99));obtain rfl|rfl|rfl|rfl:k=0∨k=1∨k=2∨k=3:=by omega
 all_goals
  go_enter Tryz.func180,Tryz.ntmps180
  go_upto_region 3 with(first
   |(go_at_call 275;refine(HU.o _).mono ?_;rintro e w1 ⟨rfl,hb1⟩;have HX1:=Hd ((hb1.block _ (jL HX.o)).trans HX.o);have HY1:=Hd ((hb1.block _ (jL HY.o)).trans HY.o);have HB1:=Hd (jM HB0.o hb1);clear hb1;obtain⟨c0,f0⟩:=at_ HX1.o 0 _ rfl;obtain⟨c1,f1⟩:=at_ HX1.o 1 _ rfl;obtain⟨c2,f2⟩:=at_ HX1.o 2 _ rfl;obtain⟨c3,f3⟩:=at_ HX1.o 3 _ rfl)
   |(go_at_call 274;refine(HS.o _ _).mono ?_;rintro e w2 ⟨rfl,hb2⟩;have HX2:=Hd ((hb2.block _ (jL HX1.o)).trans HX1.o);have HY2:=Hd ((hb2.block _ (jL HY1.o)).trans HY1.o);have HB2:=Hd (jM HB1.o hb2);clear hb2 c0 f0 c1 f1 c2 f2 c3 f3;obtain⟨c5,f5⟩:=at_ HX2.o 5 _ rfl))
  have hx3:=kA HX2.o 5 (.int .i64 0) rfl;have hy3:=(vR (w:=w2) (b:=w.heap.size) (i:=5) (v:=.int .i64 0) (show w.heap.size+1≠w.heap.size by omega)).trans HY2.o;have hb3:=uK HB2.o (jD w.heap.size) (o:=5) (.int .i64 0);clear c5 f5;generalize uB _ _ _=W3 at hx3 hy3 hb3 ⊢;obtain⟨x0,-⟩:=at_ hx3 0 _ rfl;obtain⟨x1,-⟩:=at_ hx3 1 _ rfl;obtain⟨x2,-⟩:=at_ hx3 2 _ rfl;obtain⟨x3,-⟩:=at_ hx3 3 _ rfl;obtain⟨x4,-⟩:=at_ hx3 4 _ rfl;obtain⟨x5,-⟩:=at_ hx3 5 _ rfl;refine kH 3 (fun w'=>Below W3.heap.size W3 w'∧w'.cell? ⟨w.heap.size,0,none⟩=some (.int .i64 g0)∧w'.cell? ⟨w.heap.size,1,none⟩=some (.int .i64 g1)∧w'.cell? ⟨w.heap.size,2,none⟩=some (.int .i64 g2)∧w'.cell? ⟨w.heap.size,3,none⟩=some (.int .i64 g3)∧w'.cell? ⟨w.heap.size,4,none⟩=some (.int .i64 u)∧w'.cell? ⟨w.heap.size,5,none⟩=some (.int .i64 0)) qQ qQ ?_ ?_
  · exact⟨(jU _ _).drew,x0,x1,x2,x3,x4,x5⟩
  simp only[jS,kK,jR,jO]
  repeat(
   (first
    |refine kF qK ?_
    |(refine kE ?_ qK ?_ ?_;rotate_left;(focus(intro w' hS;obtain⟨_,_,_,_,_,_,_⟩:=hS;go_simp;first|done|with_reducible rfl))))
   simp only[Act.put,jZ,jX,jY])
  refine kO (fun w' hS=>?_);have hy4:=(hS.1.block _ (jL hy3)).trans hy3;have hb4:=jM hb3 hS.1;refine wpList_store_mid rfl 99 (.tmp 5) (.tmp 16) rfl (w.heap.size+1) (0) ((iB ⟨g0,g1,g2,g3,u,0⟩).toArray) rfl rfl ((show World.there _ (w.heap.size+1) 0 6 from pX hy4)) Kq (all_oneCell_toArray (K4 _)) ?_;simp only[Act.put]
  go_wp2
  have hw:=uC (iB ⟨g0,g1,g2,g3,u,0⟩) 0 _ _ hy4 (by simp[iB]);exact bodyPost_ret (VA rfl _ _ (w.heap.size+1) (iB ⟨g0,g1,g2,g3,u,0⟩) rfl (uU hw) Tryz.underlying99 rfl Kq) rfl ⟨rfl,yN hb4 qJ _ _⟩
def lN(s:Sc)(P T:Nat):List Value:=
 [.int .i64 s.pen.at_.fk,.int .i64 s.pen.at_.fn,.int .i64 s.pen.at_.bk,.int .i64 s.pen.at_.bn,.int .i64 s.pen.at_.fl,
  .int .i64 s.pen.ch.g0,.int .i64 s.pen.ch.g1,.int .i64 s.pen.ch.g2,.int .i64 s.pen.ch.g3,.int .i64 s.pen.ch.use,.int .i64 s.pen.ch.once,
  .bool s.pen.put,.bool s.pen.wrap,.bool s.pen.home,
  .pointer (some ⟨P,0,none⟩),.pointer (some ⟨T,0,none⟩),.int .i64 s.y,.int .i64 s.x,.int .i64 s.top,.int .i64 s.bot,
  .int .i64 s.sp.at_.fk,.int .i64 s.sp.at_.fn,.int .i64 s.sp.at_.bk,.int .i64 s.sp.at_.bn,.int .i64 s.sp.at_.fl,
  .int .i64 s.sp.ch.g0,.int .i64 s.sp.ch.g1,.int .i64 s.sp.ch.g2,.int .i64 s.sp.ch.g3,.int .i64 s.sp.ch.use,.int .i64 s.sp.ch.once,
  .bool s.sp.put,.bool s.sp.wrap,.bool s.sp.home,.int .i64 s.sy,.int .i64 s.sx,.bool s.has,.int .i32 s.last]
structure Sv where
 S:Nat
 q:Pv
 T:Nat
 vw:Value
 ws:List Nat
structure ScO(base:Nat)(w:World)(v:Sv)(s:Sc):Prop where
 blk:w.heap[v.S]? =some (.cells (lN s v.q.P v.T).toArray 128 (0,0))
 hb:base≤v.S
 page:PgO base w v.q s.pg
 tabs:TbO base w v.T v.vw v.ws s.st
def scX(v:Sv):List Nat:=v.S::(tbX v.T v.vw++pgX v.q)
theorem PgO.types{base:Nat}{w:World}{q:Pv}{g:Pg}(h:PgO base w q g):∀b∈pgX q,∃cur ty,w.heap[b]? =some (.cells cur ty (0,0))∧(ty=175∨ty=52∨ty=94∨ty=225):=by
 intro b hb;rcases kJ.1 hb with rfl|hb
 · exact⟨_,_,h.blk,.inl rfl⟩
 rcases kM.1 hb with hb|hb
 · obtain⟨cur,hc⟩:=uD h.own (jT.1 hb);exact⟨_,_,hc,.inr (.inl rfl)⟩
 rcases kM.1 hb with hb|hb
 · obtain⟨cur,hc⟩:=uD h.told (jT.1 hb);exact⟨_,_,hc,.inr (.inr (.inl rfl))⟩
 rcases kJ.1 hb with rfl|hb
 · exact⟨_,_,h.ring.blk,.inr (.inr (.inr rfl))⟩
 · obtain⟨cur,hc⟩:=uD h.ring.own (jT.1 hb);exact⟨_,_,hc,.inr (.inl rfl)⟩
theorem PgO.not{base:Nat}{w:World}{q:Pv}{g:Pg}(h:PgO base w q g){b:Nat}{cs:Array Value}{ty:TypeId}(hb:w.heap[b]? =some (.cells cs ty (0,0)))(ht:ty≠175∧ty≠52∧ty≠94∧ty≠225):b∉pgX q:=fun hx=>by
 obtain⟨cur,t2,h1,h2⟩:=h.types b hx;rw[hb,Option.some.injEq,Obj.cells.injEq]at h1;obtain⟨-,rfl,-⟩:=h1;rcases h2 with h2|h2|h2|h2
 · exact ht.1 h2
 · exact ht.2.1 h2
 · exact ht.2.2.1 h2
 · exact ht.2.2.2 h2
theorem TbO.types{base:Nat}{w:World}{T:Nat}{vw:Value}{ws:List Nat}{st:List Bool}(h:TbO base w T vw ws st):∀b∈tbX T vw,∃cur ty,w.heap[b]? =some (.cells cur ty (0,0))∧(ty=179∨ty=206):=by
 intro b hb;rcases kJ.1 hb with rfl|hb
 · exact⟨_,_,h.blk,.inl rfl⟩
 · obtain⟨cur,hc⟩:=uD h.own (jT.1 hb);exact⟨_,_,hc,.inr rfl⟩
section
variable {base:Nat}{w:World}{v:Sv}{s:Sc}
theorem ScO.np(h:ScO base w v s):v.S∉pgX v.q:=h.page.not h.blk qZ
theorem ScO.nt(h:ScO base w v s):v.S∉tbX v.T v.vw:=fun hx=>by
 obtain⟨cur,ty,h1,h2⟩:=h.tabs.types _ hx;rw[h.blk,Option.some.injEq,Obj.cells.injEq]at h1;obtain⟨-,rfl,-⟩:=h1;rcases h2 with h2|h2<;>exact absurd h2 qZ
theorem ScO.ntp(h:ScO base w v s):∀b∈tbX v.T v.vw,b∉pgX v.q:=fun b hb=>by
 obtain⟨cur,ty,h1,h2⟩:=h.tabs.types _ hb;refine h.page.not h1 ?_;rcases h2 with rfl|rfl<;>decide
theorem ScO.lt(h:ScO base w v s):∀b∈scX v,base≤b∧b<w.heap.size:=by
 intro b hb;rcases kJ.1 hb with rfl|hb
 · exact⟨h.hb,(kN.1 h.blk).1⟩
 rcases kM.1 hb with hb|hb
 · rcases kJ.1 hb with rfl|hb
   · exact⟨h.tabs.hb,(kN.1 h.tabs.blk).1⟩
   · exact h.tabs.own.lt b (jT.1 hb)
 · exact h.page.lt b hb
theorem ScO.mod{X:List Nat}{w':World}(h:ScO base w v s)(hm:Mod X w w')(hX:yH w X)(hd:∀b∈scX v,b∉X):ScO base w' v s:=
 ⟨(hm.block v.S (kN.1 h.blk).1 (hd v.S (by simp[scX]))).trans h.blk,h.hb,h.page.mod hm hX (fun b hb=>hd b (by simp[scX,hb])),h.tabs.mod hm (fun b hb=>hd b (by simp[scX,hb]))⟩
theorem ScO.below{w':World}(h:ScO base w v s)(hb:Below w.heap.size w w'):ScO base w' v s:=h.mod (Mod.of_below (X:=[]) hb) (yH.nil w) (fun _ _ h=>by cases h)
def pU(base:Nat)(w:World)(v:Sv)(s':Sc)(w':World):Prop:=
 ∃v',v'.S=v.S∧v'.T=v.T∧v'.q.P=v.q.P∧ScO base w' v' s'∧Mod (scX v) w w'∧∀b∈scX v',b∈scX v∨w.heap.size≤b
theorem ScO.res(h:ScO base w v s):pU base w v s w:=⟨v,rfl,rfl,rfl,h,Mod.refl _ _,fun _ hb=>.inl hb⟩
theorem ScO.res_below{w':World}(h:ScO base w v s)(hb:Below w.heap.size w w'):pU base w v s w':=⟨v,rfl,rfl,rfl,h.below hb,Mod.of_below hb,fun _ hb=>.inl hb⟩
theorem pU.trans{w1 w2:World}{v1:Sv}{s2:Sc}(h1:v1.S=v.S∧v1.T=v.T∧v1.q.P=v.q.P∧Mod (scX v) w w1∧∀b∈scX v1,b∈scX v∨w.heap.size≤b)(h2:pU base w1 v1 s2 w2):pU base w v s2 w2:=by
 obtain⟨e1,e2,e3,hm,hx⟩:=h1;obtain⟨v2,a1,a2,a3,a4,a5,a6⟩:=h2;refine⟨v2,a1.trans e1,a2.trans e2,a3.trans e3,a4,hm.trans a5 hx,fun b hb=>?_⟩;rcases a6 b hb with h|h
 · exact hx b h
 · exact qZd
theorem pU.pre{w1 w2:World}{s2:Sc}(hb:Below w.heap.size w w1)(h2:pU base w1 v s2 w2):pU base w v s2 w2:=pU.trans ⟨rfl,rfl,rfl,Mod.of_below hb,fun _ hb=>.inl hb⟩ h2
theorem ScO.put{s':Sc}(h:ScO base w v s)(i:Nat)(x:Value)(he:(lN s v.q.P v.T).set i x=lN s' v.q.P v.T)(hp:s'.pg=s.pg)(ht:s'.st=s.st):ScO base (w.setCell ⟨v.S,i,none⟩ x) v s':=by
 have hM:Mod [v.S] w (w.setCell ⟨v.S,i,none⟩ x):=(Mod.refl _ _).setCell (a:=⟨v.S,i,none⟩) (.inl qV) _;refine⟨?_,h.hb,?_,?_⟩
 · rw[←he];have :=vL (o:=i) (v:=x) h.blk;rw[jZ]at this;exact this
 · rw[hp];exact qZi
 · rw[ht];exact h.tabs.mod hM (fun b hb hx=>h.nt qS)
theorem ScO.mod_put(i:Nat)(x:Value):Mod (scX v) w (w.setCell ⟨v.S,i,none⟩ x):=(Mod.refl _ _).setCell (a:=⟨v.S,i,none⟩) (.inl (by simp[scX])) _
theorem ScO.paged{g':Pg}{w':World}(h:ScO base w v s)(hp:pJ base w v.q g' w'):pU base w v {s with pg:=g'} w':=by
 obtain⟨q',e1,e2,hq,hm,hx⟩:=hp;have hS:=(hm.block v.S (kN.1 h.blk).1 h.np).trans h.blk;refine⟨{v with q:=q'},rfl,rfl,e1,⟨?_,h.hb,hq,h.tabs.mod hm h.ntp⟩,hm.mono (fun b hb=>by simp[scX,hb]),fun b hb=>?_⟩
 · show w'.heap[v.S]? =some (.cells (lN {s with pg:=g'} q'.P v.T).toArray _ _);rw[e1];exact hS
 · have hb2:b∈v.S::(tbX v.T v.vw++pgX q'):=hb;rcases kJ.1 hb2 with rfl|hb2
   · exact .inl (by simp[scX])
   rcases kM.1 hb2 with hb2|hb2
   · exact .inl (by simp[scX,hb2])
   · rcases hx b hb2 with h1|h1
     · exact .inl (by simp[scX,h1])
     · exact .inr h1
theorem iK(h:ScO base w v s):Calls jG 78 #[.pointer (some ⟨v.S,0,none⟩)] w fun e w'=>e=.returned (.pointer (some ⟨v.q.P,0,none⟩))∧w=w':=by
 obtain⟨x0,-⟩:=at_ h.blk 14 (.pointer (some ⟨v.q.P,0,none⟩)) rfl;clear h
 go_enter Tryz.func78,Tryz.ntmps78
 go_wp2
 go_ret
 exact⟨rfl,rfl⟩
theorem nV(h:ScO base w v s):Calls jG 197 #[.pointer (some ⟨v.S,0,none⟩)] w fun e w'=>e=.returned (.int .i64 s.pg.cols)∧w=w':=by
 have HP:=Hd (iK h);have HC:=Hd (We h.page);clear h
 go_enter Tryz.func197,Tryz.ntmps197
 go_wp2_with(first
  |(go_at_call 78;refine HP.o.mono ?_;rintro e w1 ⟨rfl,rfl⟩)
  |(go_at_call 226;refine HC.o.mono ?_;rintro e w1 ⟨rfl,rfl⟩))
 go_ret
 exact⟨rfl,rfl⟩
theorem JK(h:ScO base w v s):Calls jG 152 #[.pointer (some ⟨v.S,0,none⟩)] w fun e w'=>e=.returned (.int .i64 s.pg.scr.length)∧w=w':=by
 have HP:=Hd (iK h);have HC:=Hd (tY h.page);clear h
 go_enter Tryz.func152,Tryz.ntmps152
 go_wp2_with(first
  |(go_at_call 78;refine HP.o.mono ?_;rintro e w1 ⟨rfl,rfl⟩)
  |(go_at_call 145;refine HC.o.mono ?_;rintro e w1 ⟨rfl,rfl⟩))
 go_ret
 exact⟨rfl,rfl⟩
theorem gB:(jG.info? 61).map (·.size)=some 2:=by kernel_rfl
theorem sE(h:ScO base w v s):Calls jG 279 #[.pointer (some ⟨v.S,0,none⟩)] w fun e w'=>e=.returned (.agg #[.int .i64 s.pen.at_.bk,.int .i64 s.pen.at_.bn])∧Below w.heap.size w w':=by
 obtain⟨x0,-⟩:=at_ h.blk 2 (.int .i64 s.pen.at_.bk) rfl;obtain⟨x1,-⟩:=at_ h.blk 3 (.int .i64 s.pen.at_.bn) rfl;have hl:=vG x0;clear h
 go_enter Tryz.func279,Tryz.ntmps279
 go_wp2
 exact bodyPost_ret (bY rfl _ _ w.heap.size [.int .i64 s.pen.at_.bk,.int .i64 s.pen.at_.bn] rfl (uU (jA rfl)) Tryz.underlying61 rfl gB) rfl ⟨rfl,jH (jU _ _) _⟩
theorem UH(h:ScO base w v s):Calls jG 182 #[.pointer (some ⟨v.S,0,none⟩)] w fun e w'=>e=.returned (.int .i64 (inS s))∧Below w.heap.size w w':=by
 have HC:Hid (∀w',Below w.heap.size w w'→Calls jG 197 #[.pointer (some ⟨v.S,0,none⟩)] w' fun e w2=>e=.returned (.int .i64 s.pg.cols)∧w'=w2):=Hd (fun w' hb=>nV (h.below hb));obtain⟨x0,-⟩:=at_ h.blk 17 (.int .i64 s.x) rfl;have h2:=h.page.cols2;have h3:=h.page.cols1000;have hw:jE.wrap ((s.pg.cols:Int)-1)=(s.pg.cols:Int)-1:=jF _ qJ;unfold inS fB;clear h
 go_enter Tryz.func182,Tryz.ntmps182
 go_upto_region 1 with fail
 refine kH 8 (fun w'=>Below w.heap.size w w'∧w'.cell? ⟨v.S,17,none⟩=some (.int .i64 s.x)) qQ qQ ?_ ?_
 · exact⟨(jU _ _).drew,x0⟩
 simp only[jS,kK,jR,jO]
 repeat(
  (first
   |refine kF qK ?_
   |((refine uT 197 #[.pointer (some ⟨v.S,0,none⟩)] (.int .i64 s.pg.cols) qK ?_ (fun w' hS=>(HC.o w' hS.1).mono fun e w2 ⟨he,hb⟩=>⟨he,hb▸hS⟩) ?_;(focus(intro w2;go_simp;done))))
   |(refine kE ?_ qK ?_ ?_;rotate_left;(focus(intro w' hS;obtain⟨_,_⟩:=hS;go_simp;first|done|with_reducible rfl))))
  simp only[Act.put,jZ,jX,jY])
 refine kO (fun w' hS=>?_)
 go_wp2
 all_goals
  go_ret
  exact⟨by simp;omega,hS.1⟩
end
structure ScI(s:Sc):Prop where
 y0:0≤s.y
 y1:s.y<s.pg.scr.length
 x0:0≤s.x
 x1:s.x≤s.pg.cols
 t0:0≤s.top
 tb:s.top≤s.bot
 b1:s.bot<s.pg.scr.length
section
variable {base:Nat}{w:World}{v:Sv}{s:Sc}
def eA(base:Nat)(w:World)(v:Sv)(s':Sc)(e:Ending)(w':World):Prop:=e=.returned (.tuple #[])∧pU base w v s' w'
def ScBool(base:Nat)(w:World)(v:Sv)(r:Sc×Bool)(e:Ending)(w':World):Prop:=e=.returned (.bool r.2)∧pU base w v r.1 w'
set_option maxHeartbeats 1600000 in
theorem WN(h:ScO base w v s)(hi:ScI s)(ht:s.pg.told.length≤900000):Calls jG 185 #[.pointer (some ⟨v.S,0,none⟩)] w (ScBool base w v (ZS s)):=by
 have hc2:=h.page.cols2;have hc3:=h.page.cols1000;have hr3:s.pg.scr.length≤1000:=by rw[←h.page.len];exact h.page.rows1000
 have HI:=Hd (UH h);have hy0:=hi.y0;have hy1:=hi.y1;have htop:=hi.t0;obtain⟨pg,st,pen,y,x,top,bot,sp,sy,sx,has,last⟩:=s;obtain⟨xi,hxi⟩:∃xi,inS ⟨pg,st,pen,y,x,top,bot,sp,sy,sx,has,last⟩=xi:=⟨_,rfl⟩;unfold ZS JZ;rw[hxi]at HI ⊢;simp only[]at ht hc2 hc3 hr3 hy0 hy1 htop ⊢;have HO:=Hd h;have HX:=Hd (at_ h.blk 17 (.int .i64 x) rfl);clear h hxi hi
 -- behind x is brought in
 have main:∀w1,Below w.heap.size w w1→ScO base (w1.setCell ⟨v.S,17,none⟩ (.int .i64 xi)) v ⟨pg,st,pen,y,xi,top,bot,sp,sy,sx,has,last⟩∧Mod (scX v) w (w1.setCell ⟨v.S,17,none⟩ (.int .i64 xi)):=fun w1 hb=>
  ⟨(HO.o.below hb).put 17 _ rfl rfl rfl,(Mod.of_below hb).setCell (a:=⟨v.S,17,none⟩) (.inl (by simp[scX])) _⟩
 have HM:=Hd main;clear main
 by_cases hyb:y=bot
 · subst hyb;rw[if_pos rfl]
   go_enter Tryz.func185,Tryz.ntmps185
   go_upto_region 3 with(go_at_call 182;refine HI.o.mono ?_;rintro e w1 ⟨rfl,hb⟩;have HM1:=Hd (HM.o w1 hb);obtain⟨c17,f17⟩:=lQ hb HX.o;clear hb)
   generalize uB _ _ _=W3 at HM1 ⊢;clear c17 f17;obtain⟨c16,-⟩:=at_ HM1.o.1.blk 16 (.int .i64 y) rfl;obtain⟨c19,-⟩:=at_ HM1.o.1.blk 19 (.int .i64 y) rfl;refine kH 9 (fun w'=>Below W3.heap.size W3 w'∧w'.cell? ⟨v.S,16,none⟩=some (.int .i64 y)∧w'.cell? ⟨v.S,19,none⟩=some (.int .i64 y)) qQ qQ ?_ ?_
   · exact⟨(jU _ _).drew,c16,c19⟩
   simp only[jS,kK,jR,jO]
   repeat(
    (first
     |refine kF qK ?_
     |(refine kE ?_ qK ?_ ?_;rotate_left;(focus(intro w' hS;obtain⟨_,_,_⟩:=hS;go_simp;first|done|with_reducible rfl))))
    simp only[Act.put,jZ,jX,jY])
   refine kO (fun w' hS=>?_);have HB4:=Hd hS.1;clear hS c16 c19
   rename World=>W4
   go_upto_region 4 with fail
   have hO4:=HM1.o.1.below HB4.o;have HBK:Hid (∀w',Below W4.heap.size W4 w'→Calls jG 279 #[.pointer (some ⟨v.S,0,none⟩)] w' fun e w2=>e=.returned (.agg #[.int .i64 pen.at_.bk,.int .i64 pen.at_.bn])∧Below w'.heap.size w' w2):=Hd (fun w' hb=>sE (hO4.below hb));have HUP:Hid (∀w',Below W4.heap.size W4 w'→Calls jG 285 #[.pointer (some ⟨v.q.P,0,none⟩),.int .i64 top,.int .i64 y,.int .i64 1,.agg #[.int .i64 pen.at_.bk,.int .i64 pen.at_.bn]] w' (gO base w' v.q (xF pg top y 1 (fun t b g=>upP g t b ⟨pen.at_.bk,pen.at_.bn⟩)))):=
    Hd (fun w' hb=>pUp_any (hO4.below hb).page top y 1 ⟨pen.at_.bk,pen.at_.bn⟩ ht qZ qZ)
   obtain⟨c14,-⟩:=at_ hO4.blk 14 (.pointer (some ⟨v.q.P,0,none⟩)) rfl;obtain⟨c18,-⟩:=at_ hO4.blk 18 (.int .i64 top) rfl;obtain⟨c19,-⟩:=at_ hO4.blk 19 (.int .i64 y) rfl;have HO4:=Hd hO4;clear hO4;refine kH 14 (fun w'=>Below W4.heap.size W4 w'∧w'.cell? ⟨v.S,14,none⟩=some (.pointer (some ⟨v.q.P,0,none⟩))∧w'.cell? ⟨v.S,18,none⟩=some (.int .i64 top)∧w'.cell? ⟨v.S,19,none⟩=some (.int .i64 y)) qQ qQ ?_ ?_
   · exact⟨(jU _ _).drew,c14,c18,c19⟩
   simp only[jS,kK,jR,jO]
   repeat(
    (first
     |refine kF qK ?_
     |((refine uT 279 #[.pointer (some ⟨v.S,0,none⟩)] (.agg #[.int .i64 pen.at_.bk,.int .i64 pen.at_.bn]) qK ?_ (fun w' hS=>(HBK.o w' hS.1).mono fun e w2 ⟨he,hb⟩=>⟨he,jM hS.1 hb,kZ hb hS.2.1,kZ hb hS.2.2.1,kZ hb hS.2.2.2⟩) ?_;(focus(intro w2;go_simp;done))))
     |(refine kE ?_ qK ?_ ?_;rotate_left;(focus(intro w' hS;obtain⟨_,_,_,_⟩:=hS;go_simp;first|done|with_reducible rfl))))
    simp only[Act.put,jZ,jX,jY])
   refine kO (fun w' hS=>?_);have HB5:=Hd hS.1;clear hS c14 c18 c19
   rename World=>W5
   go_wp2_with(go_at_call 285;refine(HUP.o _ HB5.o).mono ?_;rintro e w6 ⟨rfl,hp⟩;have HP6:=Hd hp;clear hp)
   go_ret
   exact⟨rfl,pU.trans ⟨rfl,rfl,rfl,((HM1.o.2.then_below HB4.o).then_below HB5.o),fun b hb=>.inl hb⟩ ((HO4.o.below HB5.o).paged HP6.o)⟩
 · rw[if_neg hyb];have hyb2:(y==bot)=false:=by simpa using hyb
   by_cases hyr:y<(pg.scr.length:Int)-1
   all_goals
    have hwr:jE.wrap ((pg.scr.length:Int)-1)=(pg.scr.length:Int)-1:=jF _ qJ
    go_enter Tryz.func185,Tryz.ntmps185
    go_upto_region 3 with(go_at_call 182;refine HI.o.mono ?_;rintro e w1 ⟨rfl,hb⟩;have HM1:=Hd (HM.o w1 hb);obtain⟨c17,f17⟩:=lQ hb HX.o;clear hb)
    generalize uB _ _ _=W3 at HM1 ⊢;clear c17 f17;obtain⟨c16,-⟩:=at_ HM1.o.1.blk 16 (.int .i64 y) rfl;obtain⟨c19,-⟩:=at_ HM1.o.1.blk 19 (.int .i64 bot) rfl;refine kH 9 (fun w'=>Below W3.heap.size W3 w'∧w'.cell? ⟨v.S,16,none⟩=some (.int .i64 y)∧w'.cell? ⟨v.S,19,none⟩=some (.int .i64 bot)) qQ qQ ?_ ?_
    · exact⟨(jU _ _).drew,c16,c19⟩
    simp only[jS,kK,jR,jO]
    repeat(
     (first
      |refine kF qK ?_
      |(refine kE ?_ qK ?_ ?_;rotate_left;(focus(intro w' hS;obtain⟨_,_,_⟩:=hS;go_simp;first|done|with_reducible rfl))))
     simp only[Act.put,jZ,jX,jY])
    refine kO (fun w' hS=>?_);have HB4:=Hd hS.1;clear hS c16 c19
    rename World=>W4
    go_upto_region 5 with fail
    have hO4:=HM1.o.1.below HB4.o;have HRW:Hid (∀w',Below W4.heap.size W4 w'→Calls jG 152 #[.pointer (some ⟨v.S,0,none⟩)] w' fun e w2=>e=.returned (.int .i64 pg.scr.length)∧w'=w2):=Hd (fun w' hb=>JK (hO4.below hb));obtain⟨c16,-⟩:=at_ hO4.blk 16 (.int .i64 y) rfl;have HO4:=Hd hO4;clear hO4;refine kH 8 (fun w'=>Below W4.heap.size W4 w'∧w'.cell? ⟨v.S,16,none⟩=some (.int .i64 y)) qQ qQ ?_ ?_
    · exact⟨(jU _ _).drew,c16⟩
    simp only[jS,kK,jR,jO]
    repeat(
     (first
      |refine kF qK ?_
      |((refine uT 152 #[.pointer (some ⟨v.S,0,none⟩)] (.int .i64 pg.scr.length) qK ?_ (fun w' hS=>(HRW.o w' hS.1).mono fun e w2 ⟨he,hb⟩=>⟨he,hb▸hS⟩) ?_;(focus(intro w2;go_simp;done))))
      |(refine kE ?_ qK ?_ ?_;rotate_left;(focus(intro w' hS;obtain⟨_,_⟩:=hS;go_simp;first|done|with_reducible rfl))))
     simp only[Act.put,jZ,jX,jY])
    refine kO (fun w' hS=>?_);have HB5:=Hd hS.1;clear hS c16
    rename World=>W5
    obtain⟨c16,f16⟩:=at_ (HO4.o.below HB5.o).blk 16 (.int .i64 y) rfl;have hwy:jE.wrap (y+1)=y+1:=jF _ qJ
   · rw[if_pos hyr]
     go_wp2
     go_ret
     exact⟨rfl,pU.trans ⟨rfl,rfl,rfl,((HM1.o.2.then_below HB4.o).then_below HB5.o),fun b hb=>.inl hb⟩ ⟨v,rfl,rfl,rfl,(HO4.o.below HB5.o).put 16 _ rfl rfl rfl,ScO.mod_put 16 _,fun b hb=>.inl hb⟩⟩
   · rw[if_neg qJ]
     go_wp2
     go_ret
     exact⟨rfl,pU.trans ⟨rfl,rfl,rfl,((HM1.o.2.then_below HB4.o).then_below HB5.o),fun b hb=>.inl hb⟩ (HO4.o.below HB5.o).res⟩
theorem WL(g:Pg)(y:Int)(F:List Cl→List Cl):(zW g y F).told=g.told∧(zW g y F).room=g.room∧(zW g y F).hist=g.hist∧(zW g y F).gone=g.gone:=by
 unfold zW
 split<;>exact⟨rfl,rfl,rfl,rfl⟩
theorem JM(s:Sc):(lD s).pg.scr.length=s.pg.scr.length∧(lD s).pg.cols=s.pg.cols∧(lD s).pg.told=s.pg.told∧(lD s).y=s.y∧(lD s).x=s.x∧(lD s).top=s.top∧(lD s).bot=s.bot:=by
 unfold lD
 split
 · exact⟨(xO _ _).1,(xO _ _).2,(WL _ _ _).1,rfl,rfl,rfl,rfl⟩
 · exact⟨rfl,rfl,rfl,rfl,rfl,rfl,rfl⟩
theorem ScI.pad(h:ScI s):ScI (lD s):=by
 obtain⟨a1,a2,a3,a4,a5,a6,a7⟩:=JM s;refine⟨?_,?_,?_,?_,?_,?_,?_⟩
 · rw[a4];exact h.y0
 · rw[a4,a1];exact h.y1
 · rw[a5];exact h.x0
 · rw[a5,a2];exact h.x1
 · rw[a6];exact h.t0
 · rw[a6,a7];exact h.tb
 · rw[a7,a1];exact h.b1
set_option maxHeartbeats 3200000 in
theorem WW(h:ScO base w v s)(hi:ScI s)(ht:s.pg.told.length≤900000)(n:Int)(hn1:1≤n)(hn2:n≤2):Calls jG 277 #[.pointer (some ⟨v.S,0,none⟩),.int .i64 n] w (eA base w v (mV s n)):=by
 have hc2:=h.page.cols2;have hc3:=h.page.cols1000;have hx0:=hi.x0;have hx1:=hi.x1;have HC:Hid (∀w',Below w.heap.size w w'→Calls jG 197 #[.pointer (some ⟨v.S,0,none⟩)] w' fun e w2=>e=.returned (.int .i64 s.pg.cols)∧w'=w2):=Hd (fun w' hb=>nV (h.below hb));have hwx:jE.wrap (s.x+n)=s.x+n:=jF _ qJ;have hwc:jE.wrap ((s.pg.cols:Int)-n)=(s.pg.cols:Int)-n:=jF _ qJ;have HO:=Hd h;have HI:=Hd hi;obtain⟨c17,-⟩:=at_ h.blk 17 (.int .i64 s.x) rfl;have hroom:mV s n=if s.x+n≤s.pg.cols then s else if s.pen.wrap=false then{s with x:=(s.pg.cols:Int)-n}else onS (ZS (lD s)):=rfl;rw[hroom];clear hroom h hi
 by_cases hA:s.x+n≤s.pg.cols
 · rw[if_pos hA]
   go_enter Tryz.func277,Tryz.ntmps277
   go_upto_region 0 with fail
   refine kH 8 (fun w'=>Below w.heap.size w w'∧w'.cell? ⟨v.S,17,none⟩=some (.int .i64 s.x)) qQ qQ ?_ ?_
   · exact⟨(jU _ _).drew,c17⟩
   simp only[jS,kK,jR,jO]
   repeat(
    (first
     |refine kF qK ?_
     |((refine uT 197 #[.pointer (some ⟨v.S,0,none⟩)] (.int .i64 s.pg.cols) qK ?_ (fun w' hS=>(HC.o w' hS.1).mono fun e w2 ⟨he,hb⟩=>⟨he,hb▸hS⟩) ?_;(focus(intro w2;go_simp;done))))
     |(refine kE ?_ qK ?_ ?_;rotate_left;(focus(intro w' hS;obtain⟨_,_⟩:=hS;go_simp;first|done|with_reducible rfl))))
    simp only[Act.put,jZ,jX,jY])
   refine kO (fun w' hS=>?_)
   go_wp2
   go_end0
   exact⟨rfl,HO.o.res_below hS.1⟩
 · rw[if_neg hA];have hA2:¬s.x+n≤(s.pg.cols:Int):=hA;cases hwrap:s.pen.wrap with
   |false=>
    rw[if_pos rfl]
    go_enter Tryz.func277,Tryz.ntmps277
    go_upto_region 0 with fail
    refine kH 8 (fun w'=>Below w.heap.size w w'∧w'.cell? ⟨v.S,17,none⟩=some (.int .i64 s.x)) qQ qQ ?_ ?_
    · exact⟨(jU _ _).drew,c17⟩
    simp only[jS,kK,jR,jO]
    repeat(
     (first
      |refine kF qK ?_
      |((refine uT 197 #[.pointer (some ⟨v.S,0,none⟩)] (.int .i64 s.pg.cols) qK ?_ (fun w' hS=>(HC.o w' hS.1).mono fun e w2 ⟨he,hb⟩=>⟨he,hb▸hS⟩) ?_;(focus(intro w2;go_simp;done))))
      |(refine kE ?_ qK ?_ ?_;rotate_left;(focus(intro w' hS;obtain⟨_,_⟩:=hS;go_simp;first|done|with_reducible rfl))))
     simp only[Act.put,jZ,jX,jY])
    refine kO (fun w' hS=>?_);have HB1:=Hd hS.1;clear hS c17
    rename World=>W1
    obtain⟨c12,-⟩:=at_ (HO.o.below HB1.o).blk 12 (.bool s.pen.wrap) rfl;rw[hwrap]at c12;obtain⟨c17,f17⟩:=at_ (HO.o.below HB1.o).blk 17 (.int .i64 s.x) rfl
    go_wp2_with(go_at_call 197;refine(HC.o _ HB1.o).mono ?_;rintro e w2 ⟨rfl,rfl⟩)
    go_end0
    exact⟨rfl,pU.trans ⟨rfl,rfl,rfl,Mod.of_below HB1.o,fun b hb=>.inl hb⟩ ⟨v,rfl,rfl,rfl,(HO.o.below HB1.o).put 17 _ rfl rfl rfl,ScO.mod_put 17 _,fun b hb=>.inl hb⟩⟩
   |true=>
    rw[if_neg qZ];obtain⟨r,hr⟩:∃r,ZS (lD s)=r:=⟨_,rfl⟩;rw[hr];have HRR:=Hd hr;clear hr;obtain⟨s5,on⟩:=r
    by_cases hxc:s.x<s.pg.cols
    all_goals
     go_enter Tryz.func277,Tryz.ntmps277
     go_upto_region 0 with fail
     refine kH 8 (fun w'=>Below w.heap.size w w'∧w'.cell? ⟨v.S,17,none⟩=some (.int .i64 s.x)) qQ qQ ?_ ?_
     · exact⟨(jU _ _).drew,c17⟩
     simp only[jS,kK,jR,jO]
     repeat(
      (first
       |refine kF qK ?_
       |((refine uT 197 #[.pointer (some ⟨v.S,0,none⟩)] (.int .i64 s.pg.cols) qK ?_ (fun w' hS=>(HC.o w' hS.1).mono fun e w2 ⟨he,hb⟩=>⟨he,hb▸hS⟩) ?_;(focus(intro w2;go_simp;done))))
       |(refine kE ?_ qK ?_ ?_;rotate_left;(focus(intro w' hS;obtain⟨_,_⟩:=hS;go_simp;first|done|with_reducible rfl))))
      simp only[Act.put,jZ,jX,jY])
     refine kO (fun w' hS=>?_);have HB1:=Hd hS.1;clear hS c17
     rename World=>W1
     obtain⟨c12,-⟩:=at_ (HO.o.below HB1.o).blk 12 (.bool s.pen.wrap) rfl;rw[hwrap]at c12;obtain⟨c17,f17⟩:=at_ (HO.o.below HB1.o).blk 17 (.int .i64 s.x) rfl
     go_upto_region 3 with fail
     clear c12;refine kH 6 (fun w'=>Below w.heap.size w w'∧w'.cell? ⟨v.S,17,none⟩=some (.int .i64 s.x)) qQ qQ ?_ ?_
     · exact⟨HB1.o.drew,c17⟩
     simp only[jS,kK,jR,jO]
     repeat(
      (first
       |refine kF qK ?_
       |((refine uT 197 #[.pointer (some ⟨v.S,0,none⟩)] (.int .i64 s.pg.cols) qK ?_ (fun w' hS=>(HC.o w' hS.1).mono fun e w2 ⟨he,hb⟩=>⟨he,hb▸hS⟩) ?_;(focus(intro w2;go_simp;done))))
       |(refine kE ?_ qK ?_ ?_;rotate_left;(focus(intro w' hS;obtain⟨_,_⟩:=hS;go_simp;first|done|with_reducible rfl))))
      simp only[Act.put,jZ,jX,jY])
     refine kO (fun w' hS=>?_);have HB2:=Hd hS.1;clear hS c17 f17
     rename World=>W2
    go_upto_region 4 with fail
    have hO2:=HO.o.below HB2.o;have HPD:Hid (∀w',Below W2.heap.size W2 w'→Calls jG 341 #[.pointer (some ⟨v.q.P,0,none⟩),.int .i64 s.y] w' (gO base w' v.q (zW s.pg s.y fS))):=Hd (fun w' hb=>qJm (hO2.below hb).page s.y);obtain⟨c14,-⟩:=at_ hO2.blk 14 (.pointer (some ⟨v.q.P,0,none⟩)) rfl;obtain⟨c16,-⟩:=at_ hO2.blk 16 (.int .i64 s.y) rfl;have HO2:=Hd hO2;clear hO2;refine kH 8 (fun w'=>Below W2.heap.size W2 w'∧w'.cell? ⟨v.S,14,none⟩=some (.pointer (some ⟨v.q.P,0,none⟩))∧w'.cell? ⟨v.S,16,none⟩=some (.int .i64 s.y)) qQ qQ ?_ ?_
    · exact⟨(jU _ _).drew,c14,c16⟩
    simp only[jS,kK,jR,jO]
    repeat(
     (first
      |refine kF qK ?_
      |(refine kE ?_ qK ?_ ?_;rotate_left;(focus(intro w' hS;obtain⟨_,_,_⟩:=hS;go_simp;first|done|with_reducible rfl))))
     simp only[Act.put,jZ,jX,jY])
    refine kO (fun w' hS=>?_);have HB3:=Hd hS.1;clear hS c14 c16
    rename World=>W3
    go_upto_region 5 with(go_at_call 341;refine(HPD.o _ HB3.o).mono ?_;rintro e w4 ⟨rfl,hp⟩;have HP4:=Hd hp;clear hp)
    have HR:Hid (pU base w v (lD s) w4):=Hd (by
     have e:lD s={s with pg:=zW s.pg s.y fS}:=by unfold lD fB;rw[if_pos hxc]
     rw[e];exact pU.trans ⟨rfl,rfl,rfl,(Mod.of_below HB2.o).then_below HB3.o,fun b hb=>.inl hb⟩ ((HO2.o.below HB3.o).paged HP4.o))
    clear HB1 HB2 HB3 HP4 HO2 HPD
    rename World=>W4
    rotate_left;have HR:Hid (pU base w v (lD s) W2):=Hd (by
     have e:lD s=s:=by unfold lD fB;rw[if_neg (show ¬s.x<(s.pg.cols:Int) by omega)]
     rw[e];exact HO.o.res_below HB2.o)
    clear HB1 HB2
    rename World=>W4
    go_upto_region 5 with fail
    all_goals
     obtain⟨v4,e1,e2,e3,hO4,hm4,hx4⟩:=HR.o;obtain⟨p1,-,p3,-⟩:=JM s;have HF:=Hd (WN hO4 HI.o.pad (by rw[p3];exact ht));rw[e1,HRR.o]at HF;have HE:=Hd (show v4.S=v.S∧v4.T=v.T∧v4.q.P=v.q.P∧Mod (scX v) w W4∧∀b∈scX v4,b∈scX v∨w.heap.size≤b from⟨e1,e2,e3,hm4,hx4⟩);clear hO4 hm4 hx4 e1 e2 e3 HR
     go_upto_region 6 with(go_at_call 185;refine HF.o.mono ?_;rintro e w5 ⟨rfl,hs⟩;have HS5:=Hd (pU.trans HE.o hs);clear hs)
     obtain⟨v5,e1,e2,e3,hO5,hm5,hx5⟩:=HS5.o;obtain⟨c17,f17⟩:=at_ hO5.blk 17 (.int .i64 s5.x) rfl;rw[e1]at c17 f17;have HO6:=Hd (hO5.put 17 (.int .i64 0) (s':={s5 with x:=0}) rfl rfl rfl);have HM6:=Hd (hm5.trans (ScO.mod_put (v:=v5) (w:=w5) 17 (.int .i64 0)) hx5);rw[e1]at HO6 HM6;have HE6:=Hd (show v5.S=v.S∧v5.T=v.T∧v5.q.P=v.q.P∧∀b∈scX v5,b∈scX v∨w.heap.size≤b from⟨e1,e2,e3,hx5⟩);clear hO5 hm5 hx5 e2 e3 HE HS5
     go_upto_region 7 with fail
     generalize uB _ _ _=W6 at HO6 HM6 ⊢;clear c17 f17;cases on with
     |false=>
      go_wp2
      go_end0
      exact⟨rfl,v5,HE6.o.1,HE6.o.2.1,HE6.o.2.2.1,HO6.o,HM6.o,HE6.o.2.2.2⟩
     |true=>
      go_upto_region 8 with fail
      have HW:Hid (∀w',Below W6.heap.size W6 w'→Calls jG 342 #[.pointer (some ⟨v5.q.P,0,none⟩),.int .i64 s5.y] w' (gO base w' v5.q (yG s5.pg s5.y true))):=Hd (fun w' hb=>Wb (HO6.o.below hb).page s5.y);obtain⟨c14,-⟩:=at_ HO6.o.blk 14 (.pointer (some ⟨v5.q.P,0,none⟩)) rfl;obtain⟨c16,-⟩:=at_ HO6.o.blk 16 (.int .i64 s5.y) rfl;rw[e1]at c14 c16;refine kH 8 (fun w'=>Below W6.heap.size W6 w'∧w'.cell? ⟨v.S,14,none⟩=some (.pointer (some ⟨v5.q.P,0,none⟩))∧w'.cell? ⟨v.S,16,none⟩=some (.int .i64 s5.y)) qQ qQ ?_ ?_
      · exact⟨(jU _ _).drew,c14,c16⟩
      simp only[jS,kK,jR,jO]
      repeat(
       (first
        |refine kF qK ?_
        |(refine kE ?_ qK ?_ ?_;rotate_left;(focus(intro w' hS;obtain⟨_,_,_⟩:=hS;go_simp;first|done|with_reducible rfl))))
       simp only[Act.put,jZ,jX,jY])
      refine kO (fun w' hS=>?_);have HB7:=Hd hS.1;clear hS c14 c16
      go_wp2_with(go_at_call 342;refine(HW.o _ HB7.o).mono ?_;rintro e w8 ⟨rfl,hp⟩;have HP8:=Hd hp;clear hp)
      go_end0
      exact⟨rfl,pU.trans ⟨HE6.o.1,HE6.o.2.1,HE6.o.2.2.1,HM6.o.then_below HB7.o,HE6.o.2.2.2⟩ ((HO6.o.below HB7.o).paged HP8.o)⟩
end
structure Sg where
 kind:Int
 code:Int
 has:Bool
 text:ByteArray
structure Cg where
 told:Bool
 sg:Sg
 row:Int
 col:Int
 sh:Tl
structure Tm where
 pz:Pz
 s0:Sc
 s1:Sc
 use:Bool
 modes:Int
 title:ByteArray
 rep:List UInt8
 ch:List Cg
def bH:List Int:=[4,20,1,5,6,7,25,47,66,1000,1002,1003,1004,1006,1047,1048,1049,2004]
def oN(priv:Bool)(n:Int):Nat:=if priv then 2+(bH.drop 2).findIdx (· ==n)else(bH.take 2).findIdx (· ==n)
def Xx(priv:Bool)(n:Int):Bool:=if priv then decide (oN true n<18)else decide (oN false n<2)
def xG(b:Int)(priv:Bool)(n:Int)(on:Bool):Int:=
 if Xx priv n then(if on then(b.toNat ||| 2 ^ oN priv n:Nat)else(b.toNat &&& (4294967295-2 ^ oN priv n):Nat))else b
def KE:Int:=xG (xG 0 true 7 true) true 25 true
def iC(t:Tm):Sc:=if t.use then t.s1 else t.s0
def Xp(t:Tm)(s:Sc):Tm:=if t.use then{t with s1:=s}else{t with s0:=s}
def doT(t:Tm)(f:Sc→Sc):Tm:=Xp t (f (iC t))
def rQ(l:List (List Int))(i:Nat)(usual:Int):Int:=if i<(yU l).length then(if((yU l).getD i []).headD 0= -1 then usual else((yU l).getD i []).headD 0)else usual
def gF(l:List (List Int))(i:Nat):Int:=max 1 (rQ l i 1)
end Go.Proofs.YtaefcahblmopfaaGreatDoor
