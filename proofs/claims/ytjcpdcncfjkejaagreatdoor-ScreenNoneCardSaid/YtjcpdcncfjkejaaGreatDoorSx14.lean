/- Joined by a tool of this claim out of smaller texts. Conditions: as stated. -/
import Derived.Test.YtjcpdcncfjkejaaGreatDoorSx13
set_option linter.unusedVariables false
set_option linter.unusedSimpArgs false
set_option maxRecDepth 100000
open Go.Lib renaming hid → Hd
open List renaming setIfInBounds_toArray → jZ, drop_succ_cons → jB, getElem?_eq_getElem → jD, drop_zero → jF, mem_singleton → jR, getElem?_eq_some_iff → jE, length_append → jI, replicate → kJ, mem_cons → kW, getD_eq_getElem?_getD → kP, mem_append → kL, length_replicate → kS, getElem?_eq_none → kI, mem_of_getElem? → uW, getElem?_map → vQ, take_succ_eq_append_getElem → vJ, map_append → gK, getElem?_drop → gV
open Go.Proofs.Tryz renaming prog → jG, underlying38 → kE, underlying40 → vN
open Go.RowKit.Below renaming refl → jU
open Go.IntWalk renaming i64_in → jH
open Go.IntKind renaming i64 → jP
open Nat renaming le_refl → jS, zero_add → kB, zero_le → kT, le_trans → vY
open Option renaming mem_toList → jT
open Go.World renaming ownsRow → kK, setCell → uQ, ownsRow_nil → uE
open And renaming intro → kM
open Array renaming getElem?_eq_some_iff → kF
open Int renaming toNat_natCast → uJ
namespace Go.Proofs.YtjcpdcncfjkejaaGreatDoor
open Go.RowKit
section
variable {base:Nat}{w w1:World}{q:Dv}{d d1:Dc}
theorem gB.le(hs:gB base w q d1 w1):base≤w1.heap.size:=by
 obtain⟨q1,e1,h1,-,-⟩:=hs;have :=h1.lt q1.D qV9;omega
theorem gB.baseC(hs:gB base w q d1 w1):w1.cell? ⟨q.D,1,none⟩=some (.int .i64 d1.base):=by
 obtain⟨q1,e1,h1,-,-⟩:=hs;rw[←e1];exact h1.cells.2.1.1
theorem gB.baseF(hs:gB base w q d1 w1):w1.frozen? ⟨q.D,1,none⟩=false:=by
 obtain⟨q1,e1,h1,-,-⟩:=hs;rw[←e1];exact h1.cells.2.1.2
theorem gB.colsC(hs:gB base w q d1 w1):w1.cell? ⟨q.D,2,none⟩=some (.int .i64 d1.cols):=by
 obtain⟨q1,e1,h1,-,-⟩:=hs;rw[←e1];exact h1.cells.2.2.1.1
theorem gB.roomC(hs:gB base w q d1 w1):w1.cell? ⟨q.D,3,none⟩=some (.int .i64 d1.room):=by
 obtain⟨q1,e1,h1,-,-⟩:=hs;rw[←e1];exact h1.cells.2.2.2.1.1
theorem oU(hs:gB base w q d1 w1)(k:Nat)(hk:k≤d1.L.length)(r:Rh)(hr:pX w1 r)(hrl:r.cs.length=d1.cols)(hL:d1.L.length≤1000000)(ht:d1.told.length≤1000000):
 Calls jG 258 #[.pointer (some ⟨q.D,0,none⟩),.int .i64 k,.agg #[.slice r.A r.cs.length r.cap,.bool r.cont]] w1 (pL base w q (pJ d1 k (yA r))):=by
 have hle:=hs.le;exact nG hs fun q1 e h=>by rw[←e];exact Kf h k hk r hr hrl hL ht hle
theorem xK(hs:gB base w q d1 w1)(k:Nat)(hk:k<d1.L.length)(hL:d1.L.length≤1000000)(ht:d1.told.length≤1000000):
 Calls jG 259 #[.pointer (some ⟨q.D,0,none⟩),.int .i64 k] w1 (pL base w q (pZ d1 k)):=by
 have hle:=hs.le;exact nG hs fun q1 e h=>by rw[←e];exact Kd h k hk hL ht hle
theorem Qf(hs:gB base w q d1 w1)(k:Nat)(hk:k≤d1.base)(hbL:d1.base<d1.L.length)(hL:d1.L.length≤1000000)(ht:d1.told.length≤1000000):
 Calls jG 205 #[.pointer (some ⟨q.D,0,none⟩),.int .i64 k] w1 (pL base w q (dC d1 k)):=by
 have hle:=hs.le;exact nG hs fun q1 e h=>by rw[←e];exact Ve h k hk hbL hL ht hle
theorem dU(hs:gB base w q d1 w1)(hL:d1.L.length≤1000000)(hbs:d1.base≤d1.L.length)(y:Int):
 Calls jG 141 #[.pointer (some ⟨q.D,0,none⟩),.int .i64 y] w1 (pL base w q (gN d1 y)):=
 nG hs fun q1 e h=>by rw[←e];exact QW h hL hbs y
theorem nW(hs:gB base w q d1 w1)(b:Col):Calls jG 167 #[.pointer (some ⟨q.D,0,none⟩),.agg #[.int .i64 b.k,.int .i64 b.n]] w1 (fD d1.cols b w1):=by
 obtain⟨q1,e1,h1,-,-⟩:=hs;rw[←e1];exact Vf h1 b
theorem dH(d:Dc)(y:Int):(gN d y).L.length=d.L.length∧(gN d y).base=d.base∧(gN d y).told=d.told∧(gN d y).cols=d.cols∧(gN d y).room=d.room:=by
 unfold gN
 split
 · exact⟨by simp,rfl,rfl,rfl,rfl⟩
 · exact⟨rfl,rfl,rfl,rfl,rfl⟩
set_option maxHeartbeats 3200000 in
theorem Jf(h:DcO base w q d)(top bottom:Nat)(b:Col)(h1:top≤bottom)(h2:d.base+bottom<d.L.length)(hL:d.L.length≤900000)(ht:d.told.length≤999990):
 Calls jG 191 #[.pointer (some ⟨q.D,0,none⟩),.int .i64 top,.int .i64 bottom,.agg #[.int .i64 b.k,.int .i64 b.n]] w (pL base w q (KF d top bottom b)):=by
 have hc2:=h.cols2;have hc3:=h.cols1000;obtain⟨W,hW⟩:∃W,w.alloc (.cells #[.int .i64 b.k,.int .i64 b.n] 38)=W:=⟨_,rfl⟩;have hb0:Below w.heap.size w W:=by rw[←hW];exact jW (jU _ _) _
 have HN:=Hd (show W.heap[w.heap.size]? =some (.cells #[.int .i64 b.k,.int .i64 b.n] 38 (0,0))from by rw[←hW];exact kZ rfl);have HB:=Hd hb0;have HX:w.heap.size∉dcX q:=fun hx=>by have :=h.lt _ hx;omega
 have H0:=Hd (h.below hb0).res;obtain⟨kf,hkf⟩:∃kf:Nat,kf=d.base+top:=⟨_,rfl⟩;obtain⟨ks,hks⟩:∃ks:Nat,ks=d.base+bottom:=⟨_,rfl⟩;have hkfI:(d.base:Int)+(top:Int)=(kf:Int):=by omega
 have hksI:(d.base:Int)+(bottom:Int)=(ks:Int):=by omega
 have hwf:jP.wrap (kf:Int)=(kf:Int):=jH _ qJ;have hws:jP.wrap (ks:Int)=(ks:Int):=jH _ qJ;have hwt:jP.wrap ((top:Int)+1)=(top:Int)+1:=jH _ qJ;have hwb:jP.wrap ((bottom:Int)+1)=(bottom:Int)+1:=jH _ qJ;have HRM:=Hd (xK H0.o kf qJ qJ qJ);have hl1:(pZ d kf).L.length=d.L.length-1:=by show(d.L.take kf++d.L.drop (kf+1)).length=_;simp;omega
 have HBK:Hid (∀w1,gB base W q (pZ d kf) w1→Calls jG 167 #[.pointer (some ⟨q.D,0,none⟩),.agg #[.int .i64 b.k,.int .i64 b.n]] w1 (fD d.cols b w1)):=Hd (fun w1 hs=>nW hs b);have HIN:Hid (∀w1 (r:Rh),gB base W q (pZ d kf) w1→pX w1 r→r.cs.length=d.cols→Calls jG 258 #[.pointer (some ⟨q.D,0,none⟩),.int .i64 ks,.agg #[.slice r.A r.cs.length r.cap,.bool r.cont]] w1 (pL base W q (pJ (pZ d kf) ks (yA r)))):=Hd (fun w1 r hs hr hrl=>oU hs ks (by rw[hl1];omega) r hr hrl (by rw[hl1];omega) (by show(d.told++_).length≤_;simp;omega));have hl2:∀r,(pJ (pZ d kf) ks r).L.length=d.L.length:=fun r=>by show((pZ d kf).L.take ks++(r::(pZ d kf).L.drop ks)).length=_;simp[hl1];omega
 have HP1:Hid (∀w1 r,gB base W q (pJ (pZ d kf) ks r) w1→Calls jG 141 #[.pointer (some ⟨q.D,0,none⟩),.int .i64 ((top:Int))] w1 (pL base W q (gN (pJ (pZ d kf) ks r) ((top:Int))))):=Hd (fun w1 r hs=>dU hs (by rw[hl2];omega) (by rw[hl2];show d.base≤_;omega) _);have HP2:Hid (∀w1 r,gB base W q (gN (pJ (pZ d kf) ks r) ((top:Int))) w1→Calls jG 141 #[.pointer (some ⟨q.D,0,none⟩),.int .i64 ((bottom:Int)+1)] w1 (pL base W q (gN (gN (pJ (pZ d kf) ks r) ((top:Int))) ((bottom:Int)+1)))):=Hd (fun w1 r hs=>dU hs (by rw[(dH _ _).1,hl2];omega) qVb _);obtain⟨b0,-⟩:=at_ HN.o 0 _ rfl;obtain⟨b1,-⟩:=at_ HN.o 1 _ rfl;have HB0:=Hd b0;have HB1:=Hd b1;have y1:=H0.o.baseC;have HG:Hid (KF d top bottom b=gN (gN (pJ (pZ d kf) ks (gZ d.cols b)) ((top:Int))) ((bottom:Int)+1)):=Hd (by rw[hkf,hks];rfl);rw[HG.o];have HCC:=Hd (kM hc2 hc3);clear hb0 h hkf hks hl1 hl2 h2;have HWW:=Hd hW;clear hW
 go_enter Tryz.func191,Tryz.ntmps191
 go_upto_region 1 with fail
 rw[HWW.o];clear HWW
 go_upto_region 2 with(go_at_call 259;(with_reducible refine HRM.o.mono ?_);rintro e w2 ⟨rfl,hs⟩;have HS2:=Hd hs;have y2:=hs.baseC;have c0:=hs.hold HX HB0.o;have c1:=hs.hold HX HB1.o;clear hs y1 b0 b1)
 have y3:w2.cell? ⟨q.D,1,none⟩=some (.int .i64 d.base):=y2;clear y2;refine gG 10 (fun w'=>Below w2.heap.size w2 w'∧w'.cell? ⟨q.D,1,none⟩=some (.int .i64 d.base)∧w'.cell? ⟨w.heap.size,0,none⟩=some (.int .i64 b.k)∧w'.cell? ⟨w.heap.size,1,none⟩=some (.int .i64 b.n)) qQ qQ (fun w1 w2 hS hb=>⟨jN hS.1 hb,jA hb hS.2.1,jA hb hS.2.2.1,jA hb hS.2.2.2⟩) ⟨(jU _ _).drew,y3,c0,c1⟩ ?_;refine AtN.go 0 ?_
 iterate 9 refine zA ?_
 refine AtC.back ?_;refine AtN.one 9 (o:=⟨_,_,_,_,_,_⟩) (fun v=>∃g cap,v=.agg #[.slice (some ⟨g,0,none⟩) d.cols cap,.bool false]) (fun v w'=>∃g cap,v=.agg #[.slice (some ⟨g,0,none⟩) d.cols cap,.bool false]∧pX w' ⟨some ⟨g,0,none⟩,kJ d.cols (vD b),cap,false⟩) qV qQ rfl (fun v w1 w2 ⟨g,cap,hv,hr⟩ hb=>⟨g,cap,hv,hr.below hb⟩) (uY.call 167 #[.pointer (some ⟨q.D,0,none⟩),.agg #[.int .i64 b.k,.int .i64 b.n]] _ _ qK ?_ (fun w' hS=>?_)) ?_
 · intro w'
   go_simp
 · refine(HBK.o w' (HS2.o.post hS.1)).mono ?_;rintro e w3 ⟨g1,cap,rfl,hc,hb⟩;exact qZu
 rintro v ⟨g1,cap,rfl⟩;refine zP ?_;refine AtN.done qQ (fun w' hS=>?_);obtain⟨⟨hb1,-,-,-⟩,g1',cap',hv',hrc'⟩:=hS;simp only[Value.agg.injEq,List.cons.injEq,Array.mk.injEq,Value.slice.injEq,Option.some.injEq,Addr.mk.injEq,and_true,true_and]at hv';obtain⟨rfl,rfl⟩:=hv';have HI2:=Hd (HIN.o w' ⟨some ⟨g1,0,none⟩,kJ d.cols (vD b),cap,false⟩ (HS2.o.post hb1) hrc' qV);simp only[kS]at HI2;clear hb1 hrc' y3 c0 c1
 go_wp2_with(first
  |(go_at_call 258;(with_reducible refine HI2.o.mono ?_);rintro e w4 ⟨rfl,hs⟩;have HS4:=Hd hs;clear hs)
  |(go_at_call 141;first
     |(have hpv:=HS5.o;clear hpv;(with_reducible refine(HP2.o _ _ HS5.o).mono ?_);rintro e w6 ⟨rfl,hs⟩;have HS6:=Hd hs;clear hs)
     |((with_reducible refine(HP1.o _ _ HS4.o).mono ?_);rintro e w5 ⟨rfl,hs⟩;have HS5:=Hd hs;clear hs)))
 go_end0
 exact⟨rfl,HS6.o.pre HB.o⟩
set_option maxHeartbeats 3200000 in
theorem Xc(h:DcO base w q d)(top bottom:Nat)(b:Col)(h1:top≤bottom)(h2:d.base+bottom<d.L.length)(hL:d.L.length≤900000)(ht:d.told.length≤999990):
 Calls jG 190 #[.pointer (some ⟨q.D,0,none⟩),.int .i64 top,.int .i64 bottom,.agg #[.int .i64 b.k,.int .i64 b.n]] w (pL base w q (VN d top bottom b)):=by
 have hc2:=h.cols2;have hc3:=h.cols1000;obtain⟨W,hW⟩:∃W,w.alloc (.cells #[.int .i64 b.k,.int .i64 b.n] 38)=W:=⟨_,rfl⟩;have hb0:Below w.heap.size w W:=by rw[←hW];exact jW (jU _ _) _
 have HN:=Hd (show W.heap[w.heap.size]? =some (.cells #[.int .i64 b.k,.int .i64 b.n] 38 (0,0))from by rw[←hW];exact kZ rfl);have HB:=Hd hb0;have HX:w.heap.size∉dcX q:=fun hx=>by have :=h.lt _ hx;omega
 have H0:=Hd (h.below hb0).res;obtain⟨kf,hkf⟩:∃kf:Nat,kf=d.base+bottom:=⟨_,rfl⟩;obtain⟨ks,hks⟩:∃ks:Nat,ks=d.base+top:=⟨_,rfl⟩;have hkfI:(d.base:Int)+(bottom:Int)=(kf:Int):=by omega
 have hksI:(d.base:Int)+(top:Int)=(ks:Int):=by omega
 have hwf:jP.wrap (kf:Int)=(kf:Int):=jH _ qJ;have hws:jP.wrap (ks:Int)=(ks:Int):=jH _ qJ;have hwt:jP.wrap ((top:Int)+1)=(top:Int)+1:=jH _ qJ;have hwb:jP.wrap ((bottom:Int)+1)=(bottom:Int)+1:=jH _ qJ;have HRM:=Hd (xK H0.o kf qJ qJ qJ);have hl1:(pZ d kf).L.length=d.L.length-1:=by show(d.L.take kf++d.L.drop (kf+1)).length=_;simp;omega
 have HBK:Hid (∀w1,gB base W q (pZ d kf) w1→Calls jG 167 #[.pointer (some ⟨q.D,0,none⟩),.agg #[.int .i64 b.k,.int .i64 b.n]] w1 (fD d.cols b w1)):=Hd (fun w1 hs=>nW hs b);have HIN:Hid (∀w1 (r:Rh),gB base W q (pZ d kf) w1→pX w1 r→r.cs.length=d.cols→Calls jG 258 #[.pointer (some ⟨q.D,0,none⟩),.int .i64 ks,.agg #[.slice r.A r.cs.length r.cap,.bool r.cont]] w1 (pL base W q (pJ (pZ d kf) ks (yA r)))):=Hd (fun w1 r hs hr hrl=>oU hs ks (by rw[hl1];omega) r hr hrl (by rw[hl1];omega) (by show(d.told++_).length≤_;simp;omega));have hl2:∀r,(pJ (pZ d kf) ks r).L.length=d.L.length:=fun r=>by show((pZ d kf).L.take ks++(r::(pZ d kf).L.drop ks)).length=_;simp[hl1];omega
 have HP1:Hid (∀w1 r,gB base W q (pJ (pZ d kf) ks r) w1→Calls jG 141 #[.pointer (some ⟨q.D,0,none⟩),.int .i64 ((top:Int)+1)] w1 (pL base W q (gN (pJ (pZ d kf) ks r) ((top:Int)+1)))):=Hd (fun w1 r hs=>dU hs (by rw[hl2];omega) (by rw[hl2];show d.base≤_;omega) _);have HP2:Hid (∀w1 r,gB base W q (gN (pJ (pZ d kf) ks r) ((top:Int)+1)) w1→Calls jG 141 #[.pointer (some ⟨q.D,0,none⟩),.int .i64 ((bottom:Int)+1)] w1 (pL base W q (gN (gN (pJ (pZ d kf) ks r) ((top:Int)+1)) ((bottom:Int)+1)))):=Hd (fun w1 r hs=>dU hs (by rw[(dH _ _).1,hl2];omega) qVb _);obtain⟨b0,-⟩:=at_ HN.o 0 _ rfl;obtain⟨b1,-⟩:=at_ HN.o 1 _ rfl;have HB0:=Hd b0;have HB1:=Hd b1;have y1:=H0.o.baseC;have HG:Hid (VN d top bottom b=gN (gN (pJ (pZ d kf) ks (gZ d.cols b)) ((top:Int)+1)) ((bottom:Int)+1)):=Hd (by rw[hkf,hks];rfl);rw[HG.o];have HCC:=Hd (kM hc2 hc3);clear hb0 h hkf hks hl1 hl2 h2;have HWW:=Hd hW;clear hW
 go_enter Tryz.func190,Tryz.ntmps190
 go_upto_region 1 with fail
 rw[HWW.o];clear HWW
 go_upto_region 2 with(go_at_call 259;(with_reducible refine HRM.o.mono ?_);rintro e w2 ⟨rfl,hs⟩;have HS2:=Hd hs;have y2:=hs.baseC;have c0:=hs.hold HX HB0.o;have c1:=hs.hold HX HB1.o;clear hs y1 b0 b1)
 have y3:w2.cell? ⟨q.D,1,none⟩=some (.int .i64 d.base):=y2;clear y2;refine gG 10 (fun w'=>Below w2.heap.size w2 w'∧w'.cell? ⟨q.D,1,none⟩=some (.int .i64 d.base)∧w'.cell? ⟨w.heap.size,0,none⟩=some (.int .i64 b.k)∧w'.cell? ⟨w.heap.size,1,none⟩=some (.int .i64 b.n)) qQ qQ (fun w1 w2 hS hb=>⟨jN hS.1 hb,jA hb hS.2.1,jA hb hS.2.2.1,jA hb hS.2.2.2⟩) ⟨(jU _ _).drew,y3,c0,c1⟩ ?_;refine AtN.go 0 ?_
 iterate 9 refine zA ?_
 refine AtC.back ?_;refine AtN.one 9 (o:=⟨_,_,_,_,_,_⟩) (fun v=>∃g cap,v=.agg #[.slice (some ⟨g,0,none⟩) d.cols cap,.bool false]) (fun v w'=>∃g cap,v=.agg #[.slice (some ⟨g,0,none⟩) d.cols cap,.bool false]∧pX w' ⟨some ⟨g,0,none⟩,kJ d.cols (vD b),cap,false⟩) qV qQ rfl (fun v w1 w2 ⟨g,cap,hv,hr⟩ hb=>⟨g,cap,hv,hr.below hb⟩) (uY.call 167 #[.pointer (some ⟨q.D,0,none⟩),.agg #[.int .i64 b.k,.int .i64 b.n]] _ _ qK ?_ (fun w' hS=>?_)) ?_
 · intro w'
   go_simp
 · refine(HBK.o w' (HS2.o.post hS.1)).mono ?_;rintro e w3 ⟨g1,cap,rfl,hc,hb⟩;exact qZu
 rintro v ⟨g1,cap,rfl⟩;refine zP ?_;refine AtN.done qQ (fun w' hS=>?_);obtain⟨⟨hb1,-,-,-⟩,g1',cap',hv',hrc'⟩:=hS;simp only[Value.agg.injEq,List.cons.injEq,Array.mk.injEq,Value.slice.injEq,Option.some.injEq,Addr.mk.injEq,and_true,true_and]at hv';obtain⟨rfl,rfl⟩:=hv';have HI2:=Hd (HIN.o w' ⟨some ⟨g1,0,none⟩,kJ d.cols (vD b),cap,false⟩ (HS2.o.post hb1) hrc' qV);simp only[kS]at HI2;clear hb1 hrc' y3 c0 c1
 go_wp2_with(first
  |(go_at_call 258;(with_reducible refine HI2.o.mono ?_);rintro e w4 ⟨rfl,hs⟩;have HS4:=Hd hs;clear hs)
  |(go_at_call 141;first
     |(have hpv:=HS5.o;clear hpv;(with_reducible refine(HP2.o _ _ HS5.o).mono ?_);rintro e w6 ⟨rfl,hs⟩;have HS6:=Hd hs;clear hs)
     |((with_reducible refine(HP1.o _ _ HS4.o).mono ?_);rintro e w5 ⟨rfl,hs⟩;have HS5:=Hd hs;clear hs)))
 go_end0
 exact⟨rfl,HS6.o.pre HB.o⟩
end
section
variable {base:Nat}{w w1:World}{q:Dv}{d d1:Dc}
set_option maxHeartbeats 3200000 in
theorem Ur(h:DcO base w q d)(bottom:Nat)(b:Col)(h2:d.base+bottom<d.L.length)(hL:d.L.length≤900000)(ht:d.told.length≤999990)(hroom:d.room≤1000000):
 Calls jG 189 #[.pointer (some ⟨q.D,0,none⟩),.int .i64 (0:Nat),.int .i64 bottom,.agg #[.int .i64 b.k,.int .i64 b.n]] w (pL base w q (Jq d 0 bottom b)):=by
 have hc2:=h.cols2;have hc3:=h.cols1000;obtain⟨W,hW⟩:∃W,w.alloc (.cells #[.int .i64 b.k,.int .i64 b.n] 38)=W:=⟨_,rfl⟩;have hb0:Below w.heap.size w W:=by rw[←hW];exact jW (jU _ _) _
 have HN:=Hd (show W.heap[w.heap.size]? =some (.cells #[.int .i64 b.k,.int .i64 b.n] 38 (0,0))from by rw[←hW];exact kZ rfl);have HB:=Hd hb0;have HX:w.heap.size∉dcX q:=fun hx=>by have :=h.lt _ hx;omega
 have H0:=Hd (h.below hb0).res;obtain⟨k0,hk0⟩:∃k0:Nat,k0=d.base+bottom:=⟨_,rfl⟩;obtain⟨ks,hks⟩:∃ks:Nat,ks=d.base+bottom+1:=⟨_,rfl⟩;obtain⟨nb,hnb⟩:∃nb:Nat,nb=d.base+1:=⟨_,rfl⟩;have hk0I:(d.base:Int)+(bottom:Int)=(k0:Int):=by omega
 have hksI:(k0:Int)+1=(ks:Int):=by omega
 have hnbI:(d.base:Int)+1=(nb:Int):=by omega
 have hw0:jP.wrap (k0:Int)=(k0:Int):=jH _ qJ;have hws:jP.wrap (ks:Int)=(ks:Int):=jH _ qJ;have hwn:jP.wrap (nb:Int)=(nb:Int):=jH _ qJ;have hwb:jP.wrap ((bottom:Int)+1)=(bottom:Int)+1:=jH _ qJ;have HBK:Hid (∀w1,Below W.heap.size W w1→Calls jG 167 #[.pointer (some ⟨q.D,0,none⟩),.agg #[.int .i64 b.k,.int .i64 b.n]] w1 (fD d.cols b w1)):=Hd (fun w1 hs=>nW (H0.o.post hs) b);have HIN:Hid (∀w1 (r:Rh),gB base W q d w1→pX w1 r→r.cs.length=d.cols→Calls jG 258 #[.pointer (some ⟨q.D,0,none⟩),.int .i64 ks,.agg #[.slice r.A r.cs.length r.cap,.bool r.cont]] w1 (pL base W q (pJ d ks (yA r)))):=Hd (fun w1 r hs hr hrl=>oU hs ks qJ r hr hrl qJ qJ);obtain⟨d2,hd2⟩:∃d2:Dc,d2={pJ d ks (gZ d.cols b)with base:=nb}:=⟨_,rfl⟩;have hl2:d2.L.length=d.L.length+1:=by rw[hd2];show(d.L.take ks++(_::d.L.drop ks)).length=_;simp;omega
 have hb2:d2.base=nb:=by rw[hd2]
 have hr2:d2.room=d.room:=by rw[hd2];rfl
 have ht2:d2.told.length=d.told.length+1:=by rw[hd2];show(d.told++_).length=_;simp
 have HST:Hid (∀w1,gB base W q (pJ d ks (gZ d.cols b)) w1→gB base W q d2 (w1.setCell ⟨q.D,1,none⟩ (.int .i64 nb))):=Hd (fun w1 ⟨q1,e1,g1,hm1,hx1⟩=>by
  have :=gB.trans ⟨e1,hm1,hx1⟩ (g1.renum 1 qZ (.int .i64 nb) {pJ d ks (gZ d.cols b)with base:=nb} rfl rfl rfl g1.gone0 rfl);rw[hd2,←e1];exact this)
 have HP1:Hid (∀w1,gB base W q d2 w1→Calls jG 141 #[.pointer (some ⟨q.D,0,none⟩),.int .i64 ((bottom:Int)+1)] w1 (pL base W q (gN d2 ((bottom:Int)+1)))):=Hd (fun w1 hs=>dU hs qJ qJ _);obtain⟨p1,p2,p3,p4,p5⟩:=dH d2 ((bottom:Int)+1);have HG:Hid (Jq d 0 bottom b=if(gN d2 ((bottom:Int)+1)).room<(gN d2 ((bottom:Int)+1)).base then dC (gN d2 ((bottom:Int)+1)) 1 else gN d2 ((bottom:Int)+1)):=Hd (by rw[hd2,hnb,hks];unfold Jq;rw[if_pos rfl];rfl);rw[HG.o];generalize hd3:gN d2 ((bottom:Int)+1)=d3 at HP1 p1 p2 p3 p4 p5 ⊢;obtain⟨RS,hRS⟩:∃RS,RS=(if d3.room<d3.base then dC d3 1 else d3):=⟨_,rfl⟩;rw[←hRS];have HRS:=Hd hRS;clear hRS;have hrb:d3.room=d.room∧d3.base=nb:=⟨p5.trans hr2,p2.trans hb2⟩;have HEV:Hid (∀w1,gB base W q d3 w1→Calls jG 205 #[.pointer (some ⟨q.D,0,none⟩),.int .i64 1] w1 (pL base W q (dC d3 1))):=Hd (fun w1 hs=>by
  have :=Qf hs 1 qJ qJ qJ (by rw[p3];omega);exact this)
 obtain⟨b0,-⟩:=at_ HN.o 0 _ rfl;obtain⟨b1,-⟩:=at_ HN.o 1 _ rfl;have HB0:=Hd b0;have HB1:=Hd b1;have y1:=H0.o.baseC;have HRB:=Hd hrb;have hrI:(d.room:Int)≤1000000:=by omega
 clear hb0 h hk0 hks hl2 h2 hd2 hb2 hr2 ht2 p1 p2 p3 p4 p5 hd3 hrb hnb HG;have HWW:=Hd hW;clear hW
 go_enter Tryz.func189,Tryz.ntmps189
 go_upto_region 1 with fail
 rw[HWW.o];clear HWW
 go_upto_region 2 with fail
 refine gG 11 (fun w'=>Below W.heap.size W w'∧w'.cell? ⟨q.D,1,none⟩=some (.int .i64 d.base)∧w'.cell? ⟨w.heap.size,0,none⟩=some (.int .i64 b.k)∧w'.cell? ⟨w.heap.size,1,none⟩=some (.int .i64 b.n)) qQ qQ (fun w1 w2 hS hb=>⟨jN hS.1 hb,jA hb hS.2.1,jA hb hS.2.2.1,jA hb hS.2.2.2⟩) ⟨(jU _ _).drew,y1,b0,b1⟩ ?_;refine AtN.go 0 ?_
 iterate 10 refine zA ?_
 refine AtC.back ?_;refine AtN.one 10 (o:=⟨_,_,_,_,_,_⟩) (fun v=>∃g cap,v=.agg #[.slice (some ⟨g,0,none⟩) d.cols cap,.bool false]) (fun v w'=>∃g cap,v=.agg #[.slice (some ⟨g,0,none⟩) d.cols cap,.bool false]∧pX w' ⟨some ⟨g,0,none⟩,kJ d.cols (vD b),cap,false⟩) qV qQ rfl (fun v w1 w2 ⟨g,cap,hv,hr⟩ hb=>⟨g,cap,hv,hr.below hb⟩) (uY.call 167 #[.pointer (some ⟨q.D,0,none⟩),.agg #[.int .i64 b.k,.int .i64 b.n]] _ _ qK ?_ (fun w' hS=>?_)) ?_
 · intro w'
   go_simp
 · refine(HBK.o w' hS.1).mono ?_;rintro e w3 ⟨g1,cap,rfl,hc,hb⟩;exact qZu
 rintro v ⟨g1,cap,rfl⟩;refine zP ?_;refine AtN.done qQ (fun w' hS=>?_);obtain⟨⟨hb1,-,-,-⟩,g1',cap',hv',hrc'⟩:=hS;simp only[Value.agg.injEq,List.cons.injEq,Array.mk.injEq,Value.slice.injEq,Option.some.injEq,Addr.mk.injEq,and_true,true_and]at hv';obtain⟨rfl,rfl⟩:=hv';have HI2:=Hd (HIN.o w' ⟨some ⟨g1,0,none⟩,kJ d.cols (vD b),cap,false⟩ (H0.o.post hb1) hrc' qV);simp only[kS]at HI2;clear hb1 hrc' y1 b0 b1
 go_upto_region 3 with(go_at_call 258;(with_reducible refine HI2.o.mono ?_);rintro e w4 ⟨rfl,hs⟩;have HS4:=Hd hs;have z1:w4.cell? ⟨q.D,1,none⟩=some (.int .i64 d.base):=hs.baseC;have z1f:=hs.baseF;clear hs)
 have HS5:=Hd (HST.o w4 HS4.o)
 go_upto_region 4 with fail
 clear z1 z1f;generalize uQ _ _ _=W5 at HS5 ⊢
 go_upto_region 5 with(go_at_call 141;(with_reducible refine(HP1.o _ HS5.o).mono ?_);rintro e w6 ⟨rfl,hs⟩;have HS6:=Hd hs;have z1:=hs.baseC;have z3:=hs.roomC;rw[HRB.o.2]at z1;rw[HRB.o.1]at z3;clear hs)
 refine zW2 8 z1 z3 fun w' hS=>?_;have HS7:=Hd (HS6.o.post hS.1);clear hS z1 z3
 by_cases hev:d.room<nb
 · have hevI:(d.room:Int)<(nb:Int):=by omega
   go_wp2_with(go_at_call 205;(with_reducible refine(HEV.o _ HS7.o).mono ?_);rintro e w8 ⟨rfl,hs⟩;have HS8:=Hd hs;clear hs)
   go_end0
   rw[HRS.o,if_pos (by rw[HRB.o.1,HRB.o.2];exact hev)];exact⟨rfl,HS8.o.pre HB.o⟩
 · have hevI:¬(d.room:Int)<(nb:Int):=by omega
   go_wp2
   go_end0
   rw[HRS.o,if_neg (by rw[HRB.o.1,HRB.o.2];exact hev)];exact qZn
set_option maxHeartbeats 3200000 in
theorem X9(h:DcO base w q d)(top bottom:Nat)(b:Col)(h1:top≤bottom)(h2:d.base+bottom<d.L.length)(hL:d.L.length≤900000)(ht:d.told.length≤999990)(hroom:d.room≤1000000):
 Calls jG 189 #[.pointer (some ⟨q.D,0,none⟩),.int .i64 top,.int .i64 bottom,.agg #[.int .i64 b.k,.int .i64 b.n]] w (pL base w q (Jq d top bottom b)):=by
 rcases Nat.eq_zero_or_pos top with h0|h0
 · subst h0;exact Ur h bottom b h2 hL ht hroom
 have hb0:Below w.heap.size w (w.alloc (.cells #[.int .i64 b.k,.int .i64 b.n] 38)):=jW (jU _ _) _;have HC:=Hd (Jf (h.below hb0) top bottom b h1 h2 hL ht);have HB:=Hd hb0;have HU:Hid (Jq d top bottom b=KF d top bottom b):=Hd (by unfold Jq;rw[if_neg qJ]);have h0I:¬(top:Int)=0:=by omega
 have h0b:((top:Int)==0)=false:=zb h0I;rw[HU.o];have HN:=Hd (show(w.alloc (.cells #[.int .i64 b.k,.int .i64 b.n] 38)).heap[w.heap.size]? =some (.cells #[.int .i64 b.k,.int .i64 b.n] 38 (0,0))from kZ rfl);clear h hb0
 go_enter Tryz.func189,Tryz.ntmps189
 go_wp2_with(go_at_call 191;(with_reducible refine HC.o.mono ?_);rintro e w2 ⟨rfl,hs⟩;have HS:=Hd hs;clear hs)
 go_end0
 exact qZo
theorem Ki(h:DcO base w q d)(h2:d.base<d.L.length)(hL:d.L.length≤900000)(ht:d.told.length≤999990):
 Calls jG 130 #[.pointer (some ⟨q.D,0,none⟩)] w (pL base w q (lG d)):=by
 have y1:=h.res.baseC;have H:=Hd h.res
 by_cases h0:0<d.base
 · have h0I:(0:Int)<(d.base:Int):=by omega
   have HU:Hid (lG d=gN (dC d d.base) (0:Int)):=Hd (by unfold lG;rw[if_pos h0]);have HEV:=Hd (Qf H.o d.base (jS _) h2 qJ qJ);have HP:Hid (∀w1,gB base w q (dC d d.base) w1→Calls jG 141 #[.pointer (some ⟨q.D,0,none⟩),.int .i64 0] w1 (pL base w q (gN (dC d d.base) (0:Int)))):=Hd (fun w1 hs=>dU hs (by show(d.L.drop _).length≤_;simp;omega) (by show d.base-d.base≤_;omega) 0);rw[HU.o];clear h
   go_enter Tryz.func130,Tryz.ntmps130
   go_wp2_with(first
    |(go_at_call 205;(with_reducible refine HEV.o.mono ?_);rintro e w2 ⟨rfl,hs⟩;have HS:=Hd hs;clear hs)
    |(go_at_call 141;(with_reducible refine(HP.o _ HS.o).mono ?_);rintro e w3 ⟨rfl,hs⟩;have HS3:=Hd hs;clear hs))
   go_end0
   exact⟨rfl,HS3.o⟩
 · have h0I:¬(0:Int)<(d.base:Int):=by omega
   have HU:Hid (lG d=d):=Hd (by unfold lG;rw[if_neg h0]);rw[HU.o];clear h
   go_enter Tryz.func130,Tryz.ntmps130
   go_wp2
   go_end0
   exact⟨rfl,H.o⟩
end
section
variable {base:Nat}{w w1:World}{q:Dv}{d d1:Dc}
theorem Qt(h:DcO base w q d){y:Int}(hin:nU d y=true):∃(k:Nat) (r:Rh),y=(k:Int)∧q.S[d.base+k]? =some r∧pX w r∧r.cs.length=d.cols:=by
 have hy:0≤y∧y<hE d:=by unfold nU at hin;simpa using hin
 have hl:=h.len;unfold hE at hy;have hlt:d.base+y.toNat<q.S.length:=by omega
 exact⟨y.toNat,q.S[d.base+y.toNat],by omega,jD hlt,h.rows _ (List.getElem_mem hlt)⟩
set_option maxHeartbeats 3200000 in
theorem Vi(h:DcO base w q d)(y x z:Int)(b:Col)(hbs:d.base≤d.L.length)(hL:d.L.length≤900000)(hy1: -9223372036854775808≤y):
 Calls jG 128 #[.pointer (some ⟨q.D,0,none⟩),.int .i64 y,.int .i64 x,.int .i64 z,.agg #[.int .i64 b.k,.int .i64 b.n]] w (pL base w q (lL d y x z b)):=by
 have hc2:=h.cols2;have hc3:=h.cols1000;obtain⟨W,hW⟩:∃W,w.alloc (.cells #[.int .i64 b.k,.int .i64 b.n] 38)=W:=⟨_,rfl⟩;have hb0:Below w.heap.size w W:=by rw[←hW];exact jW (jU _ _) _
 have HN:=Hd (show W.heap[w.heap.size]? =some (.cells #[.int .i64 b.k,.int .i64 b.n] 38 (0,0))from by rw[←hW];exact kZ rfl);have HB:=Hd hb0;have HX:w.heap.size∉dcX q:=fun hx=>by have :=h.lt _ hx;omega
 have h0:=h.below hb0;have H0:=Hd h0.res;have HIN:=Hd (oZ h0 qJ hbs y);have HWW:=Hd hW;clear hW;cases hin:nU d y with
 |false=>
  rw[hin]at HIN;have HC:=Hd (show lL d y x z b=d from by unfold lL;rw[hin];rfl);rw[HC.o];clear h h0 hb0 hc2 hc3
  go_enter Tryz.func128,Tryz.ntmps128
  go_upto_region 1 with fail
  rw[HWW.o];clear HWW
  go_wp2_with(go_at_call 125;refine HIN.o.mono ?_;rintro e w1 ⟨rfl,hb⟩;have HB1:=Hd hb;clear hb)
  go_end0
  exact⟨rfl,(H0.o.post HB1.o).pre HB.o⟩
 |true=>
  rw[hin]at HIN;obtain⟨k,r,rfl,hr,hrc,hrl⟩:=Qt h0 hin;have hkL:d.base+k<d.L.length:=by have :=(jE.1 hr).1;rwa[h0.len]at this
  have HC:Hid (lL d k x z b=if x<d.cols∧(d.cols:Int)≤z then(if x<1 then gN (gN (iZ d k (fun l=>pG l x z b)) ((k:Int)+1)) k else gN (iZ d k (fun l=>pG l x z b)) ((k:Int)+1))else iZ d k (fun l=>pG l x z b)):=Hd (by unfold lL;rw[hin,if_pos rfl]);have hdr:iZ d k (fun l=>pG l x z b)={d with L:=d.L.modify (d.base+k) (fun r=>{r with cs:=pG r.cs x z b})}:=by unfold iZ;rw[hin,if_pos rfl,uJ]
  generalize lL d k x z b=RES at HC ⊢;have HOF:Hid (∀w1,Below W.heap.size W w1→Calls jG 133 #[.pointer (some ⟨q.D,0,none⟩),.int .i64 k] w1 fun e w'=>e=.returned (.slice r.A r.cs.length r.cap)∧Below w1.heap.size w1 w'):=Hd (fun w1 hb=>Vh (h0.below hb) k hr qJ);have HER:Hid (∀w1,Below W.heap.size W w1→Calls jG 204 #[.slice r.A r.cs.length r.cap,.int .i64 x,.int .i64 z,.agg #[.int .i64 b.k,.int .i64 b.n]] w1 (pK (pG r.cs x z b) w1)):=Hd (fun w1 hb=>Xm r.A r.cs r.cap x z b w1 (hrc.below hb).2.2.1 qJ hrc.1);have HCE:Hid (∀(w1:World) (g cap:Nat),Below W.heap.size W w1→pX w1 ⟨some ⟨g,0,none⟩,pG r.cs x z b,cap,r.cont⟩→Calls jG 131 #[.pointer (some ⟨q.D,0,none⟩),.int .i64 k,.slice (some ⟨g,0,none⟩) r.cs.length cap] w1 (pL base W q (iZ d k (fun l=>pG l x z b)))):=Hd (fun w1 g cap hb hc=>(xV (h0.below hb) k hr qJ (some ⟨g,0,none⟩) cap (fun l=>pG l x z b) (lZ _ _ _ _) hc).mono (fun e w2 hh=>by rw[hdr];exact⟨hh.1,hh.2.pre hb⟩));have hln:∀(e:Dc),e.L.length=d.L.length→e.base=d.base→e.L.length≤1000000∧e.base≤e.L.length:=fun e h1 h2=>by omega
  have hdl:(iZ d k (fun l=>pG l x z b)).L.length=d.L.length∧(iZ d k (fun l=>pG l x z b)).base=d.base∧(iZ d k (fun l=>pG l x z b)).cols=d.cols:=by rw[hdr];exact⟨by simp,rfl,rfl⟩
  generalize iZ d k (fun l=>pG l x z b)=d1 at HC HCE hdr hdl;have HP1:Hid (∀w1,gB base W q d1 w1→Calls jG 141 #[.pointer (some ⟨q.D,0,none⟩),.int .i64 ((k:Int)+1)] w1 (pL base W q (gN d1 ((k:Int)+1)))):=Hd (fun w1 hs=>dU hs qJ qJ _);have HP2:Hid (∀w1,gB base W q (gN d1 ((k:Int)+1)) w1→Calls jG 141 #[.pointer (some ⟨q.D,0,none⟩),.int .i64 k] w1 (pL base W q (gN (gN d1 ((k:Int)+1)) k))):=Hd (fun w1 hs=>by
   obtain⟨p1,p2,-⟩:=dH d1 ((k:Int)+1);exact dU hs qJ qJ _)
  have HRC:=Hd (kM hrc.1 hrc.2.1);have HDC:=Hd hdl.2.2;have hwk:jP.wrap ((k:Int)+1)=(k:Int)+1:=jH _ qJ;obtain⟨b0,-⟩:=at_ HN.o 0 _ rfl;obtain⟨b1,-⟩:=at_ HN.o 1 _ rfl;have HB0:=Hd b0;have HB1:=Hd b1;clear h h0 hb0 hin hr hrc hdr hdl hln hbs hrl hc2 hc3 hkL hy1
  go_enter Tryz.func128,Tryz.ntmps128
  go_upto_region 1 with fail
  rw[HWW.o];clear HWW b0 b1
  go_upto_region 2 with(go_at_call 125;refine HIN.o.mono ?_;rintro e w1 ⟨rfl,hb⟩;have HBI:=Hd hb;have b0:=jA hb HB0.o;have b1:=jA hb HB1.o;clear hb)
  refine gG 9 (fun w'=>Below w1.heap.size w1 w'∧w'.cell? ⟨w.heap.size,0,none⟩=some (.int .i64 b.k)∧w'.cell? ⟨w.heap.size,1,none⟩=some (.int .i64 b.n)) qQ qQ (fun w1 w2 hS hb=>⟨jN hS.1 hb,jA hb hS.2.1,jA hb hS.2.2⟩) ⟨(jU _ _).drew,b0,b1⟩ ?_;refine AtN.go 0 ?_
  iterate 4 refine zA ?_
  refine AtC.back ?_;refine AtN.go 5 ?_
  iterate 3 refine zA ?_
  refine AtC.back ?_;refine AtN.take 4 (o:=⟨_,_,_,_,_,_⟩) (v:=.slice r.A r.cs.length r.cap) qQ rfl qV qQ qQ (uY.call1 133 #[.pointer (some ⟨q.D,0,none⟩),.int .i64 k] (.slice r.A r.cs.length r.cap) qK qB (fun w' hS=>HOF.o _ (jN HBI.o hS.1))) ?_;refine zP ?_;refine AtN.one 8 (o:=⟨_,_,_,_,_,_⟩) (fun v=>∃g cap,v=.slice (some ⟨g,0,none⟩) r.cs.length cap) (fun v w'=>∃g cap,v=.slice (some ⟨g,0,none⟩) r.cs.length cap∧pX w' ⟨some ⟨g,0,none⟩,pG r.cs x z b,cap,r.cont⟩) qV qQ rfl (fun v w1 w2 ⟨g,cap,hv,hr⟩ hb=>⟨g,cap,hv,hr.below hb⟩) (uY.call 204 #[.slice r.A r.cs.length r.cap,.int .i64 x,.int .i64 z,.agg #[.int .i64 b.k,.int .i64 b.n]] _ _ qK ?_ (fun w' hS=>?_)) ?_
  · intro w'
    go_simp
  · refine(HER.o w' (jN HBI.o hS.1)).mono ?_;rintro e w3 ⟨g1,cap,rfl,hc,hb⟩;rw[lZ];exact⟨_,rfl,⟨⟨g1,cap,rfl⟩,g1,cap,rfl,.of_own hc (by rw[lZ];exact HRC.o.1) (HRC.o.2.erase _ _ _) _⟩,hb⟩
  rintro v ⟨g1,cap,rfl⟩;refine zP ?_;refine AtN.done qQ (fun w' hS=>?_);obtain⟨⟨hb1,-,-⟩,g1',cap',hv',hrc'⟩:=hS;simp only[Value.slice.injEq,Option.some.injEq,Addr.mk.injEq,and_true,true_and]at hv';obtain⟨rfl,rfl⟩:=hv';have HCE2:=Hd (HCE.o w' g1 cap (jN HBI.o hb1) hrc');clear hb1 hrc' b0 b1
  go_upto_region 3 with(go_at_call 131;(with_reducible refine HCE2.o.mono ?_);rintro e w4 ⟨rfl,hs⟩;have HS4:=Hd hs;have z2:=hs.colsC;rw[HDC.o]at z2;clear hs)
  by_cases hl1:x<d.cols
  rotate_left
  · go_wp2
    go_end0
    rw[HC.o,if_neg qJ];exact⟨rfl,HS4.o.pre HB.o⟩
  by_cases hl2:(d.cols:Int)≤z
  rotate_left
  · have hl2':¬z≥(d.cols:Int):=hl2
    go_wp2
    go_end0
    rw[HC.o,if_neg qJ];exact⟨rfl,HS4.o.pre HB.o⟩
  by_cases hl3:x<1
  · go_wp2_with(go_at_call 141;first
     |(have hpv:=HS5.o;clear hpv;(with_reducible refine(HP2.o _ HS5.o).mono ?_);rintro e w6 ⟨rfl,hs⟩;have HS6:=Hd hs;clear hs)
     |((with_reducible refine(HP1.o _ HS4.o).mono ?_);rintro e w5 ⟨rfl,hs⟩;have HS5:=Hd hs;clear hs))
    go_end0
    rw[HC.o,if_pos ⟨by omega,hl2⟩,if_pos hl3];exact⟨rfl,HS6.o.pre HB.o⟩
  · go_wp2_with(go_at_call 141;((with_reducible refine(HP1.o _ HS4.o).mono ?_);rintro e w5 ⟨rfl,hs⟩;have HS5:=Hd hs;clear hs))
    go_end0
    rw[HC.o,if_pos ⟨by omega,hl2⟩,if_neg qJ];exact⟨rfl,HS5.o.pre HB.o⟩
theorem Ue{rows cols room:Nat}{g:Pg}(hg:PgInv rows cols room g)(hrows:rows≤1000)(hroom:room≤100000)(ht:g.told.length≤900000)(b:Col)(t bo:Nat)(htb:t≤bo)(hbo:bo<g.scr.length)(how fid:Nat)(F:Nat→Nat→Pg→Pg)
 (hhow:(how=0∧fid=189∧F=fun t bo g=>upP g t bo b)∨(how=1∧fid=190∧F=fun t bo g=>cK g t bo b)∨(how=2∧fid=191∧F=fun t bo g=>lU g t bo b))
 (i:Nat) (hi:i≤1000) (hs:gB base w q (yX (eD (F t bo) i g)) w1):
 Calls jG fid #[.pointer (some ⟨q.D,0,none⟩),.int .i64 t,.int .i64 bo,.agg #[.int .i64 b.k,.int .i64 b.n]] w1 (pL base w q (yX (eD (F t bo) (i+1) g))):=by
 have hC:Yo F:=by
  rcases hhow with⟨-,-,rfl⟩|⟨-,-,rfl⟩|⟨-,-,rfl⟩
  · exact tD b
  · exact mL b
  · exact tF b
 have hP:∀g',PgInv rows cols room g'→PgInv rows cols room (F t bo g'):=fun g' h'=>by
  have hbo':bo<g'.scr.length:=by have :=hg.hrows;have :=h'.hrows;omega
  rcases hhow with⟨-,-,rfl⟩|⟨-,-,rfl⟩|⟨-,-,rfl⟩
  · exact h'.up htb hbo' b
  · exact h'.down htb hbo' b
  · exact h'.cut htb hbo' b
 have hg':=PgInv.iter (f:=F t bo) hP i hg;obtain⟨hl,htl⟩:=rX hC htb i g hbo;show Calls _ _ _ _ (pL base w q (yX (F t bo (eD (F t bo) i g))));generalize eD (F t bo) i g=g1 at hs hg' hl htl;have hr1:=hg'.hrows;have hr2:=hg'.hroom;have hr3:=hg'.hhist;have hb1:bo<g1.scr.length:=by omega
 have hL:(yX g1).L.length≤900000:=by show(g1.hist++g1.scr).length≤_;simp;omega
 have h2:(yX g1).base+bo<(yX g1).L.length:=by show g1.hist.length+bo<(g1.hist++g1.scr).length;simp;omega
 have htt:(yX g1).told.length≤999990:=by show g1.told.length≤_;omega
 rcases hhow with⟨-,rfl,rfl⟩|⟨-,rfl,rfl⟩|⟨-,rfl,rfl⟩
 · show Calls _ _ _ _ (pL base w q (yX (upP g1 t bo b)));rw[←UF g1 t bo b htb hb1 qJ];exact nG hs fun q1 e h=>by rw[←e];exact X9 h t bo b htb h2 hL htt (by show g1.room≤_;omega)
 · show Calls _ _ _ _ (pL base w q (yX (cK g1 t bo b)));rw[←Ww g1 t bo b htb hb1];exact nG hs fun q1 e h=>by rw[←e];exact Xc h t bo b htb h2 hL htt
 · show Calls _ _ _ _ (pL base w q (yX (lU g1 t bo b)));rw[←Zn g1 t bo b htb hb1];exact nG hs fun q1 e h=>by rw[←e];exact Jf h t bo b htb h2 hL htt
set_option maxHeartbeats 3200000 in
theorem Kh{rows cols room:Nat}{g:Pg}(h:DcO base w q (yX g))(hg:PgInv rows cols room g)(hrows:rows≤1000)(hroom:room≤100000)(ht:g.told.length≤900000)(top bottom n:Int)(b:Col)(how fid:Nat)(F:Nat→Nat→Pg→Pg)
 (hhow:(how=0∧fid=189∧F=fun t bo g=>upP g t bo b)∨(how=1∧fid=190∧F=fun t bo g=>cK g t bo b)∨(how=2∧fid=191∧F=fun t bo g=>lU g t bo b)):
 Calls jG 117 #[.pointer (some ⟨q.D,0,none⟩),.int .i64 top,.int .i64 bottom,.int .i64 n,.agg #[.int .i64 b.k,.int .i64 b.n],.int .i64 how] w (pL base w q (yX (gI g top bottom n F))):=by
 obtain⟨W,hW⟩:∃W,w.alloc (.cells #[.int .i64 b.k,.int .i64 b.n] 38)=W:=⟨_,rfl⟩;have hb0:Below w.heap.size w W:=by rw[←hW];exact jW (jU _ _) _
 have HN:=Hd (show W.heap[w.heap.size]? =some (.cells #[.int .i64 b.k,.int .i64 b.n] 38 (0,0))from by rw[←hW];exact kZ rfl);have HB:=Hd hb0;have HX:w.heap.size∉dcX q:=fun hx=>by have :=h.lt _ hx;omega
 have h0:=h.below hb0;have H0:=Hd h0.res;have hr1:=hg.hrows;have hr2:=hg.hroom;have hr3:=hg.hhist;have hL:(yX g).L.length≤1000000:=by show(g.hist++g.scr).length≤_;simp;omega
 have hbs:(yX g).base≤(yX g).L.length:=by show g.hist.length≤(g.hist++g.scr).length;simp
 have HI1:=Hd (oZ h0 hL hbs top);have HI2:=Hd (fun w1 hb=>oZ (h0.below (w':=w1) hb) hL hbs bottom);rw[iH]at HI1;have HI2:Hid (∀w1,Below W.heap.size W w1→Calls jG 125 #[.pointer (some ⟨q.D,0,none⟩),.int .i64 bottom] w1 fun e w'=>e=.returned (.bool (inP g bottom))∧Below w1.heap.size w1 w'):=Hd (fun w1 hb=>by have :=HI2.o w1 hb;rwa[iH]at this);have HIT:=Hd (show inP g top=decide (0≤top∧top<g.scr.length)from by unfold inP;rw[Bool.decide_and]);have HIB:=Hd (show inP g bottom=decide (0≤bottom∧bottom<g.scr.length)from by unfold inP;rw[Bool.decide_and]);have HV:=Hd (show gI g top bottom n F=if inP g top&&inP g bottom&&decide (top≤bottom)then eD (F top.toNat bottom.toNat) (min n.toNat (bottom-top+1).toNat) g else g from rfl);have HWW:=Hd hW;have HHOW:=Hd hhow;have hhr:how=0∨how=1∨how=2:=by omega
 generalize gI g top bottom n F=RES at HV ⊢;generalize inP g top=bt at HI1 HIT HV;generalize inP g bottom=bb at HI2 HIB HV;obtain⟨b0,-⟩:=at_ HN.o 0 _ rfl;obtain⟨b1,-⟩:=at_ HN.o 1 _ rfl;have HB0:=Hd b0;have HB1:=Hd b1;clear h h0 hW hb0 hL hbs hhow b0 b1;cases bt with
 |false=>
  have HE:Hid (RES=g):=Hd qVr
  go_enter Tryz.func117,Tryz.ntmps117
  go_upto_region 1 with fail
  rw[HWW.o];clear HWW
  go_wp2_with(go_at_call 125;refine HI1.o.mono ?_;rintro e w1 ⟨rfl,hb⟩;have HB2:=Hd hb;clear hb)
  go_end0
  rw[HE.o];exact⟨rfl,(H0.o.post HB2.o).pre HB.o⟩
 |true=>
  cases bb with
  |false=>
   have HE:Hid (RES=g):=Hd qVr
   go_enter Tryz.func117,Tryz.ntmps117
   go_upto_region 1 with fail
   rw[HWW.o];clear HWW
   go_wp2_with(go_at_call 125;first
    |(have hpv:=HB2.o;clear hpv;(with_reducible refine(HI2.o _ HB2.o).mono ?_);rintro e w2 ⟨rfl,hb⟩;have HB3:=Hd (jN HB2.o hb);clear hb)
    |((with_reducible refine HI1.o.mono ?_);rintro e w1 ⟨rfl,hb⟩;have HB2:=Hd hb;clear hb))
   go_end0
   rw[HE.o];exact⟨rfl,(H0.o.post HB3.o).pre HB.o⟩
  |true=>
   have hti:0≤top∧top<g.scr.length:=by have :=HIT.o;simpa using this
   have hbi:0≤bottom∧bottom<g.scr.length:=by have :=HIB.o;simpa using this
   by_cases htb:top≤bottom
   rotate_left
   · have htb':bottom<top:=by omega
     have HE:Hid (RES=g):=Hd (by rw[HV.o,if_neg qW]);clear hti hbi
     go_enter Tryz.func117,Tryz.ntmps117
     go_upto_region 1 with fail
     rw[HWW.o];clear HWW
     go_wp2_with(go_at_call 125;first
      |(have hpv:=HB2.o;clear hpv;(with_reducible refine(HI2.o _ HB2.o).mono ?_);rintro e w2 ⟨rfl,hb⟩;have HB3:=Hd (jN HB2.o hb);clear hb)
      |((with_reducible refine HI1.o.mono ?_);rintro e w1 ⟨rfl,hb⟩;have HB2:=Hd hb;clear hb))
     go_end0
     rw[HE.o];exact⟨rfl,(H0.o.post HB3.o).pre HB.o⟩
   · obtain⟨t,rfl⟩:∃t:Nat,top=(t:Int):=⟨top.toNat,by omega⟩;obtain⟨bo,rfl⟩:∃bo:Nat,bottom=(bo:Int):=⟨bottom.toNat,by omega⟩;have htb1:t≤bo:=by omega
     have hbo:bo<g.scr.length:=by omega
     have htb':¬(bo:Int)<(t:Int):=by omega
     have hdt:decide (bo<t)=false:=decide_eq_false qJ;obtain⟨df,hdf⟩:∃df:Nat,df=bo-t:=⟨_,rfl⟩;have hdfI:(bo:Int)-(t:Int)=(df:Int):=by omega
     have hwd:jP.wrap (df:Int)=(df:Int):=jH _ qJ;obtain⟨m,hm⟩:∃m:Nat,m=min n.toNat (df+1):=⟨_,rfl⟩;have HE:Hid (RES=eD (F t bo) m g):=Hd (by rw[HV.o,if_pos qW,uJ,uJ,hm,hdfI,show((df:Int)+1).toNat=df+1 by omega]);have hm1k:m≤1000:=by omega
     have HDO:Hid (∀(i:Nat) (w1:World),i<m→gB base W q (yX (eD (F t bo) i g)) w1→Calls jG fid #[.pointer (some ⟨q.D,0,none⟩),.int .i64 t,.int .i64 bo,.agg #[.int .i64 b.k,.int .i64 b.n]] w1 (pL base W q (yX (eD (F t bo) (i+1) g)))):=Hd (fun i w1 hi hs=>Ue hg hrows hroom ht b t bo htb1 hbo how fid F HHOW.o i qJ hs);have HM:=Hd hm;clear hti hbi hdf hm htb1 hbo HV hg;have hfid:(how=0∧fid=189)∨(how=1∧fid=190)∨(how=2∧fid=191):=by
      rcases HHOW.o with⟨a,b,-⟩|⟨a,b,-⟩|⟨a,b,-⟩
      · exact .inl ⟨a,b⟩
      · exact .inr (.inl ⟨a,b⟩)
      · exact .inr (.inr ⟨a,b⟩)
     clear hhr HHOW;rcases hfid with⟨rfl,rfl⟩|⟨rfl,rfl⟩|⟨rfl,rfl⟩
     all_goals
      go_enter Tryz.func117,Tryz.ntmps117
      go_upto_region 1 with fail
      rw[HWW.o];clear HWW
      go_wp2_with(go_at_call 125;first
       |(have hpv:=HB2.o;clear hpv;(with_reducible refine(HI2.o _ HB2.o).mono ?_);rintro e w2 ⟨rfl,hb⟩;have HB3:=Hd (jN HB2.o hb);clear hb)
       |((with_reducible refine HI1.o.mono ?_);rintro e w1 ⟨rfl,hb⟩;have HB2:=Hd hb;clear hb))
      go_loopw [12] (fun s12 wr=>∃i:Nat,s12=.int .i64 i∧i≤m∧gB base W q (yX (eD (F t bo) i g)) wr) (fun s12 _=>m-(intOf s12).toNat)
      case atStart=>exact⟨0,rfl,kT _,H0.o.post HB3.o⟩
      case round=>
       obtain⟨i,rfl,hi,hs⟩:=hrel;have HS:=Hd hs;have b0:=hs.hold HX HB0.o;have b1:=hs.hold HX HB1.o;clear hs;have hik:(i:Int)≤1000:=by omega
       by_cases hlt:i<m
       · have hc1:(i:Int)<n:=by have :=HM.o;omega
         have hc2:(i:Int)≤(df:Int):=by have :=HM.o;omega
         go_wp2_with(first
          |(go_at_call 189;(with_reducible refine(HDO.o _ _ hlt HS.o).mono ?_);rintro e w4 ⟨rfl,hs⟩;have HS4:=Hd hs;clear hs)
          |(go_at_call 190;(with_reducible refine(HDO.o _ _ hlt HS.o).mono ?_);rintro e w4 ⟨rfl,hs⟩;have HS4:=Hd hs;clear hs)
          |(go_at_call 191;(with_reducible refine(HDO.o _ _ hlt HS.o).mono ?_);rintro e w4 ⟨rfl,hs⟩;have HS4:=Hd hs;clear hs))
         go_roundw
         case rel=>exact⟨i+1,by go_num,by omega,HS4.o⟩
         case measure=>exact zm
       · by_cases hc1:(i:Int)<n
         · have hc2:¬(i:Int)≤(df:Int):=by have :=HM.o;omega
           go_wp2
           go_end0
           rw[HE.o,show m=i by omega];exact qZo
         · go_wp2
           go_end0
           rw[HE.o,show m=i by omega];exact qZo
end
section
variable {base:Nat}{w w1:World}{q:Dv}{d d1:Dc}
theorem DcO.grown{vs':Value}{r:Rh}(h:DcO base w q d)(ho:w1.ownsRow base 97 2 vs' (q.S.length+1) (uS yZ (q.S++[r])))(hm:Mod q.vl.ownBlock.toList w w1)(hv:∀b,vs'.ownBlock=some b→q.vl.ownBlock=some b∨w.heap.size≤b)
 (hr:pX w1 r) (hrl:r.cs.length=d.cols):gB base w q {d with L:=d.L++[yA r]} (w1.setCell ⟨q.D,0,none⟩ vs'):=by
 have hvs:∀b,q.vl.ownBlock=some b→∃cur:Array Value,w.heap[b]? =some (.cells cur 97 (0,0)):=fun b hb=>uA h.own hb;have hPv:q.D∉q.vl.ownBlock.toList:=fun hb=>by
  obtain⟨cur,hc⟩:=hvs _ (jT.1 hb);exact qZk
 have hPl:=(kF.1 h.blk).1;have hm2:Mod (q.D::q.vl.ownBlock.toList) w (w1.setCell ⟨q.D,0,none⟩ vs'):=(hm.mono (fun b hb=>by simp[jT.1 hb])).setCell (a:=⟨q.D,0,none⟩) (.inl qV) _;have hX:yD w (q.D::q.vl.ownBlock.toList):=fun b hb cs f he=>by
  refine h.nocel b ?_ cs f he;rcases kW.1 hb with rfl|hb
  · simp[dcX]
  · simp[dcX,jT.1 hb]
 have hblk:=kY (cs:=[q.vl,.int .i64 d.base,.int .i64 d.cols,.int .i64 d.room,.int .u64 (d.gone%18446744073709551616),q.vt]) ((hm.block q.D hPl hPv).trans h.blk) 0 vs' (cs':=[vs',.int .i64 d.base,.int .i64 d.cols,.int .i64 d.room,.int .u64 (d.gone%18446744073709551616),q.vt]) rfl;have hM1:Mod [q.D] w1 (w1.setCell ⟨q.D,0,none⟩ vs'):=(Mod.refl [q.D] w1).setCell (a:=⟨q.D,0,none⟩) (.inl qV) vs';have hN1:yD w1 [q.D]:=fun b hb cs f he=>by
  rw[jR.1 hb,hm.block q.D hPl hPv]at he;exact qZj
 refine⟨{q with vl:=vs',S:=q.S++[r]},rfl,⟨hblk,h.hb,?_,uL h.told hm2 (fun b hb hx=>?_),?_,fun x hx=>?_,h.cols2,h.cols1000,h.gone0⟩,hm2.mono (fun b hb=>?_),fun b hb=>?_⟩
 · have :=uL ho hM1 (fun b hb hx=>by
    have e:=jR.1 hx;rcases hv b hb with h1|h1
    · exact hPv qV7
    · omega)
   simpa using this
 · obtain⟨cur,hc⟩:=uA h.told hb;rcases kW.1 hx with rfl|hx
   · exact qZk
   · obtain⟨cur2,hc2⟩:=hvs _ (jT.1 hx);exact uP hc2 hc qZ rfl
 · show(q.S++[r]).map yA=d.L++[yA r];rw[gK,h.rl];rfl
 · rcases kL.1 (show x∈q.S++[r]from hx)with hx|hx
   · exact⟨(h.rows x hx).1.mod hm2 hX,(h.rows x hx).2⟩
   · rw[jR.1 hx];exact⟨hr.mod hM1 hN1,hrl⟩
 · rcases kW.1 hb with rfl|hb
   · simp[dcX]
   · simp[dcX,jT.1 hb]
 · rcases kW.1 hb with rfl|hb
   · exact .inl qV9
   rcases kL.1 hb with hb|hb
   · rcases hv b (jT.1 hb)with h1|h1
     · exact .inl (by simp[dcX,h1])
     · exact .inr h1
   · exact .inl (by simp[dcX,jT.1 hb])
def WA(cols lines i:Nat):Dc:=⟨kJ i (gZ cols bC),0,cols,lines,0,[]⟩
def qJp(cols lines rows:Nat)(w:World)(e:Ending)(w':World):Prop:=
 ∃q,e=.returned (.pointer (some ⟨q.D,0,none⟩))∧DcO w.heap.size w' q (WA cols lines rows)∧Below w.heap.size w w'
set_option maxHeartbeats 3200000 in
theorem Y6(rows cols lines:Nat)(w:World)(hr2:rows≤1000)(hc1:2≤cols)(hc2:cols≤1000)(hl:lines≤100000):
 Calls jG 104 #[.int .i64 rows,.int .i64 cols,.int .i64 lines] w (qJp cols lines rows w):=by
 obtain⟨j0,hj,gz0,gz1,gz2⟩:=info_parts iB;have hc3:=hc2;obtain⟨q,hq⟩:∃q:Dv,q=⟨w.heap.size,.slice none 0 0,.slice none 0 0,[]⟩:=⟨_,rfl⟩;obtain⟨W,hW⟩:∃W,w.alloc (.cells #[.slice none 0 0,.int .i64 0,.int .i64 cols,.int .i64 lines,.int .u64 0,.slice none 0 0] 61)=W:=⟨_,rfl⟩;have hb0:Below w.heap.size w W:=by rw[←hW];exact jW (jU _ _) _
 have HB:=Hd hb0;have h0:DcO w.heap.size W q (WA cols lines 0):=by
  rw[hq];refine⟨by rw[←hW];exact kZ rfl,jS _,uE _ _ _ _,uE _ _ _ _,rfl,(fun r hr=>by cases hr),hc1,hc2,Int.le_refl _⟩
 have HQD:=Hd (show q.D=w.heap.size from by rw[hq]);have H0:=Hd h0.res;have hdx:∀x∈dcX q,w.heap.size≤x:=by
  rw[hq];intro x hx;simp[dcX,Value.ownBlock]at hx;omega
 have HDX:=Hd hdx;have HW:=Hd hW;clear h0 hW hb0 hq hdx
 go_enter Tryz.func104,Tryz.ntmps104
 go_upto_region 2 with fail
 rw[HW.o,←HQD.o]
 go_wp2_with fail
 go_loopw [8] (fun s8 wr=>∃i:Nat,s8=.int .i64 i∧i≤rows∧gB w.heap.size W q (WA cols lines i) wr) (fun s8 _=>rows-(intOf s8).toNat)
 case atStart=>exact⟨0,rfl,kT _,H0.o⟩
 case round=>
  obtain⟨i,rfl,hi,hs⟩:=hrel;have HS:=Hd hs;obtain⟨q1,e1,hq1,hm1,hx1⟩:=hs;obtain⟨A1,c1,hv1⟩:=gU hq1.own;have hl1:q1.S.length=i:=by rw[hq1.len];simp[WA]
  obtain⟨⟨x1,x1f⟩,-,⟨x2,-⟩,-,-,-⟩:=hq1.cells;rw[e1]at x1 x1f x2;rw[hv1,hl1]at x1;have HM:=Hd hl1;have hbw:w.heap.size≤wr.heap.size:=by have :=hq1.lt q1.D qV9;omega
  have hPl:=gO x2;have x2':wr.cell? ⟨q.D,2,none⟩=some (.int .i64 cols):=x2
  by_cases hlt:i<rows
  rotate_left
  · have hltI:¬(i:Int)<(rows:Int):=by omega
    obtain rfl:i=rows:=by omega
    have HQ:=Hd (kM hq1 (kM e1 (kM hm1 hx1)));clear hl1 hq1 hm1 hx1 hv1 e1 x2
    go_wp2
    go_ret
    exact⟨q1,by rw[HQ.o.2.1];rfl,HQ.o.1,HB.o.trans (HQ.o.2.2.1.below HDX.o HB.o.size)⟩
  · have hltI:(i:Int)<(rows:Int):=by omega
    have HQ:=Hd hq1;have HE:=Hd (kM e1 (kM hm1 hx1));have HV:=Hd (show q1.vl=.slice A1 i c1 from by rw[hv1,hl1]);have hm1000:i+1≤1000:=by omega
    have HBK:Hid (∀w',Below wr.heap.size wr w'→Calls jG 167 #[.pointer (some ⟨q.D,0,none⟩),.agg #[.int .i64 0,.int .i64 0]] w' (fD cols bC w')):=Hd (fun w' hb=>nW (HS.o.post hb) bC);clear hl1 hq1 hm1 hx1 hv1 HS x2 e1
    go_upto_region 5 with fail
    refine Go.RL.wp_region_l 12 (fun w'=>(w'.cell? ⟨q.D,0,none⟩=some (.slice A1 i c1)∧w'.frozen? ⟨q.D,0,none⟩=false)∧w'.cell? ⟨q.D,2,none⟩=some (.int .i64 cols)) (fun w'=>Below wr.heap.size wr w') qQ qQ ⟨⟨x1,x1f⟩,x2'⟩ ((jU _ _).drew) ?_;refine Go.RL.AtL.go 0 ?_
    iterate 7 (refine Go.RL.AtK.take (o:=⟨_,_,_,_,_,_⟩) (v:=?_) qQ rfl qV qQ qQ ?_ ?_;rotate_left;(focus(refine Go.RL.Pure.val qK ?_;intro w' hI;obtain⟨⟨_,_⟩,_⟩:=hI;go_simp;first|done|with_reducible rfl));refine zP ?_)
    refine Go.RL.AtK.back ?_;refine Go.RL.AtL.one 7 (o:=⟨_,_,_,_,_,_⟩) (fun v=>∃g1 cap,v=.agg #[.slice (some ⟨g1,0,none⟩) cols cap,.bool false]) (fun v w'=>∃g1 cap,v=.agg #[.slice (some ⟨g1,0,none⟩) cols cap,.bool false]∧Below wr.heap.size wr w'∧pX w' ⟨some ⟨g1,0,none⟩,kJ cols (vD bC),cap,false⟩) qV qQ rfl
     (Go.RL.StabL.call 167 #[.pointer (some ⟨q.D,0,none⟩),.agg #[.int .i64 0,.int .i64 0]] _ _ qK ?_ (fun w' hI hS=>?_)) ?_
    · intro w'
      go_simp
    · refine(HBK.o w' hS).mono ?_;rintro e w3 ⟨g1,cap,rfl,hr,hb⟩;exact qZp
    rintro v ⟨g1,cap,rfl⟩;refine zP ?_;refine Go.RL.AtL.one 8 (o:=⟨_,_,_,_,_,_⟩) (fun v=>∃k,v=.slice (some ⟨k,0,none⟩) 1 1) (fun v w'=>∃k,v=.slice (some ⟨k,0,none⟩) 1 1∧Below wr.heap.size wr w'∧pX w' ⟨some ⟨g1,0,none⟩,kJ cols (vD bC),cap,false⟩∧w'.heap[k]? =some (.cells #[.slice (some ⟨g1,0,none⟩) cols cap,.bool false] 97 (0,0))) qV qQ rfl (Go.RL.StabL.op _ _ qK (fun w' hI hS=>?_)) ?_
    · obtain⟨g1',cap',hv',hb,hrc⟩:=hS;simp only[Value.agg.injEq,Array.mk.injEq,List.cons.injEq,Value.slice.injEq,Option.some.injEq,Addr.mk.injEq,and_true,true_and]at hv';obtain⟨rfl,rfl⟩:=hv';have hb2:=jW (jU w'.heap.size w') (.cells #[.slice (some ⟨g1,0,none⟩) cols cap,.bool false] 97);exact⟨.slice (some ⟨w'.heap.size,0,none⟩) 1 1,w'.alloc (.cells #[.slice (some ⟨g1,0,none⟩) cols cap,.bool false] 97),by go_simp,⟨_,rfl⟩,⟨bQ hb2 hI.1,jA hb2 hI.2⟩,_,rfl,jN hb hb2,hrc.below hb2,kZ rfl⟩
    rintro v ⟨k,rfl⟩;refine zP ?_;refine Go.RL.AtL.one 9 (o:=⟨some 27,.call {callee:=.builtin .append,args:=#[.tmp 22,.tmp 26],argTypes:=#[58,58]},58,_,_,none⟩) (fun v=>∃g' c',v=.slice (some ⟨g',0,none⟩) (i+1) c') (fun v w'=>w'.ownsRow w.heap.size 97 2 v (i+1) (uS yZ (q1.S++[⟨some ⟨g1,0,none⟩,kJ cols (vD bC),cap,false⟩]))∧Mod q1.vl.ownBlock.toList wr w'∧(∀b,v.ownBlock=some b→q1.vl.ownBlock=some b∨wr.heap.size≤b)∧pX w' ⟨some ⟨g1,0,none⟩,kJ cols (vD bC),cap,false⟩) qV qQ rfl (Go.RL.StabL.op _ _ qK (fun w' hI hS=>?_)) ?_
    · obtain⟨k',hv',hb,hrc,hk⟩:=hS;simp only[Value.slice.injEq,Option.some.injEq,Addr.mk.injEq,and_true,true_and]at hv';subst hv';have hown:=(HQ.o.below hb).own;rw[HM.o]at hown;obtain⟨v',w3,hr3,ho3,hg3,-,hn3⟩:=run_append_own_at (P:=jG) w' w.heap.size 58 58 97 j0 _ 2 32 Tryz.underlying58 hj gz0 gz1 gz2 rfl qZ q1.vl i (uS yZ q1.S) hown ⟨k,0,none⟩ 1 1 (yZ ⟨some ⟨g1,0,none⟩,kJ cols (vD bC),cap,false⟩) rfl (fun j u hj=>by
       rw[vZ,kB];exact(at_ hk j u qV8).1) (fP _) qJv qJ (vY hbw hb.size)
      obtain⟨g',c',rfl⟩:=gE ho3 qJ;have hvs:∀b,q1.vl.ownBlock=some b→b<wr.heap.size:=fun b hb=>(HQ.o.own.lt b hb).2;have hMg:Mod q1.vl.ownBlock.toList w' w3:=Mod.of_grown hg3 (fun b hb=>by simp[hb]);have hPn:q.D∉q1.vl.ownBlock.toList:=fun hx=>by
       obtain⟨cur,hc⟩:=uA HQ.o.own (jT.1 hx);have :=HQ.o.blk;rw[HE.o.1]at this;exact uP this hc qZ rfl
      have hNC:yD w' q1.vl.ownBlock.toList:=fun b hb' cs f he=>by
       obtain⟨cur,hc⟩:=uA hown (jT.1 hb');exact uP hc he qZ rfl
      refine⟨_,w3,lD _ _ _ rfl _ _ _ rfl rfl (by rw[HV.o]at hr3;exact hr3),⟨g',c',rfl⟩,⟨hMg.hold hPn hI.1,hMg.cell hPn hI.2⟩,?_,(Mod.of_below (X:=q1.vl.ownBlock.toList) hb).trans hMg (fun b hb=>.inl hb),fun b hb'=>?_,hrc.mod hMg hNC⟩
      · rw[uC];exact ho3
      · rcases hn3 with h3|h3
        · exact .inl (by rw[←h3];exact hb')
        · rw[h3]at hb';injection hb' with hb';exact .inr (by have :=hb.size;omega)
    rintro v ⟨g',c',rfl⟩;refine zP ?_;refine Go.RL.AtL.go 10 ?_
    iterate 2 (refine Go.RL.AtK.take (o:=⟨_,_,_,_,_,_⟩) (v:=?_) qQ rfl qV qQ qQ ?_ ?_;rotate_left;(focus(refine Go.RL.Pure.val qK ?_;intro w' hI;obtain⟨⟨_,_⟩,_⟩:=hI;go_simp;first|done|with_reducible rfl));refine zP ?_)
    refine Go.RL.AtK.back ?_;refine Go.RL.AtL.done qQ (fun w' hI hS=>?_);obtain⟨hs1,hs2,hs3,hs4⟩:=hS;rw[←HM.o]at hs1;have HG:=Hd (HQ.o.grown hs1 hs2 hs3 hs4 (by simp[WA]));rw[HM.o,HE.o.1]at HG;obtain⟨⟨z1,z1f⟩,-⟩:=hI;clear hs1 hs2 hs3 hs4 x1 x1f x2'
    go_wp2
    go_roundw
    case rel=>
     refine⟨i+1,by go_num,by omega,?_⟩;have :=gB.trans ⟨HE.o.1,HE.o.2.1,HE.o.2.2⟩ HG.o;unfold WA;rw[List.replicate_succ'];exact this
    case measure=>exact zm
end
theorem aQ{w:World}{A:Option Addr}{l:List Cl}(h:pA kX 8 w A l):XU w A l:=fun h0=>by
 obtain⟨b,off,hA,hc⟩:=h h0;refine⟨b,off,hA,fun i c hi=>?_⟩;have :=hc i c hi;exact⟨this 0 _ rfl,this 1 _ rfl,this 2 _ rfl,this 3 _ rfl,this 4 _ rfl,this 5 _ rfl,this 6 _ rfl,this 7 _ rfl⟩
theorem mN{α:Type}{enc:α→List Value}{K:Nat}(hl:∀x,(enc x).length=K){w:World}{base:Nat}{e:TypeId}{A:Option Addr}{n c:Nat}{X:List α}(h:w.ownsRow base e K (.slice A n c) X.length (uS enc X)):pA enc K w A X:=fun h0=>by
 obtain⟨g,c',hv⟩:=gE h h0;simp only[Value.slice.injEq]at hv;obtain⟨rfl,rfl,rfl⟩:=hv;refine⟨g,0,rfl,fun i x hi j v hj=>?_⟩;rw[kB];exact(pC h (i:=i*K+j) qJ0).1
set_option maxHeartbeats 3200000 in
theorem J6(A B:Option Addr)(T:List Tl)(ca cb:Nat)(w:World)(hA:pA dQ 3 w A T)(hB:pA dQ 3 w B T)(hz:T.length≤1000000):
 Calls jG 20 #[.slice A T.length ca,.slice B T.length cb] w (fun e w'=>e=.returned (.bool true)∧Below w.heap.size w w'):=by
 have HA:=Hd hA;have HB:=Hd hB;clear hA hB
 go_enter Tryz.func20,Tryz.ntmps20
 go_wp2_with fail
 go_loopw [5] (fun i wr=>∃k:Nat,k≤T.length∧i=.int .i64 k∧Below w.heap.size w wr) (fun i _=>T.length-(intOf i).toNat)
 case atStart=>exact⟨0,kT _,rfl,jU _ _⟩
 case round=>
  obtain⟨k,hk,rfl,hBe⟩:=hrel
  by_cases hlt:k<T.length
  rotate_left
  · go_wp2
    go_ret
    exact⟨rfl,hBe⟩
  · obtain⟨b,off,x,rfl,hx,cx⟩:=(HA.o.below hBe).at_ hlt;obtain⟨b',off',y,rfl,hy,cy⟩:=(HB.o.below hBe).at_ hlt;obtain rfl:x=y:=by rw[hx]at hy;exact Option.some.inj hy
    have x0:wr.cell? ⟨b,off+k*3,none⟩=some (.int .i64 x.k):=cx 0 _ rfl;have x1:wr.cell? ⟨b,off+k*3+1,none⟩=some (.int .i64 x.a):=cx 1 _ rfl;have x2:wr.cell? ⟨b,off+k*3+2,none⟩=some (.int .i64 x.n):=cx 2 _ rfl;have y0:wr.cell? ⟨b',off'+k*3,none⟩=some (.int .i64 x.k):=cy 0 _ rfl;have y1:wr.cell? ⟨b',off'+k*3+1,none⟩=some (.int .i64 x.a):=cy 1 _ rfl;have y2:wr.cell? ⟨b',off'+k*3+2,none⟩=some (.int .i64 x.n):=cy 2 _ rfl;clear hx hy cx cy
    go_upto_region 6 with fail
    refine zU 8 (fun w'=>Below wr.heap.size wr w'∧w'.cell? ⟨b,off+k*3,none⟩=some (.int .i64 x.k)∧w'.cell? ⟨b,off+k*3+1,none⟩=some (.int .i64 x.a)∧w'.cell? ⟨b,off+k*3+2,none⟩=some (.int .i64 x.n)∧w'.cell? ⟨b',off'+k*3,none⟩=some (.int .i64 x.k)∧w'.cell? ⟨b',off'+k*3+1,none⟩=some (.int .i64 x.a)∧w'.cell? ⟨b',off'+k*3+2,none⟩=some (.int .i64 x.n)) ⟨(jU _ _).drew,x0,x1,x2,y0,y1,y2⟩ ?_
    repeat first|refine zS ?_|refine zV ?_
    refine kU (fun w' hS=>?_);have HBB:=Hd (jN hBe hS.1);clear hS x0 x1 x2 y0 y1 y2
    go_wp2
    go_roundw
    case rel=>exact⟨k+1,by omega,by go_num,HBB.o⟩
    case measure=>exact zm
set_option maxHeartbeats 3200000 in
theorem XX(A B:Option Addr)(L M:List Rh)(ca cb:Nat)(w:World)(hA:pA yZ 2 w A L)(hB:pA yZ 2 w B M)(hrL:∀r∈L,pX w r)(hrM:∀r∈M,pX w r)(he:L.map yA=M.map yA)(hz:L.length≤1000000):
 Calls jG 81 #[.slice A L.length ca,.slice B M.length cb] w (fun e w'=>e=.returned (.bool true)∧Below w.heap.size w w'):=by
 have hlen:L.length=M.length:=by have :=congrArg List.length he;simpa using this
 have HA:=Hd hA;have HB:=Hd hB;have HL:=Hd hrL;have HM:=Hd hrM;have HE:=Hd he;have HLEN:=Hd hlen;obtain⟨n,hn⟩:∃n,n=L.length:=⟨_,rfl⟩;rw[←hlen,←hn];have HN:=Hd hn;have hz':n≤1000000:=by omega
 clear hA hB hrL hrM he hlen hn hz
 go_enter Tryz.func81,Tryz.ntmps81
 go_wp2_with fail
 go_loopw [5] (fun i wr=>∃k:Nat,k≤n∧i=.int .i64 k∧Below w.heap.size w wr) (fun i _=>n-(intOf i).toNat)
 case atStart=>exact⟨0,kT _,rfl,jU _ _⟩
 case round=>
  obtain⟨k,hk,rfl,hBe⟩:=hrel
  by_cases hlt:k<n
  rotate_left
  · go_wp2
    go_ret
    exact⟨rfl,hBe⟩
  · obtain⟨b,off,x,rfl,hx,cx⟩:=(HA.o.below hBe).at_ (show k<L.length by have :=HN.o;omega);obtain⟨b',off',y,rfl,hy,cy⟩:=(HB.o.below hBe).at_ (show k<M.length by have :=HN.o;have :=HLEN.o;omega);have hxy:yA x=yA y:=by
     have h1:(L.map yA)[k]? =some (yA x):=by rw[vQ,hx];rfl
     have h2:(M.map yA)[k]? =some (yA y):=by rw[vQ,hy];rfl
     rw[HE.o,h2]at h1;exact(Option.some.inj h1).symm
    have hcs:x.cs=y.cs:=congrArg Ro.cs hxy;have hct:x.cont=y.cont:=congrArg Ro.cont hxy;have hrx:=(HL.o x (uW hx)).below hBe;have hry:=(HM.o y (uW hy)).below hBe;have HSM:Hid (∀w',Below wr.heap.size wr w'→Calls jG 150 #[.slice x.A x.cs.length x.cap,.slice y.A x.cs.length y.cap] w' (fun e w''=>e=.returned (.bool true)∧Below w'.heap.size w' w'')):=Hd (fun w' hb=>by
     have h1:=hrx.below hb;have h2:=hry.below hb;have :=Jk x.A y.A x.cs y.cs x.cap y.cap w' (aQ h1.2.2.1) (aQ h2.2.2.1) (by have :=h1.1;omega) (by have :=h2.1;omega);rw[←hcs]at this;simpa using this)
    have x0:wr.cell? ⟨b,off+k*2,none⟩=some (.slice x.A x.cs.length x.cap):=cx 0 _ rfl;have x1:wr.cell? ⟨b,off+k*2+1,none⟩=some (.bool x.cont):=cx 1 _ rfl;have y0:wr.cell? ⟨b',off'+k*2,none⟩=some (.slice y.A x.cs.length y.cap):=by rw[hcs];exact cy 0 _ rfl
    have y1:wr.cell? ⟨b',off'+k*2+1,none⟩=some (.bool x.cont):=by rw[hct];exact cy 1 _ rfl
    clear hx hy cx cy hxy hcs hct hrx hry
    go_upto_region 6 with fail
    refine zU 24 (fun w'=>Below wr.heap.size wr w'∧w'.cell? ⟨b,off+k*2,none⟩=some (.slice x.A x.cs.length x.cap)∧w'.cell? ⟨b,off+k*2+1,none⟩=some (.bool x.cont)∧w'.cell? ⟨b',off'+k*2,none⟩=some (.slice y.A x.cs.length y.cap)∧w'.cell? ⟨b',off'+k*2+1,none⟩=some (.bool x.cont)) ⟨(jU _ _).drew,x0,x1,y0,y1⟩ ?_
    repeat first|refine zS ?_|refine zD 150 #[.slice x.A x.cs.length x.cap,.slice y.A x.cs.length y.cap] (.bool true) (fun w' hS=>(HSM.o w' hS.1).mono (fun e w'' h=>⟨h.1,jN hS.1 h.2,jA h.2 hS.2.1,jA h.2 hS.2.2.1,jA h.2 hS.2.2.2.1,jA h.2 hS.2.2.2.2⟩)) ?_|refine zV ?_
    refine kU (fun w' hS=>?_);have HBB:=Hd (jN hBe hS.1);clear hS x0 x1 y0 y1
    go_wp2
    go_roundw
    case rel=>exact⟨k+1,by omega,by go_num,HBB.o⟩
    case measure=>exact zm
theorem Ku{P:Program}{ops:Array Oper}{rest:List Oper}{o:Oper}{a:Act}{w:World}{Q:Exit→Act→World→Prop}(hg:o.guard=none)(f:FuncId)(args:Array Value)(hrun:(execOp a.eval o).run P w=.ok (.enter f args) w)
 {R:Value→World→Prop} (hc:Calls P f args w (fun e w'=>∃v,e=.returned v∧R v w')) (h:∀v w',R v w'→wpList P ops Q rest (a.put o.dst v) w'):wpList P ops Q (o::rest) a w:=by
 refine wpList_plain hg fun K hK=>?_;unfold Oper.wp;rw[hrun,Oper.upon_enter];refine hc.mono fun e w'' hh=>?_;obtain⟨v,rfl,hr⟩:=hh;exact hK _ _ (h _ _ hr)
theorem KH:(jG.info? 92).map (fun i=>(i.zero,i.size,i.bytes))=some (some (.slice none 0 0),1,24):=by kernel_rfl
def GhB(w:World)(v:Value)(h:Gh):Prop:=∃b off,h.A=some ⟨b,off,none⟩∧pA zQ 1 w h.A h.g∧h.g.length≤h.cap∧b<w.heap.size∧v.ownBlock≠some b
def tE(X:List (List Int))(w:World)(e:Ending)(w':World):Prop:=∃(A:Option Addr) (H:List Gh) (c:Nat),e=.returned (.slice A H.length c)∧eR w' A H∧vK H=X∧Below w.heap.size w w'
section
variable {w:World}{A:Option Addr}{H:List Gh}
set_option maxHeartbeats 3200000 in
theorem YV(hG:eR w A H)(ca:Nat)(hca:H.length≤ca)(hz:H.length≤1000000)(hzg:∀h∈H,h.g.length≤1000000):Calls jG 113 #[.slice A H.length ca] w (tE (bG (vK H)) w):=by
 obtain⟨j0,hj,gz0,gz1,gz2⟩:=info_parts KH
 by_cases h0:H.length=0
 · have hX:bG (vK H)=[[-1]]:=by unfold bG vK;rw[if_pos (by simpa using h0)]
   rw[hX,h0];clear hG hX h0 hz hca hzg
   go_enter Tryz.func113,Tryz.ntmps113
   go_wp2
   go_ret
   have hc:=uI (o:=.cells #[.slice (some ⟨w.heap.size,0,none⟩) 1 1] 92) (kZ (W:=w) (b:=w.heap.size) (o:=.cells #[.int .i64 (-1)] 3) rfl);have hc2:=kZ (W:=w.alloc (.cells #[.int .i64 (-1)] 3)) (b:=w.heap.size+1) (o:=.cells #[.slice (some ⟨w.heap.size,0,none⟩) 1 1] 92) qV;refine⟨some ⟨w.heap.size+1,0,none⟩,[⟨some ⟨w.heap.size,0,none⟩,[-1],1⟩],1,by simp;try rfl,⟨fun _=>⟨w.heap.size+1,0,rfl,fun i y hi j v hv=>?_⟩,fun h hh=>?_⟩,rfl,jW (jW (jU _ _) _) _⟩
   · have hi0:i=0:=by have :=(jE.1 hi).1;simpa using this
     subst hi0;obtain rfl:=Option.some.inj hi;have hj0:j=0:=by have :=(jE.1 hv).1;simpa[nC]using this
     subst hj0;obtain rfl:=Option.some.inj hv;exact(at_ hc2 0 _ rfl).1
   · rw[jR.1 hh];refine⟨fun _=>⟨w.heap.size,0,rfl,fun i y hi j v hv=>?_⟩,jS _⟩;have hi0:i=0:=by have :=(jE.1 hi).1;simpa using this
     subst hi0;obtain rfl:=Option.some.inj hi;have hj0:j=0:=by have :=(jE.1 hv).1;simpa[zQ]using this
     subst hj0;obtain rfl:=Option.some.inj hv;exact(at_ hc 0 _ rfl).1
 · obtain⟨x0,b,off,-,rfl,-⟩:=hG.get (i:=0) qJ;have hgl:(vK H).length=H.length:=by unfold vK;simp
   have HC:Hid (∀i,i<H.length→∃x:Gh,w.cell? ⟨b,off+i,none⟩=some (.slice x.A x.g.length x.cap)∧(vK H).getD i []=x.g∧(∀W',Below w.heap.size w W'→Calls jG 185 #[.slice x.A x.g.length x.cap] W' (UT (cW x.g) W'))):=Hd (fun i hi=>by
    obtain⟨x,b',off',h1,h2,h3,⟨h4,h5⟩,h6⟩:=hG.get hi;injection h2 with h2
    injection h2 with e1 e2
    subst e1 e2;exact⟨x,h3,h6,fun W' hb'=>Xx (h4.below hb') x.cap h5 (hzg x (uW h1))⟩)
   obtain⟨X,hX⟩:∃X:Nat→List (List Int),X=fun k=>((vK H).take k).map cW:=⟨_,rfl⟩;have HXS:Hid (∀k,k<H.length→X (k+1)=X k++[cW ((vK H).getD k [])]):=Hd (fun k hk=>by
    have hk':k<(vK H).length:=by omega
    rw[hX];simp only[];rw[vJ hk',gK];congr 2;rw[kP,jD hk'];rfl)
   have HX0:Hid (X 0=[]):=Hd (by rw[hX];rfl);have HXE:Hid (X (min H.length 32)=bG (vK H)):=Hd (by
    have e:(vK H).take (min H.length 32)=(vK H).take 32:=by rw[←hgl,Nat.min_comm,←List.take_take,List.take_length]
    rw[hX];unfold bG;rw[if_neg qJ];simp only[];rw[e])
   rw[←HXE.o];obtain⟨L,hL⟩:∃L,H.length=L:=⟨_,rfl⟩;rw[hL]at h0 HC HXS hca hz ⊢;generalize vK H=G at HC HXS;obtain⟨M,hM⟩:∃M,min L 32=M:=⟨_,rfl⟩;rw[hM];have hmI:(if(32:Int)<(L:Int)then(32:Int)else(L:Int))=(M:Int):=by by_cases h8:(32:Int)<(L:Int)<;>simp only[h8,if_true,if_false]<;>omega
   have h0q:((L:Int)==0)=false:=zb qJ;have hMI1:(0:Int)≤(M:Int):=by omega
   have hMI2:(M:Int)≤(ca:Int):=by omega
   have hM8:M≤32:=by omega
   have hML:M≤L:=by omega
   have HM:=Hd (kM hM8 (kM hML hca));clear hG hX hL hM h0 hz hM8 hML hca HXE hgl hzg
   go_enter Tryz.func113,Tryz.ntmps113
   go_upto_region 4 with fail
   refine wp_region_lit ?_;refine zG (.slice (some ⟨b,off,none⟩) L ca) ?_;refine zG (.slice (some ⟨b,off,none⟩) L ca) ?_;refine zGs (.int .i64 L) ?_;refine zGs (.int .i64 M) ?_;refine zGs (.slice (some ⟨b,off,none⟩) M ca) ?_;refine zGs (.int .i64 M) ?_;refine zG (.int .i64 0) ?_
   go_wp2_with fail
   go_loopw [3,17] (fun s3 s17 wr=>∃(k:Nat) (H':List Gh),s17=.int .i64 k∧k≤M∧H'.length=k∧vK H'=X k∧wr.ownsRow w.heap.size 92 1 s3 k (uS nC H')∧(∀h∈H',GhB wr s3 h)∧Below w.heap.size w wr) (fun _ s17 _=>M-(intOf s17).toNat)
   case atStart=>exact⟨0,[],rfl,kT _,rfl,by rw[HX0.o];rfl,uE _ _ _ _,(fun h hh=>by cases hh),jU _ _⟩
   case round=>
    obtain⟨k,H',rfl,hk,hHl,hHX,hO,hHB,hB⟩:=hrel;obtain⟨bx,rfl⟩:∃bx:Value×Unit,u3=bx.1:=⟨(u3,()),rfl⟩;have HO:=Hd hO;have HB:=Hd hB;have HHB:=Hd hHB;have HHX:=Hd (kM hHl hHX);have hwk:jP.wrap ((k:Int)+1)=(k:Int)+1:=jH _ qK9;clear hO hB hHB hHl hHX
    by_cases hlt:k<M
    · have hltI:(k:Int)<(M:Int):=by omega
      obtain⟨x,hc,hx,hgr⟩:=HC.o k qK1;have hcell:=jA HB.o hc;have HXK:=Hd (HXS.o k qK1);rw[hx]at HXK;obtain⟨C,hC⟩:∃C,cW x.g=C:=⟨_,rfl⟩;rw[hC]at HXK;have HP:Hid (Calls jG 185 #[.slice x.A x.g.length x.cap] wr (fun e w'=>∃v,e=.returned v∧∃b off c:Nat,v=.slice (some ⟨b,off,none⟩) C.length c∧pA zQ 1 w' (some ⟨b,off,none⟩) C∧C.length≤c∧wr.heap.size≤b∧b<w'.heap.size∧Below wr.heap.size wr w')):=Hd ((hgr wr HB.o).mono (fun e w' h=>by rw[hC]at h;obtain⟨b,off,c,h1,h2⟩:=h;exact⟨_,h1,b,off,c,rfl,h2⟩));clear hc hx hgr hC
      go_upto_region 7 with fail
      refine wp_region_lit ?_;refine zG (bx.1) ?_;refine zG (.slice x.A x.g.length x.cap) ?_;refine Ku rfl 185 #[.slice x.A x.g.length x.cap] qY HP.o ?_;rintro v5 w5 ⟨b5,off5,c5,rfl,hg5,hl5,hge5,hlt5,hb5⟩;refine zP ?_;have hO5:=uL HO.o (Mod.of_below (X:=[]) hb5) (fun _ _ h=>by cases h);have HO3:=Hd (uL hO5 (Mod.of_below (X:=[]) (jW (jU w5.heap.size w5) (.cells #[.slice (some ⟨b5,off5,none⟩) C.length c5] 92))) (fun _ _ h=>by cases h));have HBX:=Hd (jW (jN HB.o hb5) (.cells #[.slice (some ⟨b5,off5,none⟩) C.length c5] 92));have hlo:=kK.lt (show kK _ _ _ _ _ _ _ from HO.o);have hba:Below w5.heap.size w5 (w5.alloc (.cells #[.slice (some ⟨b5,off5,none⟩) C.length c5] 92)):=jW (jU _ _) _;have HH8:Hid (∀h∈H'++[⟨some ⟨b5,off5,none⟩,C,c5⟩],GhB (w5.alloc (.cells #[.slice (some ⟨b5,off5,none⟩) C.length c5] 92)) bx.1 h):=Hd (fun h hh=>by
       rcases kL.1 hh with hh|hh
       · obtain⟨b,off,h1,h2,h3,h4,h5⟩:=HHB.o h hh;exact qXa
       · rw[jR.1 hh];exact⟨b5,off5,rfl,hg5.below hba,hl5,Nat.lt_of_lt_of_le hlt5 hba.size,fun he=>by have :=(hlo b5 he).2;omega⟩)
      have HSZ:=Hd (kM HB.o.size hb5.size);clear hO5 hlo hba hg5 hl5 hge5 hlt5 hb5;refine uM (.slice (some ⟨w5.heap.size,0,none⟩) 1 1) (w5.alloc (.cells #[.slice (some ⟨b5,off5,none⟩) C.length c5] 92)) qK qY ?_;refine zP ?_;refine kO (o:=⟨some 25,_,_,_,_,_⟩) rfl (.tmp 21) (.tmp 24) 32 rfl w.heap.size 92 j0 _ 1 24 Tryz.underlying32 hj gz0 gz1 gz2 rfl qZ bx.1 k (uS nC H') rfl HO3.o ⟨w5.heap.size,0,none⟩ 1 1 [.slice (some ⟨b5,off5,none⟩) C.length c5] rfl rfl (fun j u hj=>by rw[vZ,kB];exact(at_ (kZ rfl) j u qF).1) (wP ⟨some ⟨b5,off5,none⟩,C,c5⟩) (by have :=HM.o.1;simp only[maxLen];omega) qK9 qE ?_;intro v' w7 ho hg hv';have HO7:Hid (w7.ownsRow w.heap.size 92 1 v' (k+1) (uS nC (H'++[⟨some ⟨b5,off5,none⟩,C,c5⟩]))):=Hd (by rw[uC];exact ho);have HB7:=Hd (HBX.o.grown hg HBX.o.size (fun b hb=>(kK.lt (show kK _ _ _ _ _ _ _ from HO3.o) b hb).1));have HH9:Hid (∀h∈H'++[⟨some ⟨b5,off5,none⟩,C,c5⟩],GhB w7 v' h):=Hd (fun h hh=>by
       obtain⟨b,off,h1,h2,h3,h4,h5⟩:=HH8.o h hh;refine⟨b,off,h1,?_,h3,Nat.lt_of_lt_of_le h4 hg.size,fun he=>?_⟩
       · rw[h1]at h2 ⊢;exact qXb
       · rcases hv' b he with h6|h6
         · exact h5 h6
         · omega)
      refine zP ?_;clear ho hg hv'
      go_wp2
      go_roundw
      case rel=>exact⟨k+1,_,by go_num,by omega,by rw[jI,HHX.o.1];rfl,by rw[HXK.o,←HHX.o.2];unfold vK;rw[gK];rfl,HO7.o,HH9.o,HB7.o⟩
      case measure=>exact zm
    · have hltI:¬(k:Int)<(M:Int):=by omega
      obtain rfl:k=M:=by omega
      obtain⟨A8,c8,hv8⟩:=gU HO.o;obtain⟨bv,bu⟩:=bx;simp only at hv8;subst hv8;have hgr:=cU (X:=H') wC (by rw[HHX.o.1];exact HO.o)
      go_wp2
      go_ret
      exact⟨A8,H',c8,by rw[HHX.o.1];rfl,⟨hgr,fun h hh=>by obtain⟨b,off,h1,h2,h3,-⟩:=HHB.o h hh;exact⟨h2,h3⟩⟩,HHX.o.2,HB.o⟩
end
theorem YD{G:List (List Int)}(hc:JP G)(i:Nat):yG G i≤65535:=by
 unfold yG
 by_cases hi:i<G.length
 · have hm:G.getD i []∈G:=by rw[kP,jD hi];exact List.getElem_mem hi
   obtain⟨h1,-,h2⟩:=hc _ hm;cases hg:G.getD i []with
   |nil=>rw[hg]at h1;simp at h1
   |cons x l=>have :=(h2 x (by rw[hg];exact List.mem_cons_self)).2;show max 0 x≤65535;omega
 · rw[kP,kI qJ];decide
theorem oN{b k:Nat}(h:k≠b):∀(vs:List Value) (o:Nat) (w:World),(w.setCells b o vs).heap[k]? =w.heap[k]?
 |[],_,_=>rfl
 |v::vs,o,w=>(oN h vs (o+1) (w.setCell ⟨b,o,none⟩ v)).trans (gS h)
section
variable {w:World}{A:Option Addr}{H:List Gh}
set_option maxHeartbeats 6400000 in
theorem J3(hG:eR w A H)(ca:Nat)(hcl:JP (vK H))(hz:H.length≤1000)(a:Atr)(hf:zZ a.fl):Calls jG 112 #[.agg (aL a).toArray,.slice A H.length ca] w (fO (dO a (vK H)) w):=by
 obtain⟨W,hW⟩:∃W,(w.alloc (.cells (aL a).toArray 40)).alloc (.cells (aL zY).toArray 40)=W:=⟨_,rfl⟩;have hb:Below w.heap.size w W:=by rw[←hW];exact jW (jW (jU _ _) _) _
 have hcx:W.heap[w.heap.size]? =some (.cells (aL a).toArray 40 (0,0)):=by rw[←hW];exact uI (kZ rfl)
 have hcy:W.heap[w.heap.size+1]? =some (.cells (aL zY).toArray 40 (0,0)):=by rw[←hW];exact kZ qV
 have HB0:=Hd hb;have HX0:=Hd hcx;have HY0:=Hd hcy;have HW:=Hd hW;have hgl:(vK H).length=H.length:=by unfold vK;simp
 obtain⟨L,hL⟩:∃L,H.length=L:=⟨_,rfl⟩;have HGET:Hid (∀i,i<L→∃(x:Gh) (gb off:Nat),A=some ⟨gb,off,none⟩∧w.cell? ⟨gb,off+i,none⟩=some (.slice x.A x.g.length x.cap)∧(vK H).getD i []=x.g∧x.g.length≤8∧x.g.length≤x.cap∧(∀W',Below w.heap.size w W'→Calls jG 181 #[.slice x.A x.g.length x.cap] W' fun e w'=>e=.returned (.int .i64 (Qq x.g))∧W'=w')∧(1<x.g.length→∀W',Below w.heap.size w W'→Calls jG 182 #[.slice x.A x.g.length x.cap] W' (sB (wN x.g) W'))):=Hd (fun i hi=>by
  obtain⟨x,gb,off,h1,h2,h3,⟨h4,h4b⟩,h5⟩:=hG.get (i:=i) qJ;have hm:(vK H).getD i []∈vK H:=by
   have hi':i<(vK H).length:=by omega
   rw[kP,jD hi'];exact List.getElem_mem hi'
  have h8:=(hcl _ hm).2.1;rw[h5]at h8;exact⟨x,gb,off,h2,h3,h5,h8,h4b,fun W' hb'=>Q8 (h4.below hb') x.cap qJ,fun hx W' hb'=>Za (h4.below hb') x.cap hx h8 h4b⟩)
 have HFI:Hid (∀W',Below w.heap.size w W'→∀i:Nat,Calls jG 180 #[.slice A L ca,.int .i64 i] W' fun e w'=>e=.returned (.int .i64 (yG (vK H) i))∧W'=w'):=Hd (fun W' hb' i=>by rw[←hL];exact JU (hG.below hb') ca i qJ);have HBE:Hid (∀W',Below w.heap.size w W'→∀i:Nat,i<L→Calls jG 183 #[.slice A L ca,.int .i64 i] W' (UE (nT (vK H) i) W')):=Hd (fun W' hb' i hi=>by rw[←hL]at hi ⊢;exact XJ (hG.below hb') ca i hi hz);have HV:Hid (∀i:Nat,0≤yG (vK H) i∧yG (vK H) i≤65535):=Hd (fun i=>⟨mP _ i,YD hcl i⟩);have HEND:Hid (∀a':Atr,cE L a' (vK H) L=dO a (vK H)→a'=dO a (vK H)):=Hd (fun a' h=>by rw[iM _ _ _ _ qJ]at h;exact h);have HST:Hid (∀(a':Atr) (i:Nat),i<L→cE L a' (vK H) i=dO a (vK H)→∃j:Nat,(sP a' (vK H) i).2=j∧i<j∧j≤L∧cE L (sP a' (vK H) i).1 (vK H) j=dO a (vK H)):=Hd (fun a' i hi h=>by
  have e:(vK H).length=L:=by omega
  obtain⟨j,h1,h2,h3,h4⟩:=XF a' (vK H) i qJ;rw[e]at h3 h4;exact⟨j,h1,h2,h3,h4.trans h⟩)
 have HS0:Hid (cE L a (vK H) 0=dO a (vK H)):=Hd (by unfold dO;rw[hgl,hL]);have HFL:=Hd hf;rw[hL]at hz ⊢;obtain⟨T,hT⟩:∃T,dO a (vK H)=T:=⟨_,rfl⟩;rw[hT]at HEND HST HS0 ⊢;generalize vK H=G at HGET HFI HBE HV HEND HST HS0;clear hG hcl hb hcx hcy hW hgl hL hf hT
 go_enter Tryz.func112,Tryz.ntmps112
 go_upto_region 1 with fail
 have hW2:(w.alloc (.cells (aL a).toArray 40)).alloc (.cells #[.int .i64 0,.int .i64 0,.int .i64 0,.int .i64 0,.int .i64 0] 40)=W:=HW.o;rw[hW2];clear hW2
 go_wp2_with fail
 go_loopw [5] (fun s5 wr=>∃(i:Nat) (a':Atr),s5=.int .i64 i∧i≤L∧zZ a'.fl∧cE L a' G i=T∧wr.heap[w.heap.size]? =some (.cells (aL a').toArray 40 (0,0))∧wr.heap[w.heap.size+1]? =some (.cells (aL zY).toArray 40 (0,0))∧Below w.heap.size w wr) (fun s5 _=>L-(intOf s5).toNat)
 case atStart=>exact⟨0,a,rfl,kT _,HFL.o,HS0.o,HX0.o,HY0.o,HB0.o⟩
 case round=>
  obtain⟨i,a',rfl,hi,hok,htn,hx,hy,hbw⟩:=hrel;have HX:=Hd hx;have HY:=Hd hy;have HB:=Hd hbw;have HOK:=Hd hok;have HTN:=Hd htn;have hwi:jP.wrap ((i:Int)+1)=(i:Int)+1:=jH _ qJ;clear HX0 HY0 HB0 HFL HS0 HW hx hy hbw hok htn
  by_cases hlt:i<L
  rotate_left
  · have hltI:¬(i:Int)<(L:Int):=by omega
    obtain rfl:i=L:=by omega
    obtain rfl:=HEND.o a' HTN.o;obtain⟨fk,fn,bk,bn,fl⟩:=a'
    go_upto_region 21 with fail
    refine wp_region_lit ?_;refine uF qK 40 (.tmp 2) rfl (w.heap.size) (0) rfl (aL ⟨fk,fn,bk,bn,fl⟩) _ (kA HX.o) vN rfl pD ?_;refine zP ?_;refine wpList_store_mid rfl 40 (.tmp 4) (.tmp 77) rfl (w.heap.size+1) (0) ((aL ⟨fk,fn,bk,bn,fl⟩).toArray) rfl rfl ((show World.there _ (w.heap.size+1) 0 5 from gH HY.o)) pD (all_oneCell_toArray (JS _)) ?_;simp only[Act.put]
    go_wp2
    have hw:=uB (aL ⟨fk,fn,bk,bn,fl⟩) 0 _ _ HY.o qZb;exact qZ9
  · have hltI:(i:Int)<(L:Int):=by omega
    obtain⟨j,hj1,hj2,hj3,hj4⟩:=HST.o a' i hlt HTN.o;obtain⟨x,gb,off,rfl,hcg,hge,hg8,hgc,hln,hin⟩:=HGET.o i hlt;have hcg2:=jA HB.o hcg;have HF:=Hd (HFI.o wr HB.o i);have HVI:=Hd (HV.o i);have HBI:=Hd (fun W' hb'=>HBE.o W' hb' i hlt);have HLN:=Hd hln;have HIN:=Hd hin;have HGE:=Hd hge;have HOK2:=Hd (V5 HOK.o G i);obtain⟨a2,ha2⟩:∃a2,(sP a' G i).1=a2:=⟨_,rfl⟩;rw[ha2]at hj4 HOK2;have HJ1:=Hd hj1;have HA2:=Hd ha2;have HJ4:=Hd hj4;have HJ:=Hd (kM hj2 hj3);unfold sP at HJ1 HA2;rw[HGE.o]at HA2;unfold qQc at HA2;unfold qQb at HJ1;rw[HGE.o]at HA2 HJ1;obtain⟨v,hv⟩:∃v,yG G i=v:=⟨_,rfl⟩;rw[hv]at HF HVI HJ1 HA2;clear hcg hln hin hge hj1 ha2 hj4 hj2 hj3 hv HTN HEND HST HGET HFI HBE HV
    by_cases h4:v=4
    · subst h4;have hj:Hid ((i:Int)+1=(j:Int)):=Hd (by rw[←HJ1.o,if_neg qZ]);obtain⟨lv,hlv⟩:∃lv,Qq x.g=lv:=⟨_,rfl⟩;rw[hlv]at HLN;obtain⟨nf,hnf⟩:∃nf,bits .or .i64 (bits .andNot .i64 a'.fl 264) lv=nf:=⟨_,rfl⟩;have ha:Hid (a2={a' with fl:=nf}):=Hd (by rw[←HA2.o,if_neg qZ];show nP a' 4 x.g=_;rw[simpA_4 HOK.o,hlv,hnf]);obtain⟨fk,fn,bk,bn,fl⟩:=a';simp only[]at ha hnf;obtain⟨c4,f4⟩:=at_ HX.o 4 (.int .i64 fl) rfl;have HNF:=Hd hnf;clear HJ1 HA2 HBI HIN hlv hnf
      go_upto_region 8 with(go_at_call 180;(with_reducible refine HF.o.mono ?_);rintro e w2 ⟨rfl,rfl⟩)
      refine zU2 10 c4 hcg2 ?_
      repeat first|refine zS ?_|refine zD 181 #[.slice x.A x.g.length x.cap] (.int .i64 lv) (fun w' hS=>(HLN.o w' (jN HB.o hS.1)).mono fun e w2 ⟨he,hw⟩=>⟨he,hw▸hS⟩) ?_|refine zV ?_
      refine kU (fun w' hS=>?_);have hx8:=(hS.1.block _ (kQ HX.o)).trans HX.o;have hy8:=(hS.1.block _ (kQ HY.o)).trans HY.o;have hb8:=jN HB.o hS.1;clear hS c4 f4;obtain⟨c4,f4⟩:=at_ hx8 4 (.int .i64 fl) rfl;have hNF:=HNF.o
      go_upto_region 3 with fail
      have HX9:Hid ((w'.setCell ⟨w.heap.size,4,none⟩ (.int .i64 nf)).heap[w.heap.size]? =some (.cells (aL a2).toArray 40 (0,0))):=Hd (by rw[ha.o];exact kY hx8 4 _ rfl);have HY9:=Hd (uV (i:=4) (v:=.int .i64 nf) hy8 (show w.heap.size+1≠w.heap.size by omega));have HB9:=Hd (kH hb8 (jS w.heap.size) (o:=4) (.int .i64 nf));clear hx8 hy8 hb8 c4 f4 hNF
      go_wp2
      go_roundw
      case rel=>exact⟨j,a2,by rw[hj.o],HJ.o.2,HOK2.o,HJ4.o,HX9.o,HY9.o,HB9.o⟩
      case measure=>have h1:=HJ.o;have h2:=hj.o;simp[intOf];omega
    · have e4:(v==4)=false:=zb h4
      by_cases h38:v=38
      · subst h38;have HJF:Hid ((if 1<x.g.length then(i:Int)+1 else(i:Int)+(nT G i).2+1)=(j:Int)):=Hd (by rw[←HJ1.o,if_pos (c:=(38:Int)=38∨(38:Int)=48) (.inl rfl)]);have HAF:Hid (tY a' 38 (if 1<x.g.length then wN x.g else(nT G i).1)=a2):=Hd (by rw[←HA2.o,if_pos (c:=(38:Int)=38∨(38:Int)=48) (.inl rfl)]);clear HJ1 HA2 HLN HGE HVI h4 e4
        by_cases hx1:1<x.g.length
        · have hx1I:(1:Int)<(x.g.length:Int):=by omega
          have HNE:Hid (w.heap.size≠wr.heap.size∧w.heap.size+1≠wr.heap.size):=Hd qKc
          go_upto_region 12 with(go_at_call 180;(with_reducible refine HF.o.mono ?_);rintro e w2 ⟨rfl,rfl⟩)
          obtain⟨W12,hW12⟩:∃W12,wr.alloc (Obj.cells #[.int .i64 0,.int .i64 0] 38)=W12:=⟨_,rfl⟩;have hb12:Below wr.heap.size wr W12:=by rw[←hW12];exact jW (jU _ _) _
          have HZ12:Hid (W12.heap[wr.heap.size]? =some (.cells #[.int .i64 0,.int .i64 0] 38 (0,0))):=Hd qVc;have HX12:=Hd ((hb12.block _ (kQ HX.o)).trans HX.o);have HY12:=Hd ((hb12.block _ (kQ HY.o)).trans HY.o);have HB12:=Hd (jN HB.o hb12);have hcg12:=jA hb12 hcg2;rw[hW12];clear hW12 hcg2 hb12;obtain⟨oc,hoc⟩:∃oc,wN x.g=oc:=⟨_,rfl⟩;have hJ:Hid ((i:Int)+1=(j:Int)):=Hd (by rw[←HJF.o,if_pos hx1]);have hA:Hid (tY a' 38 oc=a2):=Hd (by rw[←HAF.o,if_pos hx1,hoc]);have HC:=Hd (HIN.o hx1 W12 HB12.o);rw[hoc]at HC;clear hoc hx1 HJF HAF HIN HBI
          go_upto_region 17 with(go_at_call 182;(with_reducible refine HC.o.mono ?_);rintro e w13 ⟨rfl,hb13⟩;have hz13:=(hb13.block _ (kQ HZ12.o)).trans HZ12.o;obtain⟨d0,d0f⟩:=at_ hz13 0 (.int .i64 0) rfl;obtain⟨d1,d1f⟩:=at_ hz13 1 (.int .i64 0) rfl)
          have hz17:=kY (kY hz13 0 (.int .i64 (ocK oc)) rfl) 1 (.int .i64 (ocN oc)) rfl;have hx17:=uV (i:=1) (v:=.int .i64 (ocN oc)) (uV (i:=0) (v:=.int .i64 (ocK oc)) ((hb13.block _ (kQ HX12.o)).trans HX12.o) HNE.o.1) HNE.o.1;have hy17:=uV (i:=1) (v:=.int .i64 (ocN oc)) (uV (i:=0) (v:=.int .i64 (ocK oc)) ((hb13.block _ (kQ HY12.o)).trans HY12.o) HNE.o.2) HNE.o.2;have hb17:=kH (kH (jN HB12.o hb13) HB.o.size (o:=0) (.int .i64 (ocK oc))) HB.o.size (o:=1) (.int .i64 (ocN oc));clear hz13 hb13 d0 d0f d1 d1f;generalize (uQ w13 ⟨wr.heap.size,0,none⟩ (.int .i64 (ocK oc))).setCell ⟨wr.heap.size,1,none⟩ (.int .i64 (ocN oc))=W17 at hz17 hx17 hy17 hb17 ⊢;have HZ17:=Hd hz17;have HX17:=Hd hx17;have HY17:=Hd hy17;have HB17:=Hd hb17;clear hz17 hx17 hy17 hb17;obtain⟨fk,fn,bk,bn,fl⟩:=a';cases oc with
          |none=>
           have HX9:Hid (W17.heap[w.heap.size]? =some (.cells (aL a2).toArray 40 (0,0))):=Hd qVd;have HY9:=HY17;have HB9:=HB17
           go_wp2
           go_roundw
           case rel=>exact⟨j,a2,by rw[hJ.o],HJ.o.2,HOK2.o,HJ4.o,HX9.o,HY9.o,HB9.o⟩
           case measure=>have h1:=HJ.o;have h2:=hJ.o;simp[intOf];omega
          |some c=>
           obtain⟨ck,cn⟩:=c;have hz17:=HZ17.o;have hx17:=HX17.o;obtain⟨d0,d0f⟩:=at_ hz17 0 (.int .i64 ck) rfl;obtain⟨d1,d1f⟩:=at_ hz17 1 (.int .i64 cn) rfl;obtain⟨x0,x0f⟩:=at_ hx17 0 (.int .i64 fk) rfl;obtain⟨x1,x1f⟩:=at_ hx17 1 (.int .i64 fn) rfl;have HX9:Hid (((W17.setCell ⟨w.heap.size,0,none⟩ (.int .i64 ck)).setCell ⟨w.heap.size,1,none⟩ (.int .i64 cn)).heap[w.heap.size]? =some (.cells (aL a2).toArray 40 (0,0))):=Hd (by rw[←hA.o];exact kY (kY hx17 0 _ rfl) 1 _ rfl);have HY9:Hid (((W17.setCell ⟨w.heap.size,0,none⟩ (.int .i64 ck)).setCell ⟨w.heap.size,1,none⟩ (.int .i64 cn)).heap[w.heap.size+1]? =some (.cells (aL zY).toArray 40 (0,0))):=Hd (uV (uV HY17.o qJ) qJ);have HB9:=Hd (kH (kH HB17.o (jS w.heap.size) (o:=0) (.int .i64 ck)) (jS w.heap.size) (o:=1) (.int .i64 cn));clear hz17 hx17
           go_wp2
           go_roundw
           case rel=>exact⟨j,a2,by rw[hJ.o],HJ.o.2,HOK2.o,HJ4.o,HX9.o,HY9.o,HB9.o⟩
           case measure=>have h1:=HJ.o;have h2:=hJ.o;simp[intOf];omega
        · have hx1I:¬(1:Int)<(x.g.length:Int):=by omega
          have HNE:Hid (w.heap.size≠wr.heap.size∧w.heap.size+1≠wr.heap.size):=Hd qKc
          go_upto_region 12 with(go_at_call 180;(with_reducible refine HF.o.mono ?_);rintro e w2 ⟨rfl,rfl⟩)
          obtain⟨W12,hW12⟩:∃W12,wr.alloc (Obj.cells #[.int .i64 0,.int .i64 0] 38)=W12:=⟨_,rfl⟩;have hb12:Below wr.heap.size wr W12:=by rw[←hW12];exact jW (jU _ _) _
          have HZ12:Hid (W12.heap[wr.heap.size]? =some (.cells #[.int .i64 0,.int .i64 0] 38 (0,0))):=Hd qVc;have HX12:=Hd ((hb12.block _ (kQ HX.o)).trans HX.o);have HY12:=Hd ((hb12.block _ (kQ HY.o)).trans HY.o);have HB12:=Hd (jN HB.o hb12);have hcg12:=jA hb12 hcg2;rw[hW12];clear hW12 hcg2 hb12;have HC:=Hd (HBI.o W12 HB12.o);obtain⟨bh,hbh⟩:∃bh,nT G i=bh:=⟨_,rfl⟩;obtain⟨oc,bn⟩:=bh;have hJ:Hid ((i:Int)+bn+1=(j:Int)):=Hd (by rw[←HJF.o,if_neg hx1,hbh]);have hA:Hid (tY a' 38 oc=a2):=Hd (by rw[←HAF.o,if_neg hx1,hbh]);rw[hbh]at HC;have hwb:jP.wrap ((i:Int)+bn)=(i:Int)+bn:=jH _ qKo;have hwb1:jP.wrap ((i:Int)+bn+1)=(i:Int)+bn+1:=jH _ qKo;clear hbh hx1 HJF HAF HIN HBI
          go_upto_region 17 with(go_at_call 183;(with_reducible refine HC.o.mono ?_);rintro e w13 ⟨rfl,hb13⟩;have hz13:=(hb13.block _ (kQ HZ12.o)).trans HZ12.o;obtain⟨d0,d0f⟩:=at_ hz13 0 (.int .i64 0) rfl;obtain⟨d1,d1f⟩:=at_ hz13 1 (.int .i64 0) rfl)
          have hz17:=kY (kY hz13 0 (.int .i64 (ocK oc)) rfl) 1 (.int .i64 (ocN oc)) rfl;have hx17:=uV (i:=1) (v:=.int .i64 (ocN oc)) (uV (i:=0) (v:=.int .i64 (ocK oc)) ((hb13.block _ (kQ HX12.o)).trans HX12.o) HNE.o.1) HNE.o.1;have hy17:=uV (i:=1) (v:=.int .i64 (ocN oc)) (uV (i:=0) (v:=.int .i64 (ocK oc)) ((hb13.block _ (kQ HY12.o)).trans HY12.o) HNE.o.2) HNE.o.2;have hb17:=kH (kH (jN HB12.o hb13) HB.o.size (o:=0) (.int .i64 (ocK oc))) HB.o.size (o:=1) (.int .i64 (ocN oc));clear hz13 hb13 d0 d0f d1 d1f;generalize (uQ w13 ⟨wr.heap.size,0,none⟩ (.int .i64 (ocK oc))).setCell ⟨wr.heap.size,1,none⟩ (.int .i64 (ocN oc))=W17 at hz17 hx17 hy17 hb17 ⊢;have HZ17:=Hd hz17;have HX17:=Hd hx17;have HY17:=Hd hy17;have HB17:=Hd hb17;clear hz17 hx17 hy17 hb17;obtain⟨fk,fn,bk,bn,fl⟩:=a';cases oc with
          |none=>
           have HX9:Hid (W17.heap[w.heap.size]? =some (.cells (aL a2).toArray 40 (0,0))):=Hd qVd;have HY9:=HY17;have HB9:=HB17
           go_wp2
           go_roundw
           case rel=>exact⟨j,a2,by rw[hJ.o],HJ.o.2,HOK2.o,HJ4.o,HX9.o,HY9.o,HB9.o⟩
           case measure=>have h1:=HJ.o;have h2:=hJ.o;simp[intOf];omega
          |some c=>
           obtain⟨ck,cn⟩:=c;have hz17:=HZ17.o;have hx17:=HX17.o;obtain⟨d0,d0f⟩:=at_ hz17 0 (.int .i64 ck) rfl;obtain⟨d1,d1f⟩:=at_ hz17 1 (.int .i64 cn) rfl;obtain⟨x0,x0f⟩:=at_ hx17 0 (.int .i64 fk) rfl;obtain⟨x1,x1f⟩:=at_ hx17 1 (.int .i64 fn) rfl;have HX9:Hid (((W17.setCell ⟨w.heap.size,0,none⟩ (.int .i64 ck)).setCell ⟨w.heap.size,1,none⟩ (.int .i64 cn)).heap[w.heap.size]? =some (.cells (aL a2).toArray 40 (0,0))):=Hd (by rw[←hA.o];exact kY (kY hx17 0 _ rfl) 1 _ rfl);have HY9:Hid (((W17.setCell ⟨w.heap.size,0,none⟩ (.int .i64 ck)).setCell ⟨w.heap.size,1,none⟩ (.int .i64 cn)).heap[w.heap.size+1]? =some (.cells (aL zY).toArray 40 (0,0))):=Hd (uV (uV HY17.o qJ) qJ);have HB9:=Hd (kH (kH HB17.o (jS w.heap.size) (o:=0) (.int .i64 ck)) (jS w.heap.size) (o:=1) (.int .i64 cn));clear hz17 hx17
           go_wp2
           go_roundw
           case rel=>exact⟨j,a2,by rw[hJ.o],HJ.o.2,HOK2.o,HJ4.o,HX9.o,HY9.o,HB9.o⟩
           case measure=>have h1:=HJ.o;have h2:=hJ.o;simp[intOf];omega
      · by_cases h48:v=48
        · subst h48;have HJF:Hid ((if 1<x.g.length then(i:Int)+1 else(i:Int)+(nT G i).2+1)=(j:Int)):=Hd (by rw[←HJ1.o,if_pos (c:=(48:Int)=38∨(48:Int)=48) (.inr rfl)]);have HAF:Hid (tY a' 48 (if 1<x.g.length then wN x.g else(nT G i).1)=a2):=Hd (by rw[←HA2.o,if_pos (c:=(48:Int)=38∨(48:Int)=48) (.inr rfl)]);clear HJ1 HA2 HLN HGE HVI h4 e4
          by_cases hx1:1<x.g.length
          · have hx1I:(1:Int)<(x.g.length:Int):=by omega
            have HNE:Hid (w.heap.size≠wr.heap.size∧w.heap.size+1≠wr.heap.size):=Hd qKc
            go_upto_region 12 with(go_at_call 180;(with_reducible refine HF.o.mono ?_);rintro e w2 ⟨rfl,rfl⟩)
            obtain⟨W12,hW12⟩:∃W12,wr.alloc (Obj.cells #[.int .i64 0,.int .i64 0] 38)=W12:=⟨_,rfl⟩;have hb12:Below wr.heap.size wr W12:=by rw[←hW12];exact jW (jU _ _) _
            have HZ12:Hid (W12.heap[wr.heap.size]? =some (.cells #[.int .i64 0,.int .i64 0] 38 (0,0))):=Hd qVc;have HX12:=Hd ((hb12.block _ (kQ HX.o)).trans HX.o);have HY12:=Hd ((hb12.block _ (kQ HY.o)).trans HY.o);have HB12:=Hd (jN HB.o hb12);have hcg12:=jA hb12 hcg2;rw[hW12];clear hW12 hcg2 hb12;obtain⟨oc,hoc⟩:∃oc,wN x.g=oc:=⟨_,rfl⟩;have hJ:Hid ((i:Int)+1=(j:Int)):=Hd (by rw[←HJF.o,if_pos hx1]);have hA:Hid (tY a' 48 oc=a2):=Hd (by rw[←HAF.o,if_pos hx1,hoc]);have HC:=Hd (HIN.o hx1 W12 HB12.o);rw[hoc]at HC;clear hoc hx1 HJF HAF HIN HBI
            go_upto_region 17 with(go_at_call 182;(with_reducible refine HC.o.mono ?_);rintro e w13 ⟨rfl,hb13⟩;have hz13:=(hb13.block _ (kQ HZ12.o)).trans HZ12.o;obtain⟨d0,d0f⟩:=at_ hz13 0 (.int .i64 0) rfl;obtain⟨d1,d1f⟩:=at_ hz13 1 (.int .i64 0) rfl)
            have hz17:=kY (kY hz13 0 (.int .i64 (ocK oc)) rfl) 1 (.int .i64 (ocN oc)) rfl;have hx17:=uV (i:=1) (v:=.int .i64 (ocN oc)) (uV (i:=0) (v:=.int .i64 (ocK oc)) ((hb13.block _ (kQ HX12.o)).trans HX12.o) HNE.o.1) HNE.o.1;have hy17:=uV (i:=1) (v:=.int .i64 (ocN oc)) (uV (i:=0) (v:=.int .i64 (ocK oc)) ((hb13.block _ (kQ HY12.o)).trans HY12.o) HNE.o.2) HNE.o.2;have hb17:=kH (kH (jN HB12.o hb13) HB.o.size (o:=0) (.int .i64 (ocK oc))) HB.o.size (o:=1) (.int .i64 (ocN oc));clear hz13 hb13 d0 d0f d1 d1f;generalize (uQ w13 ⟨wr.heap.size,0,none⟩ (.int .i64 (ocK oc))).setCell ⟨wr.heap.size,1,none⟩ (.int .i64 (ocN oc))=W17 at hz17 hx17 hy17 hb17 ⊢;have HZ17:=Hd hz17;have HX17:=Hd hx17;have HY17:=Hd hy17;have HB17:=Hd hb17;clear hz17 hx17 hy17 hb17;obtain⟨fk,fn,bk,bn,fl⟩:=a';cases oc with
            |none=>
             have HX9:Hid (W17.heap[w.heap.size]? =some (.cells (aL a2).toArray 40 (0,0))):=Hd qVd;have HY9:=HY17;have HB9:=HB17
             go_wp2
             go_roundw
             case rel=>exact⟨j,a2,by rw[hJ.o],HJ.o.2,HOK2.o,HJ4.o,HX9.o,HY9.o,HB9.o⟩
             case measure=>have h1:=HJ.o;have h2:=hJ.o;simp[intOf];omega
            |some c=>
             obtain⟨ck,cn⟩:=c;have hz17:=HZ17.o;have hx17:=HX17.o;obtain⟨d0,d0f⟩:=at_ hz17 0 (.int .i64 ck) rfl;obtain⟨d1,d1f⟩:=at_ hz17 1 (.int .i64 cn) rfl;obtain⟨x0,x0f⟩:=at_ hx17 2 (.int .i64 bk) rfl;obtain⟨x1,x1f⟩:=at_ hx17 3 (.int .i64 bn) rfl;have HX9:Hid (((W17.setCell ⟨w.heap.size,2,none⟩ (.int .i64 ck)).setCell ⟨w.heap.size,3,none⟩ (.int .i64 cn)).heap[w.heap.size]? =some (.cells (aL a2).toArray 40 (0,0))):=Hd (by rw[←hA.o];exact kY (kY hx17 2 _ rfl) 3 _ rfl);have HY9:Hid (((W17.setCell ⟨w.heap.size,2,none⟩ (.int .i64 ck)).setCell ⟨w.heap.size,3,none⟩ (.int .i64 cn)).heap[w.heap.size+1]? =some (.cells (aL zY).toArray 40 (0,0))):=Hd (uV (uV HY17.o qJ) qJ);have HB9:=Hd (kH (kH HB17.o (jS w.heap.size) (o:=2) (.int .i64 ck)) (jS w.heap.size) (o:=3) (.int .i64 cn));clear hz17 hx17
             go_wp2
             go_roundw
             case rel=>exact⟨j,a2,by rw[hJ.o],HJ.o.2,HOK2.o,HJ4.o,HX9.o,HY9.o,HB9.o⟩
             case measure=>have h1:=HJ.o;have h2:=hJ.o;simp[intOf];omega
          · have hx1I:¬(1:Int)<(x.g.length:Int):=by omega
            have HNE:Hid (w.heap.size≠wr.heap.size∧w.heap.size+1≠wr.heap.size):=Hd qKc
            go_upto_region 12 with(go_at_call 180;(with_reducible refine HF.o.mono ?_);rintro e w2 ⟨rfl,rfl⟩)
            obtain⟨W12,hW12⟩:∃W12,wr.alloc (Obj.cells #[.int .i64 0,.int .i64 0] 38)=W12:=⟨_,rfl⟩;have hb12:Below wr.heap.size wr W12:=by rw[←hW12];exact jW (jU _ _) _
            have HZ12:Hid (W12.heap[wr.heap.size]? =some (.cells #[.int .i64 0,.int .i64 0] 38 (0,0))):=Hd qVc;have HX12:=Hd ((hb12.block _ (kQ HX.o)).trans HX.o);have HY12:=Hd ((hb12.block _ (kQ HY.o)).trans HY.o);have HB12:=Hd (jN HB.o hb12);have hcg12:=jA hb12 hcg2;rw[hW12];clear hW12 hcg2 hb12;have HC:=Hd (HBI.o W12 HB12.o);obtain⟨bh,hbh⟩:∃bh,nT G i=bh:=⟨_,rfl⟩;obtain⟨oc,bn⟩:=bh;have hJ:Hid ((i:Int)+bn+1=(j:Int)):=Hd (by rw[←HJF.o,if_neg hx1,hbh]);have hA:Hid (tY a' 48 oc=a2):=Hd (by rw[←HAF.o,if_neg hx1,hbh]);rw[hbh]at HC;have hwb:jP.wrap ((i:Int)+bn)=(i:Int)+bn:=jH _ qKo;have hwb1:jP.wrap ((i:Int)+bn+1)=(i:Int)+bn+1:=jH _ qKo;clear hbh hx1 HJF HAF HIN HBI
            go_upto_region 17 with(go_at_call 183;(with_reducible refine HC.o.mono ?_);rintro e w13 ⟨rfl,hb13⟩;have hz13:=(hb13.block _ (kQ HZ12.o)).trans HZ12.o;obtain⟨d0,d0f⟩:=at_ hz13 0 (.int .i64 0) rfl;obtain⟨d1,d1f⟩:=at_ hz13 1 (.int .i64 0) rfl)
            have hz17:=kY (kY hz13 0 (.int .i64 (ocK oc)) rfl) 1 (.int .i64 (ocN oc)) rfl;have hx17:=uV (i:=1) (v:=.int .i64 (ocN oc)) (uV (i:=0) (v:=.int .i64 (ocK oc)) ((hb13.block _ (kQ HX12.o)).trans HX12.o) HNE.o.1) HNE.o.1;have hy17:=uV (i:=1) (v:=.int .i64 (ocN oc)) (uV (i:=0) (v:=.int .i64 (ocK oc)) ((hb13.block _ (kQ HY12.o)).trans HY12.o) HNE.o.2) HNE.o.2;have hb17:=kH (kH (jN HB12.o hb13) HB.o.size (o:=0) (.int .i64 (ocK oc))) HB.o.size (o:=1) (.int .i64 (ocN oc));clear hz13 hb13 d0 d0f d1 d1f;generalize (uQ w13 ⟨wr.heap.size,0,none⟩ (.int .i64 (ocK oc))).setCell ⟨wr.heap.size,1,none⟩ (.int .i64 (ocN oc))=W17 at hz17 hx17 hy17 hb17 ⊢;have HZ17:=Hd hz17;have HX17:=Hd hx17;have HY17:=Hd hy17;have HB17:=Hd hb17;clear hz17 hx17 hy17 hb17;obtain⟨fk,fn,bk,bn,fl⟩:=a';cases oc with
            |none=>
             have HX9:Hid (W17.heap[w.heap.size]? =some (.cells (aL a2).toArray 40 (0,0))):=Hd qVd;have HY9:=HY17;have HB9:=HB17
             go_wp2
             go_roundw
             case rel=>exact⟨j,a2,by rw[hJ.o],HJ.o.2,HOK2.o,HJ4.o,HX9.o,HY9.o,HB9.o⟩
             case measure=>have h1:=HJ.o;have h2:=hJ.o;simp[intOf];omega
            |some c=>
             obtain⟨ck,cn⟩:=c;have hz17:=HZ17.o;have hx17:=HX17.o;obtain⟨d0,d0f⟩:=at_ hz17 0 (.int .i64 ck) rfl;obtain⟨d1,d1f⟩:=at_ hz17 1 (.int .i64 cn) rfl;obtain⟨x0,x0f⟩:=at_ hx17 2 (.int .i64 bk) rfl;obtain⟨x1,x1f⟩:=at_ hx17 3 (.int .i64 bn) rfl;have HX9:Hid (((W17.setCell ⟨w.heap.size,2,none⟩ (.int .i64 ck)).setCell ⟨w.heap.size,3,none⟩ (.int .i64 cn)).heap[w.heap.size]? =some (.cells (aL a2).toArray 40 (0,0))):=Hd (by rw[←hA.o];exact kY (kY hx17 2 _ rfl) 3 _ rfl);have HY9:Hid (((W17.setCell ⟨w.heap.size,2,none⟩ (.int .i64 ck)).setCell ⟨w.heap.size,3,none⟩ (.int .i64 cn)).heap[w.heap.size+1]? =some (.cells (aL zY).toArray 40 (0,0))):=Hd (uV (uV HY17.o qJ) qJ);have HB9:=Hd (kH (kH HB17.o (jS w.heap.size) (o:=2) (.int .i64 ck)) (jS w.heap.size) (o:=3) (.int .i64 cn));clear hz17 hx17
             go_wp2
             go_roundw
             case rel=>exact⟨j,a2,by rw[hJ.o],HJ.o.2,HOK2.o,HJ4.o,HX9.o,HY9.o,HB9.o⟩
             case measure=>have h1:=HJ.o;have h2:=hJ.o;simp[intOf];omega
        · have e38:(v==38)=false:=zb h38;have e48:(v==48)=false:=zb h48;have hj:Hid ((i:Int)+1=(j:Int)):=Hd (by rw[←HJ1.o,if_neg (fun h=>h.elim h38 h48)]);have ha:Hid (nP a' v x.g=a2):=Hd (by rw[←HA2.o,if_neg (fun h=>h.elim h38 h48)]);have HSI:Hid (Calls jG 184 #[.agg (aL a').toArray,.int .i64 v] wr (fO a2 wr)):=Hd (by rw[←ha.o];exact qJk HOK.o v x.g wr h4 HVI.o.1 HVI.o.2);clear HJ1 HA2 HBI HIN HLN HGE HVI ha h4 h38 h48;obtain⟨fk,fn,bk,bn,fl⟩:=a';obtain⟨gk,gn,hk,hn,gl⟩:=a2
          go_upto_region 6 with(go_at_call 180;(with_reducible refine HF.o.mono ?_);rintro e w2 ⟨rfl,rfl⟩)
          refine wp_region_lit ?_;refine uF qK 40 (.tmp 2) rfl (w.heap.size) (0) rfl (aL ⟨fk,fn,bk,bn,fl⟩) _ (kA HX.o) vN rfl pD ?_;refine zP ?_;refine zG (.int .i64 v) ?_;refine gC rfl 184 #[.agg (aL ⟨fk,fn,bk,bn,fl⟩).toArray,.int .i64 v] qY HSI.o (.agg (aL ⟨gk,gn,hk,hn,gl⟩).toArray) (fun e w' h=>h.1) ?_;rintro w5 ⟨-,hb5⟩;refine zP ?_;have hx5:=(hb5.block _ (kQ HX.o)).trans HX.o;have hy5:=(hb5.block _ (kQ HY.o)).trans HY.o;have HB9:=Hd (gX (jN HB.o hb5) (jS w.heap.size) (aL ⟨gk,gn,hk,hn,gl⟩) 0);have HX9:=Hd (uB (aL ⟨gk,gn,hk,hn,gl⟩) 0 _ _ hx5 qZb);have HY9:=Hd ((oN (show w.heap.size+1≠w.heap.size by omega) (aL ⟨gk,gn,hk,hn,gl⟩) 0 w5).trans hy5);refine wpList_store_mid rfl 40 (.tmp 2) (.tmp 22) rfl (w.heap.size) (0) ((aL ⟨gk,gn,hk,hn,gl⟩).toArray) rfl rfl ((show World.there _ w.heap.size 0 5 from gH hx5)) pD (all_oneCell_toArray (JS _)) ?_;simp only[Act.put];clear hx5 hy5 hb5
          go_wp2
          go_roundw
          case rel=>exact⟨j,⟨gk,gn,hk,hn,gl⟩,by rw[hj.o],HJ.o.2,HOK2.o,HJ4.o,HX9.o,HY9.o,HB9.o⟩
          case measure=>have h1:=HJ.o;have h2:=hj.o;simp[intOf];omega
end
section
variable {w:World}{A:Option Addr}{H:List Gh}
set_option maxHeartbeats 6400000 in
theorem Xr(hG:eR w A H)(ca:Nat)(hz:H.length≤1000000)(hzg:∀h∈H,h.g.length≤1000000):Calls jG 115 #[.slice A H.length ca] w (tE (bG (vK H)) w):=by
 obtain⟨j0,hj,gz0,gz1,gz2⟩:=info_parts KH;obtain⟨k0,kj,kz0,kz1,kz2⟩:=info_parts oM;have hgl:(vK H).length=H.length:=by unfold vK;simp
 have HC:Hid (∀i,i<H.length→∃(x:Gh) (b off:Nat),A=some ⟨b,off,none⟩∧w.cell? ⟨b,off+i,none⟩=some (.slice x.A x.g.length x.cap)∧(vK H).getD i []=x.g∧pA zQ 1 w x.A x.g∧x.g.length≤1000000):=Hd (fun i hi=>by
  obtain⟨x,b',off',h1,h2,h3,⟨h4,h5⟩,h6⟩:=hG.get hi;exact⟨x,b',off',h2,h3,h6,h4,hzg x (uW h1)⟩)
 obtain⟨X,hX⟩:∃X:Nat→List (List Int),X=fun k=>((vK H).take k).map cW:=⟨_,rfl⟩;have HXS:Hid (∀k,k<H.length→X (k+1)=X k++[cW ((vK H).getD k [])]):=Hd (fun k hk=>by
  have hk':k<(vK H).length:=by omega
  rw[hX];simp only[];rw[vJ hk',gK];congr 2;rw[kP,jD hk'];rfl)
 have HX0:Hid (X 0=[]):=Hd (by rw[hX];rfl);have HXE:Hid ((0<H.length→X (min H.length 32)=bG (vK H))∧(H.length=0→bG (vK H)=[[-1]])):=Hd (by
  have e:(vK H).take (min H.length 32)=(vK H).take 32:=by rw[←hgl,Nat.min_comm,←List.take_take,List.take_length]
  refine⟨fun h=>?_,fun h=>?_⟩
  · rw[hX];unfold bG;rw[if_neg qJ];simp only[];rw[e]
  · unfold bG;rw[if_pos qJ])
 generalize bG (vK H)=R at HXE ⊢;obtain⟨L,hL⟩:∃L,H.length=L:=⟨_,rfl⟩;rw[hL]at HC HXS HXE hz ⊢;generalize vK H=G at HC HXS;obtain⟨M,hM⟩:∃M,min L 32=M:=⟨_,rfl⟩;rw[hM]at HXE;have HM:=Hd (show M≤32∧M≤L∧(M<32→L=M)∧L≤1000000 by omega);clear hG hX hL hM hz hgl hzg
 go_enter Tryz.func115,Tryz.ntmps115
 go_wp2_with fail
 go_loopw [3,4] (fun s3 s4 wr=>∃(k:Nat) (H':List Gh),s4=.int .i64 k∧k≤M∧H'.length=k∧vK H'=X k∧wr.ownsRow w.heap.size 92 1 s3 k (uS nC H')∧(∀h∈H',GhB wr s3 h)∧Below w.heap.size w wr) (fun _ s4 _=>M-(intOf s4).toNat)
 case atStart=>exact⟨0,[],rfl,kT _,rfl,by rw[HX0.o];rfl,uE _ _ _ _,(fun h hh=>by cases hh),jU _ _⟩
 case round=>
  obtain⟨k,H',rfl,hk,hHl,hHX,hO,hHB,hB⟩:=hrel;obtain⟨bx,rfl⟩:∃bx:Value×Unit,u3=bx.1:=⟨(u3,()),rfl⟩;obtain⟨W1,rfl⟩:∃W1,W1=wr:=⟨_,rfl⟩;have HO:=Hd hO;have HB:=Hd hB;have HHB:=Hd hHB;have HHX:=Hd (kM hHl hHX);have hwk:jP.wrap ((k:Int)+1)=(k:Int)+1:=jH _ qK9;clear hO hB hHB hHl hHX
  by_cases hlt:k<M
  rotate_left
  · obtain rfl:k=M:=by omega
    by_cases hL0:L=0
    · have HR:=Hd (HXE.o.2 hL0);have hltI:¬(k:Int)<(L:Int):=by omega
      have hk0:k=0:=by have :=HM.o;omega
      subst hk0;clear hlt hL0;have hH0:H'=[]:=List.length_eq_zero_iff.1 HHX.o.1;obtain⟨A8,c8,hv8⟩:=gU HO.o;obtain⟨bv,bu⟩:=bx;simp only at hv8;subst hv8;rw[hH0]at HO
      go_upto_region 19 with fail
      refine wp_region_lit ?_;refine zG (.slice A8 0 c8) ?_;have HBX1:=Hd (jW HB.o (.cells #[.int .i64 (-1)] 3));have HO1:=Hd (uL HO.o (Mod.of_below (X:=[]) (jW (jU W1.heap.size W1) (.cells #[.int .i64 (-1)] 3))) (fun _ _ h=>by cases h));refine uM (.slice (some ⟨W1.heap.size,0,none⟩) 1 1) (W1.alloc (.cells #[.int .i64 (-1)] 3)) qK qY ?_;refine zP ?_;have hc0:=kZ (W:=W1) (b:=W1.heap.size) (o:=.cells #[.int .i64 (-1)] 3) rfl;have hsz0:(W1.alloc (.cells #[.int .i64 (-1)] 3)).heap.size=W1.heap.size+1:=by simp
      have hg0:pA zQ 1 (W1.alloc (.cells #[.int .i64 (-1)] 3)) (some ⟨W1.heap.size,0,none⟩) [-1]:=fun _=>⟨W1.heap.size,0,rfl,fun i y hi j v hv=>by
       have hi0:i=0:=by have :=(jE.1 hi).1;simpa using this
       subst hi0;obtain rfl:=Option.some.inj hi;have hj0:j=0:=by have :=(jE.1 hv).1;simpa[zQ]using this
       subst hj0;obtain rfl:=Option.some.inj hv;exact(at_ hc0 0 _ rfl).1⟩
      have HNE:Hid (∀g,(Value.slice A8 0 c8).ownBlock=some g→g<W1.heap.size):=Hd (fun g hg=>(kK.lt (show kK _ _ _ _ _ _ _ from HO.o) g hg).2);have HG0:=Hd hg0;generalize W1.alloc (.cells #[.int .i64 (-1)] 3)=W2 at HBX1 HO1 HG0 hsz0 ⊢;clear hc0 hg0;have HS2:=Hd hsz0;have HG1:=Hd (HG0.o.below (jW (jU W2.heap.size W2) (.cells #[.slice (some ⟨W1.heap.size,0,none⟩) 1 1] 92)));have HBX2:=Hd (jW HBX1.o (.cells #[.slice (some ⟨W1.heap.size,0,none⟩) 1 1] 92));have HO2:=Hd (uL HO1.o (Mod.of_below (X:=[]) (jW (jU W2.heap.size W2) (.cells #[.slice (some ⟨W1.heap.size,0,none⟩) 1 1] 92))) (fun _ _ h=>by cases h));clear hsz0;refine uM (.slice (some ⟨W2.heap.size,0,none⟩) 1 1) (W2.alloc (.cells #[.slice (some ⟨W1.heap.size,0,none⟩) 1 1] 92)) qK qY ?_;refine zP ?_;refine kO (o:=⟨some 62,_,_,_,_,_⟩) rfl (.tmp 59) (.tmp 61) 32 rfl w.heap.size 92 j0 _ 1 24 Tryz.underlying32 hj gz0 gz1 gz2 rfl qZ (.slice A8 0 c8) 0 (uS nC []) rfl HO2.o ⟨W2.heap.size,0,none⟩ 1 1 [.slice (some ⟨W1.heap.size,0,none⟩) 1 1] rfl rfl (fun j u hj=>by rw[vZ,kB];exact(at_ (kZ rfl) j u qF).1) (wP ⟨some ⟨W1.heap.size,0,none⟩,[-1],1⟩) qJv qJ (by have :=HBX2.o.size;omega) ?_;intro v' w7 ho hg hv'
      have HB7:=Hd (HBX2.o.grown hg HBX2.o.size (fun b hb=>(kK.lt (show kK _ _ _ _ _ _ _ from HO2.o) b hb).1));have hG7:pA zQ 1 w7 (some ⟨W1.heap.size,0,none⟩) [-1]:=VG HG1.o (Mod.of_grown (X:=(Value.slice A8 0 c8).ownBlock.toList) hg (fun b hb=>by simp[hb])) (fun hm=>by have :=HNE.o _ (by simpa using hm);omega);obtain⟨b9,c9,hv9⟩:=gE ho qJ;subst hv9;have hgr:=cU (X:=[(⟨some ⟨W1.heap.size,0,none⟩,[-1],1⟩:Gh)]) wC ho;have HGS:Hid (eR w7 (some ⟨b9,0,none⟩) [⟨some ⟨W1.heap.size,0,none⟩,[-1],1⟩]):=Hd ⟨hgr,fun h hh=>by rw[jR.1 hh];exact⟨hG7,jS _⟩⟩;refine zP ?_;clear ho hg hv' hG7 hgr
      go_wp2
      go_ret
      exact⟨_,_,c9,rfl,HGS.o,HR.o.symm,HB7.o⟩
    · have HR:=Hd (HXE.o.1 qJ);have hk0:0<k:=by have :=HM.o;omega
      have h0q:((k:Int)==0)=false:=zb qJ;obtain⟨A8,c8,hv8⟩:=gU HO.o;obtain⟨bv,bu⟩:=bx;simp only at hv8;subst hv8;have hgr:=cU (X:=H') wC (by rw[HHX.o.1];exact HO.o);have HGS:Hid (eR W1 A8 H'):=Hd ⟨hgr,fun h hh=>by obtain⟨b,off,h1,h2,h3,-⟩:=HHB.o h hh;exact⟨h2,h3⟩⟩;have hpost:tE R w (.returned (.slice A8 k c8)) W1:=⟨A8,H',c8,by rw[HHX.o.1],HGS.o,by rw[HHX.o.2];exact HR.o,HB.o⟩;have HP:=Hd hpost
      by_cases h32:k<32
      · have hkL:¬(k:Int)<(L:Int):=by have :=HM.o;omega
        clear hgr hpost hL0 hlt h32
        go_wp2
        go_ret
        exact HP.o
      · have hkL:(k:Int)<(L:Int)∨¬(k:Int)<(L:Int):=Decidable.em _;have hk32:¬(k:Int)<32:=by omega
        clear hgr hpost hL0 hlt h32;rcases hkL with hkL|hkL
        all_goals
         go_wp2
         go_ret
         exact HP.o
  · have hkL:(k:Int)<(L:Int):=by have :=HM.o;omega
    have hk32:(k:Int)<32:=by have :=HM.o;omega
    obtain⟨x,b,off,rfl,hc,hx,hgr,hxl⟩:=HC.o k qK1;have HCL:=Hd (jA HB.o hc);have HGR:=Hd (hgr.below HB.o);have HXK:=Hd (HXS.o k qK1);obtain⟨C,hC⟩:∃C,cW (G.getD k [])=C:=⟨_,rfl⟩;rw[hC]at HXK;rw[hx]at hC;obtain⟨Y,hY⟩:∃Y:Nat→List Int,Y=fun j=>(x.g.take j).map dW:=⟨_,rfl⟩;have HYS:Hid (∀j,j<x.g.length→Y (j+1)=Y j++[dW (x.g.getD j 0)]):=Hd (fun j hj=>by rw[hY];simp only[];rw[vJ hj,gK];congr 2;rw[kP,jD hj];rfl);have HY0:Hid (Y 0=[]):=Hd (by rw[hY];rfl);have HYE:Hid ((0<x.g.length→Y (min x.g.length 8)=C∧C.length=min x.g.length 8)∧(x.g.length=0→C=[-1])):=Hd (by
     have e:x.g.take (min x.g.length 8)=x.g.take 8:=by rw[Nat.min_comm,←List.take_take,List.take_length]
     refine⟨fun h=>?_,fun h=>?_⟩
     · rw[hY,←hC];unfold cW;rw[if_neg qJ];simp only[];rw[e];exact⟨rfl,by simp[Nat.min_comm]⟩
     · rw[←hC];unfold cW;rw[if_pos h])
    have hNUM:Hid (∀j,j<x.g.length→∃b2 off2:Nat,x.A=some ⟨b2,off2,none⟩∧W1.cell? ⟨b2,off2+j,none⟩=some (.int .i64 (x.g.getD j 0))):=Hd (fun j hj=>dA HGR.o hj);obtain⟨K,hK⟩:∃K,x.g.length=K:=⟨_,rfl⟩;rw[hK]at HYS HYE hNUM hxl HCL;obtain⟨xA,hxA⟩:∃a,x.A=a:=⟨_,rfl⟩;rw[hxA]at hNUM HCL;obtain⟨M2,hM2⟩:∃M2,min K 8=M2:=⟨_,rfl⟩;rw[hM2]at HYE;have HM2:=Hd (show M2≤8∧M2≤K∧(M2<8→K=M2) by omega);clear hc hx hgr hC hY HGR hK hxA hM2
    go_wp2_with fail
    go_loopw [5,6] (fun s5 s6 wr=>∃j:Nat,s6=.int .i64 j∧j≤M2∧wr.ownsRow W1.heap.size 3 1 s5 j (uS zQ (Y j))∧Below W1.heap.size W1 wr) (fun _ s6 _=>M2-(intOf s6).toNat)
    case atStart=>exact⟨0,rfl,kT _,by rw[HY0.o];exact uE _ _ _ _,jU _ _⟩
    case round=>
     obtain⟨j,rfl,hj2,hO5,hB5⟩:=hrel;obtain⟨bx5,rfl⟩:∃bx5:Value×Unit,u5=bx5.1:=⟨(u5,()),rfl⟩;have HO5:=Hd hO5;have HB5:=Hd hB5;have hwj:jP.wrap ((j:Int)+1)=(j:Int)+1:=jH _ qK4;have hhead:=jA hB5 HCL.o;clear hO5 hB5
     by_cases hlt2:j<M2
     · have hjK:(j:Int)<(K:Int):=by have :=HM2.o;omega
       have hj8:(j:Int)<8:=by have :=HM2.o;omega
       obtain⟨b2,off2,rfl,hcel⟩:=hNUM.o j qV3;have hcel2:=jA HB5.o hcel;have hYj:=HYS.o j qV3;obtain⟨n,hn⟩:∃n,x.g.getD j 0=n:=⟨_,rfl⟩;rw[hn]at hcel2 hYj;have HYj:=Hd hYj;have HSZ:=Hd HB5.o.size;clear hcel hYj hn
       by_cases hn0:n<0
       · have HCV:Hid (dW n= -1):=Hd (by unfold dW;omega);rw[HCV.o]at HYj
         go_upto_region 14 with fail
         refine wp_region_lit ?_;refine zG (bx5.1) ?_;refine zG (.int .i64 (-1)) ?_;have HO6:=Hd (uL HO5.o (Mod.of_below (X:=[]) (jW (jU wr.heap.size wr) (.cells #[.int .i64 (-1)] 3))) (fun _ _ h=>by cases h));have HB6:=Hd (jW HB5.o (.cells #[.int .i64 (-1)] 3));refine uM (.slice (some ⟨wr.heap.size,0,none⟩) 1 1) (wr.alloc (.cells #[.int .i64 (-1)] 3)) qK qY ?_;refine zP ?_;refine kO (o:=⟨some 45,_,_,_,_,_⟩) rfl (.tmp 42) (.tmp 44) 92 rfl W1.heap.size 3 k0 _ 1 8 Tryz.underlying92 kj kz0 kz1 kz2 rfl qZ bx5.1 j (uS zQ (Y j)) rfl HO6.o ⟨wr.heap.size,0,none⟩ 1 1 [.int .i64 (-1)] rfl rfl (fun j u hj=>by rw[vZ,kB];exact(at_ (kZ rfl) j u qF).1) (eI _) qKf qK4 qE ?_;intro v' w7 ho hg hv';have HO7:Hid (w7.ownsRow W1.heap.size 3 1 v' (j+1) (uS zQ (Y (j+1)))):=Hd (by rw[HYj.o,uC];exact ho);have HB7:=Hd (HB6.o.grown hg HB6.o.size (fun b hb=>(kK.lt (show kK _ _ _ _ _ _ _ from HO6.o) b hb).1));refine zP ?_;clear ho hg hv' hhead hcel2
         go_wp2
         go_roundw
         case rel=>exact⟨j+1,by go_num,by omega,HO7.o,HB7.o⟩
         case measure=>exact zm
       by_cases hn1:65535<n
       · have HCV:Hid (dW n=65535):=Hd (by unfold dW;omega);rw[HCV.o]at HYj
         go_upto_region 14 with fail
         refine wp_region_lit ?_;refine zG (bx5.1) ?_;refine zG (.int .i64 (65535)) ?_;have HO6:=Hd (uL HO5.o (Mod.of_below (X:=[]) (jW (jU wr.heap.size wr) (.cells #[.int .i64 (65535)] 3))) (fun _ _ h=>by cases h));have HB6:=Hd (jW HB5.o (.cells #[.int .i64 (65535)] 3));refine uM (.slice (some ⟨wr.heap.size,0,none⟩) 1 1) (wr.alloc (.cells #[.int .i64 (65535)] 3)) qK qY ?_;refine zP ?_;refine kO (o:=⟨some 45,_,_,_,_,_⟩) rfl (.tmp 42) (.tmp 44) 92 rfl W1.heap.size 3 k0 _ 1 8 Tryz.underlying92 kj kz0 kz1 kz2 rfl qZ bx5.1 j (uS zQ (Y j)) rfl HO6.o ⟨wr.heap.size,0,none⟩ 1 1 [.int .i64 (65535)] rfl rfl (fun j u hj=>by rw[vZ,kB];exact(at_ (kZ rfl) j u qF).1) (eI _) qKf qK4 qE ?_;intro v' w7 ho hg hv';have HO7:Hid (w7.ownsRow W1.heap.size 3 1 v' (j+1) (uS zQ (Y (j+1)))):=Hd (by rw[HYj.o,uC];exact ho);have HB7:=Hd (HB6.o.grown hg HB6.o.size (fun b hb=>(kK.lt (show kK _ _ _ _ _ _ _ from HO6.o) b hb).1));refine zP ?_;clear ho hg hv' hhead hcel2
         go_wp2
         go_roundw
         case rel=>exact⟨j+1,by go_num,by omega,HO7.o,HB7.o⟩
         case measure=>exact zm
       · have HCV:Hid (dW n=n):=Hd (by unfold dW;omega);rw[HCV.o]at HYj
         go_upto_region 14 with fail
         refine wp_region_lit ?_;refine zG (bx5.1) ?_;refine zG (.int .i64 (n)) ?_;have HO6:=Hd (uL HO5.o (Mod.of_below (X:=[]) (jW (jU wr.heap.size wr) (.cells #[.int .i64 (n)] 3))) (fun _ _ h=>by cases h));have HB6:=Hd (jW HB5.o (.cells #[.int .i64 (n)] 3));refine uM (.slice (some ⟨wr.heap.size,0,none⟩) 1 1) (wr.alloc (.cells #[.int .i64 (n)] 3)) qK qY ?_;refine zP ?_;refine kO (o:=⟨some 45,_,_,_,_,_⟩) rfl (.tmp 42) (.tmp 44) 92 rfl W1.heap.size 3 k0 _ 1 8 Tryz.underlying92 kj kz0 kz1 kz2 rfl qZ bx5.1 j (uS zQ (Y j)) rfl HO6.o ⟨wr.heap.size,0,none⟩ 1 1 [.int .i64 (n)] rfl rfl (fun j u hj=>by rw[vZ,kB];exact(at_ (kZ rfl) j u qF).1) (eI _) qKf qK4 qE ?_;intro v' w7 ho hg hv';have HO7:Hid (w7.ownsRow W1.heap.size 3 1 v' (j+1) (uS zQ (Y (j+1)))):=Hd (by rw[HYj.o,uC];exact ho);have HB7:=Hd (HB6.o.grown hg HB6.o.size (fun b hb=>(kK.lt (show kK _ _ _ _ _ _ _ from HO6.o) b hb).1));refine zP ?_;clear ho hg hv' hhead hcel2
         go_wp2
         go_roundw
         case rel=>exact⟨j+1,by go_num,by omega,HO7.o,HB7.o⟩
         case measure=>exact zm
     · obtain rfl:j=M2:=by omega
       by_cases hK0:j=0
       case' pos=>
        have hj0q:((j:Int)==0)=true:=by rw[hK0];rfl
        have hjK:¬(j:Int)<(K:Int):=by have :=HM2.o;omega
        have HCE:=Hd (HYE.o.2 qV3);have hY1:Y j=[]:=by rw[hK0];exact HY0.o
        rw[hY1]at HO5;obtain⟨A8,c8,hv8⟩:=gU HO5.o;obtain⟨bv5,bu5⟩:=bx5;simp only at hv8;subst hv8;have HJ0:=Hd hK0;have HSZ:=Hd HB5.o.size;clear hK0 hlt2 hY1
        go_upto_region 16 with fail
        have HO6:=Hd (uL HO5.o (Mod.of_below (X:=[]) (jW (jU wr.heap.size wr) (.cells #[.int .i64 (-1)] 3))) (fun _ _ h=>by cases h));have HB6:=Hd (jW HB5.o (.cells #[.int .i64 (-1)] 3));refine wp_region_lit ?_;refine zG (.slice A8 j c8) ?_;refine uM (.slice (some ⟨wr.heap.size,0,none⟩) 1 1) (wr.alloc (.cells #[.int .i64 (-1)] 3)) qK qY ?_;refine zP ?_;refine kO (o:=⟨some 51,_,_,_,_,_⟩) rfl (.tmp 49) (.tmp 50) 92 rfl W1.heap.size 3 k0 _ 1 8 Tryz.underlying92 kj kz0 kz1 kz2 rfl qZ (.slice A8 j c8) j (uS zQ []) rfl HO6.o ⟨wr.heap.size,0,none⟩ 1 1 [.int .i64 (-1)] rfl rfl (fun j u hj=>by rw[vZ,kB];exact(at_ (kZ rfl) j u qF).1) (eI _) qKf qK4 qE ?_;intro v' W5 ho hg hv';have HB7:=Hd (HB6.o.grown hg HB6.o.size (fun b hb=>(kK.lt (show kK _ _ _ _ _ _ _ from HO6.o) b hb).1));have hlen1:j+1=C.length:=by rw[HCE.o,HJ0.o];rfl
        rw[hlen1]at ho;have ho:kK W5 W1.heap.size 3 1 v' C.length (uS zQ C):=by rw[HCE.o]at ho ⊢;exact ho
        have hCl:0<C.length:=by rw[HCE.o];decide
        obtain⟨b5,c5,hv9⟩:=gE ho hCl;subst hv9;refine zP ?_;have HO7:=Hd ho;clear ho hg hv' hlen1 hCl HO5 HO6 HB6 HSZ
        go_upto_region 17 with fail
       case' neg=>
        have hj0q:((j:Int)==0)=false:=zb qJ;have HCE:=Hd (HYE.o.1 qV3);have ho:=HO5.o;rw[HCE.o.1]at ho;have ho:kK wr W1.heap.size 3 1 bx5.1 C.length (uS zQ C):=by rw[HCE.o.2];exact ho
        obtain⟨b5,c5,hv9⟩:=gE ho (by rw[HCE.o.2];omega);obtain⟨bv5,bu5⟩:=bx5;simp only at hv9;subst hv9;have HO7:=Hd ho;have HB7:=HB5;obtain⟨W5,rfl⟩:∃W5,W5=wr:=⟨_,rfl⟩;have hlK:¬(j:Int)<(K:Int)∨((j:Int)<(K:Int)∧¬(j:Int)<8):=by have :=HM2.o;omega
        have hCq:((C.length:Int)==0)=false:=zb (by rw[HCE.o.2];omega);clear ho hK0 hlt2 hj2;rcases hlK with hlK|⟨hlK,hl8⟩
        all_goals go_upto_region 17 with fail
       all_goals
        have hg5:=cU (X:=C) mD HO7.o;have hl5:=UH HO7.o;have hlt5:=kK.lt (show kK _ _ _ _ _ _ _ from HO7.o) b5 rfl;have hb5:=HB7.o;have hge5:=hlt5.1;replace hlt5:=hlt5.2;refine wp_region_lit ?_;refine zG (bx.1) ?_;refine zG (.slice (some ⟨b5,0,none⟩) C.length c5) ?_;have hO5:=uL HO.o (Mod.of_below (X:=[]) hb5) (fun _ _ h=>by cases h);have HO3:=Hd (uL hO5 (Mod.of_below (X:=[]) (jW (jU W5.heap.size W5) (.cells #[.slice (some ⟨b5,0,none⟩) C.length c5] 92))) (fun _ _ h=>by cases h));have HBX:=Hd (jW (jN HB.o hb5) (.cells #[.slice (some ⟨b5,0,none⟩) C.length c5] 92));have hlo:=kK.lt (show kK _ _ _ _ _ _ _ from HO.o);have hba:Below W5.heap.size W5 (W5.alloc (.cells #[.slice (some ⟨b5,0,none⟩) C.length c5] 92)):=jW (jU _ _) _;have HH8:Hid (∀h∈H'++[⟨some ⟨b5,0,none⟩,C,c5⟩],GhB (W5.alloc (.cells #[.slice (some ⟨b5,0,none⟩) C.length c5] 92)) bx.1 h):=Hd (fun h hh=>by
         rcases kL.1 hh with hh|hh
         · obtain⟨b,off,h1,h2,h3,h4,h5⟩:=HHB.o h hh;exact qXa
         · rw[jR.1 hh];exact⟨b5,0,rfl,hg5.below hba,hl5,Nat.lt_of_lt_of_le hlt5 hba.size,fun he=>by have :=(hlo b5 he).2;omega⟩)
        have HSZ:=Hd (kM HB.o.size hb5.size);clear hO5 hlo hba hg5 hl5 hge5 hlt5 hb5;refine uM (.slice (some ⟨W5.heap.size,0,none⟩) 1 1) (W5.alloc (.cells #[.slice (some ⟨b5,0,none⟩) C.length c5] 92)) qK qY ?_;refine zP ?_;refine kO (o:=⟨some 55,_,_,_,_,_⟩) rfl (.tmp 52) (.tmp 54) 32 rfl w.heap.size 92 j0 _ 1 24 Tryz.underlying32 hj gz0 gz1 gz2 rfl qZ bx.1 k (uS nC H') rfl HO3.o ⟨W5.heap.size,0,none⟩ 1 1 [.slice (some ⟨b5,0,none⟩) C.length c5] rfl rfl (fun j u hj=>by rw[vZ,kB];exact(at_ (kZ rfl) j u qF).1) (wP ⟨some ⟨b5,0,none⟩,C,c5⟩) (by have :=HM.o.1;simp only[maxLen];omega) qK9 qE ?_;intro v' w7 ho hg hv';have HO9:Hid (w7.ownsRow w.heap.size 92 1 v' (k+1) (uS nC (H'++[⟨some ⟨b5,0,none⟩,C,c5⟩]))):=Hd (by rw[uC];exact ho);have HB9:=Hd (HBX.o.grown hg HBX.o.size (fun b hb=>(kK.lt (show kK _ _ _ _ _ _ _ from HO3.o) b hb).1));have HH9:Hid (∀h∈H'++[⟨some ⟨b5,0,none⟩,C,c5⟩],GhB w7 v' h):=Hd (fun h hh=>by
         obtain⟨b,off,h1,h2,h3,h4,h5⟩:=HH8.o h hh;refine⟨b,off,h1,?_,h3,Nat.lt_of_lt_of_le h4 hg.size,fun he=>?_⟩
         · rw[h1]at h2 ⊢;exact qXb
         · rcases hv' b he with h6|h6
           · exact h5 h6
           · omega)
        refine zP ?_;clear ho hg hv'
        go_wp2
        go_roundw
        case rel=>exact⟨k+1,_,by go_num,by omega,by rw[jI,HHX.o.1];rfl,by rw[HXK.o,←HHX.o.2];unfold vK;rw[gK];rfl,HO9.o,HH9.o,HB9.o⟩
        case measure=>exact zm
end
def fX(s:Sc)(G:List (List Int)):Sc:={s with pen:={s.pen with at_:=dO s.pen.at_ (bG G)}}
section
variable {base:Nat}{w:World}{v:Sv}{s:Sc}
set_option maxHeartbeats 1600000 in
theorem Uf(h:ScO base w v s)(hf:zZ s.pen.at_.fl){A:Option Addr}{H:List Gh}(hG:eR w A H)(ca:Nat)(hca:H.length≤ca)(hz:H.length≤1000000)(hzg:∀h∈H,h.g.length≤1000000):
 Calls jG 39 #[.pointer (some ⟨v.S,0,none⟩),.slice A H.length ca] w (gQ base w v (fX s (vK H))):=by
 have HO:=Hd h;have HC:Hid (∀w',Below w.heap.size w w'→Calls jG 113 #[.slice A H.length ca] w' (tE (bG (vK H)) w')):=Hd (fun w' hb=>YV (hG.below hb) ca hca hz hzg);have HT:Hid (∀w' (A1:Option Addr) (H1:List Gh) (c1:Nat),eR w' A1 H1→vK H1=bG (vK H)→Calls jG 112 #[.agg (aL s.pen.at_).toArray,.slice A1 H1.length c1] w' (fO (dO s.pen.at_ (bG (vK H))) w')):=Hd (fun w' A1 H1 c1 h1 h2=>by
  have hl:H1.length=(vK H1).length:=by unfold vK;simp
  rw[←h2];exact J3 h1 c1 (by rw[h2];exact KA _) (by rw[hl,h2];have :=(JK (vK H)).2;omega) s.pen.at_ hf)
 unfold fX;obtain⟨C,hC⟩:∃C,bG (vK H)=C:=⟨_,rfl⟩;rw[hC]at HC HT ⊢;obtain⟨a2,ha2⟩:∃a2,dO s.pen.at_ C=a2:=⟨_,rfl⟩;rw[ha2]at HT ⊢;obtain⟨c0,-⟩:=at_ h.blk 0 (.int .i64 s.pen.at_.fk) rfl;obtain⟨c1,-⟩:=at_ h.blk 1 (.int .i64 s.pen.at_.fn) rfl;obtain⟨c2,-⟩:=at_ h.blk 2 (.int .i64 s.pen.at_.bk) rfl;obtain⟨c3,-⟩:=at_ h.blk 3 (.int .i64 s.pen.at_.bn) rfl;obtain⟨c4,-⟩:=at_ h.blk 4 (.int .i64 s.pen.at_.fl) rfl;clear h hf hG hca hz hzg hC ha2
 go_enter Tryz.func39,Tryz.ntmps39
 go_upto_region 1 with fail
 refine Go.RL.wp_region_l 12 (fun w'=>w'.cell? ⟨v.S,0,none⟩=some (.int .i64 s.pen.at_.fk)∧w'.cell? ⟨v.S,1,none⟩=some (.int .i64 s.pen.at_.fn)∧w'.cell? ⟨v.S,2,none⟩=some (.int .i64 s.pen.at_.bk)∧w'.cell? ⟨v.S,3,none⟩=some (.int .i64 s.pen.at_.bn)∧w'.cell? ⟨v.S,4,none⟩=some (.int .i64 s.pen.at_.fl)) (fun w'=>Below w.heap.size w w') qQ qQ ⟨c0,c1,c2,c3,c4⟩ ((jU _ _).drew) ?_;refine Go.RL.AtL.go 0 ?_
 iterate 7 refine zK ?_
 refine Go.RL.AtK.back ?_;refine Go.RL.AtL.one 7 (o:=⟨_,_,_,_,_,_⟩) (fun _=>True) (fun u w'=>∃(A1:Option Addr) (H1:List Gh) (k1:Nat),u=.slice A1 H1.length k1∧eR w' A1 H1∧vK H1=C∧Below w.heap.size w w') qV qQ rfl
  (Go.RL.StabL.call 113 #[.slice A H.length ca] _ _ qK ?_ (fun w' hI hS=>?_)) ?_
 · intro w'
   go_simp
 · refine(HC.o w' hS).mono ?_;rintro e w3 ⟨A1,H1,k1,rfl,hg,hg2,hb⟩;obtain⟨h0,h1,h2,h3,h4⟩:=hI;exact qXc
 rintro v1 -;refine zP ?_;refine Go.RL.AtL.one 8 (o:=⟨_,_,_,_,_,_⟩) (fun u=>u=.agg (aL a2).toArray) (fun _ w'=>Below w.heap.size w w') qV qQ rfl
  (Go.RL.StabL.call 112 #[.agg (aL s.pen.at_).toArray,v1] _ _ qK ?_ (fun w' hI hS=>?_)) ?_
 · intro w'
   go_simp
   rfl
 · obtain⟨A1,H1,k1,rfl,hg,hg2,hb1⟩:=hS;refine(HT.o w' A1 H1 k1 hg hg2).mono ?_;rintro e w3 ⟨rfl,hb⟩;obtain⟨h0,h1,h2,h3,h4⟩:=hI;exact qXd
 rintro v2 rfl;refine zP ?_;refine Go.RL.AtL.go 9 ?_
 iterate 3 refine zK ?_
 refine Go.RL.AtK.back ?_;refine Go.RL.AtL.done qQ (fun w' hI hS=>?_);have hO:=HO.o.below hS;simp only[jB,jF];refine wpList_store_mid rfl 40 (.tmp 17) (.tmp 14) rfl (v.S) (0) ((aL a2).toArray) rfl rfl (hO.there qVx) pD (all_oneCell_toArray (JS _)) ?_;simp only[Act.put];have hp:=hO.puts 0 (aL a2) qVx (s':={s with pen:={s.pen with at_:=a2}}) rfl rfl rfl;have HP:=Hd hp;have HS:=Hd hS;clear hI hS hO hp c0 c1 c2 c3 c4
 go_wp2
 go_end0
 exact⟨rfl,uR.pre HS.o ⟨v,rfl,rfl,rfl,HP.o.1,HP.o.2,fun _ hb=>.inl hb⟩⟩
end
def tA(c:Option Col×Nat)(w:World)(e:Ending)(w':World):Prop:=∃k n:Int,e=.returned (.tuple #[.agg #[.int .i64 k,.int .i64 n],.bool c.1.isSome,.int .i64 (c.2:Nat)])∧(∀d,c.1=some d→d=⟨k,n⟩)∧Below w.heap.size w w'
section
variable {w:World}{A:Option Addr}{H:List Gh}
set_option maxHeartbeats 6400000 in
theorem WV(hG:eR w A H)(ca i:Nat)(hcl:JP (vK H))(hi:i<H.length)(hz:H.length≤1000)(h1:¬1<((vK H).getD i []).length):Calls jG 187 #[.slice A H.length ca,.int .i64 i] w (tA (eH (vK H) i) w):=by
 obtain⟨W,hW⟩:∃W,w.alloc (.cells #[.int .i64 0,.int .i64 0] 38)=W:=⟨_,rfl⟩;have hb:Below w.heap.size w W:=by rw[←hW];exact jW (jU _ _) _
 have hcz:W.heap[w.heap.size]? =some (.cells #[.int .i64 0,.int .i64 0] 38 (0,0)):=by rw[←hW];exact kZ rfl
 have HB:=Hd hb;have HZ:=Hd hcz;have HW:=Hd hW;have hext:eH (vK H) i=if yG (vK H) (i+1)=5 then(if i+2<(vK H).length∧yG (vK H) (i+2)<256 then some ⟨1,yG (vK H) (i+2)⟩else none,i+3)
  else if yG (vK H) (i+1)=2 then
   (if i+4<(vK H).length∧yG (vK H) (i+2)<256∧yG (vK H) (i+3)<256∧yG (vK H) (i+4)<256 then some ⟨2,65536*yG (vK H) (i+2)+256*yG (vK H) (i+3)+yG (vK H) (i+4)⟩else none,i+5)
  else(none,i+2):=by unfold eH;simp only[];rw[if_neg h1]
 have hgl:(vK H).length=H.length:=by unfold vK;simp
 rw[hgl]at hext;obtain⟨x,gb,off,-,rfl,hc,-,hge⟩:=hG.get hi;rw[hge]at h1;have hc2:=jA hb hc;have HAT:Hid (∀k:Nat,Calls jG 186 #[.slice (some ⟨gb,off,none⟩) H.length ca,.int .i64 k] W fun e w'=>e=.returned (.tuple #[.int .i64 (yG (vK H) k),.bool (decide (k<H.length))])∧W=w'):=Hd (fun k=>UJ (hG.below hb) ca k hcl qJ);have HV:Hid (∀k:Nat,0≤yG (vK H) k∧yG (vK H) k≤65535):=Hd (fun i=>⟨mP _ i,YD hcl i⟩);obtain⟨L,hL⟩:∃L,H.length=L:=⟨_,rfl⟩;rw[hL]at HAT hi hz hext ⊢;generalize eH (vK H) i=R at hext ⊢;generalize vK H=G at HAT HV hext;obtain⟨i1,hi1⟩:∃j:Nat,j=i+1:=⟨_,rfl⟩;have hI1:(i:Int)+1=(i1:Int):=by omega
 have hw1:jP.wrap (i1:Int)=(i1:Int):=jH _ qJ;have HA1:=Hd (HAT.o i1);have HV1:=Hd (HV.o i1);rw[←hi1]at hext;obtain⟨a1,ha1⟩:∃a,yG G i1=a:=⟨_,rfl⟩;rw[ha1]at HA1 HV1 hext;obtain⟨i2,hi2⟩:∃j:Nat,j=i+2:=⟨_,rfl⟩;have hI2:(i:Int)+2=(i2:Int):=by omega
 have hw2:jP.wrap (i2:Int)=(i2:Int):=jH _ qJ;have HA2:=Hd (HAT.o i2);have HV2:=Hd (HV.o i2);rw[←hi2]at hext;obtain⟨a2,ha2⟩:∃a,yG G i2=a:=⟨_,rfl⟩;rw[ha2]at HA2 HV2 hext;obtain⟨i3,hi3⟩:∃j:Nat,j=i+3:=⟨_,rfl⟩;have hI3:(i:Int)+3=(i3:Int):=by omega
 have hw3:jP.wrap (i3:Int)=(i3:Int):=jH _ qJ;have HA3:=Hd (HAT.o i3);have HV3:=Hd (HV.o i3);rw[←hi3]at hext;obtain⟨a3,ha3⟩:∃a,yG G i3=a:=⟨_,rfl⟩;rw[ha3]at HA3 HV3 hext;obtain⟨i4,hi4⟩:∃j:Nat,j=i+4:=⟨_,rfl⟩;have hI4:(i:Int)+4=(i4:Int):=by omega
 have hw4:jP.wrap (i4:Int)=(i4:Int):=jH _ qJ;have HA4:=Hd (HAT.o i4);have HV4:=Hd (HV.o i4);rw[←hi4]at hext;obtain⟨a4,ha4⟩:∃a,yG G i4=a:=⟨_,rfl⟩;rw[ha4]at HA4 HV4 hext;have HR:=Hd hext;have HI:=Hd (kM hi1 (kM hi2 (kM hi3 (kM hi4 hi))));obtain⟨K,hK⟩:∃K,x.g.length=K:=⟨_,rfl⟩;rw[hK]at h1 hc2;have hiI:(i:Int)<(L:Int):=by omega
 have h1I:¬(1:Int)<(K:Int):=by omega
 have hw5:jP.wrap ((i:Int)+5)=(i:Int)+5:=jH _ qJ;obtain⟨z0,z0f⟩:=at_ hcz 0 (.int .i64 0) rfl;obtain⟨z1,z1f⟩:=at_ hcz 1 (.int .i64 0) rfl;clear hG hcl hb hcz hW hext hgl hc hge HAT HV ha1 ha2 ha3 ha4 hi1 hi2 hi3 hi4 hK h1 hL
 by_cases h5:a1=5
 · subst h5
   by_cases b2:i2<L
   · have d2:decide (i2<L)=true:=decide_eq_true b2;rw[d2]at HA2
     by_cases s2:a2<256
     · have t2:=s2;have S2:=Hd s2;have HRR:Hid (R=(some ⟨1,a2⟩,i3)):=Hd (by rw[HR.o,if_pos rfl,if_pos ⟨b2,s2⟩]);clear b2 t2 d2 HR HI HV1 HV2 HV3 HV4
       go_enter Tryz.func187,Tryz.ntmps187
       go_upto_region 1 with fail
       rw[HW.o]
       go_wp2_with(go_at_call 186;first|((with_reducible refine HA1.o.mono ?_);rintro e w2 ⟨rfl,rfl⟩)|((with_reducible refine HA2.o.mono ?_);rintro e w2 ⟨rfl,rfl⟩)|((with_reducible refine HA3.o.mono ?_);rintro e w2 ⟨rfl,rfl⟩)|((with_reducible refine HA4.o.mono ?_);rintro e w2 ⟨rfl,rfl⟩))
       have hz2:=kY (kY HZ.o 0 (.int .i64 1) rfl) 1 (.int .i64 a2) rfl;exact bodyPost_ret (vC rfl _ _ w.heap.size [.int .i64 1,.int .i64 a2] rfl (kA hz2) kE rfl uO) rfl ⟨1,a2,qN,(fun d hd=>by rw[HRR.o]at hd;exact(Option.some.inj hd).symm),kH (kH HB.o (jS _) _) (jS _) _⟩
     · have t2:256≤a2:=by omega
       have S2:=Hd s2;have HRR:Hid (R=(none,i3)):=Hd (by rw[HR.o,if_pos rfl,if_neg (fun h=>s2 h.2)]);clear b2 s2 d2 HR HI HV1 HV2 HV3 HV4
       go_enter Tryz.func187,Tryz.ntmps187
       go_upto_region 1 with fail
       rw[HW.o]
       go_wp2_with(go_at_call 186;first|((with_reducible refine HA1.o.mono ?_);rintro e w2 ⟨rfl,rfl⟩)|((with_reducible refine HA2.o.mono ?_);rintro e w2 ⟨rfl,rfl⟩)|((with_reducible refine HA3.o.mono ?_);rintro e w2 ⟨rfl,rfl⟩)|((with_reducible refine HA4.o.mono ?_);rintro e w2 ⟨rfl,rfl⟩))
       have hz2:=kY (kY HZ.o 0 (.int .i64 1) rfl) 1 (.int .i64 a2) rfl;exact qXe
   · have d2:decide (i2<L)=false:=decide_eq_false b2;rw[d2]at HA2;have HRR:Hid (R=(none,i3)):=Hd (by rw[HR.o,if_pos rfl,if_neg (fun h=>b2 h.1)]);clear b2 d2 HR HI HV1 HV2 HV3 HV4
     go_enter Tryz.func187,Tryz.ntmps187
     go_upto_region 1 with fail
     rw[HW.o]
     go_wp2_with(go_at_call 186;first|((with_reducible refine HA1.o.mono ?_);rintro e w2 ⟨rfl,rfl⟩)|((with_reducible refine HA2.o.mono ?_);rintro e w2 ⟨rfl,rfl⟩)|((with_reducible refine HA3.o.mono ?_);rintro e w2 ⟨rfl,rfl⟩)|((with_reducible refine HA4.o.mono ?_);rintro e w2 ⟨rfl,rfl⟩))
     have hz2:=kY (kY HZ.o 0 (.int .i64 1) rfl) 1 (.int .i64 a2) rfl;exact qXe
 have e5:(a1==5)=false:=zb h5
 by_cases h2:a1=2
 · subst h2;clear h5 e5;obtain⟨N,hN⟩:∃N,65536*a2+256*a3+a4=N:=⟨_,rfl⟩;have HB2:=Hd HV2.o;have HB3:=Hd HV3.o;have HB4:=Hd HV4.o
   by_cases b2:i2<L
   · have d2:decide (i2<L)=true:=decide_eq_true b2;rw[d2]at HA2
     by_cases b3:i3<L
     · have d3:decide (i3<L)=true:=decide_eq_true b3;rw[d3]at HA3
       by_cases b4:i4<L
       · have d4:decide (i4<L)=true:=decide_eq_true b4;rw[d4]at HA4
         by_cases s2:a2<256
         · have t2:=s2;have S2:=Hd s2
           by_cases s3:a3<256
           · have t3:=s3;have S3:=Hd s3
             by_cases s4:a4<256
             · have t4:=s4;have S4:=Hd s4;have HRR:Hid (R=(some ⟨2,N⟩,i+5)):=Hd (by rw[HR.o,if_neg qZ,if_pos rfl,if_pos ⟨b4,s2,s3,s4⟩,hN]);clear b2 b3 b4 s2 s3 s4 d2 d3 d4 HR HI HV1 HV2 HV3 HV4;have hN1:jP.wrap (65536*a2)=65536*a2:=jH _ qKi;have hN2:jP.wrap (256*a3)=256*a3:=jH _ qKj;have hN3:jP.wrap (65536*a2+256*a3)=65536*a2+256*a3:=jH _ qJz;have hN4:65536*a2+256*a3+a4=N:=hN;have hN5:jP.wrap N=N:=jH _ qI;clear hN
               go_enter Tryz.func187,Tryz.ntmps187
               go_upto_region 1 with fail
               rw[HW.o]
               go_wp2_with(go_at_call 186;first|((with_reducible refine HA1.o.mono ?_);rintro e w2 ⟨rfl,rfl⟩)|((with_reducible refine HA2.o.mono ?_);rintro e w2 ⟨rfl,rfl⟩)|((with_reducible refine HA3.o.mono ?_);rintro e w2 ⟨rfl,rfl⟩)|((with_reducible refine HA4.o.mono ?_);rintro e w2 ⟨rfl,rfl⟩))
               have hz2:=kY (kY HZ.o 0 (.int .i64 2) rfl) 1 (.int .i64 N) rfl;exact bodyPost_ret (vC rfl _ _ w.heap.size [.int .i64 2,.int .i64 N] rfl (kA hz2) kE rfl uO) rfl ⟨2,N,qG,(fun d hd=>by rw[HRR.o]at hd;exact(Option.some.inj hd).symm),kH (kH HB.o (jS _) _) (jS _) _⟩
             · have t4:256≤a4:=by omega
               have S4:=Hd s4;have HRR:Hid (R=(none,i+5)):=Hd (by rw[HR.o,if_neg qZ,if_pos rfl,if_neg (fun h=>s4 h.2.2.2)]);clear b2 b3 b4 s2 s3 s4 d2 d3 d4 HR HI HV1 HV2 HV3 HV4;have hN1:jP.wrap (65536*a2)=65536*a2:=jH _ qKi;have hN2:jP.wrap (256*a3)=256*a3:=jH _ qKj;have hN3:jP.wrap (65536*a2+256*a3)=65536*a2+256*a3:=jH _ qJz;have hN4:65536*a2+256*a3+a4=N:=hN;have hN5:jP.wrap N=N:=jH _ qI;clear hN
               go_enter Tryz.func187,Tryz.ntmps187
               go_upto_region 1 with fail
               rw[HW.o]
               go_wp2_with(go_at_call 186;first|((with_reducible refine HA1.o.mono ?_);rintro e w2 ⟨rfl,rfl⟩)|((with_reducible refine HA2.o.mono ?_);rintro e w2 ⟨rfl,rfl⟩)|((with_reducible refine HA3.o.mono ?_);rintro e w2 ⟨rfl,rfl⟩)|((with_reducible refine HA4.o.mono ?_);rintro e w2 ⟨rfl,rfl⟩))
               have hz2:=kY (kY HZ.o 0 (.int .i64 2) rfl) 1 (.int .i64 N) rfl;exact qXf
           · have t3:256≤a3:=by omega
             have S3:=Hd s3;have HRR:Hid (R=(none,i+5)):=Hd (by rw[HR.o,if_neg qZ,if_pos rfl,if_neg (fun h=>s3 h.2.2.1)]);clear b2 b3 b4 s2 s3 d2 d3 d4 HR HI HV1 HV2 HV3 HV4;have hN1:jP.wrap (65536*a2)=65536*a2:=jH _ qKi;have hN2:jP.wrap (256*a3)=256*a3:=jH _ qKj;have hN3:jP.wrap (65536*a2+256*a3)=65536*a2+256*a3:=jH _ qJz;have hN4:65536*a2+256*a3+a4=N:=hN;have hN5:jP.wrap N=N:=jH _ qI;clear hN
             go_enter Tryz.func187,Tryz.ntmps187
             go_upto_region 1 with fail
             rw[HW.o]
             go_wp2_with(go_at_call 186;first|((with_reducible refine HA1.o.mono ?_);rintro e w2 ⟨rfl,rfl⟩)|((with_reducible refine HA2.o.mono ?_);rintro e w2 ⟨rfl,rfl⟩)|((with_reducible refine HA3.o.mono ?_);rintro e w2 ⟨rfl,rfl⟩)|((with_reducible refine HA4.o.mono ?_);rintro e w2 ⟨rfl,rfl⟩))
             have hz2:=kY (kY HZ.o 0 (.int .i64 2) rfl) 1 (.int .i64 N) rfl;exact qXf
         · have t2:256≤a2:=by omega
           have S2:=Hd s2;have HRR:Hid (R=(none,i+5)):=Hd (by rw[HR.o,if_neg qZ,if_pos rfl,if_neg (fun h=>s2 h.2.1)]);clear b2 b3 b4 s2 d2 d3 d4 HR HI HV1 HV2 HV3 HV4;have hN1:jP.wrap (65536*a2)=65536*a2:=jH _ qKi;have hN2:jP.wrap (256*a3)=256*a3:=jH _ qKj;have hN3:jP.wrap (65536*a2+256*a3)=65536*a2+256*a3:=jH _ qJz;have hN4:65536*a2+256*a3+a4=N:=hN;have hN5:jP.wrap N=N:=jH _ qI;clear hN
           go_enter Tryz.func187,Tryz.ntmps187
           go_upto_region 1 with fail
           rw[HW.o]
           go_wp2_with(go_at_call 186;first|((with_reducible refine HA1.o.mono ?_);rintro e w2 ⟨rfl,rfl⟩)|((with_reducible refine HA2.o.mono ?_);rintro e w2 ⟨rfl,rfl⟩)|((with_reducible refine HA3.o.mono ?_);rintro e w2 ⟨rfl,rfl⟩)|((with_reducible refine HA4.o.mono ?_);rintro e w2 ⟨rfl,rfl⟩))
           have hz2:=kY (kY HZ.o 0 (.int .i64 2) rfl) 1 (.int .i64 N) rfl;exact qXf
       · have d4:decide (i4<L)=false:=decide_eq_false b4;rw[d4]at HA4;have HRR:Hid (R=(none,i+5)):=Hd (by rw[HR.o,if_neg qZ,if_pos rfl,if_neg (fun h=>b4 h.1)]);clear b2 b3 b4 d2 d3 d4 HR HI HV1 HV2 HV3 HV4;have hN1:jP.wrap (65536*a2)=65536*a2:=jH _ qKi;have hN2:jP.wrap (256*a3)=256*a3:=jH _ qKj;have hN3:jP.wrap (65536*a2+256*a3)=65536*a2+256*a3:=jH _ qJz;have hN4:65536*a2+256*a3+a4=N:=hN;have hN5:jP.wrap N=N:=jH _ qI;clear hN
         go_enter Tryz.func187,Tryz.ntmps187
         go_upto_region 1 with fail
         rw[HW.o]
         go_wp2_with(go_at_call 186;first|((with_reducible refine HA1.o.mono ?_);rintro e w2 ⟨rfl,rfl⟩)|((with_reducible refine HA2.o.mono ?_);rintro e w2 ⟨rfl,rfl⟩)|((with_reducible refine HA3.o.mono ?_);rintro e w2 ⟨rfl,rfl⟩)|((with_reducible refine HA4.o.mono ?_);rintro e w2 ⟨rfl,rfl⟩))
         have hz2:=kY (kY HZ.o 0 (.int .i64 2) rfl) 1 (.int .i64 N) rfl;exact qXf
     · have d3:decide (i3<L)=false:=decide_eq_false b3;rw[d3]at HA3;have HRR:Hid (R=(none,i+5)):=Hd (by rw[HR.o,if_neg qZ,if_pos rfl,if_neg (fun h=>b3 (by have h1:=h.1;have :=HI.o;omega))]);clear b2 b3 d2 d3 HR HI HV1 HV2 HV3 HV4;have hN1:jP.wrap (65536*a2)=65536*a2:=jH _ qKi;have hN2:jP.wrap (256*a3)=256*a3:=jH _ qKj;have hN3:jP.wrap (65536*a2+256*a3)=65536*a2+256*a3:=jH _ qJz;have hN4:65536*a2+256*a3+a4=N:=hN;have hN5:jP.wrap N=N:=jH _ qI;clear hN
       go_enter Tryz.func187,Tryz.ntmps187
       go_upto_region 1 with fail
       rw[HW.o]
       go_wp2_with(go_at_call 186;first|((with_reducible refine HA1.o.mono ?_);rintro e w2 ⟨rfl,rfl⟩)|((with_reducible refine HA2.o.mono ?_);rintro e w2 ⟨rfl,rfl⟩)|((with_reducible refine HA3.o.mono ?_);rintro e w2 ⟨rfl,rfl⟩)|((with_reducible refine HA4.o.mono ?_);rintro e w2 ⟨rfl,rfl⟩))
       have hz2:=kY (kY HZ.o 0 (.int .i64 2) rfl) 1 (.int .i64 N) rfl;exact qXf
   · have d2:decide (i2<L)=false:=decide_eq_false b2;rw[d2]at HA2;have HRR:Hid (R=(none,i+5)):=Hd (by rw[HR.o,if_neg qZ,if_pos rfl,if_neg (fun h=>b2 (by have h1:=h.1;have :=HI.o;omega))]);clear b2 d2 HR HI HV1 HV2 HV3 HV4;have hN1:jP.wrap (65536*a2)=65536*a2:=jH _ qKi;have hN2:jP.wrap (256*a3)=256*a3:=jH _ qKj;have hN3:jP.wrap (65536*a2+256*a3)=65536*a2+256*a3:=jH _ qJz;have hN4:65536*a2+256*a3+a4=N:=hN;have hN5:jP.wrap N=N:=jH _ qI;clear hN
     go_enter Tryz.func187,Tryz.ntmps187
     go_upto_region 1 with fail
     rw[HW.o]
     go_wp2_with(go_at_call 186;first|((with_reducible refine HA1.o.mono ?_);rintro e w2 ⟨rfl,rfl⟩)|((with_reducible refine HA2.o.mono ?_);rintro e w2 ⟨rfl,rfl⟩)|((with_reducible refine HA3.o.mono ?_);rintro e w2 ⟨rfl,rfl⟩)|((with_reducible refine HA4.o.mono ?_);rintro e w2 ⟨rfl,rfl⟩))
     have hz2:=kY (kY HZ.o 0 (.int .i64 2) rfl) 1 (.int .i64 N) rfl;exact qXf
 · have e2:(a1==2)=false:=zb h2;have HRR:Hid (R=(none,i2)):=Hd (by rw[HR.o,if_neg h5,if_neg h2]);clear HR HI HV1 HV2 HV3 HV4 h5 h2
   go_enter Tryz.func187,Tryz.ntmps187
   go_upto_region 1 with fail
   rw[HW.o]
   go_wp2_with(go_at_call 186;first|((with_reducible refine HA1.o.mono ?_);rintro e w2 ⟨rfl,rfl⟩)|((with_reducible refine HA2.o.mono ?_);rintro e w2 ⟨rfl,rfl⟩)|((with_reducible refine HA3.o.mono ?_);rintro e w2 ⟨rfl,rfl⟩)|((with_reducible refine HA4.o.mono ?_);rintro e w2 ⟨rfl,rfl⟩))
   have hz2:=kY (kY HZ.o 0 (.int .i64 0) rfl) 1 (.int .i64 0) rfl;exact bodyPost_ret (vC rfl _ _ w.heap.size [.int .i64 0,.int .i64 0] rfl (kA hz2) kE rfl uO) rfl ⟨0,0,qN,(fun d hd=>by rw[HRR.o]at hd;cases hd),kH (kH HB.o (jS _) _) (jS _) _⟩
end
def dL(s:Sc)(D:Nat)(vs:Value):List Value:=
 [.pointer (some ⟨D,0,none⟩),vs,
  .int .i64 s.pen.at_.fk,.int .i64 s.pen.at_.fn,.int .i64 s.pen.at_.bk,.int .i64 s.pen.at_.bn,.int .i64 s.pen.at_.fl,
  .int .i64 s.pen.ch.g0,.int .i64 s.pen.ch.g1,.int .i64 s.pen.ch.g2,.int .i64 s.pen.ch.g3,.int .i64 s.pen.ch.use,.int .i64 s.pen.ch.once,
  .bool s.pen.put,.bool s.pen.wrap,.bool s.pen.home,
  .int .i64 s.y,.int .i64 s.x,.int .i64 s.top,.int .i64 s.bot,.bool s.has,
  .int .i64 s.sp.at_.fk,.int .i64 s.sp.at_.fn,.int .i64 s.sp.at_.bk,.int .i64 s.sp.at_.bn,.int .i64 s.sp.at_.fl,
  .int .i64 s.sp.ch.g0,.int .i64 s.sp.ch.g1,.int .i64 s.sp.ch.g2,.int .i64 s.sp.ch.g3,.int .i64 s.sp.ch.use,.int .i64 s.sp.ch.once,
  .bool s.sp.put,.bool s.sp.wrap,.bool s.sp.home,.int .i64 s.sy,.int .i64 s.sx,.int .i32 s.last]
structure Mv where
 M:Nat
 q:Dv
 vs:Value
structure DmO(base:Nat)(w:World)(m:Mv)(s:Sc):Prop where
 blk:w.heap[m.M]? =some (.cells (dL s m.q.D m.vs).toArray 70 (0,0))
 hb:base≤m.M
 doc:DcO base w m.q (yX s.pg)
 stops:DbO base w m.vs s.st
theorem YP:(jG.info? 66).map (·.size)=some 6:=by kernel_rfl
theorem oH:(jG.info? 68).map (·.size)=some 14:=by kernel_rfl
theorem Kc(w:World):Calls jG 144 #[] w fun e w'=>e=.returned (chV pF)∧Below w.heap.size w w':=by
 go_enter Tryz.func144,Tryz.ntmps144
 go_wp2
 exact bodyPost_ret (bV rfl _ _ w.heap.size (vI pF) rfl (kA (kZ rfl)) Tryz.underlying66 rfl YP) rfl ⟨rfl,jW (jU _ _) _⟩
set_option maxHeartbeats 1600000 in
theorem nQ(w:World):Calls jG 106 #[] w fun e w'=>e=.returned (.agg (peL vW).toArray)∧Below w.heap.size w w':=by
 have HN:=Hd (fun w=>Kc w);unfold chV at HN
 go_enter Tryz.func106,Tryz.ntmps106
 go_upto_region 1 with fail
 generalize hW:World.alloc _ _=W;have hb2:Below w.heap.size w W:=by rw[←hW];exact jW (jU _ _) _
 have hc2:W.heap[w.heap.size]? =some (.cells (peL bH).toArray 68 (0,0)):=by rw[←hW];exact kZ rfl
 clear hW;refine wp_region_lit ?_;refine gC rfl 144 #[] qY (HN.o _) (.agg #[.int .i64 66,.int .i64 66,.int .i64 66,.int .i64 66,.int .i64 0,.int .i64 0]) (fun e w' h=>h.1) ?_;rintro w1 ⟨-,hb⟩;refine zP ?_;refine zGs (.agg #[.bool false,.bool true,.bool false]) ?_;refine jM (.agg (peL vW).toArray) qK qJ9 ?_;refine zP ?_;have hc3:=(hb.block _ (kQ hc2)).trans hc2;have hb3:=jN hb2 hb;refine wpList_store_mid rfl 68 (.tmp 0) (.tmp 3) rfl (w.heap.size) (0) ((peL vW).toArray) rfl rfl ((show World.there _ w.heap.size 0 14 from gH hc3)) oH (all_oneCell_toArray (iY _)) ?_;simp only[Act.put]
 go_wp2
 have hw:=uB (peL vW) 0 _ _ hc3 (by simp[peL]);exact bodyPost_ret (bV rfl _ _ w.heap.size (peL vW) rfl (kA hw) Tryz.underlying68 rfl oH) rfl ⟨rfl,gX hb3 (jS _) _ _⟩
def qJm(rows cols lines:Nat)(w:World)(e:Ending)(w':World):Prop:=
 ∃m,e=.returned (.pointer (some ⟨m.M,0,none⟩))∧DmO w.heap.size w' m (lA rows cols lines (bN [] cols))∧Below w.heap.size w w'
set_option maxHeartbeats 1600000 in
theorem QG(rows cols lines:Nat)(w:World)(hr1:1≤rows)(hr2:rows≤1000)(hc1:2≤cols)(hc2:cols≤1000)(hl:lines≤100000):
 Calls jG 35 #[.int .i64 rows,.int .i64 cols,.int .i64 lines] w (qJm rows cols lines w):=by
 have HD:=Hd (Y6 rows cols lines w hr2 hc1 hc2 hl);have HT:=Hd (fun w=>Xh cols w hc2);have HF:=Hd (fun w=>nQ w);unfold peL at HF;have hwr:jP.wrap ((rows:Int)-1)=(rows:Int)-1:=jH _ qJ
 go_enter Tryz.func35,Tryz.ntmps35
 go_wp2_with(first
  |(go_at_call 104;refine HD.o.mono ?_;rintro e w1 ⟨q,rfl,hq,hb⟩;have HQ:=Hd hq;have HB1:=Hd hb;clear hq hb)
  |(go_at_call 105;refine(HT.o _).mono ?_;rintro e w2 ⟨vs,rfl,ht,hb⟩;obtain⟨A2,c2,rfl⟩:=gU ht;have HTB:=Hd ht;have HB2:=Hd hb;clear ht hb)
  |(go_at_call 106;refine(HF.o _).mono ?_;rintro e w3 ⟨rfl,hb⟩;have HB3:=Hd hb;clear hb))
 go_ret
 have hba:=jW (jU w3.heap.size w3) (.cells (dL (lA rows cols lines (bN [] cols)) q.D (.slice A2 (bN [] cols).length c2)).toArray 70);have h1:=HB1.o.size;have h2:=HB2.o.size;have h3:=HB3.o.size;have hq:DcO w.heap.size w1 q (yX (lA rows cols lines (bN [] cols)).pg):=HQ.o;have ht:DbO w.heap.size w2 (.slice A2 (bN [] cols).length c2) (bN [] cols):=gJ HTB.o h1;exact⟨⟨w3.heap.size,q,_⟩,rfl,⟨kZ rfl,by show w.heap.size≤w3.heap.size;omega,((hq.below HB2.o).below HB3.o).below hba,(ht.below HB3.o).below hba⟩,jN (jN (jN HB1.o HB2.o) HB3.o) hba⟩
theorem RgO.weakenR{base base':Nat}{w:World}{R:Nat}{vl:Value}{SL:List Rh}{room first n:Nat}{gone:Int}(h:RgO base w R vl SL room first n gone)(hb:base'≤base):RgO base' w R vl SL room first n gone:=
 ⟨h.blk,gJ h.own hb,vY hb h.hb,h.hroom,h.hn,h.hm,h.hf,h.rows⟩
theorem PgO.weakenP{base base':Nat}{w:World}{q:Pv}{g:Pg}(h:PgO base w q g)(hb:base'≤base):PgO base' w q g:=
 ⟨h.blk,vY hb h.hb,h.ring.weakenR hb,gJ h.own hb,gJ h.told hb,h.apart,h.scr,h.hist,h.rows,h.cols2,h.cols1000,h.rows1000,h.gone0⟩
theorem DcO.weakenD{base base':Nat}{w:World}{q:Dv}{d:Dc}(h:DcO base w q d)(hb:base'≤base):DcO base' w q d:=
 ⟨h.blk,vY hb h.hb,gJ h.own hb,gJ h.told hb,h.rl,h.rows,h.cols2,h.cols1000,h.gone0⟩
theorem ScO.weaken{base b2:Nat}{w:World}{v:Sv}{s:Sc}(h:ScO base w v s)(hb:b2≤base):ScO b2 w v s:=⟨h.blk,vY hb h.hb,h.page.weakenP hb,h.tabs.weaken hb⟩
theorem DmO.below{base:Nat}{w w':World}{m:Mv}{s:Sc}(h:DmO base w m s)(hb:Below w.heap.size w w'):DmO base w' m s:=⟨(hb.block _ (kQ h.blk)).trans h.blk,h.hb,h.doc.below hb,h.stops.below hb⟩
theorem DmO.weaken{base b2:Nat}{w:World}{m:Mv}{s:Sc}(h:DmO base w m s)(hb:b2≤base):DmO b2 w m s:=⟨h.blk,vY hb h.hb,h.doc.weakenD hb,gJ h.stops hb⟩
def dmX(m:Mv):List Nat:=m.M::(m.vs.ownBlock.toList++dcX m.q)
theorem DcO.types{base:Nat}{w:World}{q:Dv}{d:Dc}(h:DcO base w q d):∀b∈dcX q,∃cur ty,w.heap[b]? =some (.cells cur ty (0,0))∧(ty=61∨ty=97∨ty=119):=by
 intro b hb;rcases kW.1 hb with rfl|hb
 · exact⟨_,_,h.blk,.inl rfl⟩
 rcases kL.1 hb with hb|hb
 · obtain⟨cur,hc⟩:=uA h.own (jT.1 hb);exact⟨_,_,hc,.inr (.inl rfl)⟩
 · obtain⟨cur,hc⟩:=uA h.told (jT.1 hb);exact⟨_,_,hc,.inr (.inr rfl)⟩
section
variable {base:Nat}{w:World}{m:Mv}{s:Sc}
theorem DmO.np(h:DmO base w m s):m.M∉dcX m.q:=fun hx=>by
 obtain⟨cur,ty,h1,h2⟩:=h.doc.types _ hx;rw[h.blk,Option.some.injEq,Obj.cells.injEq]at h1;obtain⟨-,rfl,-⟩:=h1;rcases h2 with h2|h2|h2<;>exact absurd h2 qZ
theorem DmO.nt(h:DmO base w m s):m.M∉m.vs.ownBlock.toList:=fun hx=>by
 obtain⟨cur,hc⟩:=uA h.stops (jT.1 hx);exact qZk
theorem DmO.ntp(h:DmO base w m s):∀b∈m.vs.ownBlock.toList,b∉dcX m.q:=fun b hb hx=>by
 obtain⟨cur,hc⟩:=uA h.stops (jT.1 hb);obtain⟨cur2,ty,h1,h2⟩:=h.doc.types _ hx;rw[hc,Option.some.injEq,Obj.cells.injEq]at h1;obtain⟨-,rfl,-⟩:=h1;rcases h2 with h2|h2|h2<;>exact absurd h2 qZ
theorem DmO.lt(h:DmO base w m s):∀b∈dmX m,base≤b∧b<w.heap.size:=by
 intro b hb;rcases kW.1 hb with rfl|hb
 · exact qZh
 rcases kL.1 hb with hb|hb
 · exact h.stops.lt b (jT.1 hb)
 · exact h.doc.lt b hb
theorem DmO.nocel(h:DmO base w m s):yD w (dmX m):=by
 intro b hb cs f he;rcases kW.1 hb with rfl|hb
 · exact qZj
 rcases kL.1 hb with hb|hb
 · obtain⟨cur,hc⟩:=uA h.stops (jT.1 hb);exact uP hc he qZ rfl
 · exact h.doc.nocel b hb cs f he
theorem DmO.mod{X:List Nat}{w':World}(h:DmO base w m s)(hm:Mod X w w')(hX:yD w X)(hd:∀b∈dmX m,b∉X):DmO base w' m s:=
 ⟨(hm.block m.M (kF.1 h.blk).1 (hd m.M qVi)).trans h.blk,h.hb,h.doc.mod hm hX (fun b hb=>hd b (by simp[dmX,hb])),h.stops.mod hm (fun g hg=>hd g (by simp[dmX,hg]))⟩
def uN(base:Nat)(w:World)(m:Mv)(s':Sc)(w':World):Prop:=
 ∃m',m'.M=m.M∧m'.q.D=m.q.D∧DmO base w' m' s'∧Mod (dmX m) w w'∧∀b∈dmX m',b∈dmX m∨w.heap.size≤b
def vB(base:Nat)(w:World)(m:Mv)(s':Sc)(e:Ending)(w':World):Prop:=e=.returned (.tuple #[])∧uN base w m s' w'
theorem DmO.res(h:DmO base w m s):uN base w m s w:=⟨m,rfl,rfl,h,Mod.refl _ _,fun _ hb=>.inl hb⟩
theorem uN.trans{w1 w2:World}{m1:Mv}{s2:Sc}(h1:m1.M=m.M∧m1.q.D=m.q.D∧Mod (dmX m) w w1∧∀b∈dmX m1,b∈dmX m∨w.heap.size≤b)(h2:uN base w1 m1 s2 w2):uN base w m s2 w2:=by
 obtain⟨e1,e2,hm,hx⟩:=h1;obtain⟨m2,a1,a2,a4,a5,a6⟩:=h2;refine⟨m2,a1.trans e1,a2.trans e2,a4,hm.trans a5 hx,fun b hb=>?_⟩;rcases a6 b hb with h|h
 · exact hx b h
 · exact .inr (vY hm.size h)
theorem uN.pre{w1 w2:World}{s2:Sc}(hb:Below w.heap.size w w1)(h2:uN base w1 m s2 w2):uN base w m s2 w2:=uN.trans ⟨rfl,rfl,Mod.of_below hb,fun _ hb=>.inl hb⟩ h2
theorem uN.post{w1 w2:World}{s2:Sc}(h:uN base w m s2 w1)(hb:Below w1.heap.size w1 w2):uN base w m s2 w2:=by
 obtain⟨m',a1,a2,a4,a5,a6⟩:=h;exact⟨m',a1,a2,a4.below hb,a5.then_below hb,a6⟩
theorem uN.blk{w1:World}{s1:Sc}(hs:uN base w m s1 w1):∃vs,w1.heap[m.M]? =some (.cells (dL s1 m.q.D vs).toArray 70 (0,0)):=by
 obtain⟨m1,e1,e2,hO,hm,hx⟩:=hs;exact⟨m1.vs,by rw[←e1,←e2];exact hO.blk⟩
theorem DmO.puts{s':Sc}(h:DmO base w m s)(o:Nat)(xs:List Value)(ho:o+xs.length≤38)(he:(dL s m.q.D m.vs).take o++(xs++(dL s m.q.D m.vs).drop (o+xs.length))=dL s' m.q.D m.vs)(hp:s'.pg=s.pg)(ht:s'.st=s.st):
 DmO base (w.setCells m.M o xs) m s'∧Mod (dmX m) w (w.setCells m.M o xs):=by
 have hM:Mod [m.M] w (w.setCells m.M o xs):=gM (.inl qV) xs o w (Mod.refl _ _);refine⟨⟨?_,h.hb,?_,?_⟩,hM.mono (fun b hb=>by rw[jR.1 hb];simp[dmX])⟩
 · rw[←he];exact uB xs o _ w h.blk (by show _≤38;exact ho)
 · rw[hp];exact qZ0
 · rw[ht];exact h.stops.mod hM (fun g hg hx=>h.nt (by rw[←jR.1 hx];simp[hg]))
theorem DmO.there(h:DmO base w m s){o n:Nat}(ho:o+n≤38):w.there m.M o n:=fun j hj=>by
 have :=gH h.blk (o+j) (by show o+j<38;omega);rw[kB]at this;exact this
theorem DmO.range(h:DmO base w m s){o n:Nat}{cs:List Value}(he:((dL s m.q.D m.vs).drop o).take n=cs):w.rangeAt m.M o cs:=fun j u hj=>by
 rw[←he,List.getElem?_take]at hj
 split at hj
 · rw[gV]at hj;exact(kC h.blk _ _ hj).1
 · cases hj
theorem DmO.put{s':Sc}(h:DmO base w m s)(i:Nat)(x:Value)(he:(dL s m.q.D m.vs).set i x=dL s' m.q.D m.vs)(hp:s'.pg=s.pg)(ht:s'.st=s.st):DmO base (w.setCell ⟨m.M,i,none⟩ x) m s':=by
 have hM:Mod [m.M] w (w.setCell ⟨m.M,i,none⟩ x):=(Mod.refl _ _).setCell (a:=⟨m.M,i,none⟩) (.inl qV) _;refine⟨?_,h.hb,?_,?_⟩
 · rw[←he];have :=bX (o:=i) (v:=x) h.blk;rw[jZ]at this;exact this
 · rw[hp];exact qZ0
 · rw[ht];exact h.stops.mod hM (fun g hg hx=>h.nt (by rw[←jR.1 hx];simp[hg]))
theorem DmO.mod_put(i:Nat)(x:Value):Mod (dmX m) w (w.setCell ⟨m.M,i,none⟩ x):=(Mod.refl _ _).setCell (a:=⟨m.M,i,none⟩) (.inl qVi) _
theorem DmO.put_res{s':Sc}(h:DmO base w m s)(i:Nat)(x:Value)(he:(dL s m.q.D m.vs).set i x=dL s' m.q.D m.vs)(hp:s'.pg=s.pg)(ht:s'.st=s.st):uN base w m s' (w.setCell ⟨m.M,i,none⟩ x):=⟨m,rfl,rfl,h.put i x he hp ht,DmO.mod_put i x,fun _ hb=>.inl hb⟩
theorem DmO.puts_res{s':Sc}(h:DmO base w m s)(o:Nat)(xs:List Value)(ho:o+xs.length≤38)(he:(dL s m.q.D m.vs).take o++(xs++(dL s m.q.D m.vs).drop (o+xs.length))=dL s' m.q.D m.vs)(hp:s'.pg=s.pg)(ht:s'.st=s.st):uN base w m s' (w.setCells m.M o xs):=⟨m,rfl,rfl,(h.puts o xs ho he hp ht).1,(h.puts o xs ho he hp ht).2,fun _ hb=>.inl hb⟩
theorem DmO.doced{g':Pg}{w':World}(h:DmO base w m s)(hp:gB base w m.q (yX g') w'):uN base w m {s with pg:=g'} w':=by
 obtain⟨q',e1,hq,hm,hx⟩:=hp;have hS:=(hm.block m.M (kF.1 h.blk).1 h.np).trans h.blk;refine⟨{m with q:=q'},rfl,e1,⟨?_,h.hb,hq,h.stops.mod hm (fun g hg=>h.ntp g (by simp[hg]))⟩,hm.mono (fun b hb=>by simp[dmX,hb]),fun b hb=>?_⟩
 · show w'.heap[m.M]? =some (.cells (dL {s with pg:=g'} q'.D m.vs).toArray _ _);rw[e1];exact hS
 · have hb2:b∈m.M::(m.vs.ownBlock.toList++dcX q'):=hb;rcases kW.1 hb2 with rfl|hb2
   · exact .inl qVi
   rcases kL.1 hb2 with hb2|hb2
   · exact .inl (by simp[dmX,jT.1 hb2])
   · rcases hx b hb2 with h1|h1
     · exact .inl (by simp[dmX,h1])
     · exact .inr h1
end
end Go.Proofs.YtjcpdcncfjkejaaGreatDoor
