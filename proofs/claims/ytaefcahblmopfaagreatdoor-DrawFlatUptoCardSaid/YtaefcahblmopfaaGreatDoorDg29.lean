/- Joined by a tool of this claim out of smaller texts. Conditions: as stated. -/
import Derived.Test.YtaefcahblmopfaaGreatDoorDg28
import Derived.Lib.Builder
import Derived.Lib.AppendStr
import Derived.Lib.UnsafeStr
import Derived.Lib.FrozenHead
import Derived.Shelf.RegionOpenPlain
set_option linter.unusedVariables false
set_option linter.unusedSimpArgs false
set_option maxRecDepth 100000
open Go.Lib renaming hid → Hd
open List renaming setIfInBounds_toArray → jZ, set_cons_zero → jX, set_cons_succ → jY, mem_singleton → jW, getElem?_eq_getElem → jN, getElem?_eq_some_iff → jP, length_append → jC, append_assoc → kG, replicate → kW, getElem?_append_right → kT, ext_getElem? → gU
open Go.Proofs.Tryz renaming prog → jG
open Go.RowKit.Below renaming refl → jU
open Nat renaming le_refl → jD, le_trans → jI, add_zero → uS
open And renaming intro → kX
open ByteArray renaming empty → kU
open Go.World renaming ownsRow_nil → kD
open Int renaming toNat_natCast → vQ
namespace Go.Proofs.YtaefcahblmopfaaGreatDoor
open Go.RowKit
theorem Z8:jG.cellsOf 5=1:=by kernel_rfl
set_option maxHeartbeats 1600000 in
theorem qKq(b g cap B:Nat)(p:Value)(l:List UInt8)(w:World)(h:w.heap[b]? =some (.cells #[p,.slice (some ⟨g,0,none⟩) l.length cap] 76 (0,0)))(hown:w.ownsRow B 5 1 (.slice (some ⟨g,0,none⟩) l.length cap) l.length (Lib.byteCells l))(h0:l≠[]):
 Calls jG 42 #[.pointer (some ⟨b,0,none⟩)] w fun e w'=>e=.returned (.string ⟨l.toArray⟩)∧Below B w w':=by
 have hl0:l.length≠0:=by simpa using h0
 obtain⟨hbg,cur,fz,hg,hnc,hcm,hcs,htake⟩:B≤g∧∃cur fz,w.heap[g]? =some (.cells cur 5 fz)∧l.length≤cap∧cap≤maxLen∧cur.size=cap*1∧cur.toList.take (l.length*1)=Lib.byteCells l:=by
  rcases hown.2 with⟨_,hz⟩|⟨g',cap',cur,hv,hb,hg,h1,h2,h3,h4⟩
  · exact absurd hz hl0
  · simp only[Value.slice.injEq,Option.some.injEq,Addr.mk.injEq]at hv;obtain⟨⟨rfl,-⟩,-,rfl⟩:=hv;exact⟨hb,cur,_,hg,h1,h2,h3,h4⟩
 have c1:w.drew.cell? ⟨b,1,none⟩=some (.slice (some ⟨g,0,none⟩) l.length cap):=(at_ (show w.drew.heap[b]? =_ from h) 1 _ rfl).1;have hSD:(Builtin.unsafeSliceData_ #[23] 146 #[.slice (some ⟨g,0,none⟩) l.length cap]).run jG w.drew=.ok (.pointer (some ⟨g,0,none⟩)) w.drew:=
  Lib.run_unsafeSliceData_row _ _ _ _ _ _ qJ
 have hUS:(Builtin.unsafeString_ #[146,3] 9 #[.pointer (some ⟨g,0,none⟩),.int .i64 l.length]).run jG w.drew=.ok (.string ⟨l.toArray⟩) (w.drew.freeze ⟨g,0,none⟩ l.length):=by
  refine Lib.run_unsafeString_row w.drew 146 3 9 5 Tryz.underlying146 Z8 g cur.size (by have hg':w.drew.heap[g]? =some (.cells cur 5 fz):=hg;simp[World.shape?,hg']) l h0 qJ (by unfold maxLen at hcm;omega) ?_;intro j x hx;have :=hown.cells (g:=g) rfl j (.int .u8 x.toNat) (by simp[Lib.byteCells,hx]);exact this
 have mixed:jG.follows .mixedOrders=true:=by kernel_rfl
 go_enter Tryz.func42,Tryz.ntmps42
 go_wp2
 go_region_o
 all_goals(go_wp2;go_ret;exact⟨rfl,Lib.below_freeze (Below.drew (jU B w)) (p:=⟨g,0,none⟩) hbg _⟩)
theorem K6(rows:List (List Cl))(ay ax:Nat):dB rows ay ax≠[]:=by
 unfold dB cQ;intro h;simp at h
theorem Jc{rows:List Rw}(hok:qK7 rows)(hz:rows.length≤400)(ay ax:Nat):(yK 0 vI (vD rows)).1.length≤181000*rows.length:=by
 have :∀k,k≤rows.length→∃pre on1,dG vI rows k pre on1:=by
  intro k
  induction k with
  |zero=>exact fun _=>⟨_,_,dG.start _ _⟩
  |succ k ih=>
   intro hk;obtain⟨pre,on1,h⟩:=ih qJ;exact⟨_,_,h.next (jN qJ) qJ (hok _ (List.getElem_mem qJ))⟩
 obtain⟨pre,on1,h⟩:=this rows.length (jD _);rw[h.end_.2];exact h.2
theorem u8_str(xs:List Int):(⟨(u8 xs).toArray⟩:ByteArray)=strOfNums xs:=by
 unfold u8;rfl
theorem PnO.new{base:Nat}{w:World}{P B:Nat}(hp:w.heap[P]? =some (.cells #[.pointer (some ⟨B,0,none⟩),.int .i64 0,.int .i64 0,.int .i64 0,.int .i64 0,.int .i64 0] 212 (0,0)))(hb:w.heap[B]? =some (.cells #[.pointer none,.slice none 0 0] 76 (0,0)))(h1:base≤P)(h2:base≤B):PnO base w ⟨P,B,.pointer none,.slice none 0 0⟩ vI []:=
 ⟨hp,hb,.inl rfl,kD w base 5 1,h1,h2⟩
set_option maxHeartbeats 3200000 in
theorem qKe(A:Option Addr)(rows:List Rw)(ca cols ay ax:Nat)(w:World)(hl:bM w A rows)(hok:rU rows cols)(hcap:∀r∈rows,r.cs.length≤r.cap)(hay:ay<rows.length)(hax:ax<cols)(ht:fA w):
 Calls jG 87 #[.slice A rows.length ca,.agg #[.int .i64 ay,.int .i64 ax]] w fun e w'=>e=.returned (.tuple #[.string (strOfNums (dB (vD rows) ay ax)),.int .i64 0])∧Below w.heap.size w w':=by
 have hcs:qK7 rows:=fun r hr=>⟨by rw[(hok.2.2.2.2 r hr).1];exact hok.2.2.2.1,hcap r hr,(hok.2.2.2.2 r hr).2.2⟩;have HSZ:Hid (∀w',Below w.heap.size w w'→Calls jG 23 #[.slice A rows.length ca] w' fun e w2=>e=.returned (.tuple #[.int .i64 rows.length,.int .i64 cols])∧Below w'.heap.size w' w2):=Hd (fun w' hb=>Jb A rows ca cols w' (hl.below hb) hok);have HRT:Hid (∀w',Below w.heap.size w w'→Calls jG 24 #[.slice A rows.length ca] w' fun e w2=>e=.returned (.bool true)∧Below w'.heap.size w' w2):=Hd (fun w' hb=>QV A rows ca cols w' (hl.below hb) hok);have HL:=Hd hl;have HT:=Hd ht;have HCS:=Hd hcs;have HZ:=Hd (kX hok.2.1 hok.2.2.2.1);have g1:¬(ay:Int)<0:=by omega
 have g2:¬(rows.length:Int)≤ay:=by omega
 have g3:¬(ax:Int)<0:=by omega
 have g4:¬(cols:Int)≤ax:=by omega
 clear hl hok hcap ht hcs;have x0:(w.alloc (.cells #[.int .i64 ay,.int .i64 ax] 34)).heap[w.heap.size]? =some (.cells #[.int .i64 ay,.int .i64 ax] 34 (0,0)):=jA rfl;obtain⟨W,hW⟩:∃W,w.alloc (.cells #[.int .i64 ay,.int .i64 ax] 34)=W:=⟨_,rfl⟩;have hb0:Below w.heap.size w W:=by rw[←hW];exact jH (jU _ _) _
 rw[hW]at x0;have HB0:=Hd hb0;have HX0:=Hd x0;clear x0 hb0
 go_enter Tryz.func87,Tryz.ntmps87
 go_upto_region 2 with(go_at_call 23;(with_reducible refine(HSZ.o _ HB0.o).mono ?_);rintro e w1 ⟨rfl,hb1⟩)
 have HB1:=Hd (jM HB0.o hb1);have HX1:=Hd ((hb1.block _ (jL HX0.o)).trans HX0.o);clear hb1 hW
 go_upto_region 5 with(go_at_call 24;(with_reducible refine(HRT.o _ HB1.o).mono ?_);rintro e w2 ⟨rfl,hb2⟩;have y0:w2.cell? ⟨w.heap.size,0,none⟩=some (.int .i64 ay):=(at_ ((hb2.block _ (jL HX1.o)).trans HX1.o) 0 _ rfl).1;have y1:w2.cell? ⟨w.heap.size,1,none⟩=some (.int .i64 ax):=(at_ ((hb2.block _ (jL HX1.o)).trans HX1.o) 1 _ rfl).1;have HB2:=Hd (jM HB1.o hb2);have HX2:=Hd ((hb2.block _ (jL HX1.o)).trans HX1.o);clear hb2)
 have hbp:((w2.alloc (.cells #[.pointer none,.slice none 0 0] 76)).alloc (.cells #[.pointer (some ⟨w2.heap.size,0,none⟩),.int .i64 0,.int .i64 0,.int .i64 0,.int .i64 0,.int .i64 0] 212)).heap[w2.heap.size+1]? =some (.cells #[.pointer (some ⟨w2.heap.size,0,none⟩),.int .i64 0,.int .i64 0,.int .i64 0,.int .i64 0,.int .i64 0] 212 (0,0)):=jA (by rw[World.size_alloc]);have hbb:((w2.alloc (.cells #[.pointer none,.slice none 0 0] 76)).alloc (.cells #[.pointer (some ⟨w2.heap.size,0,none⟩),.int .i64 0,.int .i64 0,.int .i64 0,.int .i64 0,.int .i64 0] 212)).heap[w2.heap.size]? =some (.cells #[.pointer none,.slice none 0 0] 76 (0,0)):=by
  refine((jH (jU _ _) _).block _ qV1).trans (jA rfl)
 have hb3:Below w2.heap.size w2 ((w2.alloc (.cells #[.pointer none,.slice none 0 0] 76)).alloc (.cells #[.pointer (some ⟨w2.heap.size,0,none⟩),.int .i64 0,.int .i64 0,.int .i64 0,.int .i64 0,.int .i64 0] 212)):=jH (jH (jU _ _) _) _;generalize (w2.alloc (.cells #[.pointer none,.slice none 0 0] 76)).alloc (.cells #[.pointer (some ⟨w2.heap.size,0,none⟩),.int .i64 0,.int .i64 0,.int .i64 0,.int .i64 0,.int .i64 0] 212)=w3 at hbp hbb hb3;have hs2:w.heap.size≤w2.heap.size:=HB2.o.size;have hPO:PnO w2.heap.size w3 ⟨w2.heap.size+1,w2.heap.size,.pointer none,.slice none 0 0⟩ vI []:=PnO.new hbp hbb qJ (jD _);have hx3:=(hb3.block _ (jL HX2.o)).trans HX2.o;have hT3:TB w2.heap.size w3:=(TB.of (HT.o.below HB2.o)).on hb3;have hw3:w2.heap.size≤w3.heap.size:=hb3.size;have HEA:=Hd (V6 hPO hw3 hT3 A rows ca (fun w' hb=>HL.o.below (HB2.o.trans ((hb3.trans hb).mono hs2))) HCS.o HZ.o.1 (by show 0≤1000;omega));simp only at HEA;have H3:=Hd (kX hPO (kX hb3 (kX hx3 (kX hT3 hw3))));have HX2L:=Hd (jL HX2.o);obtain⟨PP,hPP⟩:∃PP,w2.heap.size+1=PP:=⟨_,rfl⟩;obtain⟨B2,hB2⟩:∃B2,w2.heap.size=B2:=⟨_,rfl⟩;rw[hPP]at H3 HEA ⊢;rw[hB2]at H3 HEA HX2L ⊢;clear hbp hbb hb3 hPO hx3 hT3 hw3 hs2 y0 y1 hPP;have HB2E:=Hd hB2
 clear hB2
 go_upto_region 6 with(go_at_call 155;(with_reducible refine HEA.o.mono ?_);rintro e w4 ⟨rfl,hr⟩;have HR4:=Hd hr;clear hr)
 obtain⟨v4,a1,a2,a3,a4,a5⟩:=HR4.o;obtain⟨hPO,hB3,hx3,hT3,hw3⟩:=H3.o;have hw4:B2≤w4.heap.size:=jI hw3 a4.size;have hB4:Below B2 w3 w4:=gW.below hPO hw3 HR4.o;have hln:=Jc HCS.o HZ.o.1 ay ax;have hlen4:([]++u8 (yK 0 vI (vD rows)).1).length≤72400000:=by rw[List.nil_append,eH];have :=HZ.o.1;omega
 have hT4:=hT3.on hB4;have hx4:=(hB4.block _ HX2L.o).trans hx3;have HTU:Hid (Calls jG 157 #[.pointer (some ⟨v4.P,0,none⟩),.agg #[.int .i64 0,.int .i64 0,.int .i64 0,.int .i64 0,.int .i64 0]] w4 (nQ B2 w4 v4 vI ([]++u8 (yK 0 vI (vD rows)).1++u8 (pP (yK 0 vI (vD rows)).2 vI)))):=Hd (tK a3 hw4 hT4.tab vI gQ.zero qJ);rw[a1]at HTU;have H4:=Hd (kX a1 (kX a2 (kX a3 (kX a4 (kX a5 (kX hw4 (kX hT4 (kX hx4 hlen4))))))));clear a1 a2 a3 a4 a5 hPO hB3 hx3 hT3 hw3 hw4 hB4 hln hlen4 hT4 hx4 HEA
 go_upto_region 7 with(go_at_call 157;(with_reducible refine HTU.o.mono ?_);rintro e w5 ⟨rfl,hr⟩;have HR5:=Hd hr;clear hr)
 obtain⟨a1,a2,a3,a4,a5,hw4,hT4,hx4,hlen4⟩:=H4.o;obtain⟨v5,b1,b2,b3,b4,b5⟩:=HR5.o;have hw5:B2≤w5.heap.size:=jI hw4 b4.size;have hB5:Below B2 w4 w5:=gW.below a3 hw4 HR5.o;have hx5:=(hB5.block _ HX2L.o).trans hx4;have hlen5:([]++u8 (yK 0 vI (vD rows)).1++u8 (pP (yK 0 vI (vD rows)).2 vI)).length≤72400200:=by
  have :=eW (yK 0 vI (vD rows)).2 gQ.zero;rw[jC,eH (pP _ _)];omega
 have HMO:Hid (Calls jG 158 #[.pointer (some ⟨v5.P,0,none⟩),.int .i64 ay,.int .i64 ax] w5 (nQ B2 w5 v5 vI ([]++u8 (yK 0 vI (vD rows)).1++u8 (pP (yK 0 vI (vD rows)).2 vI)++u8 (cQ ay ax)))):=Hd (tV b3 hw5 (hT4.on hB5).tab ay ax (by have :=HZ.o.1;omega) (by have :=HZ.o.2;omega) qJ);rw[b1,a1]at HMO;have y0:w5.cell? ⟨w.heap.size,0,none⟩=some (.int .i64 ay):=(at_ hx5 0 _ rfl).1;have y1:w5.cell? ⟨w.heap.size,1,none⟩=some (.int .i64 ax):=(at_ hx5 1 _ rfl).1;have H5:=Hd (kX b1 (kX b2 (kX b3 (kX b4 (kX b5 hw5)))));clear a1 a2 a3 a4 a5 hw4 hT4 hx4 hlen4 b1 b2 b3 b4 b5 hw5 hB5 hx5 hlen5 HTU
 go_upto_region 8 with(go_at_call 158;(with_reducible refine HMO.o.mono ?_);rintro e w6 ⟨rfl,hr⟩;have HR6:=Hd hr;clear hr)
 obtain⟨a1,a2,a3,a4,a5,hw4,hT4,hx4,hlen4⟩:=H4.o;obtain⟨b1,b2,b3,b4,b5,hw5⟩:=H5.o;obtain⟨hPO,hB3,hx3,hT3,hw3⟩:=H3.o;have hB6:Below B2 w3 w6:=(gW.below hPO hw3 HR4.o).trans ((gW.below a3 hw4 HR5.o).trans (gW.below b3 hw5 HR6.o));obtain⟨v6,d1,d2,d3,d4,d5⟩:=HR6.o;have hl6:[]++u8 (yK 0 vI (vD rows)).1++u8 (pP (yK 0 vI (vD rows)).2 vI)++u8 (cQ ay ax)=u8 (dB (vD rows) ay ax):=by
  unfold dB;rw[bX,bX,List.nil_append,kG]
 rw[hl6]at d3;have h0:u8 (dB (vD rows) ay ax)≠[]:=fun h=>K6 (vD rows) ay ax (List.length_eq_zero_iff.1 (by rw[←eH,h];rfl));obtain⟨⟨c0,-⟩,-⟩:=d3.facts;rw[d1,b1,a1,d2,b2,a2]at c0;have hfin:Below w.heap.size w w6:=by
  have e1:=HB2E.o;refine HB2.o.trans ((hB3.trans hB6).mono ?_);rw[←e1];exact HB2.o.size
 have HST:Hid (Calls jG 42 #[.pointer (some ⟨B2,0,none⟩)] w6 fun e w'=>e=.returned (.string (strOfNums (dB (vD rows) ay ax)))∧Below B2 w6 w'):=by
  have hown:=d3.own;obtain⟨g,c,hbf,-,-⟩:=eQ hown (List.length_pos_iff.2 h0);have hb:=d3.b;rw[hbf]at hown hb;have :=qKq v6.B g c B2 v6.ba (u8 (dB (vD rows) ay ax)) w6 hb hown h0;rw[u8_str,d2,b2,a2]at this;exact Hd this
 have HF:=Hd hfin;clear a1 a2 a3 a4 a5 hw4 hT4 hx4 hlen4 b1 b2 b3 b4 b5 hw5 d1 d2 d3 d4 d5 hB6 hPO hB3 hx3 hT3 hw3 hl6 h0 hfin HMO y0 y1
 go_wp2_with(go_at_call 42;(with_reducible refine HST.o.mono ?_);rintro e w7 ⟨rfl,hb7⟩;have HB7:=Hd hb7;clear hb7)
 go_ret2
 refine⟨rfl,HF.o.trans (HB7.o.mono ?_)⟩;rw[←HB2E.o];exact HB2.o.size
section
variable {base:Nat}{w:World}{v:Tv}{t:Tm}
def zZ(base:Nat)(w:World)(v:Tv)(t':Tm)(w':World):Prop:=∃v',v'.a.q.P=v.a.q.P∧TmV w v v'∧TmO base w' v' t'∧Mod (tmX v) w w'
def TmPq(base:Nat)(w:World)(v:Tv)(t':Tm)(e:Ending)(w':World):Prop:=e=.returned (.tuple #[])∧zZ base w v t' w'
theorem TmO.resq(h:TmO base w v t):zZ base w v t w:=⟨v,rfl,⟨rfl,rfl,rfl,rfl,fun _ hb=>.inl hb⟩,h,Mod.refl _ _⟩
theorem zZ.trans{w1 w2:World}{v1:Tv}{t2:Tm}(hq:v1.a.q.P=v.a.q.P)(h1:TmV w v v1)(hm:Mod (tmX v) w w1)(h2:zZ base w1 v1 t2 w2):zZ base w v t2 w2:=by
 obtain⟨v2,q,k,a4,a5⟩:=h2;refine⟨v2,q.trans hq,⟨k.M.trans h1.M,k.z.trans h1.z,k.a.trans h1.a,k.b.trans h1.b,fun x hx=>?_⟩,a4,hm.trans a5 h1.x⟩;rcases k.x x hx with h|h
 · exact h1.x x h
 · exact qZd
theorem zZ.pre{w1 w2:World}{t2:Tm}(hb:Below w.heap.size w w1)(h2:zZ base w1 v t2 w2):zZ base w v t2 w2:=zZ.trans rfl ⟨rfl,rfl,rfl,rfl,fun _ hb=>.inl hb⟩ (Mod.of_below hb) h2
theorem zZ.post{w1 w2:World}{t':Tm}(h:zZ base w v t' w1)(hb:Below w1.heap.size w1 w2):zZ base w v t' w2:=by
 obtain⟨v',q,k,a4,a5⟩:=h;exact⟨v',q,k,a4.below hb,a5.then_below hb⟩
theorem TmO.withAq{s':Sc}{w':World}(h:TmO base w v t)(hp:pU base w v.a s' w'):zZ base w v {t with s0:=s'} w':=by
 obtain⟨a',e1,e2,e3,hO,hm,hx⟩:=hp;have hc:yH w (scX v.a):=sQ h.a.ty qZ;refine⟨{v with a:=a'},e3,⟨rfl,rfl,e1,rfl,fun x hx2=>?_⟩,⟨?_,h.hb,h.z.mod hm h.za,hO,h.b.mod hm hc (fun b hb hz=>h.ab b hz hb),h.ad,kC h.bu hm h.fa,kC h.ch hm h.ca,fun x h1 h2=>?_,h.bz⟩,hm.mono (fun b hb=>gJ.2 (.inr (.inr (.inl hb))))⟩
 · rcases gJ.1 hx2 with h1|h1|h1|h1
   · exact .inl (gJ.2 (.inl h1))
   · exact .inl (gJ.2 (.inr (.inl h1)))
   · exact(hx x h1).imp (fun h=>gJ.2 (.inr (.inr (.inl h)))) id
   · exact .inl (gJ.2 (.inr (.inr (.inr h1))))
 · have :=(hm.block v.M h.ltM h.ma).trans h.blk;rw[this];unfold Jv;rw[e1]
 · rcases hx x h1 with h3|h3
   · exact h.ab x h3 h2
   · have :=(h.b.lt x h2).2;omega
theorem TmO.putq{t':Tm}{v':Tv}{w':World}(h:TmO base w v t)(hM:v'.M=v.M)(hz:v'.z=v.z)(ha:v'.a=v.a)(hb:v'.b=v.b)(had:v'.ba=.pointer none∨v'.ba=.pointer (some ⟨v.M,6,none⟩))(hf:(v'.bf=v.bf∧t'.rep=t.rep)∨(v'.bf=.slice none 0 0∧t'.rep=[]))(hc:(v'.vc=v.vc∧t'.ch=t.ch)∨(v'.vc=.slice none 0 0∧t'.ch=[]))
 (ez:t'.pz=t.pz) (ea:t'.s0=t.s0) (eb:t'.s1=t.s1) (hm:Mod [v.M] w w') (hw:w'.heap[v.M]? =some (.cells (Jv t' v').toArray 78 (0,0))):zZ base w v t' w':=by
 have hX:yH w [v.M]:=sQ (l:=[78]) (fun b hb=>by rw[jW.1 hb];exact h.tyM) qZ;have hf2:∀x,v'.bf.ownBlock=some x→v.bf.ownBlock=some x:=fun x hx=>by
  rcases hf with⟨e,-⟩|⟨e,-⟩
  · rw[←e];exact hx
  · rw[e]at hx;cases hx
 have hc2:∀x,v'.vc.ownBlock=some x→v.vc.ownBlock=some x:=fun x hx=>by
  rcases hc with⟨e,-⟩|⟨e,-⟩
  · rw[←e];exact hx
  · rw[e]at hx;cases hx
 refine⟨v',by rw[ha],⟨hM,by rw[hz],by rw[ha],by rw[hb],fun x hx=>.inl ?_⟩,⟨by rw[hM];exact hw,by rw[hM];exact h.hb,?_,?_,?_,by rw[hM];exact had,?_,?_,by rw[ha,hb];exact h.ab,fun x hx=>by rw[hz];exact h.bz x (hf2 x hx)⟩,hm.mono (fun b hb=>gJ.2 (.inl (jW.1 hb)))⟩
 · rcases gJ.1 hx with h1|h1|h1|h1|h1|h1
   · exact gJ.2 (.inl (h1.trans hM))
   · exact gJ.2 (.inr (.inl (by rw[←hz];exact h1)))
   · exact gJ.2 (.inr (.inr (.inl (by rw[←ha];exact h1))))
   · exact gJ.2 (.inr (.inr (.inr (.inl (by rw[←hb];exact h1)))))
   · exact gJ.2 (.inr (.inr (.inr (.inr (.inl (hf2 x h1))))))
   · exact gJ.2 (.inr (.inr (.inr (.inr (.inr (hc2 x h1))))))
 · rw[hz,ez];exact h.z.mod hm (fun b hb hx=>h.mz qS)
 · rw[ha,ea];exact h.a.mod hm hX (fun b hb hx=>h.ma qS)
 · rw[hb,eb];exact h.b.mod hm hX (fun b hb hx=>h.mb qS)
 · rcases hf with⟨e1,e2⟩|⟨e1,e2⟩
   · rw[e1,e2];exact kC h.bu hm (fun g hg hx=>h.mf qVs)
   · rw[e1,e2];exact kD w' base 5 1
 · rcases hc with⟨e1,e2⟩|⟨e1,e2⟩
   · rw[e1,e2];exact kC h.ch hm (fun g hg hx=>h.mc qVs)
   · rw[e1,e2];exact kD w' base 96 10
set_option maxHeartbeats 1600000 in
theorem VY(h:TmO base w v t)(ht:t.s0.pg.told=[]):Calls jG 44 #[.pointer (some ⟨v.M,0,none⟩)] w (TmPq base w v t):=by
 have HP:=Hd (iK h.a);have HS:=Hd (Vf h.a.page);obtain⟨-,c1,-⟩:=h.facts;have HO:=Hd h;have HT:=Hd ht;clear h ht
 go_enter Tryz.func44,Tryz.ntmps44
 go_wp2_with(first
  |(go_at_call 78;(with_reducible refine HP.o.mono ?_);rintro e w1 ⟨rfl,rfl⟩)
  |(go_at_call 84;(with_reducible refine HS.o.mono ?_);rintro e w1 ⟨sv,rfl,ho,hr⟩;rw[HT.o]at ho;obtain⟨A,c,rfl⟩:=uI ho;have HR:=Hd hr;clear ho hr))
 go_loopw [12] (fun s12 wr=>s12=.int .i64 0∧wr=w1) (fun _ _=>0)
 case atStart=>exact⟨rfl,rfl⟩
 case round=>
  obtain⟨rfl,rfl⟩:=hrel
  go_wp2
  go_end0
  have h1:=HO.o.withAq (HO.o.a.paged HR.o);have e:{t with s0:={t.s0 with pg:={t.s0.pg with told:=[]}}}=t:=by rw[←HT.o]
  rw[e]at h1;exact⟨rfl,h1⟩
def ChPq(base:Nat)(w:World)(v:Tv)(t:Tm)(e:Ending)(w':World):Prop:=∃A c,e=.returned (.slice A t.ch.length c)∧w'.ownsRow base 96 10 (.slice A t.ch.length c) t.ch.length (uY Uj t.ch)∧zZ base w v {t with ch:=[]} w'
set_option maxHeartbeats 1600000 in
theorem Qj(h:TmO base w v t)(ht:t.s0.pg.told=[]):Calls jG 18 #[.pointer (some ⟨v.M,0,none⟩)] w (ChPq base w v t):=by
 have HD:=Hd (VY h ht);clear h ht
 go_enter Tryz.func18,Tryz.ntmps18
 go_upto_region 4 with(go_at_call 44;(with_reducible refine HD.o.mono ?_);rintro e w1 ⟨rfl,hr⟩;obtain⟨v1,hQ,hV,hO,hm⟩:=hr;have HQ:=Hd hQ;have HV:=Hd hV;have HO:=Hd hO;have HM:=Hd hm;clear hQ hV hO hm)
 obtain⟨-,-,-,-,-,-,-,-,⟨c8,f8⟩⟩:=HO.o.facts;rw[HV.o.M]at c8 f8;obtain⟨A,c,hvc⟩:=uI HO.o.ch;rw[hvc]at c8;have HC:=Hd (show w1.ownsRow base 96 10 (.slice A t.ch.length c) t.ch.length (uY Uj t.ch)from by rw[←hvc];exact HO.o.ch);have HR:Hid (zZ base w v {t with ch:=[]} (w1.setCell ⟨v.M,8,none⟩ (.slice none 0 0))):=Hd (by
  refine zZ.trans HQ.o HV.o HM.o (HO.o.putq (t':={t with ch:=[]}) (v':={v1 with vc:=.slice none 0 0}) rfl rfl rfl rfl HO.o.ad (.inl ⟨rfl,rfl⟩) (.inr ⟨rfl,rfl⟩) rfl rfl rfl (by rw[HV.o.M];exact(Mod.refl _ _).setCell (a:=⟨v.M,8,none⟩) (.inl qV) _) ?_);have :=vL (o:=8) (v:=.slice none 0 0) HO.o.blk;rw[jZ]at this;rw[HV.o.M]at this ⊢;exact this)
 have HC2:Hid ((w1.setCell ⟨v.M,8,none⟩ (.slice none 0 0)).ownsRow base 96 10 (.slice A t.ch.length c) t.ch.length (uY Uj t.ch)):=Hd (kC HC.o ((Mod.refl [v.M] _).setCell (a:=⟨v.M,8,none⟩) (.inl qV) _) (fun g hg hx=>HO.o.mc (by rw[HV.o.M,hvc,←jW.1 hx];exact hg)));clear hvc
 go_wp2
 go_ret
 exact⟨A,c,rfl,HC2.o,HR.o⟩
theorem XB(h:TmO base w v t):Calls jG 16 #[.pointer (some ⟨v.M,0,none⟩)] w fun e w'=>e=.returned (.string t.title)∧w=w':=by
 obtain⟨-,-,-,-,-,⟨c5,-⟩,-⟩:=h.facts;clear h
 go_enter Tryz.func16,Tryz.ntmps16
 go_wp2
 go_ret
 exact⟨rfl,rfl⟩
theorem XC(h:TmO base w v t):Calls jG 14 #[.pointer (some ⟨v.M,0,none⟩)] w fun e w'=>e=.returned (.agg #[.int .u32 t.modes])∧Below w.heap.size w w':=by
 obtain⟨-,-,-,-,⟨c4,-⟩,-⟩:=h.facts;obtain⟨W,hW⟩:∃W,w.alloc (.cells #[.int .u32 0] 40)=W:=⟨_,rfl⟩;have HB0:Hid (Below w.heap.size w W):=Hd (by rw[←hW];exact jH (jU _ _) _);have HN0:Hid (W.heap[w.heap.size]? =some (.cells #[.int .u32 0] 40 (0,0))):=Hd (by rw[←hW];exact jA rfl);have c4w:W.cell? ⟨v.M,4,none⟩=some (.int .u32 t.modes):=kZ HB0.o c4;obtain⟨r0,rf0⟩:=at_ HN0.o 0 (.int .u32 0) rfl;generalize t.modes=m at c4 c4w ⊢;clear h c4
 go_enter Tryz.func14,Tryz.ntmps14
 go_wp2
 exact bodyPost_ret (bY rfl _ _ w.heap.size [.int .u32 m] rfl (uU (kA (cs:=[.int .u32 0]) HN0.o 0 (.int .u32 m) rfl)) Tryz.underlying40 rfl aB) rfl ⟨rfl,uK HB0.o (jD _) _⟩
set_option maxHeartbeats 1600000 in
theorem bstr0(b o c:Nat)(A:Option Addr)(w:World)(h:w.cell? ⟨b,o+1,none⟩=some (.slice A 0 c))(hA:∀a,A=some a→∃sh,w.shape? a.block=some sh):
 Calls jG 42 #[.pointer (some ⟨b,o,none⟩)] w fun e w'=>e=.returned (.string ⟨#[]⟩)∧Below w.heap.size w w':=by
 have mixed:jG.follows .mixedOrders=true:=by kernel_rfl
 have hUS:∀(p:Option Addr) (W:World),(Builtin.unsafeString_ #[146,3] 9 #[.pointer p,.int .i64 0]).run jG W=.ok (.string .empty) W:=fun p W=>Lib.run_unsafeString_none W _ _ _ p;have c1:w.drew.cell? ⟨b,o+1,none⟩=some (.slice A 0 c):=h;cases A with
 |none=>
  have hSD:∀W:World,(Builtin.unsafeSliceData_ #[23] 146 #[.slice none 0 c]).run jG W=.ok (.pointer none) W:=fun W=>Lib.run_unsafeSliceData_nil W _ _ _ _;clear hA h
  go_enter Tryz.func42,Tryz.ntmps42
  go_wp2
  go_region_o
  all_goals(go_wp2;go_ret;exact⟨rfl,Below.drew (jU _ w)⟩)
 |some a=>
  by_cases hc:c=0
  · subst hc;obtain⟨sh,hsh⟩:=hA a rfl;have hSD:(Builtin.unsafeSliceData_ #[23] 146 #[.slice (some a) 0 0]).run jG w.drew=.ok (.pointer (some ⟨w.heap.size,0,none⟩)) (w.drew.alloc (.view a 5)):=Lib.run_unsafeSliceData_zero w.drew _ _ _ Tryz.underlying146 a 0 sh hsh;have c2:(w.alloc (.view a 5)).cell? ⟨b,o+1,none⟩=some (.slice (some a) 0 0):=kZ ((jU _ _).alloc (jD _) _) h;clear hA h
    go_enter Tryz.func42,Tryz.ntmps42
    go_wp2
    go_region_o
    all_goals(go_wp2;go_ret;exact⟨rfl,Below.alloc (Below.drew (jU _ w)) (jD _) _⟩)
  · have hSD:∀W:World,(Builtin.unsafeSliceData_ #[23] 146 #[.slice (some a) 0 c]).run jG W=.ok (.pointer (some a)) W:=fun W=>Lib.run_unsafeSliceData_row W _ _ _ _ _ hc;clear hA h
    go_enter Tryz.func42,Tryz.ntmps42
    go_wp2
    go_region_o
    all_goals(go_wp2;go_ret;exact⟨rfl,Below.drew (jU _ w)⟩)
set_option maxHeartbeats 1600000 in
theorem VG(h:TmO base w v t)(hr:t.rep=[]):Calls jG 17 #[.pointer (some ⟨v.M,0,none⟩)] w fun e w'=>e=.returned (.string ⟨#[]⟩)∧zZ base w v t w':=by
 obtain⟨-,-,-,-,-,-,-,⟨c7,-⟩,-⟩:=h.facts;have hbu:=h.bu;rw[hr]at hbu;obtain⟨A,c,hA,hsh⟩:∃A c,v.bf=.slice A 0 c∧∀a,A=some a→∃sh,w.shape? a.block=some sh:=by
  rcases hbu.2 with⟨e,-⟩|⟨g,cap,cur,e,-,hg,-⟩
  · exact⟨none,0,e,fun a ha=>by cases ha⟩
  · exact⟨_,cap,e,fun a ha=>by cases ha;exact⟨(5,cur.size),by simp[World.shape?,hg]⟩⟩
 rw[hA]at c7;have HST:=Hd (bstr0 v.M 6 c A w c7 hsh);have HO:=Hd h;have HREP:=Hd hr;clear h hr hbu hA hsh c7
 go_enter Tryz.func17,Tryz.ntmps17
 go_upto_region 4 with(go_at_call 42;(with_reducible refine HST.o.mono ?_);rintro e w1 ⟨rfl,hb⟩;have HB:=Hd hb;clear hb)
 have HO1:=Hd (HO.o.below HB.o);have HRS:Hid (Calls jG 43 #[.pointer (some ⟨v.M,6,none⟩)] w1 fun e w'=>e=.returned (.tuple #[])∧w'=(w1.setCell ⟨v.M,6,none⟩ (.pointer none)).setCell ⟨v.M,7,none⟩ (.slice none 0 0)):=Hd (by
  obtain⟨-,-,-,-,-,-,⟨c6,f6⟩,⟨c7,f7⟩,-⟩:=HO1.o.facts;have d7:=pQ (b':=v.M) (i':=6) (u:=.pointer none) ⟨c7,f7⟩ (.inr qZ);clear HO HO1 HST HB
  go_enter Tryz.func43,Tryz.ntmps43
  go_wp2
  go_end0
  exact⟨rfl,rfl⟩)
 have HF:Hid (zZ base w v t ((w1.setCell ⟨v.M,6,none⟩ (.pointer none)).setCell ⟨v.M,7,none⟩ (.slice none 0 0))):=Hd (by
  refine zZ.pre HB.o ?_;refine HO1.o.putq (t':=t) (v':={v with ba:=.pointer none,bf:=.slice none 0 0}) rfl rfl rfl rfl (.inl rfl) (.inr ⟨rfl,HREP.o⟩) (.inl ⟨rfl,rfl⟩) rfl rfl rfl (((Mod.refl _ _).setCell (a:=⟨v.M,6,none⟩) (.inl qV) _).setCell (a:=⟨v.M,7,none⟩) (.inl qV) _) ?_;have h1:=vL (o:=6) (v:=.pointer none) HO1.o.blk;have h2:=vL (o:=7) (v:=.slice none 0 0) h1;exact h2)
 clear HST
 go_wp2_with(go_at_call 43;(with_reducible refine HRS.o.mono ?_);rintro e w2 ⟨rfl,rfl⟩)
 go_ret
 exact⟨rfl,HF.o⟩
end
def Wh(p:List Cl):Prop:=∀q,uQ (p++q)=p++uQ q
theorem Wh.nil:Wh []:=fun _=>rfl
theorem Wh.app{p q:List Cl}(h1:Wh p)(h2:Wh q):Wh (p++q):=fun r=>by rw[kG,h1,h2,kG]
theorem Wh.one{c:Cl}(h:c.half=0):Wh [c]:=fun q=>zG h q
theorem Wh.two{c d:Cl}(h:yR c d=true):Wh [c,d]:=fun q=>by
 have h1:c.half=1:=by
  unfold yR at h;simp only[Bool.and_eq_true,decide_eq_true_eq]at h;exact h.1.1
 show uQ (c::d::q)=c::d::uQ q;rw[bW,if_neg qJ,if_pos h]
theorem Wh.rep{c:Cl}(h:c.half=0):∀k,Wh (kW k c)
 |0=>Wh.nil
 |k+1=>by
  rw[List.replicate_succ];exact(Wh.one h).app (Wh.rep h k)
theorem Wh.zeros(k:Nat):Wh (gC k):=Wh.rep rfl k
theorem Wh.mend{p:List Cl}(h:Wh p):uQ p=p:=by
 have :=h []
 rwa[List.append_nil,show uQ []=[]from rfl,List.append_nil]at this
theorem KP(r:Int)(m:ByteArray)(a:Atr):yR (gY r m 1 a) (gY r m 2 a)=true:=by
 unfold yR gY;simp
theorem tX{c d:Cl}(h:yR c d=true):c.half=1∧d.half=2∧c={d with half:=1}:=by
 unfold yR at h;simp only[Bool.and_eq_true,decide_eq_true_eq]at h;exact⟨h.1.1,h.1.2,h.2⟩
theorem UL(c:Cl):gY c.r c.more c.half (vB c)=c:=rfl
theorem oZ(k:Nat):gC (k+1)=zeC::gC k:=List.replicate_succ
section
variable {p:List Cl}
theorem qQ7(hp:Wh p)(k:Nat)(r:Int)(a:Atr)(hw:gZ r=1):eI (p++gC (k+1)) p.length r a=p++gY r kU 0 a::gC k:=by
 have e:uQ (p++gC (k+1))=p++gC (k+1):=(hp.app (Wh.zeros _)).mend;unfold eI;rw[e];simp only[];rw[if_pos ⟨hw,by omega,by simp[gC];omega⟩,vQ,List.set_append_right _ _ (jD _),Nat.sub_self,oZ,jX];rw[hp,zG rfl,(Wh.zeros k).mend]
theorem qQ6(hp:Wh p)(k:Nat)(r:Int)(a:Atr)(hw:gZ r=2):eI (p++gC (k+2)) p.length r a=p++gY r kU 1 a::gY r kU 2 a::gC k:=by
 have e:uQ (p++gC (k+2))=p++gC (k+2):=(hp.app (Wh.zeros _)).mend;unfold eI;rw[e];simp only[];rw[if_neg qJ,if_pos ⟨hw,by omega,by simp[gC];omega⟩,vQ,List.set_append_right _ _ (jD _),Nat.sub_self,oZ,jX,List.set_append_right _ _ qJ,show p.length+1-p.length=0+1 by omega,jY,oZ,jX];have :=(hp.app ((Wh.two (KP r kU a)).app (Wh.zeros k))).mend;simpa using this
theorem Wr(hp:Wh p)(k:Nat){r q:Int}{m:ByteArray}(a:Atr)(hr:r≠0)(hw:gZ q=0)(hm:(m++vO q).size≤32):
 cH (p++gY r m 0 a::gC k) p.length q=p++gY r (m++vO q) 0 a::gC k:=by
 have e:uQ (p++gY r m 0 a::gC k)=p++gY r m 0 a::gC k:=(hp.app ((Wh.one (c:=gY r m 0 a) rfl).app (Wh.zeros k))).mend;have e2:uQ (p++gY r (m++vO q) 0 a::gC k)=p++gY r (m++vO q) 0 a::gC k:=(hp.app ((Wh.one (c:=gY r (m++vO q) 0 a) rfl).app (Wh.zeros k))).mend;unfold cH;rw[e];simp only[vQ];rw[kT (jD _),Nat.sub_self,List.getElem?_cons_zero];simp only[];rw[if_neg (by
  rintro(h|h|h|h)
  · omega
  · exact hr h
  · exact h hw
  · have :(m++vO q).size≤32:=hm;exact absurd h (by show ¬32<(m++vO q).size;omega))]
 have hmo:=fD p (gY r m 0 a::gC k) 0 (gA (m++vO q));rw[uS]at hmo;rw[if_neg (by show ¬(0:Int)=1;decide),if_neg (by show ¬(0:Int)=2;decide)];show uQ ((p++gY r m 0 a::gC k).modify p.length (gA (m++vO q)))=_;rw[hmo];exact e2
theorem Wo(hp:Wh p)(k:Nat){r q:Int}{m:ByteArray}(a:Atr)(hr:r≠0)(hw:gZ q=0)(hm:(m++vO q).size≤32):
 cH (p++gY r m 1 a::gY r m 2 a::gC k) ((p.length+1:Nat):Int) q=p++gY r (m++vO q) 1 a::gY r (m++vO q) 2 a::gC k:=by
 have e:uQ (p++gY r m 1 a::gY r m 2 a::gC k)=p++gY r m 1 a::gY r m 2 a::gC k:=(hp.app ((Wh.two (KP r m a)).app (Wh.zeros k))).mend;have e2:uQ (p++gY r (m++vO q) 1 a::gY r (m++vO q) 2 a::gC k)=p++gY r (m++vO q) 1 a::gY r (m++vO q) 2 a::gC k:=(hp.app ((Wh.two (KP r (m++vO q) a)).app (Wh.zeros k))).mend;unfold cH;rw[e];simp only[vQ];rw[kT qJ,show p.length+1-p.length=0+1 by omega,List.getElem?_cons_succ,List.getElem?_cons_zero];simp only[];rw[if_neg (by
  rintro(h|h|h|h)
  · omega
  · exact hr h
  · exact h hw
  · have :(m++vO q).size≤32:=hm;exact absurd h (by show ¬32<(m++vO q).size;omega))]
 have hm0:=fD p (gY r m 1 a::gY r m 2 a::gC k) 0 (gA (m++vO q));rw[uS]at hm0;have hm1:=fD p (gY r (m++vO q) 1 a::gY r m 2 a::gC k) 1 (gA (m++vO q));rw[if_neg (by show ¬(2:Int)=1;decide),if_pos (show(gY r m 2 a).half=2 from rfl)];show uQ (((p++gY r m 1 a::gY r m 2 a::gC k).modify (p.length+1-1) (gA (m++vO q))).modify (p.length+1) (gA (m++vO q)))=_;rw[Nat.add_sub_cancel,hm0];show uQ ((p++gY r (m++vO q) 1 a::gY r m 2 a::gC k).modify (p.length+1) (gA (m++vO q)))=_;rw[hm1];exact e2
end
theorem aZ{xs:List Int}(hx:∀x∈xs,0≤x∧x<256):zT (strOfNums xs)=xs:=by
 unfold zT strOfNums;simp only[List.map_map]
 conv=>rhs;rw[←List.map_id xs]
 refine List.map_congr_left (fun x h=>?_);have :=hx x h;show((UInt8.ofNat x.toNat).toNat:Int)=x;rw[UInt8.toNat_ofNat'];omega
theorem WI{r:Int}(h:gD r=true):zT (vO r)=vK r:=by
 rw[lG r h,aZ (dA r h)]
theorem Vv{r:Int}(h:gD r=true)(L:List Int):strOfNums ((r::L).flatMap vK)=vO r++strOfNums (L.flatMap vK):=by
 rw[List.flatMap_cons,←yS,lG r h]
theorem wB(a b c:ByteArray):a++b++c=a++(b++c):=by
 apply ByteArray.ext;simp
section
variable {st:List Bool}{cols:Nat}{y:Nat}
theorem iJ{scr:List (List Cl)}{l:List Cl}(h:scr[y]? =some l):scr.set y l=scr:=by
 apply gU;intro i;rw[List.getElem?_set]
 split
 · next hi=>
   subst hi;rw[if_pos (jP.1 h).1,h]
 · rfl
theorem dL{scr:List (List Cl)}{l:List Cl}(hy:y<scr.length):(scr.set y l)[y]? =some l:=by
 rw[List.getElem?_set,if_pos rfl,if_pos hy]
theorem wG{p:List Cl}(hp:Wh p)(k:Nat){r:Int}{a:Atr}(ha:gQ a)(hr:r≠0):∀(L:List Int) (m:ByteArray) (scr:List (List Cl)) (la:Int),scr[y]? =some (p++gY r m 0 a::gC k)→p.length+1≤cols→(∀q∈L,gD q=true∧gZ q=0)→(m++strOfNums (L.flatMap vK)).size≤32→
 pB (dS st cols scr a y (p.length+1) la) (L.flatMap vK) (dS st cols (scr.set y (p++gY r (m++strOfNums (L.flatMap vK)) 0 a::gC k)) a y (p.length+1) la)
 |[],m,scr,la,h,hx,_,_=>by
  rw[show m++strOfNums (([]:List Int).flatMap vK)=m from by apply ByteArray.ext;simp[strOfNums],iJ h];exact pB.refl _
 |q::L,m,scr,la,h,hx,hL,hz=>by
  obtain⟨q1,q2⟩:=hL q (List.mem_cons_self ..);have hy:=(jP.1 h).1;rw[Vv q1,←wB]at hz ⊢;have hz2:(m++vO q).size≤32:=by rw[ByteArray.size_append]at hz;omega
  have h1:=Ju (st:=st) (cols:=cols) (a:=a) (la:=la) h q2 hx ha;rw[show((p.length+1:Nat):Int)-1=(p.length:Int) by omega,Wr hp k a hr q2 hz2]at h1;have h2:=wG hp k ha hr L (m++vO q) (scr.set y (p++gY r (m++vO q) 0 a::gC k)) la (dL hy) hx (fun x hx=>hL x (List.mem_cons_of_mem _ hx)) hz;rw[List.set_set]at h2;exact h1.trans h2
theorem wY{p:List Cl}(hp:Wh p)(k:Nat){r:Int}{a:Atr}(ha:gQ a)(hr:r≠0):∀(L:List Int) (m:ByteArray) (scr:List (List Cl)) (la:Int),scr[y]? =some (p++gY r m 1 a::gY r m 2 a::gC k)→p.length+2≤cols→(∀q∈L,gD q=true∧gZ q=0)→(m++strOfNums (L.flatMap vK)).size≤32→
 pB (dS st cols scr a y (p.length+2) la) (L.flatMap vK) (dS st cols (scr.set y (p++gY r (m++strOfNums (L.flatMap vK)) 1 a::gY r (m++strOfNums (L.flatMap vK)) 2 a::gC k)) a y (p.length+2) la)
 |[],m,scr,la,h,hx,_,_=>by
  rw[show m++strOfNums (([]:List Int).flatMap vK)=m from by apply ByteArray.ext;simp[strOfNums],iJ h];exact pB.refl _
 |q::L,m,scr,la,h,hx,hL,hz=>by
  obtain⟨q1,q2⟩:=hL q (List.mem_cons_self ..);have hy:=(jP.1 h).1;rw[Vv q1,←wB]at hz ⊢;have hz2:(m++vO q).size≤32:=by rw[ByteArray.size_append]at hz;omega
  have h1:=Ju (st:=st) (cols:=cols) (a:=a) (la:=la) h q2 hx ha;rw[show((p.length+2:Nat):Int)-1=((p.length+1:Nat):Int) by omega,Wo hp k a hr q2 hz2]at h1;have h2:=wY hp k ha hr L (m++vO q) (scr.set y (p++gY r (m++vO q) 1 a::gY r (m++vO q) 2 a::gC k)) la (dL hy) hx (fun x hx=>hL x (List.mem_cons_of_mem _ hx)) hz;rw[List.set_set]at h2;exact h1.trans h2
theorem gL.right{c:Cl}(h:gL c):gQ (vB c):=h.2.1
theorem gL.blank{c:Cl}(h:gL c)(hr:c.r=0):c=vE (rX (vB c)):=by
 obtain⟨h1,-,h3⟩:=h;obtain⟨f1,f2,f3⟩:=h3 hr;rcases h1 with⟨-,e1,e2⟩|⟨h1,-⟩
 · obtain⟨r,more,half,fk,fn,bk,bn,fl⟩:=c;simp only at hr e1 e2 f1 f2 f3;subst hr e1 e2 f1 f2 f3;rfl
 · exact absurd hr h1
theorem gL.marks{c:Cl}(h:gL c)(hr:c.r≠0):(∃L:List Int,(∀r∈L,gD r=true∧gZ r=0)∧c.more=strOfNums (L.flatMap vK)∧c.more.size≤32)∧(c.half=0∧gZ c.r=1∨c.half=1∧gZ c.r=2∨c.half=2∧gZ c.r=2):=by
 rcases h.1 with⟨h1,-⟩|⟨-,h2,h3⟩
 · exact absurd h1 hr
 · exact⟨h2,h3⟩
theorem Zj{c:Cl}{L:List Int}(h:∀r∈L,gD r=true∧gZ r=0)(hm:c.more=strOfNums (L.flatMap vK))(hs:gD c.r=true):fP c=vK c.r++L.flatMap vK:=by
 unfold fP;rw[WI hs,hm,aZ (fun x hx=>by
  obtain⟨r,h1,h2⟩:=List.mem_flatMap.1 hx;exact dA r (h r h1).1 x h2)]
theorem Kg(m:ByteArray):kU++m=m:=by apply ByteArray.ext;simp
theorem QQ{p:List Cl}(hp:Wh p)(k:Nat){c:Cl}(hc:gL c)(hr:c.r≠0)(h0:c.half=0){on:Atr}(hon:gQ on){scr:List (List Cl)}(la:Int)(h:scr[y]? =some (p++gC (k+1)))(hx:p.length+(k+1)=cols):
 pB (dS st cols scr on y p.length la) (pP on (vB c)++fP c) (dS st cols (scr.set y (p++c::gC k)) (vB c) y (p.length+1) c.r):=by
 have hy:=(jP.1 h).1;obtain⟨⟨L,hL,hm,hz⟩,hw⟩:=hc.marks hr;have hw1:gZ c.r=1:=by omega
 rw[Zj hL hm (rB qJ).1];have h1:=nH (st:=st) (cols:=cols) (la:=la) (x:=p.length) hy qJ hon hc.right;have h2:=ZR (st:=st) (cols:=cols) (la:=la) (a:=vB c) (x:=p.length) h 1 hw1 qZ qJ hc.right;rw[qQ7 hp k c.r (vB c) hw1]at h2;have h3:=wG (st:=st) (cols:=cols) hp k hc.right hr L kU _ c.r (dL hy) qJ hL (by rw[Kg,←hm];exact hz);rw[Kg,←hm,List.set_set,←h0,UL]at h3;rw[h0]at h3;exact h1.trans (h2.trans h3)
theorem YP{p:List Cl}(hp:Wh p)(k:Nat){c d:Cl}(hc:gL c)(hr:c.r≠0)(hcd:yR c d=true){on:Atr}(hon:gQ on){scr:List (List Cl)}(la:Int)(h:scr[y]? =some (p++gC (k+2)))(hx:p.length+(k+2)=cols):
 pB (dS st cols scr on y p.length la) (pP on (vB c)++fP c) (dS st cols (scr.set y (p++c::d::gC k)) (vB c) y (p.length+2) c.r):=by
 have hy:=(jP.1 h).1;obtain⟨p1,p2,p3⟩:=tX hcd;obtain⟨⟨L,hL,hm,hz⟩,hw⟩:=hc.marks hr;have hw1:gZ c.r=2:=by omega
 rw[Zj hL hm (rB qJ).1];have h1:=nH (st:=st) (cols:=cols) (la:=la) (x:=p.length) hy qJ hon hc.right;have h2:=ZR (st:=st) (cols:=cols) (la:=la) (a:=vB c) (x:=p.length) h 2 hw1 qZ qJ hc.right;rw[qQ6 hp k c.r (vB c) hw1]at h2;have h3:=wY (st:=st) (cols:=cols) hp k hc.right hr L kU _ c.r (dL hy) qJ hL (by rw[Kg,←hm];exact hz);rw[Kg,←hm,List.set_set]at h3;have e1:gY c.r c.more 1 (vB c)=c:=by rw[←p1];exact UL c
 have e2:gY c.r c.more 2 (vB c)=d:=by
  rw[p3];obtain⟨r,more,half,fk,fn,bk,bn,fl⟩:=d;simp only at p2;subst p2;rfl
 rw[e1,e2]at h3;exact h1.trans (h2.trans h3)
def Gly:List Cl→Prop
 |[]=>True
 |[c]=>c.half=0
 |c::d::l=>(c.half=0∧Gly (d::l))∨(yR c d=true∧Gly l)
theorem Gly.wh:∀{l:List Cl},Gly l→Wh l
 |[],_=>Wh.nil
 |[_],h=>Wh.one h
 |c::d::l,h=>by
  have h:(c.half=0∧Gly (d::l))∨(yR c d=true∧Gly l):=h;rcases h with⟨h1,h2⟩|⟨h1,h2⟩
  · exact(Wh.one h1).app h2.wh
  · exact(Wh.two h1).app h2.wh
theorem rK:∀(seg:List Cl),Gly seg→(∀c∈seg,gL c∧c.r≠0)→∀(p:List Cl) (k:Nat) (on:Atr) (la:Int) (scr:List (List Cl)),Wh p→gQ on→scr[y]? =some (p++gC (seg.length+k))→p.length+(seg.length+k)=cols→
 ∃la',pB (dS st cols scr on y p.length la) (vH on seg).1 (dS st cols (scr.set y (p++(seg++gC k))) (vH on seg).2 y (p.length+seg.length) la')∧gQ (vH on seg).2
 |[],_,_,p,k,on,la,scr,_,hon,h,_=>by
  refine⟨la,?_,hon⟩;rw[show([]:List Cl).length+k=k by simp]at h;rw[show([]:List Cl)++gC k=gC k from rfl,iJ h];exact pB.refl _
 |[c],hg,hok,p,k,on,la,scr,hp,hon,h,hx=>by
  have h0:c.half=0:=hg;obtain⟨c1,c2⟩:=hok c (jW.2 rfl);have e:vH on [c]=(pP on (vB c)++fP c,vB c):=by
   show(if c.half=2 then _ else _)=_;rw[if_neg qJ];simp[vH]
  rw[e];rw[show[c].length+k=k+1 by simp;omega]at h hx;exact⟨c.r,QQ hp k c1 c2 h0 hon la h hx,c1.right⟩
 |c::d::l,hg,hok,p,k,on,la,scr,hp,hon,h,hx=>by
  have hg:(c.half=0∧Gly (d::l))∨(yR c d=true∧Gly l):=hg;have hy:=(jP.1 h).1;obtain⟨c1,c2⟩:=hok c (List.mem_cons_self ..);rcases hg with⟨h0,h1⟩|⟨h0,h1⟩
  · have e:vH on (c::d::l)=(pP on (vB c)++(fP c++(vH (vB c) (d::l)).1),(vH (vB c) (d::l)).2):=by
     show(if c.half=2 then _ else _)=_;rw[if_neg qJ]
    rw[e];have z1:(c::d::l).length+k=((d::l).length+k)+1:=by simp;omega
    rw[z1]at h hx;have f1:=QQ (st:=st) (y:=y) hp _ c1 c2 h0 hon la h hx;obtain⟨la',f2,f3⟩:=rK (d::l) h1 (fun x hx=>hok x (List.mem_cons_of_mem _ hx)) (p++[c]) k (vB c) c.r (scr.set y (p++c::gC ((d::l).length+k))) (hp.app (Wh.one h0)) c1.right (by rw[dL hy];simp) (by simp at hx ⊢;omega);refine⟨la',?_,f3⟩;rw[List.set_set]at f2;have z2:p.length+(c::d::l).length=(p++[c]).length+(d::l).length:=by simp;omega
    have z3:p++(c::d::l++gC k)=p++[c]++(d::l++gC k):=by simp
    rw[z2,z3,←kG];rw[show p.length+1=(p++[c]).length by simp]at f1;exact f1.trans f2
  · obtain⟨p1,p2,p3⟩:=tX h0;have e:vH on (c::d::l)=(pP on (vB c)++(fP c++(vH (vB c) l).1),(vH (vB c) l).2):=by
     show(if c.half=2 then _ else(pP on (vB c)++(fP c++(vH (vB c) (d::l)).1),(vH (vB c) (d::l)).2))=_;rw[if_neg qJ,show vH (vB c) (d::l)=vH (vB c) l from by show(if d.half=2 then _ else _)=_;rw[if_pos p2]]
    rw[e];have z1:(c::d::l).length+k=(l.length+k)+2:=by simp;omega
    rw[z1]at h hx;have f1:=YP (st:=st) (y:=y) hp _ c1 c2 h0 hon la h hx;obtain⟨la',f2,f3⟩:=rK l h1 (fun x hx=>hok x (List.mem_cons_of_mem _ (List.mem_cons_of_mem _ hx))) (p++[c,d]) k (vB c) c.r (scr.set y (p++c::d::gC (l.length+k))) (hp.app (Wh.two h0)) c1.right (by rw[dL hy];simp) (by simp at hx ⊢;omega);refine⟨la',?_,f3⟩;rw[List.set_set]at f2;have z2:p.length+(c::d::l).length=(p++[c,d]).length+l.length:=by simp;omega
    have z3:p++(c::d::l++gC k)=p++[c,d]++(l++gC k):=by simp
    rw[z2,z3,←kG];rw[show p.length+2=(p++[c,d]).length by simp]at f1;exact f1.trans f2
end
end Go.Proofs.YtaefcahblmopfaaGreatDoor
