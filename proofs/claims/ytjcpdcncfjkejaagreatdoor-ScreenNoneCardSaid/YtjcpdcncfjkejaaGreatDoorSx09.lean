/- Joined by a tool of this claim out of smaller texts. Conditions: as stated. -/
import Derived.Test.YtjcpdcncfjkejaaGreatDoorSx05
set_option linter.unusedVariables false
set_option linter.unusedSimpArgs false
set_option maxRecDepth 100000
open Go.Lib renaming hid → Hd
open Go.Proofs.Tryz renaming prog → jG, underlying154 → uH, underlying95 → uT, underlying40 → vN
open Go.RowKit.Below renaming refl → jU
open Go.IntWalk renaming i64_in → jH
open List renaming drop_succ_cons → jB, getElem?_eq_getElem → jD, drop_zero → jF, mem_singleton → jR, getElem?_eq_some_iff → jE, length_append → jI, replicate → kJ, mem_cons → kW, getD_eq_getElem?_getD → kP, mem_append → kL, getElem?_eq_none → kI, append_assoc → uK, length_set → uG, mem_of_getElem? → uW, getElem?_map → vQ, drop_eq_nil_of_le → vR, take_of_length_le → vT, map_append → gK, getElem?_drop → gV
open Go.IntKind renaming i64 → jP
open Nat renaming le_refl → jS, zero_add → kB, zero_le → kT, le_trans → vY, add_zero → vO
open Option renaming mem_toList → jT
open Go.World renaming ownsRow → kK, setCell → uQ, ownsRow_nil → uE
open And renaming intro → kM
open Array renaming getElem?_eq_some_iff → kF
open Int renaming toNat_natCast → uJ
namespace Go.Proofs.YtjcpdcncfjkejaaGreatDoor
open Go.RowKit
section
variable {base:Nat}{w w1:World}{q:Pv}{g g1:Pg}
theorem eQ{g:Pg}(y:Int)(F:List Cl→List Cl):(pW g y F).scr.length=g.scr.length∧(pW g y F).cols=g.cols:=by
 unfold pW
 split
 · exact⟨by simp,rfl⟩
 · exact⟨rfl,rfl⟩
set_option maxHeartbeats 3200000 in
theorem lJ(h:PgO base w q g)(y x z:Int)(b:Col):Calls jG 126 #[.pointer (some ⟨q.P,0,none⟩),.int .i64 y,.int .i64 x,.int .i64 z,.agg #[.int .i64 b.k,.int .i64 b.n]] w (gY base w q (yU g y x z b)):=by
 have hrows:=h.rows1000;have hlen:=h.len;obtain⟨W,hW⟩:∃W,((w.alloc (.cells #[.int .i64 x] 3)).alloc (.cells #[.int .i64 z] 3)).alloc (.cells #[.int .i64 b.k,.int .i64 b.n] 38)=W:=⟨_,rfl⟩;have hb0:Below w.heap.size w W:=by rw[←hW];exact jW (jW (jW (jU _ _) _) _) _
 have hp0:W.heap[w.heap.size]? =some (.cells #[.int .i64 x] 3 (0,0)):=by rw[←hW];exact uI (uI (kZ rfl))
 have hp1:W.heap[w.heap.size+1]? =some (.cells #[.int .i64 z] 3 (0,0)):=by rw[←hW];exact uI (kZ qV)
 have hp2:W.heap[w.heap.size+2]? =some (.cells #[.int .i64 b.k,.int .i64 b.n] 38 (0,0)):=by rw[←hW];exact kZ qV
 have HB:=Hd hb0;have hO:=h.below hb0;have H0:=Hd hO.res;have HIN:=Hd (rK hO y);have HXb:Hid (∀i,w.heap.size+i∉pgX q):=Hd (fun i hx=>by have :=h.lt _ hx;omega);have HXz:Hid (w.heap.size∉pgX q):=Hd (HXb.o 0);cases hin:inP g y with
 |false=>
  rw[hin]at HIN;have HE:=Hd (show yU g y x z b=g from by unfold yU;rw[hin];rfl);rw[HE.o];clear h hb0 hp0 hp1 hp2 hO
  go_enter Tryz.func126,Tryz.ntmps126
  go_wp2_with(go_at_call 199;refine HIN.o.mono ?_;rintro e w9 ⟨rfl,rfl⟩)
  go_end0
  exact⟨rfl,H0.o.pre HB.o⟩
 |true=>
  rw[hin]at HIN;have hy:0≤y∧y<1000:=by unfold inP at hin;simp at hin;omega
  have HE:=Hd (show yU g y x z b=(if x<g.cols∧(g.cols:Int)≤z then(if x≤0 then vL (vL (pW g y (fun l=>pG l x z b)) (y+1) false) y false else vL (pW g y (fun l=>pG l x z b)) (y+1) false)else pW g y (fun l=>pG l x z b))from by unfold yU;rw[hin];rfl);rw[HE.o];have hwy:jP.wrap (y+1)=y+1:=jH _ qJ;have hc2:=h.cols2;have HA:=Hd (rQ hO y 201 #[.pointer (some ⟨w.heap.size,0,none⟩),.pointer (some ⟨w.heap.size+1,0,none⟩),.pointer (some ⟨w.heap.size+2,0,none⟩)] (fun l=>pG l x z b) (fun l=>lZ l x z b) (fun l hl=>hl.erase x z b) (fun args w=>by kernel_rfl) (fun r w' hb hr hl=>ZZ r x z b _ _ _ w' hr qJ (jA hb (vM hp0 0 _ rfl)) (jA hb (vM hp1 0 _ rfl)) (jA hb (vM hp2 0 _ rfl)) (jA hb (vM hp2 1 _ rfl))));have HX0:=Hd (vM hp0 0 _ rfl);have HX1:=Hd (vM hp1 0 _ rfl);have HP2:Hid (∀w1,pN base W q (pW g y (fun l=>pG l x z b)) w1→w1.cell? ⟨q.P,2,none⟩=some (.int .i64 g.cols)):=Hd (fun w1 hs=>by
   obtain⟨q1,e1,-,hq1,-⟩:=hs;have :=hq1.cells.2.2.1.1;rw[e1,(eQ y _).2]at this;exact this)
  have HPA:=Hd (fun(g1:Pg) (y:Int) (w1:World) (hs:pN base W q g1 w1)=>mK hs y);clear h hb0 hp0 hp1 hp2 hO hin
  by_cases hc:x<g.cols∧(g.cols:Int)≤z
  rotate_left
  · rw[if_neg hc];have HNC:=Hd hc
    by_cases hx:x<g.cols
    · have hz:¬(g.cols:Int)≤z:=fun h=>hc ⟨hx,h⟩;clear hc
      go_enter Tryz.func126,Tryz.ntmps126
      go_upto_region 3 with(first|(go_at_call 199;refine HIN.o.mono ?_;rintro e w9 ⟨rfl,rfl⟩)|(go_at_call 200;(with_reducible refine HA.o.mono ?_);rintro e w1 ⟨rfl,hs⟩;have HS:=Hd hs;have x0:=hs.hold HXz.o HX0.o;have x1:=hs.hold (HXb.o 1) HX1.o;have x2:=HP2.o _ hs;clear hs))
      refine zW3 13 x0 x1 x2 fun w' hS=>?_;have HS:=Hd (HS.o.post hS.1);have x0:=hS.2.1;clear hS x1 x2
      go_wp2
      go_end0
      exact qZo
    · clear hc
      go_enter Tryz.func126,Tryz.ntmps126
      go_upto_region 3 with(first|(go_at_call 199;refine HIN.o.mono ?_;rintro e w9 ⟨rfl,rfl⟩)|(go_at_call 200;(with_reducible refine HA.o.mono ?_);rintro e w1 ⟨rfl,hs⟩;have HS:=Hd hs;have x0:=hs.hold HXz.o HX0.o;have x1:=hs.hold (HXb.o 1) HX1.o;have x2:=HP2.o _ hs;clear hs))
      have hxn:¬x<(g.cols:Int):=by omega
      refine zW3 13 x0 x1 x2 fun w' hS=>?_;have HS:=Hd (HS.o.post hS.1);have x0:=hS.2.1;clear hS x1 x2
      go_wp2
      go_end0
      exact qZo
  rw[if_pos hc];obtain⟨hx,hz⟩:=hc
  by_cases hx0:x≤0
  · rw[if_pos hx0]
    go_enter Tryz.func126,Tryz.ntmps126
    go_upto_region 3 with(first|(go_at_call 199;refine HIN.o.mono ?_;rintro e w9 ⟨rfl,rfl⟩)|(go_at_call 200;(with_reducible refine HA.o.mono ?_);rintro e w1 ⟨rfl,hs⟩;have HS:=Hd hs;have x0:=hs.hold HXz.o HX0.o;have x1:=hs.hold (HXb.o 1) HX1.o;have x2:=HP2.o _ hs;clear hs))
    refine zW3 13 x0 x1 x2 fun w' hS=>?_;have HS:=Hd (HS.o.post hS.1);have x0:=hS.2.1;clear hS x1 x2
    go_wp2_with(go_at_call 203;first
     |(have hpv:=HS4.o;clear hpv;(with_reducible refine(HPA.o _ _ _ HS4.o).mono ?_);rintro e w4 ⟨rfl,hs⟩;have HS5:=Hd hs;clear hs)
     |((with_reducible refine(HPA.o _ _ _ HS.o).mono ?_);rintro e w4 ⟨rfl,hs⟩;have HS4:=Hd hs;have y0:=hs.hold HXz.o HX0.o;clear hs x0))
    go_end0
    exact⟨rfl,HS5.o.pre HB.o⟩
  · rw[if_neg hx0]
    go_enter Tryz.func126,Tryz.ntmps126
    go_upto_region 3 with(first|(go_at_call 199;refine HIN.o.mono ?_;rintro e w9 ⟨rfl,rfl⟩)|(go_at_call 200;(with_reducible refine HA.o.mono ?_);rintro e w1 ⟨rfl,hs⟩;have HS:=Hd hs;have x0:=hs.hold HXz.o HX0.o;have x1:=hs.hold (HXb.o 1) HX1.o;have x2:=HP2.o _ hs;clear hs))
    refine zW3 13 x0 x1 x2 fun w' hS=>?_;have HS:=Hd (HS.o.post hS.1);have x0:=hS.2.1;clear hS x1 x2
    go_wp2_with(go_at_call 203;(with_reducible refine(HPA.o _ _ _ HS.o).mono ?_);rintro e w4 ⟨rfl,hs⟩;have HS4:=Hd hs;have y0:=hs.hold HXz.o HX0.o;clear hs x0)
    go_end0
    exact⟨rfl,HS4.o.pre HB.o⟩
end
section
variable {base:Nat}{w w1:World}{q:Pv}{g g1:Pg}
theorem PgO.grown{vs':Value}{r:Rh}(h:PgO base w q g)(ho:w1.ownsRow base 97 2 vs' (q.S.length+1) (uS yZ (q.S++[r])))(hm:Mod q.vs.ownBlock.toList w w1)(hv:∀b,vs'.ownBlock=some b→q.vs.ownBlock=some b∨w.heap.size≤b)
 (hr:pX w1 r) (hrl:r.cs.length=g.cols) (hz:q.S.length+1≤1000):pN base w q {g with scr:=g.scr++[yA r]} (w1.setCell ⟨q.P,1,none⟩ vs'):=by
 have hvs:∀b,q.vs.ownBlock=some b→∃cur:Array Value,w.heap[b]? =some (.cells cur 97 (0,0)):=fun b hb=>uA h.own hb;have hPv:q.P∉q.vs.ownBlock.toList:=fun hb=>by
  obtain⟨cur,hc⟩:=hvs _ (jT.1 hb);exact qZk
 have hPl:=(kF.1 h.blk).1;have hm2:Mod (q.P::q.vs.ownBlock.toList) w (w1.setCell ⟨q.P,1,none⟩ vs'):=(hm.mono (fun b hb=>by simp[jT.1 hb])).setCell (a:=⟨q.P,1,none⟩) (.inl qV) _;have hX:yD w (q.P::q.vs.ownBlock.toList):=fun b hb cs f he=>by
  refine h.nocel b ?_ cs f he;rcases kW.1 hb with rfl|hb
  · simp[pgX]
  · simp[pgX,jT.1 hb]
 have hblk:=kY (cs:=[.pointer (some ⟨q.R,0,none⟩),q.vs,.int .i64 g.cols,q.vt]) ((hm.block q.P hPl hPv).trans h.blk) 1 vs' (cs':=[.pointer (some ⟨q.R,0,none⟩),vs',.int .i64 g.cols,q.vt]) rfl;have hM1:Mod [q.P] w1 (w1.setCell ⟨q.P,1,none⟩ vs'):=(Mod.refl [q.P] w1).setCell (a:=⟨q.P,1,none⟩) (.inl qV) vs';have hN1:yD w1 [q.P]:=fun b hb cs f he=>by
  rw[jR.1 hb,hm.block q.P hPl hPv]at he;exact qZj
 refine⟨{q with vs:=vs',S:=q.S++[r]},rfl,rfl,⟨hblk,h.hb,h.ring.mod hm2 hX (fun b hb hx=>?_),?_,uL h.told hm2 (fun b hb hx=>?_),fun b hb hb2=>?_,?_,h.hist,fun x hx=>?_,h.cols2,h.cols1000,by show(q.S++[r]).length≤1000;simpa using hz,h.gone0⟩,hm2.mono (fun b hb=>?_),fun b hb=>?_⟩
 · rcases kW.1 hx with rfl|hx
   · rcases kW.1 hb with h1|hb
     · exact uP h.blk h.ring.blk qZ h1
     · obtain⟨cur,hc⟩:=uA h.ring.own (jT.1 hb);exact qZk
   · rcases kW.1 hb with rfl|hb
     · obtain⟨cur,hc⟩:=hvs _ (jT.1 hx);exact uP h.ring.blk hc qZ rfl
     · exact h.apart b (jT.1 hx) (jT.1 hb)
 · have :=uL ho hM1 (fun b hb hx=>by
    have e:=jR.1 hx;rcases hv b hb with h1|h1
    · exact hPv qV7
    · omega)
   simpa using this
 · obtain⟨cur,hc⟩:=uA h.told hb;rcases kW.1 hx with rfl|hx
   · exact qZk
   · obtain⟨cur2,hc2⟩:=hvs _ (jT.1 hx);exact uP hc2 hc qZ rfl
 · rcases hv b hb with h1|h1
   · exact h.apart b h1 hb2
   · have :=(h.ring.own.lt b hb2).2;omega
 · show(q.S++[r]).map yA=g.scr++[yA r];rw[gK,h.scr];rfl
 · rcases kL.1 (show x∈q.S++[r]from hx)with hx|hx
   · exact⟨(h.rows x hx).1.mod hm2 hX,(h.rows x hx).2⟩
   · rw[jR.1 hx];exact⟨hr.mod hM1 hN1,hrl⟩
 · rcases kW.1 hb with rfl|hb
   · simp[pgX]
   · simp[pgX,jT.1 hb]
 · rcases kW.1 hb with rfl|hb
   · exact .inl qVg
   rcases kL.1 hb with hb|hb
   · rcases hv b (jT.1 hb)with h1|h1
     · exact .inl (by simp[pgX,h1])
     · exact .inr h1
   · exact .inl (by simp only[pgX,kW,kL];right;right;simpa using hb)
def bC:Col:=⟨0,0⟩
set_option maxHeartbeats 3200000 in
theorem WH(h:PgO base w q g)(rows:Nat)(hr:rows≤1000):Calls jG 156 #[.pointer (some ⟨q.P,0,none⟩),.int .i64 rows] w (gY base w q {g with scr:=g.scr++kJ (rows-g.scr.length) (gZ g.cols bC)}):=by
 obtain⟨j0,hj,gz0,gz1,gz2⟩:=info_parts iB;have hrows:=h.rows1000;have hlen:=h.len;have hc2:=h.cols2;have hc3:=h.cols1000;have HBK:=Hd (fun w' (x2:w'.cell? ⟨q.P,2,none⟩=some (.int .i64 g.cols))=>sV q.P g.cols bC w' x2 hc2 hc3);have H:=Hd h;clear h;obtain⟨N,hN⟩:∃N,rows-g.scr.length=N:=⟨_,rfl⟩;rw[hN];have HN:=Hd hN;clear hN
 go_enter Tryz.func156,Tryz.ntmps156
 go_wp2_with fail
 go_loopg [10] N (fun k _ wr=>∃i:Nat,i+k=N∧pN base w q {g with scr:=g.scr++kJ i (gZ g.cols bC)} wr)
 case atStart=>exact⟨0,by omega,by simpa using H.o.res⟩
 case round=>
  obtain⟨i,hik,hs⟩:=hrel;have HS:=Hd hs;obtain⟨q1,e1,e2,hq1,hm1,hx1⟩:=hs;obtain⟨A1,c1,hv1⟩:=gU hq1.own;have hl1:q1.S.length=g.scr.length+i:=by rw[hq1.len];simp
  obtain⟨-,⟨x1,x1f⟩,⟨x2,-⟩,-⟩:=hq1.cells;rw[e1]at x1 x1f x2;rw[hv1]at x1;obtain⟨m,hm⟩:∃m,q1.S.length=m:=⟨_,rfl⟩;rw[hm]at x1;have HM:=Hd hm;have hbw:base≤wr.heap.size:=by have :=hq1.lt q1.P qVg;omega
  have hPl:=gO x2
  by_cases hlt:m<rows
  rotate_left
  · have hltI:¬(m:Int)<(rows:Int):=by omega
    have hi:i=N:=by have :=HN.o;omega
    subst hi;clear hm hq1 hm1 hx1
    go_wp2
    go_end0
    exact⟨rfl,HS.o⟩
  · have hltI:(m:Int)<(rows:Int):=by omega
    have HQ:=Hd hq1;have HE:=Hd (kM e1 (kM e2 (kM hm1 hx1)));have HV:=Hd (show q1.vs=.slice A1 m c1 from by rw[←hm];exact hv1);have hNi:i<N:=by have :=HN.o;omega
    have hm1000:m+1≤1000:=by omega
    clear hm hq1 hm1 hx1 hv1 HS
    go_upto_region 1 with fail
    refine Go.RL.wp_region_l 12 (fun w'=>(w'.cell? ⟨q.P,1,none⟩=some (.slice A1 m c1)∧w'.frozen? ⟨q.P,1,none⟩=false)∧w'.cell? ⟨q.P,2,none⟩=some (.int .i64 g.cols)) (fun w'=>Below wr.heap.size wr w') qQ qQ ⟨⟨x1,x1f⟩,x2⟩ ((jU _ _).drew) ?_;refine Go.RL.AtL.go 0 ?_
    iterate 7 (refine Go.RL.AtK.take (o:=⟨_,_,_,_,_,_⟩) (v:=?_) qQ rfl qV qQ qQ ?_ ?_;rotate_left;(focus(refine Go.RL.Pure.val qK ?_;intro w' hI;obtain⟨⟨_,_⟩,_⟩:=hI;go_simp;first|done|with_reducible rfl));refine zP ?_)
    refine Go.RL.AtK.back ?_;refine Go.RL.AtL.one 7 (o:=⟨_,_,_,_,_,_⟩) (fun v=>∃g1 cap,v=.agg #[.slice (some ⟨g1,0,none⟩) g.cols cap,.bool false]) (fun v w'=>∃g1 cap,v=.agg #[.slice (some ⟨g1,0,none⟩) g.cols cap,.bool false]∧Below wr.heap.size wr w'∧pX w' ⟨some ⟨g1,0,none⟩,kJ g.cols (vD bC),cap,false⟩) qV qQ rfl
     (Go.RL.StabL.call 217 #[.pointer (some ⟨q.P,0,none⟩),.agg #[.int .i64 0,.int .i64 0]] _ _ qK ?_ (fun w' hI hS=>?_)) ?_
    · intro w'
      go_simp
    · refine(HBK.o w' hI.2).mono ?_;rintro e w3 ⟨g1,cap,rfl,hr,hb⟩;exact qZp
    rintro v ⟨g1,cap,rfl⟩;refine zP ?_;refine Go.RL.AtL.one 8 (o:=⟨_,_,_,_,_,_⟩) (fun v=>∃k,v=.slice (some ⟨k,0,none⟩) 1 1) (fun v w'=>∃k,v=.slice (some ⟨k,0,none⟩) 1 1∧Below wr.heap.size wr w'∧pX w' ⟨some ⟨g1,0,none⟩,kJ g.cols (vD bC),cap,false⟩∧w'.heap[k]? =some (.cells #[.slice (some ⟨g1,0,none⟩) g.cols cap,.bool false] 97 (0,0))) qV qQ rfl (Go.RL.StabL.op _ _ qK (fun w' hI hS=>?_)) ?_
    · obtain⟨g1',cap',hv',hb,hrc⟩:=hS;simp only[Value.agg.injEq,Array.mk.injEq,List.cons.injEq,Value.slice.injEq,Option.some.injEq,Addr.mk.injEq,and_true,true_and]at hv';obtain⟨rfl,rfl⟩:=hv';have hb2:=jW (jU w'.heap.size w') (.cells #[.slice (some ⟨g1,0,none⟩) g.cols cap,.bool false] 97);exact⟨.slice (some ⟨w'.heap.size,0,none⟩) 1 1,w'.alloc (.cells #[.slice (some ⟨g1,0,none⟩) g.cols cap,.bool false] 97),by go_simp,⟨_,rfl⟩,⟨bQ hb2 hI.1,jA hb2 hI.2⟩,_,rfl,jN hb hb2,hrc.below hb2,kZ rfl⟩
    rintro v ⟨k,rfl⟩;refine zP ?_;refine Go.RL.AtL.one 9 (o:=⟨some 20,.call {callee:=.builtin .append,args:=#[.tmp 15,.tmp 19],argTypes:=#[58,58]},58,_,_,none⟩) (fun v=>∃g' c',v=.slice (some ⟨g',0,none⟩) (m+1) c') (fun v w'=>w'.ownsRow base 97 2 v (m+1) (uS yZ (q1.S++[⟨some ⟨g1,0,none⟩,kJ g.cols (vD bC),cap,false⟩]))∧Mod q1.vs.ownBlock.toList wr w'∧(∀b,v.ownBlock=some b→q1.vs.ownBlock=some b∨wr.heap.size≤b)∧pX w' ⟨some ⟨g1,0,none⟩,kJ g.cols (vD bC),cap,false⟩) qV qQ rfl (Go.RL.StabL.op _ _ qK (fun w' hI hS=>?_)) ?_
    · obtain⟨k',hv',hb,hrc,hk⟩:=hS;simp only[Value.slice.injEq,Option.some.injEq,Addr.mk.injEq,and_true,true_and]at hv';subst hv';have hown:=(HQ.o.below hb).own;rw[HM.o]at hown;obtain⟨v',w3,hr3,ho3,hg3,-,hn3⟩:=run_append_own_at (P:=jG) w' base 58 58 97 j0 _ 2 32 Tryz.underlying58 hj gz0 gz1 gz2 rfl qZ q1.vs m (uS yZ q1.S) hown ⟨k,0,none⟩ 1 1 (yZ ⟨some ⟨g1,0,none⟩,kJ g.cols (vD bC),cap,false⟩) rfl (fun j u hj=>by
       rw[vZ,kB];exact(at_ hk j u qV8).1) (fP _) qJv qJ (vY hbw hb.size)
      obtain⟨g',c',rfl⟩:=gE ho3 qJ;have hvs:∀b,q1.vs.ownBlock=some b→b<wr.heap.size:=fun b hb=>(HQ.o.own.lt b hb).2;have hMg:Mod q1.vs.ownBlock.toList w' w3:=Mod.of_grown hg3 (fun b hb=>by simp[hb]);have hPn:q.P∉q1.vs.ownBlock.toList:=fun hx=>by
       obtain⟨cur,hc⟩:=uA HQ.o.own (jT.1 hx);have :=HQ.o.blk;rw[HE.o.1]at this;exact uP this hc qZ rfl
      have hNC:yD w' q1.vs.ownBlock.toList:=fun b hb' cs f he=>by
       obtain⟨cur,hc⟩:=uA hown (jT.1 hb');exact uP hc he qZ rfl
      refine⟨_,w3,lD _ _ _ rfl _ _ _ rfl rfl (by rw[HV.o]at hr3;exact hr3),⟨g',c',rfl⟩,⟨hMg.hold hPn hI.1,hMg.cell hPn hI.2⟩,?_,(Mod.of_below (X:=q1.vs.ownBlock.toList) hb).trans hMg (fun b hb=>.inl hb),fun b hb'=>?_,hrc.mod hMg hNC⟩
      · rw[uC];exact ho3
      · rcases hn3 with h3|h3
        · exact .inl (by rw[←h3];exact hb')
        · rw[h3]at hb';injection hb' with hb';exact .inr (by have :=hb.size;omega)
    rintro v ⟨g',c',rfl⟩;refine zP ?_;refine Go.RL.AtL.go 10 ?_
    iterate 2 (refine Go.RL.AtK.take (o:=⟨_,_,_,_,_,_⟩) (v:=?_) qQ rfl qV qQ qQ ?_ ?_;rotate_left;(focus(refine Go.RL.Pure.val qK ?_;intro w' hI;obtain⟨⟨_,_⟩,_⟩:=hI;go_simp;first|done|with_reducible rfl));refine zP ?_)
    refine Go.RL.AtK.back ?_;refine Go.RL.AtL.done qQ (fun w' hI hS=>?_);obtain⟨hs1,hs2,hs3,hs4⟩:=hS;rw[←HM.o]at hs1;have HG:=Hd (HQ.o.grown hs1 hs2 hs3 hs4 qV (by rw[HM.o];exact hm1000));rw[HM.o,HE.o.1]at HG;obtain⟨⟨z1,z1f⟩,-⟩:=hI;clear hs1 hs2 hs3 hs4 x1 x1f x2
    go_wp2
    go_roundg (gk-1)
    case rel=>
     refine⟨i+1,by omega,?_⟩;have :=pN.trans ⟨HE.o.1,HE.o.2.1,HE.o.2.2.1,HE.o.2.2.2⟩ HG.o;rw[List.replicate_succ',←uK];exact this
    case measure=>omega
def cX(r c:Int):Bool:=decide (1≤r∧r≤1000∧2≤c∧c≤1000)
theorem Jo(r c:Int)(w:World):Calls jG 155 #[.int .i64 r,.int .i64 c] w fun e w'=>e=.returned (.bool (cX r c))∧w=w':=by
 unfold cX
 by_cases h1:1≤r<;>by_cases h2:r≤1000<;>by_cases h3:2≤c<;>
 · go_enter Tryz.func155,Tryz.ntmps155
   go_wp2
   go_ret
   refine⟨?_,rfl⟩;simp[h1,h2,h3]
   try omega
end
def qQn(rows cols lines:Nat):Pg:=⟨lines,[],0,kJ rows (gZ cols bC),cols,[]⟩
def NewPost(rows cols lines:Nat)(w:World)(e:Ending)(w':World):Prop:=
 ∃q,e=.returned (.tuple #[.pointer (some ⟨q.P,0,none⟩),.int .i64 0])∧PgO w.heap.size w' q (qQn rows cols lines)∧Below w.heap.size w w'
set_option maxHeartbeats 1600000 in
theorem pnew_ok(rows cols lines:Nat)(w:World)(hr1:1≤rows)(hr2:rows≤1000)(hc1:2≤cols)(hc2:cols≤1000)(hl:lines≤100000):
 Calls jG 88 #[.int .i64 rows,.int .i64 cols,.int .i64 lines] w (NewPost rows cols lines w):=by
 have HN:=Hd (Ya lines w hl);have hf:cX rows cols=true:=by unfold cX;simp;omega
 have HF:=Hd (fun w=>Jo rows cols w);rw[hf]at HF;clear hf
 go_enter Tryz.func88,Tryz.ntmps88
 go_upto_region 5 with(first
  |(go_at_call 154;refine HN.o.mono ?_;rintro e w1 ⟨rfl,hro,hb⟩;have HRO:=Hd hro;have HB:=Hd hb;clear hro hb)
  |(go_at_call 155;refine(HF.o _).mono ?_;rintro e w9 ⟨rfl,rfl⟩))
 have hb2:=jW (jU w1.heap.size w1) (.cells #[.pointer (some ⟨w.heap.size,0,none⟩),.slice none 0 0,.int .i64 cols,.slice none 0 0] 111);have hp:(w1.alloc (.cells #[.pointer (some ⟨w.heap.size,0,none⟩),.slice none 0 0,.int .i64 cols,.slice none 0 0] 111)).heap[w1.heap.size]? =some (.cells #[.pointer (some ⟨w.heap.size,0,none⟩),.slice none 0 0,.int .i64 cols,.slice none 0 0] 111 (0,0)):=kZ rfl;have hO:PgO w.heap.size (w1.alloc (.cells #[.pointer (some ⟨w.heap.size,0,none⟩),.slice none 0 0,.int .i64 cols,.slice none 0 0] 111)) ⟨w1.heap.size,w.heap.size,.slice none 0 0,.slice none 0 0,.slice none 0 0,[],[],0,0⟩ ⟨lines,[],0,[],cols,[]⟩:=
  ⟨hp,HB.o.size,HRO.o.below hb2,uE _ _ _ _,uE _ _ _ _,(fun b hb=>by simp[Value.ownBlock]at hb),rfl,rfl,(fun r hr=>by cases hr),hc1,hc2,by simp,Int.le_refl _⟩
 have HFI:=Hd (WH hO rows hr2);have HB2:=Hd (jN HB.o hb2);have HX:=Hd hO.lt;clear hb2 hp hO
 go_wp2_with(go_at_call 156;(with_reducible refine HFI.o.mono ?_);rintro e w3 ⟨rfl,hs⟩;have HS:=Hd hs;clear hs)
 go_ret2
 obtain⟨q,e1,e2,h1,h2,h3⟩:=HS.o;simp only[List.length_nil,Nat.sub_zero,List.nil_append]at h1;refine⟨q,by rw[e1];rfl,h1,HB2.o.trans (h2.below (B:=w.heap.size) (fun b hb=>(HX.o b hb).1) HB2.o.size)⟩
set_option maxHeartbeats 1600000 in
theorem qQd(rows cols lines:Int)(w:World)(h:cX rows cols=false∨lines<0∨100000<lines):
 Calls jG 88 #[.int .i64 rows,.int .i64 cols,.int .i64 lines] w fun e w'=>e=.returned (.tuple #[.pointer none,.int .i64 1])∧Below w.heap.size w w':=by
 have HF:=Hd (fun w=>Jo rows cols w)
 by_cases hl:lines<0∨100000<lines
 · have HN:=Hd (X7 lines w hl);clear h hl;cases hf:cX rows cols with
   |true=>
    rw[hf]at HF;clear hf
    go_enter Tryz.func88,Tryz.ntmps88
    go_wp2_with(first
     |(go_at_call 154;refine HN.o.mono ?_;rintro e w1 ⟨rfl,rfl⟩)
     |(go_at_call 155;refine(HF.o _).mono ?_;rintro e w9 ⟨rfl,rfl⟩))
    go_ret2
    exact⟨rfl,jU _ _⟩
   |false=>
    rw[hf]at HF;clear hf
    go_enter Tryz.func88,Tryz.ntmps88
    go_wp2_with(first
     |(go_at_call 154;refine HN.o.mono ?_;rintro e w1 ⟨rfl,rfl⟩)
     |(go_at_call 155;refine(HF.o _).mono ?_;rintro e w9 ⟨rfl,rfl⟩))
    go_ret2
    exact⟨rfl,jU _ _⟩
 · obtain⟨n,rfl⟩:∃n:Nat,lines=n:=⟨lines.toNat,by omega⟩;have HN:=Hd (Ya n w qJ);have hf:cX rows cols=false:=by
    rcases h with h|h
    · exact h
    · exact absurd h hl
   rw[hf]at HF;clear h hl hf
   go_enter Tryz.func88,Tryz.ntmps88
   go_wp2_with(first
    |(go_at_call 154;refine HN.o.mono ?_;rintro e w1 ⟨rfl,-,hb⟩;have HB:=Hd hb;clear hb)
    |(go_at_call 155;refine(HF.o _).mono ?_;rintro e w9 ⟨rfl,rfl⟩))
   go_ret2
   exact⟨rfl,HB.o⟩
def nL(base:Nat)(w:World)(v:Value)(L:List Rh):Prop:=w.ownsRow base 97 2 v L.length (uS yZ L)∧∀r∈L,pX w r∧0<r.cs.length
theorem nL.below{base:Nat}{w w':World}{v:Value}{L:List Rh}(h:nL base w v L)(hb:Below w.heap.size w w'):nL base w' v L:=⟨uL h.1 (Mod.of_below (X:=[]) hb) (fun _ _ h=>by cases h),fun r hr=>⟨(h.2 r hr).1.below hb,(h.2 r hr).2⟩⟩
theorem nL.push{base:Nat}{w w1:World}{v v':Value}{L:List Rh}{r:Rh}(h:nL base w v L)(ho:w1.ownsRow base 97 2 v' (L.length+1) (uS yZ L++yZ r))(hg:w.grownBy w1 v.ownBlock)(hr:pX w r)(h0:0<r.cs.length):nL base w1 v' (L++[r]):=by
 have hm:Mod v.ownBlock.toList w w1:=Mod.of_grown hg (fun b hb=>by simp[hb]);have hn:yD w v.ownBlock.toList:=fun b hb cs f he=>by
  obtain⟨cur,hc⟩:=uA h.1 (jT.1 hb);exact uP hc he qZ rfl
 refine⟨by rw[uC,jI];exact ho,fun x hx=>?_⟩;rcases kL.1 hx with hx|hx
 · exact⟨(h.2 x hx).1.mod hm hn,(h.2 x hx).2⟩
 · rw[jR.1 hx];exact⟨hr.mod hm hn,h0⟩
def aN(H:List Ro)(w:World)(e:Ending)(w':World):Prop:=∃v L,e=.returned v∧nL w.heap.size w' v L∧L.map yA=H∧Below w.heap.size w w'
section
variable {base:Nat}{w:World}{R:Nat}{vl:Value}{SL:List Rh}{room first n:Nat}{gone:Int}
set_option maxHeartbeats 3200000 in
theorem Y3(h:RgO base w R vl SL room first n gone):Calls jG 151 #[.pointer (some ⟨R,0,none⟩)] w (aN ((zX SL first n).map yA) w):=by
 obtain⟨j0,hj,gz0,gz1,gz2⟩:=info_parts iB;have HLEN:=Hd (sO h);have H:=Hd h;have hnr:n≤100000:=by have :=h.hn;have :=h.hm;have :=h.hroom;omega
 have hmr:SL.length≤100000:=by have :=h.hm;have :=h.hroom;omega
 have HOWN:=Hd (fun(r:Rh) (w':World) (h:pX w' r) (h0:0<r.cs.length)=>QY r w' h h0);clear h
 go_enter Tryz.func151,Tryz.ntmps151
 go_wp2_with(go_at_call 148;refine HLEN.o.mono ?_;rintro e w9 ⟨rfl,rfl⟩)
 go_loopw [3,7] (fun s3 s7 wr=>∃(i:Nat) (L:List Rh),s7=.int .i64 i∧i≤n∧L.length=i∧nL w.heap.size wr s3 L∧L.map yA=((zX SL first n).take i).map yA∧Below w.heap.size w wr) (fun _ s7 _=>n-(intOf s7).toNat)
 case atStart=>exact⟨0,[],rfl,kT _,rfl,⟨uE _ _ _ _,fun r hr=>by cases hr⟩,rfl,jU _ _⟩
 case round=>
  obtain⟨i,L,rfl,hi,hL,hRo,hmap,hb⟩:=hrel;have HRO:=Hd hRo;have HMP:=Hd hmap;have HB:=Hd hb;have HL:=Hd hL;obtain⟨A3,c3,hv3⟩:=gU hRo.1;subst hv3;rw[hL];clear hRo hmap hb hL
  by_cases hlt:i<n
  rotate_left
  · obtain rfl:i=n:=by omega
    go_wp2
    go_ret
    exact⟨.slice A3 L.length c3,L,by rw[HL.o];rfl,HRO.o,by rw[HMP.o,vT (by rw[zT];exact jS _)],HB.o⟩
  · have hltI:(i:Int)<(n:Int):=by omega
    have hf:first < SL.length:=by
     rcases H.o.hf with hf|⟨-,hf⟩
     · exact hf
     · have :=H.o.hn;omega
    obtain⟨k,hk⟩:∃k,yM SL.length first i=k:=⟨_,rfl⟩
    have hkl:k<SL.length:=by rw[←hk];exact cD hf (by have :=H.o.hn;omega)
    obtain⟨r,hr⟩:∃r,SL[k]? =some r:=⟨SL[k],jD hkl⟩;have hHi:(zX SL first n)[i]? =some r:=by rw[fI hf H.o.hn hlt,hk,hr]
    have hrr:=H.o.rows r (uW hHi);have HRi:=Hd (H.o.below HB.o);obtain⟨gs,cs,hvs⟩:=gE H.o.own qJ;have hownS:=HRi.o.own;have x0:=(at_ HRi.o.blk 0 _ rfl).1;have x2:wr.cell? ⟨R,2,none⟩=some (.int .i64 first):=(at_ HRi.o.blk 2 _ rfl).1;rw[hvs]at hownS x0;obtain⟨⟨r0,-⟩,r1,-⟩:=yL hownS hr;have hfr:first ≤100000:=by omega
    have hkI:(k:Int)<(SL.length:Int):=by omega
    have HHI:=Hd hHi;have HRR:=Hd hrr;clear hHi hr hownS hvs hf hrr
    go_upto_region 5 with fail
    refine gG 12 (fun w2=>Below wr.heap.size wr w2∧w2.cell? ⟨R,0,none⟩=some (.slice (some ⟨gs,0,none⟩) SL.length cs)∧w2.cell? ⟨gs,k*2,none⟩=some (.slice r.A r.cs.length r.cap)∧w2.cell? ⟨gs,k*2+1,none⟩=some (.bool r.cont)) qQ qQ (fun w1 w2 hS hb=>⟨jN hS.1 hb,jA hb hS.2.1,jA hb hS.2.2.1,jA hb hS.2.2.2⟩) ⟨(jU _ _).drew,x0,r0,r1⟩ ?_;refine AtN.go 0 ?_
    iterate 7 refine zA ?_
    refine AtC.back ?_;refine AtN.take 7 (o:=⟨_,_,_,_,_,_⟩) (v:=.int .i64 k) qQ rfl qV qQ qQ (uY.call1 174 #[.pointer (some ⟨R,0,none⟩),.int .i64 i] (.int .i64 k) qK qB (fun w' hS=>(iT hS.2.1 ((Mod.of_below (X:=[]) hS.1).cell qV x2) hmr hfr i qJ).mono (fun e w3 h=>⟨by rw[←hk];exact h.1,h.2▸jU _ _⟩))) ?_;refine zP ?_;refine AtN.go 8 ?_
    iterate 2 refine zA ?_
    refine AtC.back ?_;refine AtN.one 10 (o:=⟨_,_,_,_,_,_⟩) (fun v=>∃g1 cap,v=.agg #[.slice (some ⟨g1,0,none⟩) r.cs.length cap,.bool r.cont]) (fun v w'=>∃g1 cap,v=.agg #[.slice (some ⟨g1,0,none⟩) r.cs.length cap,.bool r.cont]∧pX w' ⟨some ⟨g1,0,none⟩,r.cs,cap,r.cont⟩) qV qQ rfl (fun v w1 w2 ⟨g1,cap,hv,hr⟩ hb=>⟨g1,cap,hv,hr.below hb⟩) (uY.call 173 #[.agg #[.slice r.A r.cs.length r.cap,.bool r.cont]] _ _ qK ?_ (fun w' hS=>?_)) ?_
    · intro w'
      go_simp
    · refine(HOWN.o r w' (HRR.o.1.below (jN HB.o hS.1)) HRR.o.2).mono ?_;rintro e w3 ⟨g1,cap,rfl,hrc,hb,-⟩;exact⟨_,rfl,⟨⟨g1,cap,rfl⟩,g1,cap,rfl,hrc⟩,hb⟩
    rintro v ⟨g1,cap,rfl⟩;refine zP ?_;refine AtN.one 11 (o:=⟨_,_,_,_,_,_⟩) (fun v=>∃k,v=.slice (some ⟨k,0,none⟩) 1 1) (fun v w'=>∃k,v=.slice (some ⟨k,0,none⟩) 1 1∧w'.heap[k]? =some (.cells #[.slice (some ⟨g1,0,none⟩) r.cs.length cap,.bool r.cont] 97 (0,0))) qV qQ rfl (fun v w1 w2 ⟨k,hv,hk⟩ hb=>⟨k,hv,(hb.block k (kQ hk)).trans hk⟩) (uY.new _ _ qK (fun w' hS=>?_)) ?_
    · exact⟨.slice (some ⟨w'.heap.size,0,none⟩) 1 1,w'.alloc (.cells #[.slice (some ⟨g1,0,none⟩) r.cs.length cap,.bool r.cont] 97),by go_simp,⟨_,rfl⟩,⟨_,rfl,kZ rfl⟩,jW (jU _ _) _⟩
    rintro v ⟨kb,rfl⟩;refine zP ?_;refine AtN.done qQ (fun w' hS=>?_);obtain⟨⟨⟨hb1,-⟩,g1',cap',hv',hrc'⟩,kb',hvk,hkb⟩:=hS;simp only[Value.agg.injEq,Array.mk.injEq,List.cons.injEq,Value.slice.injEq,Option.some.injEq,Addr.mk.injEq,and_true,true_and]at hv' hvk;obtain⟨rfl,rfl⟩:=hv';subst hvk;have HBW:=Hd (jN HB.o hb1);have HRO1:=Hd (HRO.o.below hb1);have HRC1:=Hd hrc';have HKB:=Hd hkb;clear hb1 hrc' hkb x0 x2 r0 r1;simp only[jB,jF];refine kO rfl (.tmp 10) (.tmp 21) 58 rfl w.heap.size 97 j0 _ 2 32 Tryz.underlying58 hj gz0 gz1 gz2 rfl qZ (.slice A3 L.length c3) L.length (uS yZ L) (by rw[HL.o];rfl) HRO1.o.1 ⟨kb,0,none⟩ 1 1 (yZ ⟨some ⟨g1,0,none⟩,r.cs,cap,r.cont⟩) rfl rfl ?_ (fP _) ?_ ?_ ?_ ?_
    all_goals first
     |(have :=HL.o;omega)
     |(simp only[maxLen];have :=HL.o;omega)
     |exact HBW.o.size
     |skip
    · intro j u hj;rw[vZ,kB];exact(at_ HKB.o j u qV8).1
    · intro v' w3 ho hg hv';have HRO2:=Hd (HRO1.o.push (r:=⟨some ⟨g1,0,none⟩,r.cs,cap,r.cont⟩) ho hg HRC1.o HRR.o.2);have HB3:=Hd (HBW.o.grown hg HBW.o.size (fun x hx=>(HRO1.o.1.lt x hx).1));clear ho hg hv';obtain⟨A4,c4,hv4⟩:=gU HRO2.o.1;subst hv4
      go_wp2
      go_roundw
      case rel=>exact⟨i+1,L++[⟨some ⟨g1,0,none⟩,r.cs,cap,r.cont⟩],by go_num,by omega,by rw[jI,HL.o];rfl,by have :=HRO2.o;rw[jI]at this;exact this,by rw[gK,HMP.o,List.take_add_one,HHI.o,gK];rfl,HB3.o⟩
      case measure=>exact zm
end
section
variable {base:Nat}{w:World}{q:Pv}{g:Pg}
set_option maxHeartbeats 3200000 in
theorem qQk(h:PgO base w q g):Calls jG 82 #[.pointer (some ⟨q.P,0,none⟩)] w (aN (g.hist++g.scr) w):=by
 obtain⟨j0,hj,gz0,gz1,gz2⟩:=info_parts iB;have HALL:=Hd (Y3 h.ring);rw[h.hist]at HALL;have H:=Hd h;have hh:=h.hist100k;have hrows:=h.rows1000;obtain⟨⟨x0,-⟩,⟨x1,-⟩,-⟩:=h.cells;obtain⟨AS,cS,hvS⟩:=h.vform;rw[hvS]at x1;have HOWN:=Hd (fun(r:Rh) (w':World) (h:pX w' r) (h0:0<r.cs.length)=>ZV r w' h h0);obtain⟨m,hm⟩:∃m,q.S.length=m:=⟨_,rfl⟩;rw[hm]at x1 hrows;have HM:=Hd hm;have HVS:=Hd hvS;clear h hm hvS
 go_enter Tryz.func82,Tryz.ntmps82
 go_upto_region 4 with(go_at_call 151;refine HALL.o.mono ?_;rintro e w1 ⟨v0,L0,rfl,hro,hmp,hb⟩;have HRO:=Hd hro;have HMP:=Hd hmp;have HB:=Hd hb;have x1':=jA hb x1;clear hro hmp hb x1)
 go_wp2_with fail
 go_loopw [3,18] (fun s3 s18 wr=>∃(i:Nat) (L:List Rh),s18=.int .i64 i∧i≤m∧L.length=L0.length+i∧nL w.heap.size wr s3 L∧L.map yA=g.hist++(q.S.take i).map yA∧Below w.heap.size w wr) (fun _ s18 _=>m-(intOf s18).toNat)
 case atStart=>exact⟨0,L0,rfl,kT _,rfl,HRO.o,by rw[HMP.o];simp,HB.o⟩
 case round=>
  obtain⟨i,L,rfl,hi,hL,hRo,hmap,hb⟩:=hrel;have hL0:L0.length≤100000:=by have :=congrArg List.length HMP.o;simp at this;omega
  obtain⟨bx,rfl⟩:∃bx:Value×Unit,u3=bx.1:=⟨(u3,()),rfl⟩;have HRO2:=Hd hRo;have HMP2:=Hd hmap;have HB2:=Hd hb;have HL:=Hd hL;clear hRo hmap hb hL
  by_cases hlt:i<m
  rotate_left
  · obtain rfl:i=m:=by omega
    go_wp2
    go_ret
    exact⟨_,L,rfl,HRO2.o,by rw[HMP2.o,←HM.o,List.take_length,H.o.scr],HB2.o⟩
  · have hltI:(i:Int)<(m:Int):=by omega
    have hiS:i<q.S.length:=by rw[HM.o];exact hlt
    obtain⟨r,hr⟩:∃r,q.S[i]? =some r:=⟨_,jD hiS⟩;obtain⟨hrc,hrl⟩:=H.o.rows r (uW hr);obtain⟨gs,cs,hvs⟩:=gE H.o.own qJ;have hAS:AS=some ⟨gs,0,none⟩:=by have :=HVS.o;rw[hvs]at this;simp only[Value.slice.injEq]at this;exact this.1.symm
    have hownS:=(H.o.below HB2.o).own;rw[hvs]at hownS;obtain⟨⟨r0,-⟩,r1,-⟩:=yL hownS hr;have HRC:=Hd (hrc.below HB2.o);have h0r:0<r.cs.length:=by rw[hrl];have :=H.o.cols2;omega
    have HRR:=Hd h0r;have HR:=Hd hr;clear hr hownS hvs hrc hrl;subst hAS;have hb5:=jW (jU wr.heap.size wr) (.cells #[.slice r.A r.cs.length r.cap,.bool r.cont] 97);have HO5:=Hd (HOWN.o r (wr.alloc (.cells #[.slice r.A r.cs.length r.cap,.bool r.cont] 97)) (HRC.o.below hb5) h0r);have HB5:=Hd hb5;clear hb5
    go_wp2_with(first
     |(go_at_call 102;refine HO5.o.mono ?_;rintro e w6 ⟨g1,cap,rfl,hrc,hb,-⟩;have HRC6:=Hd hrc;have HB6:=Hd (jN HB5.o hb);clear hrc hb)
     |(refine kO rfl (.tmp 22) (.tmp 25) 58 rfl w.heap.size 97 j0 _ 2 32 Tryz.underlying58 hj gz0 gz1 gz2 rfl qZ bx.1 L.length (uS yZ L) rfl ((HRO2.o.below HB6.o).below (jW (jU _ _) _)).1 ⟨w6.heap.size,0,none⟩ 1 1 (yZ ⟨some ⟨g1,0,none⟩,r.cs,cap,r.cont⟩) rfl rfl ?_ (fP _) ?_ ?_ ?_ ?_))
    all_goals first
     |(have :=HL.o;omega)
     |(simp only[maxLen];have :=HL.o;omega)
     |(have :=HB2.o.size;have :=HB6.o.size;simp;omega)
     |skip
    · intro j u hj;rw[vZ,kB];exact(at_ (kZ rfl) j u qV8).1
    · intro v' w7 ho hg hv';have hb7:=jW (jU w6.heap.size w6) (.cells #[.slice (some ⟨g1,0,none⟩) r.cs.length cap,.bool r.cont] 97);have HB7:=Hd (jN HB6.o hb7);have HRO7:=Hd (((HRO2.o.below HB6.o).below hb7).push (r:=⟨some ⟨g1,0,none⟩,r.cs,cap,r.cont⟩) ho hg (HRC6.o.below hb7) HRR.o);have HB8:=Hd ((jN HB2.o HB7.o).grown hg (jN HB2.o HB7.o).size (fun x hx=>((HRO2.o.below HB7.o).1.lt x hx).1));clear ho hg hv' hb7
      go_wp2
      go_roundw
      case rel=>exact⟨i+1,L++[⟨some ⟨g1,0,none⟩,r.cs,cap,r.cont⟩],by go_num,by omega,by rw[jI,HL.o];rfl,HRO7.o,by rw[gK,HMP2.o,List.take_add_one,HR.o,gK,uK];rfl,HB8.o⟩
      case measure=>exact zm
end
def XK(base:Nat)(w:World)(T:Nat)(vw:Value)(st':List Bool)(w':World):Prop:=
 ∃vw' ws',TbO base w' T vw' ws' st'∧Mod (tbX T vw) w w'∧∀b∈tbX T vw',b∈tbX T vw∨w.heap.size≤b
theorem qQz:(jG.info? 59).map (fun i=>(i.zero,i.size,i.bytes))=some (some (.int .u64 0),1,8):=by kernel_rfl
theorem wds_any{ws:List Nat}{st st2:List Bool}(h:nF ws st)(hl:st2.length≤64*ws.length)(hg:∀y,st2.getD y false=st.getD y false):nF ws st2:=
 ⟨hl,fun i n hn=>⟨(h.2 i n hn).1,fun k hk=>by rw[(h.2 i n hn).2 k hk,hg]⟩⟩
theorem qQ7{a b:List Bool}(hl:a.length=b.length)(h:∀y,y<a.length→a.getD y false=b.getD y false):a=b:=by
 apply List.ext_getElem hl;intro i h1 h2;have :=h i h1;rw[kP,kP,jD h1,jD h2]at this;exact this
theorem Zz{n y:Nat}(f:Nat→Bool):((List.range n).map f).getD y false=if y<n then f y else false:=by
 rw[kP,vQ]
 by_cases h:y<n
 · rw[List.getElem?_range h,if_pos h];rfl
 · rw[kI qK3,if_neg h];rfl
def bN(st:List Bool)(cols:Nat):List Bool:=(List.range cols).map (fun y=>if y<st.length then st.getD y false else decide (y%8=0))
section
variable {base:Nat}{w:World}{T:Nat}{vw:Value}{ws:List Nat}{st:List Bool}
theorem XK.set{w1 w2:World}{st2:List Bool}{vw1:Value}(hm:Mod (tbX T vw) w w1)(hx:∀b∈tbX T vw1,b∈tbX T vw∨w.heap.size≤b)(h2:tS base w1 T vw1 st2 w2):XK base w T vw st2 w2:=by
 obtain⟨ws2,ho,hm2⟩:=h2;exact⟨vw1,ws2,ho,hm.trans hm2 (fun b hb=>hx b (by simp only[tbX,kW];exact .inr hb)),hx⟩
theorem Jp(c:Int)(w:World):Calls jG 157 #[.int .i64 c] w fun e w'=>e=.returned (.bool (decide (2≤c)&&decide (c≤1000)))∧w=w':=by
 by_cases h1:2≤c
 · go_enter Tryz.func157,Tryz.ntmps157
   go_wp2
   go_ret
   simp[h1]
 · go_enter Tryz.func157,Tryz.ntmps157
   go_wp2
   go_ret
   simp;omega
theorem TbO.ne(h:TbO base w T vw ws st):T∉vw.ownBlock.toList:=fun hb=>by
 obtain⟨cur,hc⟩:=uA h.own (jT.1 hb);exact qZk
theorem TbO.rewords{w1:World}{v':Value}{ws':List Nat}(h:TbO base w T vw ws st)(ho:w1.ownsRow base 59 1 v' ws'.length (uS Wn ws'))(hm:Mod vw.ownBlock.toList w w1)(hv:∀b,v'.ownBlock=some b→vw.ownBlock=some b∨w.heap.size≤b)(hw:nF ws' st)(hf:ws'.length≤16):
 TbO base (w1.setCell ⟨T,0,none⟩ v') T v' ws' st∧Mod (tbX T vw) w (w1.setCell ⟨T,0,none⟩ v')∧∀b∈tbX T v',b∈tbX T vw∨w.heap.size≤b:=by
 have hT:=(hm.block T (kF.1 h.blk).1 h.ne).trans h.blk;have hTl:=(kF.1 h.blk).1;have hT2:∀b,v'.ownBlock=some b→b∉[T]:=fun b hb hx=>by
  rw[jR.1 hx]at hb;rcases hv T hb with h1|h1
  · exact h.ne (jT.2 h1)
  · omega
 have hM1:Mod [T] w1 (w1.setCell ⟨T,0,none⟩ v'):=(Mod.refl _ _).setCell (a:=⟨T,0,none⟩) (.inl qV) _;refine⟨⟨bX hT,h.hb,uL ho hM1 hT2,hw,h.le,hf⟩,(hm.mono (fun b hb=>by simp only[tbX,kW];exact .inr hb)).setCell (a:=⟨T,0,none⟩) (.inl (by simp[tbX])) _,fun b hb=>?_⟩;rcases kW.1 hb with rfl|hb
 · exact .inl (by simp[tbX])
 · rcases hv b (jT.1 hb)with h1|h1
   · exact .inl (by simp only[tbX,kW,jT];exact .inr h1)
   · exact .inr h1
theorem TbO.recols{st':List Bool}(h:TbO base w T vw ws st)(hl:st'.length≤64*ws.length)(h3:st'.length≤1000)(hg:∀y,st'.getD y false=st.getD y false):
 TbO base (w.setCell ⟨T,1,none⟩ (.int .i64 st'.length)) T vw ws st'∧Mod (tbX T vw) w (w.setCell ⟨T,1,none⟩ (.int .i64 st'.length)):=by
 have hM1:Mod [T] w (w.setCell ⟨T,1,none⟩ (.int .i64 st'.length)):=(Mod.refl _ _).setCell (a:=⟨T,1,none⟩) (.inl qV) _;exact⟨⟨bX h.blk,h.hb,uL h.own hM1 (fun b hb hx=>h.ne (by rw[←jR.1 hx];exact jT.2 hb)),wds_any h.wds hl hg,h3,h.few⟩,hM1.mono (fun b hb=>by rw[jR.1 hb];simp[tbX])⟩
def Yi(base:Nat)(w:World)(T:Nat)(vw:Value)(st':List Bool)(e:Ending)(w':World):Prop:=e=.returned (.int .i64 0)∧XK base w T vw st' w'
set_option maxHeartbeats 1600000 in
theorem V8(h:TbO base w T vw ws st)(cols:Nat)(h2:2≤cols)(h3:cols≤1000):Calls jG 94 #[.pointer (some ⟨T,0,none⟩),.int .i64 cols] w (Yi base w T vw (bN st cols)):=by
 obtain⟨j0,hj,gz0,gz1,gz2⟩:=info_parts qQz;have HF:=Hd (fun w=>Jp cols w);have hf:(decide (2≤(cols:Int))&&decide ((cols:Int)≤1000))=true:=by simp;omega
 rw[hf]at HF;clear hf;obtain⟨-,x1,-⟩:=h.cells;have H:=Hd h;have hle:=h.le;have hTl:=gO x1;obtain⟨was,hwas⟩:∃was,st.length=was:=⟨_,rfl⟩;rw[hwas]at x1 hle;have HW:=Hd hwas;clear h hwas
 go_enter Tryz.func94,Tryz.ntmps94
 go_wp2_with(go_at_call 157;refine(HF.o _).mono ?_;rintro e w1 ⟨rfl,rfl⟩)
 go_loopw [6] (fun s6 wr=>∃x:Nat,s6=.int .i64 x∧cols≤x∧(x≤was∨x=cols)∧∃st1,tS base w T vw st1 wr∧st1.length=was∧∀y,st1.getD y false=if cols≤y∧y<x then false else st.getD y false) (fun s6 _=>was-(intOf s6).toNat)
 case atStart=>exact⟨cols,rfl,jS _,.inr rfl,st,⟨ws,H.o,Mod.refl _ _⟩,HW.o,fun y=>by rw[if_neg qJ]⟩
 case round=>
  obtain⟨x,rfl,hx1,hx2,st1,hs,hsl,hsg⟩:=hrel;have HS:=Hd hs;have HG:=Hd hsg;have HL:=Hd hsl;clear hs hsg hsl
  by_cases hlt:x<was
  · have hltI:(x:Int)<(was:Int):=by omega
    obtain⟨ws1,ho,hm⟩:=HS.o;have HC:=Hd (aI ho x);have HM:=Hd hm;clear ho hm
    go_wp2_with(go_at_call 147;refine HC.o.mono ?_;rintro e w2 ⟨rfl,hs2⟩;have HS2:=Hd hs2;clear hs2)
    go_roundw
    case rel=>
     obtain⟨ws2,ho2,hm2⟩:=HS2.o;refine⟨x+1,by go_num,by omega,.inl qJ,_,⟨ws2,ho2,HM.o.trans hm2 (fun b hb=>.inl hb)⟩,?_,fun y=>?_⟩
     · unfold iA;split
       · rw[uG];exact HL.o
       · exact HL.o
     · unfold iA;rw[if_pos ⟨by omega,by rw[HL.o];omega⟩,uJ,mB (by rw[HL.o];exact hlt),HG.o y]
       by_cases hxy:x=y
       · rw[if_pos hxy,if_pos qJ]
       · rw[if_neg hxy]
         by_cases hc:cols≤y∧y<x
         · rw[if_pos hc,if_pos qJ]
         · rw[if_neg hc,if_neg qJ]
    case measure=>exact zm
  · have hltI:¬(x:Int)<(was:Int):=by omega
    have HG1:Hid (∀y,st1.getD y false=if cols≤y then false else st.getD y false):=Hd (fun y=>by
     rw[HG.o y]
     by_cases hc:cols≤y∧y<x
     · rw[if_pos hc,if_pos hc.1]
     · rw[if_neg hc]
       by_cases hy:cols≤y
       · rw[if_pos hy,tW (by rw[HW.o];omega)]
       · rw[if_neg hy])
    have HR0:Hid (XK base w T vw st1 wr):=Hd (by
     obtain⟨ws1,ho,hm⟩:=HS.o;exact⟨vw,ws1,ho,hm.mono (fun b hb=>by simp only[tbX,kW];exact .inr hb),fun b hb=>.inl hb⟩)
    clear HG HS
    go_wp2_with fail
    go_loopg [35] 16 (fun k _ w2=>∃vw' ws',TbO base w2 T vw' ws' st1∧Mod (tbX T vw) w w2∧(∀b∈tbX T vw',b∈tbX T vw∨w.heap.size≤b)∧(16≤k+ws'.length))
    case atStart=>
     obtain⟨vw',ws',ho,hm,hx⟩:=HR0.o;exact⟨vw',ws',ho,hm,hx,by omega⟩
    case round=>
     obtain⟨vw1,ws1,ho1,hm1,hx1',hk1⟩:=hrel;obtain⟨A1,c1,hv1⟩:=ho1.vform;obtain⟨⟨z0,z0f⟩,z1,z1f⟩:=ho1.cells;rw[hv1]at z0;have hTw:=gO z1;have HO1:=Hd ho1;have HM1:=Hd hm1;have HX1:=Hd hx1';obtain⟨n1,hn1⟩:∃n1,ws1.length=n1:=⟨_,rfl⟩;have HN1:=Hd hn1;rw[hn1]at z0 hk1 hv1;have HV1:=Hd hv1;clear ho1 hm1 hx1' hn1 hv1 z1 z1f
     by_cases hlt2:64*n1<cols
     · have hn16:n1<16:=by omega
       have hw64:jP.wrap ((n1:Int)*64)=(n1:Int)*64:=jH _ qJ;have hltI2:(n1:Int)*64<(cols:Int):=by omega
       obtain⟨W2,hW2⟩:∃W2,wr.alloc (.cells #[.int .u64 0] 59)=W2:=⟨_,rfl⟩;have hb2:Below wr.heap.size wr W2:=by rw[←hW2];exact jW (jU _ _) _
       have HNW:=Hd (show W2.heap[wr.heap.size]? =some (.cells #[.int .u64 0] 59 (0,0))from by rw[←hW2];exact kZ rfl);have HB2:=Hd hb2;have HOB:=Hd (show W2.ownsRow base 59 1 (.slice A1 n1 c1) n1 (uS Wn ws1)from by have :=(HO1.o.below hb2).own;rw[HV1.o,HN1.o]at this;exact this);have hbw2:base≤W2.heap.size:=by have :=HO1.o.hb;have :=hb2.size;omega
       clear hb2
       go_wp2_with(refine kO rfl (.tmp 40) (.tmp 41) 162 rfl base 59 j0 _ 1 8 Tryz.underlying162 hj gz0 gz1 gz2 rfl qZ (.slice A1 n1 c1) n1 (uS Wn ws1) rfl HOB.o ⟨wr.heap.size,0,none⟩ 1 1 [.int .u64 0] rfl rfl ?_ ?_ ?_ ?_ ?_ ?_)
       all_goals first
        |omega
        |(simp only[maxLen];omega)
        |skip
       · intro j u hj;rw[vZ,kB];exact(at_ HNW.o j u qF).1
       · intro u hu;obtain rfl:=jR.1 hu;rfl
       · intro v' w' ho hg hv';have HMG:Hid (Mod vw1.ownBlock.toList wr w'):=Hd ((Mod.of_below (X:=vw1.ownBlock.toList) HB2.o).trans (Mod.of_grown (X:=vw1.ownBlock.toList) hg (fun g hg=>by rw[HV1.o,hg];simp)) (fun g hg=>.inl hg));have HR:=Hd (HO1.o.rewords (ws':=ws1++[0]) (by rw[jI,HN1.o,uC];exact ho) HMG.o (fun b hb=>(hv' b hb).imp (fun h=>by rw[HV1.o];exact h) (fun h=>by have :=HB2.o.size;omega)) (K7 HO1.o.wds) (by rw[jI,HN1.o];simp;omega));obtain⟨y0,y0f⟩:=HMG.o.hold HO1.o.ne HO1.o.cells.1;obtain⟨A',c',hvf⟩:=gU ho;clear ho hg hv' hW2;subst hvf
         go_wp2
         go_roundg (gk-1)
         case rel=>
          obtain⟨r1,r2,r3⟩:=HR.o;refine⟨_,ws1++[0],r1,HM1.o.trans r2 HX1.o,fun b hb=>?_,by rw[jI,HN1.o];simp;omega⟩;rcases r3 b hb with h|h
          · exact HX1.o b h
          · exact .inr (vY HM1.o.size h)
         case measure=>omega
     · have hn17:n1≤16:=by rw[←HN1.o];exact HO1.o.few
       have hw64:jP.wrap ((n1:Int)*64)=(n1:Int)*64:=jH _ qJ;have hltI2:¬(n1:Int)*64<(cols:Int):=by omega
       obtain⟨st2,hst2⟩:∃st2,(List.range cols).map (fun y=>st1.getD y false)=st2:=⟨_,rfl⟩;have hl2:st2.length=cols:=by rw[←hst2];simp
       have hg2:∀y,st2.getD y false=st1.getD y false:=fun y=>by
        rw[←hst2,Zz]
        by_cases hy:y<cols
        · rw[if_pos hy]
        · rw[if_neg hy,HG1.o y,if_pos qJ]
       have HRC:=Hd (HO1.o.recols (st':=st2) (by rw[hl2,HN1.o];omega) (by rw[hl2];exact h3) hg2);rw[hl2]at HRC;have HL2:=Hd hl2;have HG2:Hid (∀y,st2.getD y false=if cols≤y then false else st.getD y false):=Hd (fun y=>by rw[hg2 y];exact HG1.o y);obtain⟨-,z1,z1f⟩:=HO1.o.cells;clear hg2 hl2 hst2 HG1 HV1
       go_wp2_with fail
       generalize uQ _ _ _=W3 at HRC ⊢;clear z0 z0f z1 z1f
       go_loopw [7] (fun s7 w4=>∃x:Nat,s7=.int .i64 x∧was≤x∧(x≤cols∨x=was)∧∃st3,tS base W3 T vw1 st3 w4∧st3.length=cols∧∀y,y<cols→st3.getD y false=if was≤y∧y<x then decide (y%8=0)else st2.getD y false) (fun s7 _=>cols-(intOf s7).toNat)
       case atStart=>exact⟨was,rfl,jS _,.inr rfl,st2,⟨ws1,HRC.o.1,Mod.refl _ _⟩,HL2.o,fun y _=>by rw[if_neg qJ]⟩
       case round=>
        obtain⟨x,rfl,hx1,hx2,st3,hs,hsl,hsg⟩:=hrel;have HS:=Hd hs;have HG:=Hd hsg;have HL:=Hd hsl;clear hs hsg hsl
        by_cases hlt3:x<cols
        · have hltI3:(x:Int)<(cols:Int):=by omega
          have h8:(x:Int).tmod 8=((x%8:Nat):Int):=by rw[Int.tmod_eq_emod_of_nonneg qJ];omega
          by_cases hx8:x%8=0
          · rw[hx8]at h8;obtain⟨ws3,ho,hm⟩:=HS.o;have HC:=Hd (VT ho x);have HM:=Hd hm;clear ho hm
            go_wp2_with(go_at_call 145;refine HC.o.mono ?_;rintro e w5 ⟨rfl,hs2⟩;have HS2:=Hd hs2;clear hs2)
            go_roundw
            case rel=>
             obtain⟨ws4,ho4,hm4⟩:=HS2.o;refine⟨x+1,by go_num,by omega,.inl qJ,_,⟨ws4,ho4,HM.o.trans hm4 (fun b hb=>.inl hb)⟩,?_,fun y hy=>?_⟩
             · unfold iA;split
               · rw[uG];exact HL.o
               · exact HL.o
             · unfold iA;rw[if_pos ⟨by omega,by rw[HL.o];omega⟩,uJ,mB (by rw[HL.o];exact hlt3),HG.o y hy]
               by_cases hxy:x=y
               · subst hxy;rw[if_pos rfl,if_pos qJ,decide_eq_true hx8]
               · rw[if_neg hxy]
                 by_cases hc:was≤y∧y<x
                 · rw[if_pos hc,if_pos qJ]
                 · rw[if_neg hc,if_neg qJ]
            case measure=>exact zm
          · have h8':¬(x:Int).tmod 8=0:=by omega
            go_wp2_with fail
            go_roundw
            case rel=>
             refine⟨x+1,by go_num,by omega,.inl qJ,st3,HS.o,HL.o,fun y hy=>?_⟩;rw[HG.o y hy]
             by_cases hxy:x=y
             · subst hxy;rw[if_neg qJ,if_pos qJ,decide_eq_false hx8,HG2.o x,if_neg qJ,tW (by rw[HW.o];omega)]
             · by_cases hc:was≤y∧y<x
               · rw[if_pos hc,if_pos qJ]
               · rw[if_neg hc,if_neg qJ]
            case measure=>exact zm
        · have hltI3:¬(x:Int)<(cols:Int):=by omega
          go_wp2
          go_ret
          have he:st3=bN st cols:=by
           refine qQ7 (by rw[HL.o];simp[bN]) (fun y hy=>?_);rw[HL.o]at hy;unfold bN;rw[HG.o y hy,Zz,if_pos hy,HW.o]
           by_cases hw:y<was
           · rw[if_neg qJ,if_pos hw,HG2.o y,if_neg qJ]
           · rw[if_pos qJ,if_neg hw]
          rw[he]at HS;exact⟨rfl,XK.set (HM1.o.trans HRC.o.2 HX1.o) HX1.o HS.o⟩
def J4(cols:Nat)(w:World)(e:Ending)(w':World):Prop:=∃T vw ws,e=.returned (.tuple #[.pointer (some ⟨T,0,none⟩),.int .i64 0])∧TbO w.heap.size w' T vw ws (bN [] cols)∧Below w.heap.size w w'
set_option maxHeartbeats 1600000 in
theorem tnew_ok(cols:Nat)(w:World)(h2:2≤cols)(h3:cols≤1000):Calls jG 89 #[.int .i64 cols] w (J4 cols w):=by
 have HF:=Hd (fun w=>Jp cols w);have hf:(decide (2≤(cols:Int))&&decide ((cols:Int)≤1000))=true:=by simp;omega
 rw[hf]at HF;clear hf;have hO:TbO w.heap.size (w.alloc (.cells #[.slice none 0 0,.int .i64 0] 164)) w.heap.size (.slice none 0 0) [] []:=
  ⟨kZ rfl,jS _,uE _ _ _ _,⟨kT _,fun i n hn=>by simp at hn⟩,by simp,by simp⟩
 have HS:=Hd (V8 hO cols h2 h3);have HB:=Hd (jW (jU w.heap.size w) (.cells #[.slice none 0 0,.int .i64 0] 164));clear hO
 go_enter Tryz.func89,Tryz.ntmps89
 go_wp2_with(first
  |(go_at_call 157;refine(HF.o _).mono ?_;rintro e w1 ⟨rfl,rfl⟩)
  |(go_at_call 94;refine HS.o.mono ?_;rintro e w2 ⟨rfl,hs⟩;have HR:=Hd hs;clear hs))
 go_ret2
 obtain⟨vw,ws,h1,hm,-⟩:=HR.o;exact⟨w.heap.size,vw,ws,rfl,h1,HB.o.trans (hm.below (B:=w.heap.size) (fun b hb=>by simp[tbX,Value.ownBlock]at hb;omega) qV)⟩
end
instance:DecidableEq Atr:=fun a b=>by
 cases a;cases b;simp only[Atr.mk.injEq];exact inferInstance
theorem Kr(a b:Cl)(h:a.half=1):fA a b=(decide (b.half=2)&&decide (b.r=a.r)&&decide (b.more=a.more)&&decide (mS b=mS a)):=by
 obtain⟨ar,am,ah,a1,a2,a3,a4,a5⟩:=a;obtain⟨br,bm,bh,b1,b2,b3,b4,b5⟩:=b;simp only at h;subst h;unfold fA mS;simp only[decide_true,Bool.true_and,Cl.mk.injEq,Atr.mk.injEq,true_and]
 by_cases e1:bh=2<;>by_cases e2:ar=br<;>by_cases e3:am=bm<;>simp[e1,e2,e3,eq_comm]
 all_goals try(intro h;exact absurd h.symm e2)
 all_goals try(intro _ h;exact absurd h.symm e3)
def ClO(base:Nat)(w:World)(v:Value)(l:List Cl):Prop:=w.ownsRow base 154 8 v l.length (uS kX l)
theorem ClO.below{base:Nat}{w w':World}{v:Value}{l:List Cl}(h:ClO base w v l)(hb:Below w.heap.size w w'):ClO base w' v l:=uL h (Mod.of_below (X:=[]) hb) (fun _ _ h=>by cases h)
theorem ClO.form{base:Nat}{w:World}{v:Value}{l:List Cl}(h:ClO base w v l)(h0:0<l.length):∃g cap,v=.slice (some ⟨g,0,none⟩) l.length cap∧CrO w base g cap l:=by
 obtain⟨g,cap,rfl⟩:=gE h h0;exact⟨g,cap,rfl,h⟩
def Ju(l P:List Cl)(i:Nat)(pr:Bool):Prop:=if pr=true then(∃c,l[i]? =some c∧uX l=P++(c::uX (l.drop (i+1))))else uX l=P++uX (l.drop i)
theorem rS{w:World}{g:Nat}{t:TypeId}{c x:Cl}(h:w.heap[g]? =some (.cells (kX c).toArray t (0,0))):w.there g 0 (kX x).toArray.size:=by
 have :=gH h;exact this
theorem cM{w:World}{g:Nat}{t:TypeId}{cr:Int}{cm:ByteArray}{ch c1 c2 c3 c4 c5:Int}(h:w.heap[g]? =some (.cells (kX ⟨cr,cm,ch,c1,c2,c3,c4,c5⟩).toArray t (0,0))):w.rangeAt g 3 [.int .i64 c1,.int .i64 c2,.int .i64 c3,.int .i64 c4,.int .i64 c5]:=fun j v hj=>by
 match j,hj with
 |0,hj=>simp at hj;subst hj;exact(at_ h 3 _ rfl).1
 |1,hj=>simp at hj;subst hj;exact(at_ h 4 _ rfl).1
 |2,hj=>simp at hj;subst hj;exact(at_ h 5 _ rfl).1
 |3,hj=>simp at hj;subst hj;exact(at_ h 6 _ rfl).1
 |4,hj=>simp at hj;subst hj;exact(at_ h 7 _ rfl).1
theorem Ju.emit{l P:List Cl}{i:Nat}{c:Cl}(h:Ju l P i true)(hc:l[i]? =some c):Ju l (P++[c]) (i+1) false:=by
 obtain⟨d,hd,hm⟩:=h;rw[hc]at hd;injection hd with hd
 subst hd;show uX l=_;rw[hm,uK];rfl
theorem Ju.keep{l P:List Cl}{i:Nat}{c x:Cl}(h:Ju l P i false)(hc:l[i]? =some c)(hx:uX (c::l.drop (i+1))=x::uX (l.drop (i+1))):Ju l (P++[x]) (i+1) false:=by
 have h':uX l=P++uX (l.drop i):=h;have hlt:=(jE.1 hc).1;show uX l=_;rw[h',List.drop_eq_getElem_cons hlt,(jE.1 hc).2,hx,uK];rfl
theorem Ju.pair{l P:List Cl}{i:Nat}{c d:Cl}(h:Ju l P i false)(hc:l[i]? =some c)(hd:l[i+1]? =some d)(hp:fA c d=true):Ju l (P++[c]) (i+1) true:=by
 have h':uX l=P++uX (l.drop i):=h;have hlt:=(jE.1 hc).1;have hlt2:=(jE.1 hd).1;refine⟨d,hd,?_⟩;rw[h',List.drop_eq_getElem_cons hlt,(jE.1 hc).2,List.drop_eq_getElem_cons hlt2,(jE.1 hd).2,QI hp,uK];rfl
set_option maxHeartbeats 6400000 in
theorem WQ(A:Option Addr)(l:List Cl)(ca:Nat)(w:World)(hl:pA kX 8 w A l)(h0:0<l.length)(hz:l.length≤10000):
 Calls jG 164 #[.slice A l.length ca] w (pK (uX l) w):=by
 obtain⟨j0,hj,gz0,gz1,gz2⟩:=info_parts dY;obtain⟨b,off,rfl,hcell⟩:=hl h0;have HR:Hid (∀i c,l[i]? =some c→w.rangeAt b (off+i*8) (kX c)):=Hd (fun i c hi j v hv=>hcell i c hi j v hv);clear hl hcell
 go_enter Tryz.func164,Tryz.ntmps164
 go_wp2_with fail
 go_loopw [3,4,5] (fun s3 s4 s5 wr=>∃(i:Nat) (P:List Cl) (pr:Bool),s5=.int .i64 i∧s4=.bool pr∧i≤l.length∧P.length=i∧ClO w.heap.size wr s3 P∧Below w.heap.size w wr∧Ju l P i pr) (fun _ _ s5 _=>l.length-(intOf s5).toNat)
 case atStart=>exact⟨0,[],false,rfl,rfl,kT _,rfl,uE _ _ _ _,jU _ _,rfl⟩
 case round=>
  obtain⟨i,P,pr,rfl,rfl,hi,hP,hO,hB,hM⟩:=hrel;obtain⟨bx,rfl⟩:∃bx:Value×Unit,u3=bx.1:=⟨(u3,()),rfl⟩;have HO:=Hd hO;have HB:=Hd hB;have HM:=Hd hM;have HP:=Hd hP;clear hO hB hM hP
  by_cases hlt:i<l.length
  rotate_left
  · have hge:¬(i:Int)<(l.length:Int):=by omega
    have hpr:pr=false:=by
     cases pr with
     |false=>rfl
     |true=>obtain⟨c,hc,-⟩:=HM.o;have :=(jE.1 hc).1;omega
    subst hpr;have HE:Hid (P=uX l):=Hd (by
     have h':uX l=P++uX (l.drop i):=HM.o;rw[h',vR qJ];simp[uX])
    go_wp2
    go_ret
    have hO2:=HO.o;rw[HE.o]at hO2;obtain⟨g,cap,hv,hc⟩:=ClO.form hO2 (by rw[kR];exact h0);exact⟨g,cap,by rw[←hv];rfl,hc,HB.o⟩
  · have hltI:(i:Int)<(l.length:Int):=by omega
    obtain⟨c,hc⟩:∃c,l[i]? =some c:=⟨l[i],jD hlt⟩;have HC:=Hd hc;have HRI:=Hd (pS (HR.o i c hc) HB.o);clear hc
    go_upto_region 6 with fail
    refine wp_region_lit ?_;refine zG (.slice (some ⟨b,off,none⟩) l.length ca) ?_;refine zG (.int .i64 (i:Int)) ?_;refine zGs (.pointer (some ⟨b,off+i*8,none⟩)) ?_;refine uF qK 154 (.tmp 17) rfl (b) (off+i*8) rfl (kX c) _ (HRI.o) uH rfl uD ?_;refine zP ?_;obtain⟨cr,cm,ch,c1,c2,c3,c4,c5⟩:=c;simp only[kX]
    go_upto_region 7 with fail
    have HBW:=Hd (jW HB.o (.cells (kX ⟨cr,cm,ch,c1,c2,c3,c4,c5⟩).toArray 154));have HOW:=Hd (ClO.below HO.o (jW (jU wr.heap.size wr) (.cells (kX ⟨cr,cm,ch,c1,c2,c3,c4,c5⟩).toArray 154)));have HCW:=Hd (show(wr.alloc (.cells (kX ⟨cr,cm,ch,c1,c2,c3,c4,c5⟩).toArray 154)).heap[wr.heap.size]? =_ from kZ rfl);change Code.wp _ _ _ _ (wr.alloc (.cells (kX ⟨cr,cm,ch,c1,c2,c3,c4,c5⟩).toArray 154));obtain⟨k,hk⟩:∃k,wr.heap.size=k:=⟨_,rfl⟩;have HKO:Hid (∀g,bx.1.ownBlock=some g→g≠k):=Hd (fun g hg=>by have :=(kK.lt (show wr.ownsRow _ _ _ _ _ _ from HO.o) g hg).2;omega);have HKW:Hid (w.heap.size≤k):=Hd (by have :=HB.o.size;omega);generalize wr.alloc (.cells (kX ⟨cr,cm,ch,c1,c2,c3,c4,c5⟩).toArray 154)=W at HBW HOW HCW ⊢;rw[hk]at HCW ⊢;clear hk;cases pr with
    |true=>
     go_upto_region 8 with fail
     refine wp_region_lit ?_;refine zG (bx.1) ?_;refine uF qK 154 (.tmp 6) rfl (k) (0) rfl (kX (⟨cr,cm,ch,c1,c2,c3,c4,c5⟩)) _ (kA HCW.o) uH rfl uD ?_;refine zP ?_;refine uM (.slice (some ⟨W.heap.size,0,none⟩) 1 1) (W.alloc (.cells (kX (⟨cr,cm,ch,c1,c2,c3,c4,c5⟩)).toArray 154)) qK qJu ?_;refine zP ?_;refine kO rfl (.tmp 20) (.tmp 22) 95 rfl w.heap.size 154 j0 _ 8 72 uT hj gz0 gz1 gz2 rfl qZ bx.1 P.length (uS kX P) rfl (ClO.below HOW.o (jW (jU _ _) _)) ⟨W.heap.size,0,none⟩ 1 1 (kX (⟨cr,cm,ch,c1,c2,c3,c4,c5⟩)) rfl rfl (fun j u hj=>by rw[vZ,kB];exact(at_ (kZ rfl) j u qF).1) (gL _) qM qR qVw ?_;intro v' w7 ho hg hv';have HO7:Hid (ClO w.heap.size w7 v' (P++[⟨cr,cm,ch,c1,c2,c3,c4,c5⟩])):=Hd qP;have HB7:=Hd ((jW HBW.o (.cells (kX (⟨cr,cm,ch,c1,c2,c3,c4,c5⟩)).toArray 154)).grown hg (jW HBW.o _).size (fun b hb=>(kK.lt (show W.ownsRow _ _ _ _ _ _ from HOW.o) b hb).1));refine zP ?_;clear ho hg hv'
     go_wp2
     go_roundw
     case rel=>exact⟨i+1,P++[⟨cr,cm,ch,c1,c2,c3,c4,c5⟩],false,by go_num,rfl,by omega,by rw[jI,HP.o];rfl,HO7.o,HB7.o,HM.o.emit HC.o⟩
     case measure=>exact zm
    |false=>
     have z2:W.cell? ⟨k,2,none⟩=some (.int .i64 ch):=(at_ HCW.o 2 _ rfl).1;have hw:jP.wrap ((l.length:Int)-1)=(l.length:Int)-1:=jH _ qJ
     by_cases h0:ch=0
     · subst h0
       go_upto_region 16 with fail
       refine wp_region_lit ?_;refine zG (bx.1) ?_;refine uF qK 154 (.tmp 6) rfl (k) (0) rfl (kX (⟨cr,cm,0,c1,c2,c3,c4,c5⟩)) _ (kA HCW.o) uH rfl uD ?_;refine zP ?_;refine uM (.slice (some ⟨W.heap.size,0,none⟩) 1 1) (W.alloc (.cells (kX (⟨cr,cm,0,c1,c2,c3,c4,c5⟩)).toArray 154)) qK qJu ?_;refine zP ?_;refine kO rfl (.tmp 86) (.tmp 88) 95 rfl w.heap.size 154 j0 _ 8 72 uT hj gz0 gz1 gz2 rfl qZ bx.1 P.length (uS kX P) rfl (ClO.below HOW.o (jW (jU _ _) _)) ⟨W.heap.size,0,none⟩ 1 1 (kX (⟨cr,cm,0,c1,c2,c3,c4,c5⟩)) rfl rfl (fun j u hj=>by rw[vZ,kB];exact(at_ (kZ rfl) j u qF).1) (gL _) qM qR qVw ?_;intro v' w7 ho hg hv';have HO7:Hid (ClO w.heap.size w7 v' (P++[⟨cr,cm,0,c1,c2,c3,c4,c5⟩])):=Hd qP;have HB7:=Hd ((jW HBW.o (.cells (kX (⟨cr,cm,0,c1,c2,c3,c4,c5⟩)).toArray 154)).grown hg (jW HBW.o _).size (fun b hb=>(kK.lt (show W.ownsRow _ _ _ _ _ _ from HOW.o) b hb).1));refine zP ?_;clear ho hg hv'
       go_wp2
       go_roundw
       case rel=>exact⟨i+1,P++[⟨cr,cm,0,c1,c2,c3,c4,c5⟩],false,by go_num,rfl,by omega,by rw[jI,HP.o];rfl,HO7.o,HB7.o,HM.o.keep HC.o (eU rfl _)⟩
       case measure=>exact zm
     have h0b:(ch==0)=false:=zb h0
     by_cases h3:ch=3∧i+1=l.length
     · obtain⟨rfl,hil⟩:=h3;have hib:((i:Int)==(l.length:Int)-1)=true:=by simp;omega
       have hib2:(l.length:Int)-1=(i:Int):=by omega
       have HNI:Hid (l.drop (i+1)=[]):=Hd (vR qJ)
       go_upto_region 16 with fail
       refine wp_region_lit ?_;refine zG (bx.1) ?_;refine uF qK 154 (.tmp 6) rfl (k) (0) rfl (kX (⟨cr,cm,3,c1,c2,c3,c4,c5⟩)) _ (kA HCW.o) uH rfl uD ?_;refine zP ?_;refine uM (.slice (some ⟨W.heap.size,0,none⟩) 1 1) (W.alloc (.cells (kX (⟨cr,cm,3,c1,c2,c3,c4,c5⟩)).toArray 154)) qK qJu ?_;refine zP ?_;refine kO rfl (.tmp 86) (.tmp 88) 95 rfl w.heap.size 154 j0 _ 8 72 uT hj gz0 gz1 gz2 rfl qZ bx.1 P.length (uS kX P) rfl (ClO.below HOW.o (jW (jU _ _) _)) ⟨W.heap.size,0,none⟩ 1 1 (kX (⟨cr,cm,3,c1,c2,c3,c4,c5⟩)) rfl rfl (fun j u hj=>by rw[vZ,kB];exact(at_ (kZ rfl) j u qF).1) (gL _) qM qR qVw ?_;intro v' w7 ho hg hv';have HO7:Hid (ClO w.heap.size w7 v' (P++[⟨cr,cm,3,c1,c2,c3,c4,c5⟩])):=Hd qP;have HB7:=Hd ((jW HBW.o (.cells (kX (⟨cr,cm,3,c1,c2,c3,c4,c5⟩)).toArray 154)).grown hg (jW HBW.o _).size (fun b hb=>(kK.lt (show W.ownsRow _ _ _ _ _ _ from HOW.o) b hb).1));refine zP ?_;clear ho hg hv'
       go_wp2
       go_roundw
       case rel=>exact⟨i+1,P++[⟨cr,cm,3,c1,c2,c3,c4,c5⟩],false,by go_num,rfl,by omega,by rw[jI,HP.o];rfl,HO7.o,HB7.o,HM.o.keep HC.o (by rw[HNI.o,KV rfl];rfl)⟩
       case measure=>exact zm
     have HN3:=Hd h3;have h3b:ch=3→((i:Int)==(l.length:Int)-1)=false:=fun e=>zb (by have :=HN3.o;omega)
     by_cases h1:ch=1
     rotate_left
     · have h1b:(ch==1)=false:=zb h1;have HMO:Hid (uX (⟨cr,cm,ch,c1,c2,c3,c4,c5⟩::l.drop (i+1))=uU ⟨cr,cm,ch,c1,c2,c3,c4,c5⟩::uX (l.drop (i+1))):=Hd (cZ h0 (fun hh=>HN3.o ⟨hh.1,by have :=congrArg List.length hh.2;simp at this;omega⟩) (fun d m _=>by unfold fA;simp[h1]))
       by_cases h33:ch=3
       · have h3t:(ch==3)=true:=beq_iff_eq.2 h33;have hib:=h3b h33;clear h3b h33 h3
         go_upto_region 15 with fail
         refine wp_region_lit ?_;refine zGs (.pointer (some ⟨k,3,none⟩)) ?_;refine uF qK 40 (.tmp 83) rfl (k) (3) rfl ([.int .i64 c1,.int .i64 c2,.int .i64 c3,.int .i64 c4,.int .i64 c5]) _ (cM HCW.o) vN rfl bL ?_;refine zP ?_;refine jM (.agg (kX (uU ⟨cr,cm,ch,c1,c2,c3,c4,c5⟩)).toArray) qK jK ?_;refine zP ?_;refine wpList_store_mid rfl 154 (.tmp 6) (.tmp 85) rfl (k) (0) ((kX (uU ⟨cr,cm,ch,c1,c2,c3,c4,c5⟩)).toArray) rfl rfl (rS HCW.o) uD (bU (uU ⟨cr,cm,ch,c1,c2,c3,c4,c5⟩)) ?_;simp only[Act.put];have HXE:Hid ((W.setCells k 0 (kX (uU ⟨cr,cm,ch,c1,c2,c3,c4,c5⟩))).heap[k]? =some (.cells (kX (uU ⟨cr,cm,ch,c1,c2,c3,c4,c5⟩)).toArray 154 (0,0))):=Hd (by
          have :=uB (kX (uU ⟨cr,cm,ch,c1,c2,c3,c4,c5⟩)) 0 _ W HCW.o qV5;simpa[kX]using this)
         have HBE:=Hd (yW HBW.o HKW.o (kX (uU ⟨cr,cm,ch,c1,c2,c3,c4,c5⟩)) 0);have HOE:Hid (ClO w.heap.size (W.setCells k 0 (kX (uU ⟨cr,cm,ch,c1,c2,c3,c4,c5⟩))) bx.1 P):=Hd (uL HOW.o (gM (X:=[k]) (.inl qV) _ _ _ (Mod.refl _ _)) (fun g hg hx=>HKO.o g hg (jR.1 hx)));change wpList _ _ _ _ _ (W.setCells k 0 (kX (uU ⟨cr,cm,ch,c1,c2,c3,c4,c5⟩)));generalize W.setCells k 0 (kX (uU ⟨cr,cm,ch,c1,c2,c3,c4,c5⟩))=WE at HXE HBE HOE ⊢
         go_upto_region 16 with fail
         refine wp_region_lit ?_;refine zG (bx.1) ?_;refine uF qK 154 (.tmp 6) rfl (k) (0) rfl (kX (uU ⟨cr,cm,ch,c1,c2,c3,c4,c5⟩)) _ (kA HXE.o) uH rfl uD ?_;refine zP ?_;refine uM (.slice (some ⟨WE.heap.size,0,none⟩) 1 1) (WE.alloc (.cells (kX (uU ⟨cr,cm,ch,c1,c2,c3,c4,c5⟩)).toArray 154)) qK qJu ?_;refine zP ?_;refine kO rfl (.tmp 86) (.tmp 88) 95 rfl w.heap.size 154 j0 _ 8 72 uT hj gz0 gz1 gz2 rfl qZ bx.1 P.length (uS kX P) rfl (ClO.below HOE.o (jW (jU _ _) _)) ⟨WE.heap.size,0,none⟩ 1 1 (kX (uU ⟨cr,cm,ch,c1,c2,c3,c4,c5⟩)) rfl rfl (fun j u hj=>by rw[vZ,kB];exact(at_ (kZ rfl) j u qF).1) (gL _) qM qR qJ4 ?_;intro v' w7 ho hg hv';have HO7:Hid (ClO w.heap.size w7 v' (P++[uU ⟨cr,cm,ch,c1,c2,c3,c4,c5⟩])):=Hd qP;have HB7:=Hd ((jW HBE.o (.cells (kX (uU ⟨cr,cm,ch,c1,c2,c3,c4,c5⟩)).toArray 154)).grown hg (jW HBE.o _).size (fun b hb=>(kK.lt (show WE.ownsRow _ _ _ _ _ _ from HOE.o) b hb).1));refine zP ?_;clear ho hg hv'
         go_wp2
         go_roundw
         case rel=>exact⟨i+1,P++[uU ⟨cr,cm,ch,c1,c2,c3,c4,c5⟩],false,by go_num,rfl,by omega,by rw[jI,HP.o];rfl,HO7.o,HB7.o,HM.o.keep HC.o HMO.o⟩
         case measure=>exact zm
       · have h3t:(ch==3)=false:=zb h33;clear h3b h33 h3
         go_upto_region 15 with fail
         refine wp_region_lit ?_;refine zGs (.pointer (some ⟨k,3,none⟩)) ?_;refine uF qK 40 (.tmp 83) rfl (k) (3) rfl ([.int .i64 c1,.int .i64 c2,.int .i64 c3,.int .i64 c4,.int .i64 c5]) _ (cM HCW.o) vN rfl bL ?_;refine zP ?_;refine jM (.agg (kX (uU ⟨cr,cm,ch,c1,c2,c3,c4,c5⟩)).toArray) qK jK ?_;refine zP ?_;refine wpList_store_mid rfl 154 (.tmp 6) (.tmp 85) rfl (k) (0) ((kX (uU ⟨cr,cm,ch,c1,c2,c3,c4,c5⟩)).toArray) rfl rfl (rS HCW.o) uD (bU (uU ⟨cr,cm,ch,c1,c2,c3,c4,c5⟩)) ?_;simp only[Act.put];have HXE:Hid ((W.setCells k 0 (kX (uU ⟨cr,cm,ch,c1,c2,c3,c4,c5⟩))).heap[k]? =some (.cells (kX (uU ⟨cr,cm,ch,c1,c2,c3,c4,c5⟩)).toArray 154 (0,0))):=Hd (by
          have :=uB (kX (uU ⟨cr,cm,ch,c1,c2,c3,c4,c5⟩)) 0 _ W HCW.o qV5;simpa[kX]using this)
         have HBE:=Hd (yW HBW.o HKW.o (kX (uU ⟨cr,cm,ch,c1,c2,c3,c4,c5⟩)) 0);have HOE:Hid (ClO w.heap.size (W.setCells k 0 (kX (uU ⟨cr,cm,ch,c1,c2,c3,c4,c5⟩))) bx.1 P):=Hd (uL HOW.o (gM (X:=[k]) (.inl qV) _ _ _ (Mod.refl _ _)) (fun g hg hx=>HKO.o g hg (jR.1 hx)));change wpList _ _ _ _ _ (W.setCells k 0 (kX (uU ⟨cr,cm,ch,c1,c2,c3,c4,c5⟩)));generalize W.setCells k 0 (kX (uU ⟨cr,cm,ch,c1,c2,c3,c4,c5⟩))=WE at HXE HBE HOE ⊢
         go_upto_region 16 with fail
         refine wp_region_lit ?_;refine zG (bx.1) ?_;refine uF qK 154 (.tmp 6) rfl (k) (0) rfl (kX (uU ⟨cr,cm,ch,c1,c2,c3,c4,c5⟩)) _ (kA HXE.o) uH rfl uD ?_;refine zP ?_;refine uM (.slice (some ⟨WE.heap.size,0,none⟩) 1 1) (WE.alloc (.cells (kX (uU ⟨cr,cm,ch,c1,c2,c3,c4,c5⟩)).toArray 154)) qK qJu ?_;refine zP ?_;refine kO rfl (.tmp 86) (.tmp 88) 95 rfl w.heap.size 154 j0 _ 8 72 uT hj gz0 gz1 gz2 rfl qZ bx.1 P.length (uS kX P) rfl (ClO.below HOE.o (jW (jU _ _) _)) ⟨WE.heap.size,0,none⟩ 1 1 (kX (uU ⟨cr,cm,ch,c1,c2,c3,c4,c5⟩)) rfl rfl (fun j u hj=>by rw[vZ,kB];exact(at_ (kZ rfl) j u qF).1) (gL _) qM qR qJ4 ?_;intro v' w7 ho hg hv';have HO7:Hid (ClO w.heap.size w7 v' (P++[uU ⟨cr,cm,ch,c1,c2,c3,c4,c5⟩])):=Hd qP;have HB7:=Hd ((jW HBE.o (.cells (kX (uU ⟨cr,cm,ch,c1,c2,c3,c4,c5⟩)).toArray 154)).grown hg (jW HBE.o _).size (fun b hb=>(kK.lt (show WE.ownsRow _ _ _ _ _ _ from HOE.o) b hb).1));refine zP ?_;clear ho hg hv'
         go_wp2
         go_roundw
         case rel=>exact⟨i+1,P++[uU ⟨cr,cm,ch,c1,c2,c3,c4,c5⟩],false,by go_num,rfl,by omega,by rw[jI,HP.o];rfl,HO7.o,HB7.o,HM.o.keep HC.o HMO.o⟩
         case measure=>exact zm
     subst h1;clear h3b h3
     by_cases hlast:i+1=l.length
     · have hni:¬(i:Int)<(l.length:Int)-1:=by omega
       have HMO:Hid (uX (⟨cr,cm,1,c1,c2,c3,c4,c5⟩::l.drop (i+1))=uU ⟨cr,cm,1,c1,c2,c3,c4,c5⟩::uX (l.drop (i+1))):=Hd (cZ (show ¬(1:Int)=0 from by decide) (fun hh=>by simp at hh) (fun d m e=>by have :=congrArg List.length e;simp at this;omega))
       go_upto_region 15 with fail
       refine wp_region_lit ?_;refine zGs (.pointer (some ⟨k,3,none⟩)) ?_;refine uF qK 40 (.tmp 83) rfl (k) (3) rfl ([.int .i64 c1,.int .i64 c2,.int .i64 c3,.int .i64 c4,.int .i64 c5]) _ (cM HCW.o) vN rfl bL ?_;refine zP ?_;refine jM (.agg (kX (uU ⟨cr,cm,1,c1,c2,c3,c4,c5⟩)).toArray) qK jK ?_;refine zP ?_;refine wpList_store_mid rfl 154 (.tmp 6) (.tmp 85) rfl (k) (0) ((kX (uU ⟨cr,cm,1,c1,c2,c3,c4,c5⟩)).toArray) rfl rfl (rS HCW.o) uD (bU (uU ⟨cr,cm,1,c1,c2,c3,c4,c5⟩)) ?_;simp only[Act.put];have HXE:Hid ((W.setCells k 0 (kX (uU ⟨cr,cm,1,c1,c2,c3,c4,c5⟩))).heap[k]? =some (.cells (kX (uU ⟨cr,cm,1,c1,c2,c3,c4,c5⟩)).toArray 154 (0,0))):=Hd (by
        have :=uB (kX (uU ⟨cr,cm,1,c1,c2,c3,c4,c5⟩)) 0 _ W HCW.o qV5;simpa[kX]using this)
       have HBE:=Hd (yW HBW.o HKW.o (kX (uU ⟨cr,cm,1,c1,c2,c3,c4,c5⟩)) 0);have HOE:Hid (ClO w.heap.size (W.setCells k 0 (kX (uU ⟨cr,cm,1,c1,c2,c3,c4,c5⟩))) bx.1 P):=Hd (uL HOW.o (gM (X:=[k]) (.inl qV) _ _ _ (Mod.refl _ _)) (fun g hg hx=>HKO.o g hg (jR.1 hx)));change wpList _ _ _ _ _ (W.setCells k 0 (kX (uU ⟨cr,cm,1,c1,c2,c3,c4,c5⟩)));generalize W.setCells k 0 (kX (uU ⟨cr,cm,1,c1,c2,c3,c4,c5⟩))=WE at HXE HBE HOE ⊢
       go_upto_region 16 with fail
       refine wp_region_lit ?_;refine zG (bx.1) ?_;refine uF qK 154 (.tmp 6) rfl (k) (0) rfl (kX (uU ⟨cr,cm,1,c1,c2,c3,c4,c5⟩)) _ (kA HXE.o) uH rfl uD ?_;refine zP ?_;refine uM (.slice (some ⟨WE.heap.size,0,none⟩) 1 1) (WE.alloc (.cells (kX (uU ⟨cr,cm,1,c1,c2,c3,c4,c5⟩)).toArray 154)) qK qJu ?_;refine zP ?_;refine kO rfl (.tmp 86) (.tmp 88) 95 rfl w.heap.size 154 j0 _ 8 72 uT hj gz0 gz1 gz2 rfl qZ bx.1 P.length (uS kX P) rfl (ClO.below HOE.o (jW (jU _ _) _)) ⟨WE.heap.size,0,none⟩ 1 1 (kX (uU ⟨cr,cm,1,c1,c2,c3,c4,c5⟩)) rfl rfl (fun j u hj=>by rw[vZ,kB];exact(at_ (kZ rfl) j u qF).1) (gL _) qM qR qJ4 ?_;intro v' w7 ho hg hv';have HO7:Hid (ClO w.heap.size w7 v' (P++[uU ⟨cr,cm,1,c1,c2,c3,c4,c5⟩])):=Hd qP;have HB7:=Hd ((jW HBE.o (.cells (kX (uU ⟨cr,cm,1,c1,c2,c3,c4,c5⟩)).toArray 154)).grown hg (jW HBE.o _).size (fun b hb=>(kK.lt (show WE.ownsRow _ _ _ _ _ _ from HOE.o) b hb).1));refine zP ?_;clear ho hg hv'
       go_wp2
       go_roundw
       case rel=>exact⟨i+1,P++[uU ⟨cr,cm,1,c1,c2,c3,c4,c5⟩],false,by go_num,rfl,by omega,by rw[jI,HP.o];rfl,HO7.o,HB7.o,HM.o.keep HC.o HMO.o⟩
       case measure=>exact zm
     obtain⟨j,hj⟩:∃j:Nat,j=i+1:=⟨_,rfl⟩;have hjI:(i:Int)+1=(j:Int):=by omega
     have hwj:jP.wrap (j:Int)=(j:Int):=jH _ qJ;have hjl:j<l.length:=by omega
     have hjlI:(j:Int)<(l.length:Int):=by omega
     have hil:(i:Int)<(l.length:Int)-1:=by omega
     have HJ:=Hd hj;obtain⟨d,hd⟩:∃d,l[j]? =some d:=⟨l[j],jD hjl⟩;have HD:=Hd hd;have HRJ:=Hd (pS (HR.o j d hd) HBW.o);clear hd hj hlast
     go_upto_region 11 with fail
     refine wp_region_lit ?_;refine zG (.slice (some ⟨b,off,none⟩) l.length ca) ?_;refine zG (.int .i64 (i:Int)) ?_;refine zGs (.int .i64 (j:Int)) ?_;refine zGs (.pointer (some ⟨b,off+j*8,none⟩)) ?_;refine uF qK 154 (.tmp 37) rfl (b) (off+j*8) rfl (kX d) _ (HRJ.o) uH rfl uD ?_;refine zP ?_;obtain⟨dr,dm,dh,d1,d2,d3,d4,d5⟩:=d;simp only[kX]
     go_upto_region 12 with fail
     have HBV:=Hd (jW HBW.o (.cells (kX ⟨dr,dm,dh,d1,d2,d3,d4,d5⟩).toArray 154));have HOV:=Hd (ClO.below HOW.o (jW (jU W.heap.size W) (.cells (kX ⟨dr,dm,dh,d1,d2,d3,d4,d5⟩).toArray 154)));have HCV:=Hd (show(W.alloc (.cells (kX ⟨dr,dm,dh,d1,d2,d3,d4,d5⟩).toArray 154)).heap[k]? =_ from uI HCW.o);have HDV:=Hd (show(W.alloc (.cells (kX ⟨dr,dm,dh,d1,d2,d3,d4,d5⟩).toArray 154)).heap[W.heap.size]? =_ from kZ rfl);change Code.wp _ _ _ _ (W.alloc (.cells (kX ⟨dr,dm,dh,d1,d2,d3,d4,d5⟩).toArray 154));obtain⟨m,hm⟩:∃m,W.heap.size=m:=⟨_,rfl⟩;generalize W.alloc (.cells (kX ⟨dr,dm,dh,d1,d2,d3,d4,d5⟩).toArray 154)=V at HBV HOV HCV HDV ⊢;rw[hm]at HDV ⊢;clear hm z2;have zk2:V.cell? ⟨k,2,none⟩=some (.int .i64 1):=(at_ HCV.o 2 _ rfl).1;have zk0:V.cell? ⟨k,0,none⟩=some (.int .i32 cr):=(at_ HCV.o 0 _ rfl).1;have zk1:V.cell? ⟨k,1,none⟩=some (.string cm):=(at_ HCV.o 1 _ rfl).1;have zm2:V.cell? ⟨m,2,none⟩=some (.int .i64 dh):=(at_ HDV.o 2 _ rfl).1;have zm0:V.cell? ⟨m,0,none⟩=some (.int .i32 dr):=(at_ HDV.o 0 _ rfl).1;have zm1:V.cell? ⟨m,1,none⟩=some (.string dm):=(at_ HDV.o 1 _ rfl).1
     have HNP:Hid (fA ⟨cr,cm,1,c1,c2,c3,c4,c5⟩ ⟨dr,dm,dh,d1,d2,d3,d4,d5⟩=false→uX (⟨cr,cm,1,c1,c2,c3,c4,c5⟩::l.drop (i+1))=uU ⟨cr,cm,1,c1,c2,c3,c4,c5⟩::uX (l.drop (i+1))):=Hd (fun hp=>cZ (show ¬(1:Int)=0 from by decide) (fun hh=>absurd (show(1:Int)=3 from hh.1) qZ) (fun d mm e=>by
      have h2:=HD.o;have h3:(l.drop (i+1))[0]? =some ⟨dr,dm,dh,d1,d2,d3,d4,d5⟩:=by rw[gV];simpa[←HJ.o]using h2
      rw[e]at h3;simp at h3;subst h3;exact hp))
     have HPE:=Hd (Kr ⟨cr,cm,1,c1,c2,c3,c4,c5⟩ ⟨dr,dm,dh,d1,d2,d3,d4,d5⟩ rfl);clear hjI hwj hjl hjlI hil
     by_cases e1:dh=2
     rotate_left
     · have e1b:(dh==2)=false:=zb e1;have HMO:=Hd (HNP.o (by rw[HPE.o];simp[e1]));clear e1
       go_upto_region 15 with fail
       refine wp_region_lit ?_;refine zGs (.pointer (some ⟨k,3,none⟩)) ?_;refine uF qK 40 (.tmp 83) rfl (k) (3) rfl ([.int .i64 c1,.int .i64 c2,.int .i64 c3,.int .i64 c4,.int .i64 c5]) _ (cM HCV.o) vN rfl bL ?_;refine zP ?_;refine jM (.agg (kX (uU ⟨cr,cm,1,c1,c2,c3,c4,c5⟩)).toArray) qK jK ?_;refine zP ?_;refine wpList_store_mid rfl 154 (.tmp 6) (.tmp 85) rfl (k) (0) ((kX (uU ⟨cr,cm,1,c1,c2,c3,c4,c5⟩)).toArray) rfl rfl (rS HCV.o) uD (bU (uU ⟨cr,cm,1,c1,c2,c3,c4,c5⟩)) ?_;simp only[Act.put];have HXE:Hid ((V.setCells k 0 (kX (uU ⟨cr,cm,1,c1,c2,c3,c4,c5⟩))).heap[k]? =some (.cells (kX (uU ⟨cr,cm,1,c1,c2,c3,c4,c5⟩)).toArray 154 (0,0))):=Hd (by
        have :=uB (kX (uU ⟨cr,cm,1,c1,c2,c3,c4,c5⟩)) 0 _ V HCV.o qV5;simpa[kX]using this)
       have HBE:=Hd (yW HBV.o HKW.o (kX (uU ⟨cr,cm,1,c1,c2,c3,c4,c5⟩)) 0);have HOE:Hid (ClO w.heap.size (V.setCells k 0 (kX (uU ⟨cr,cm,1,c1,c2,c3,c4,c5⟩))) bx.1 P):=Hd (uL HOV.o (gM (X:=[k]) (.inl qV) _ _ _ (Mod.refl _ _)) (fun g hg hx=>HKO.o g hg (jR.1 hx)));change wpList _ _ _ _ _ (V.setCells k 0 (kX (uU ⟨cr,cm,1,c1,c2,c3,c4,c5⟩)));generalize V.setCells k 0 (kX (uU ⟨cr,cm,1,c1,c2,c3,c4,c5⟩))=WE at HXE HBE HOE ⊢
       go_upto_region 16 with fail
       refine wp_region_lit ?_;refine zG (bx.1) ?_;refine uF qK 154 (.tmp 6) rfl (k) (0) rfl (kX (uU ⟨cr,cm,1,c1,c2,c3,c4,c5⟩)) _ (kA HXE.o) uH rfl uD ?_;refine zP ?_;refine uM (.slice (some ⟨WE.heap.size,0,none⟩) 1 1) (WE.alloc (.cells (kX (uU ⟨cr,cm,1,c1,c2,c3,c4,c5⟩)).toArray 154)) qK qJu ?_;refine zP ?_;refine kO rfl (.tmp 86) (.tmp 88) 95 rfl w.heap.size 154 j0 _ 8 72 uT hj gz0 gz1 gz2 rfl qZ bx.1 P.length (uS kX P) rfl (ClO.below HOE.o (jW (jU _ _) _)) ⟨WE.heap.size,0,none⟩ 1 1 (kX (uU ⟨cr,cm,1,c1,c2,c3,c4,c5⟩)) rfl rfl (fun j u hj=>by rw[vZ,kB];exact(at_ (kZ rfl) j u qF).1) (gL _) qM qR qJ4 ?_;intro v' w7 ho hg hv';have HO7:Hid (ClO w.heap.size w7 v' (P++[uU ⟨cr,cm,1,c1,c2,c3,c4,c5⟩])):=Hd qP;have HB7:=Hd ((jW HBE.o (.cells (kX (uU ⟨cr,cm,1,c1,c2,c3,c4,c5⟩)).toArray 154)).grown hg (jW HBE.o _).size (fun b hb=>(kK.lt (show WE.ownsRow _ _ _ _ _ _ from HOE.o) b hb).1));refine zP ?_;clear ho hg hv'
       go_wp2
       go_roundw
       case rel=>exact⟨i+1,P++[uU ⟨cr,cm,1,c1,c2,c3,c4,c5⟩],false,by go_num,rfl,by omega,by rw[jI,HP.o];rfl,HO7.o,HB7.o,HM.o.keep HC.o HMO.o⟩
       case measure=>exact zm
     subst e1
     by_cases e2:dr=cr
     rotate_left
     · have e2b:(dr==cr)=false:=zb e2;have HMO:=Hd (HNP.o (by rw[HPE.o];simp[e2]));clear e2
       go_upto_region 15 with fail
       refine wp_region_lit ?_;refine zGs (.pointer (some ⟨k,3,none⟩)) ?_;refine uF qK 40 (.tmp 83) rfl (k) (3) rfl ([.int .i64 c1,.int .i64 c2,.int .i64 c3,.int .i64 c4,.int .i64 c5]) _ (cM HCV.o) vN rfl bL ?_;refine zP ?_;refine jM (.agg (kX (uU ⟨cr,cm,1,c1,c2,c3,c4,c5⟩)).toArray) qK jK ?_;refine zP ?_;refine wpList_store_mid rfl 154 (.tmp 6) (.tmp 85) rfl (k) (0) ((kX (uU ⟨cr,cm,1,c1,c2,c3,c4,c5⟩)).toArray) rfl rfl (rS HCV.o) uD (bU (uU ⟨cr,cm,1,c1,c2,c3,c4,c5⟩)) ?_;simp only[Act.put];have HXE:Hid ((V.setCells k 0 (kX (uU ⟨cr,cm,1,c1,c2,c3,c4,c5⟩))).heap[k]? =some (.cells (kX (uU ⟨cr,cm,1,c1,c2,c3,c4,c5⟩)).toArray 154 (0,0))):=Hd (by
        have :=uB (kX (uU ⟨cr,cm,1,c1,c2,c3,c4,c5⟩)) 0 _ V HCV.o qV5;simpa[kX]using this)
       have HBE:=Hd (yW HBV.o HKW.o (kX (uU ⟨cr,cm,1,c1,c2,c3,c4,c5⟩)) 0);have HOE:Hid (ClO w.heap.size (V.setCells k 0 (kX (uU ⟨cr,cm,1,c1,c2,c3,c4,c5⟩))) bx.1 P):=Hd (uL HOV.o (gM (X:=[k]) (.inl qV) _ _ _ (Mod.refl _ _)) (fun g hg hx=>HKO.o g hg (jR.1 hx)));change wpList _ _ _ _ _ (V.setCells k 0 (kX (uU ⟨cr,cm,1,c1,c2,c3,c4,c5⟩)));generalize V.setCells k 0 (kX (uU ⟨cr,cm,1,c1,c2,c3,c4,c5⟩))=WE at HXE HBE HOE ⊢
       go_upto_region 16 with fail
       refine wp_region_lit ?_;refine zG (bx.1) ?_;refine uF qK 154 (.tmp 6) rfl (k) (0) rfl (kX (uU ⟨cr,cm,1,c1,c2,c3,c4,c5⟩)) _ (kA HXE.o) uH rfl uD ?_;refine zP ?_;refine uM (.slice (some ⟨WE.heap.size,0,none⟩) 1 1) (WE.alloc (.cells (kX (uU ⟨cr,cm,1,c1,c2,c3,c4,c5⟩)).toArray 154)) qK qJu ?_;refine zP ?_;refine kO rfl (.tmp 86) (.tmp 88) 95 rfl w.heap.size 154 j0 _ 8 72 uT hj gz0 gz1 gz2 rfl qZ bx.1 P.length (uS kX P) rfl (ClO.below HOE.o (jW (jU _ _) _)) ⟨WE.heap.size,0,none⟩ 1 1 (kX (uU ⟨cr,cm,1,c1,c2,c3,c4,c5⟩)) rfl rfl (fun j u hj=>by rw[vZ,kB];exact(at_ (kZ rfl) j u qF).1) (gL _) qM qR qJ4 ?_;intro v' w7 ho hg hv';have HO7:Hid (ClO w.heap.size w7 v' (P++[uU ⟨cr,cm,1,c1,c2,c3,c4,c5⟩])):=Hd qP;have HB7:=Hd ((jW HBE.o (.cells (kX (uU ⟨cr,cm,1,c1,c2,c3,c4,c5⟩)).toArray 154)).grown hg (jW HBE.o _).size (fun b hb=>(kK.lt (show WE.ownsRow _ _ _ _ _ _ from HOE.o) b hb).1));refine zP ?_;clear ho hg hv'
       go_wp2
       go_roundw
       case rel=>exact⟨i+1,P++[uU ⟨cr,cm,1,c1,c2,c3,c4,c5⟩],false,by go_num,rfl,by omega,by rw[jI,HP.o];rfl,HO7.o,HB7.o,HM.o.keep HC.o HMO.o⟩
       case measure=>exact zm
     obtain rfl:cr=dr:=e2.symm
     by_cases e3:dm.toList=cm.toList
     rotate_left
     · have e3b:(dm.toList==cm.toList)=false:=zb e3;have HMO:=Hd (HNP.o (by rw[HPE.o];simp[show ¬dm=cm from fun e=>e3 (by rw[e])]));clear e3
       go_upto_region 15 with fail
       refine wp_region_lit ?_;refine zGs (.pointer (some ⟨k,3,none⟩)) ?_;refine uF qK 40 (.tmp 83) rfl (k) (3) rfl ([.int .i64 c1,.int .i64 c2,.int .i64 c3,.int .i64 c4,.int .i64 c5]) _ (cM HCV.o) vN rfl bL ?_;refine zP ?_;refine jM (.agg (kX (uU ⟨cr,cm,1,c1,c2,c3,c4,c5⟩)).toArray) qK jK ?_;refine zP ?_;refine wpList_store_mid rfl 154 (.tmp 6) (.tmp 85) rfl (k) (0) ((kX (uU ⟨cr,cm,1,c1,c2,c3,c4,c5⟩)).toArray) rfl rfl (rS HCV.o) uD (bU (uU ⟨cr,cm,1,c1,c2,c3,c4,c5⟩)) ?_;simp only[Act.put];have HXE:Hid ((V.setCells k 0 (kX (uU ⟨cr,cm,1,c1,c2,c3,c4,c5⟩))).heap[k]? =some (.cells (kX (uU ⟨cr,cm,1,c1,c2,c3,c4,c5⟩)).toArray 154 (0,0))):=Hd (by
        have :=uB (kX (uU ⟨cr,cm,1,c1,c2,c3,c4,c5⟩)) 0 _ V HCV.o qV5;simpa[kX]using this)
       have HBE:=Hd (yW HBV.o HKW.o (kX (uU ⟨cr,cm,1,c1,c2,c3,c4,c5⟩)) 0);have HOE:Hid (ClO w.heap.size (V.setCells k 0 (kX (uU ⟨cr,cm,1,c1,c2,c3,c4,c5⟩))) bx.1 P):=Hd (uL HOV.o (gM (X:=[k]) (.inl qV) _ _ _ (Mod.refl _ _)) (fun g hg hx=>HKO.o g hg (jR.1 hx)));change wpList _ _ _ _ _ (V.setCells k 0 (kX (uU ⟨cr,cm,1,c1,c2,c3,c4,c5⟩)));generalize V.setCells k 0 (kX (uU ⟨cr,cm,1,c1,c2,c3,c4,c5⟩))=WE at HXE HBE HOE ⊢
       go_upto_region 16 with fail
       refine wp_region_lit ?_;refine zG (bx.1) ?_;refine uF qK 154 (.tmp 6) rfl (k) (0) rfl (kX (uU ⟨cr,cm,1,c1,c2,c3,c4,c5⟩)) _ (kA HXE.o) uH rfl uD ?_;refine zP ?_;refine uM (.slice (some ⟨WE.heap.size,0,none⟩) 1 1) (WE.alloc (.cells (kX (uU ⟨cr,cm,1,c1,c2,c3,c4,c5⟩)).toArray 154)) qK qJu ?_;refine zP ?_;refine kO rfl (.tmp 86) (.tmp 88) 95 rfl w.heap.size 154 j0 _ 8 72 uT hj gz0 gz1 gz2 rfl qZ bx.1 P.length (uS kX P) rfl (ClO.below HOE.o (jW (jU _ _) _)) ⟨WE.heap.size,0,none⟩ 1 1 (kX (uU ⟨cr,cm,1,c1,c2,c3,c4,c5⟩)) rfl rfl (fun j u hj=>by rw[vZ,kB];exact(at_ (kZ rfl) j u qF).1) (gL _) qM qR qJ4 ?_;intro v' w7 ho hg hv';have HO7:Hid (ClO w.heap.size w7 v' (P++[uU ⟨cr,cm,1,c1,c2,c3,c4,c5⟩])):=Hd qP;have HB7:=Hd ((jW HBE.o (.cells (kX (uU ⟨cr,cm,1,c1,c2,c3,c4,c5⟩)).toArray 154)).grown hg (jW HBE.o _).size (fun b hb=>(kK.lt (show WE.ownsRow _ _ _ _ _ _ from HOE.o) b hb).1));refine zP ?_;clear ho hg hv'
       go_wp2
       go_roundw
       case rel=>exact⟨i+1,P++[uU ⟨cr,cm,1,c1,c2,c3,c4,c5⟩],false,by go_num,rfl,by omega,by rw[jI,HP.o];rfl,HO7.o,HB7.o,HM.o.keep HC.o HMO.o⟩
       case measure=>exact zm
     obtain rfl:cm=dm:=(WideShapes.bytes_inj (by rw[←ByteArray.toList_eq,←ByteArray.toList_eq,e3])).symm;clear e3;refine wp_region_lit ?_;refine zGs (.pointer (some ⟨m,2,none⟩)) ?_;refine zGs (.int .i64 2) ?_;refine zGs (.bool true) ?_;refine zGs (.bool true) ?_;refine zGs (.pointer (some ⟨m,0,none⟩)) ?_;refine zGs (.int .i32 cr) ?_;refine zGs (.pointer (some ⟨k,0,none⟩)) ?_;refine zGs (.int .i32 cr) ?_;refine zGs (.bool true) ?_;refine zGs (.bool true) ?_;refine zGs (.bool true) ?_;refine zGs (.pointer (some ⟨m,1,none⟩)) ?_;refine zGs (.string cm) ?_;refine zGs (.pointer (some ⟨k,1,none⟩)) ?_;refine zGs (.string cm) ?_;refine zGs (.bool true) ?_;refine zGs (.bool true) ?_;refine zGs (.bool true) ?_;refine zGs (.pointer (some ⟨m,3,none⟩)) ?_;refine uF qK 40 (.tmp 57) rfl (m) (3) rfl ([.int .i64 d1,.int .i64 d2,.int .i64 d3,.int .i64 d4,.int .i64 d5]) _ (cM HDV.o) vN rfl bL ?_;refine zP ?_;refine zGs (.pointer (some ⟨k,3,none⟩)) ?_;refine uF qK 40 (.tmp 59) rfl (k) (3) rfl ([.int .i64 c1,.int .i64 c2,.int .i64 c3,.int .i64 c4,.int .i64 c5]) _ (cM HCV.o) vN rfl bL ?_;refine zP ?_
     by_cases e4:c1=d1∧c2=d2∧c3=d3∧c4=d4∧c5=d5
     · obtain⟨rfl,rfl,rfl,rfl,rfl⟩:=e4;clear HNP;have HPT:Hid (fA ⟨cr,cm,1,c1,c2,c3,c4,c5⟩ ⟨cr,cm,2,c1,c2,c3,c4,c5⟩=true):=Hd (by rw[HPE.o];simp[mS]);refine zGs (.bool true) ?_;refine zGs (.bool true) ?_
       go_upto_region 16 with fail
       refine wp_region_lit ?_;refine zG (bx.1) ?_;refine uF qK 154 (.tmp 6) rfl (k) (0) rfl (kX (⟨cr,cm,1,c1,c2,c3,c4,c5⟩)) _ (kA HCV.o) uH rfl uD ?_;refine zP ?_;refine uM (.slice (some ⟨V.heap.size,0,none⟩) 1 1) (V.alloc (.cells (kX (⟨cr,cm,1,c1,c2,c3,c4,c5⟩)).toArray 154)) qK qJu ?_;refine zP ?_;refine kO rfl (.tmp 86) (.tmp 88) 95 rfl w.heap.size 154 j0 _ 8 72 uT hj gz0 gz1 gz2 rfl qZ bx.1 P.length (uS kX P) rfl (ClO.below HOV.o (jW (jU _ _) _)) ⟨V.heap.size,0,none⟩ 1 1 (kX (⟨cr,cm,1,c1,c2,c3,c4,c5⟩)) rfl rfl (fun j u hj=>by rw[vZ,kB];exact(at_ (kZ rfl) j u qF).1) (gL _) qM qR (by have :=HBV.o.size;simp;omega) ?_;intro v' w7 ho hg hv';have HO7:Hid (ClO w.heap.size w7 v' (P++[⟨cr,cm,1,c1,c2,c3,c4,c5⟩])):=Hd qP;have HB7:=Hd ((jW HBV.o (.cells (kX (⟨cr,cm,1,c1,c2,c3,c4,c5⟩)).toArray 154)).grown hg (jW HBV.o _).size (fun b hb=>(kK.lt (show V.ownsRow _ _ _ _ _ _ from HOV.o) b hb).1));refine zP ?_;clear ho hg hv'
       go_wp2
       go_roundw
       case rel=>exact⟨i+1,P++[⟨cr,cm,1,c1,c2,c3,c4,c5⟩],true,by go_num,rfl,by omega,by rw[jI,HP.o];rfl,HO7.o,HB7.o,HM.o.pair HC.o (by rw[←HJ.o];exact HD.o) HPT.o⟩
       case measure=>exact zm
     · have HMO:=Hd (HNP.o (by rw[HPE.o];simp[mS];exact fun a1 a2 a3 a4 a5=>e4 ⟨a1.symm,a2.symm,a3.symm,a4.symm,a5.symm⟩));refine jM (.bool false) qK (by go_simp;exact fun a1 a2 a3 a4 a5=>e4 ⟨a1.symm,a2.symm,a3.symm,a4.symm,a5.symm⟩) ?_;refine zP ?_;refine zGs (.bool false) ?_
       go_upto_region 15 with fail
       refine wp_region_lit ?_;refine zGs (.pointer (some ⟨k,3,none⟩)) ?_;refine uF qK 40 (.tmp 83) rfl (k) (3) rfl ([.int .i64 c1,.int .i64 c2,.int .i64 c3,.int .i64 c4,.int .i64 c5]) _ (cM HCV.o) vN rfl bL ?_;refine zP ?_;refine jM (.agg (kX (uU ⟨cr,cm,1,c1,c2,c3,c4,c5⟩)).toArray) qK jK ?_;refine zP ?_;refine wpList_store_mid rfl 154 (.tmp 6) (.tmp 85) rfl (k) (0) ((kX (uU ⟨cr,cm,1,c1,c2,c3,c4,c5⟩)).toArray) rfl rfl (rS HCV.o) uD (bU (uU ⟨cr,cm,1,c1,c2,c3,c4,c5⟩)) ?_;simp only[Act.put];have HXE:Hid ((V.setCells k 0 (kX (uU ⟨cr,cm,1,c1,c2,c3,c4,c5⟩))).heap[k]? =some (.cells (kX (uU ⟨cr,cm,1,c1,c2,c3,c4,c5⟩)).toArray 154 (0,0))):=Hd (by
        have :=uB (kX (uU ⟨cr,cm,1,c1,c2,c3,c4,c5⟩)) 0 _ V HCV.o qV5;simpa[kX]using this)
       have HBE:=Hd (yW HBV.o HKW.o (kX (uU ⟨cr,cm,1,c1,c2,c3,c4,c5⟩)) 0);have HOE:Hid (ClO w.heap.size (V.setCells k 0 (kX (uU ⟨cr,cm,1,c1,c2,c3,c4,c5⟩))) bx.1 P):=Hd (uL HOV.o (gM (X:=[k]) (.inl qV) _ _ _ (Mod.refl _ _)) (fun g hg hx=>HKO.o g hg (jR.1 hx)));change wpList _ _ _ _ _ (V.setCells k 0 (kX (uU ⟨cr,cm,1,c1,c2,c3,c4,c5⟩)));generalize V.setCells k 0 (kX (uU ⟨cr,cm,1,c1,c2,c3,c4,c5⟩))=WE at HXE HBE HOE ⊢
       go_upto_region 16 with fail
       refine wp_region_lit ?_;refine zG (bx.1) ?_;refine uF qK 154 (.tmp 6) rfl (k) (0) rfl (kX (uU ⟨cr,cm,1,c1,c2,c3,c4,c5⟩)) _ (kA HXE.o) uH rfl uD ?_;refine zP ?_;refine uM (.slice (some ⟨WE.heap.size,0,none⟩) 1 1) (WE.alloc (.cells (kX (uU ⟨cr,cm,1,c1,c2,c3,c4,c5⟩)).toArray 154)) qK qJu ?_;refine zP ?_;refine kO rfl (.tmp 86) (.tmp 88) 95 rfl w.heap.size 154 j0 _ 8 72 uT hj gz0 gz1 gz2 rfl qZ bx.1 P.length (uS kX P) rfl (ClO.below HOE.o (jW (jU _ _) _)) ⟨WE.heap.size,0,none⟩ 1 1 (kX (uU ⟨cr,cm,1,c1,c2,c3,c4,c5⟩)) rfl rfl (fun j u hj=>by rw[vZ,kB];exact(at_ (kZ rfl) j u qF).1) (gL _) qM qR qJ4 ?_;intro v' w7 ho hg hv';have HO7:Hid (ClO w.heap.size w7 v' (P++[uU ⟨cr,cm,1,c1,c2,c3,c4,c5⟩])):=Hd qP;have HB7:=Hd ((jW HBE.o (.cells (kX (uU ⟨cr,cm,1,c1,c2,c3,c4,c5⟩)).toArray 154)).grown hg (jW HBE.o _).size (fun b hb=>(kK.lt (show WE.ownsRow _ _ _ _ _ _ from HOE.o) b hb).1));refine zP ?_;clear ho hg hv'
       go_wp2
       go_roundw
       case rel=>exact⟨i+1,P++[uU ⟨cr,cm,1,c1,c2,c3,c4,c5⟩],false,by go_num,rfl,by omega,by rw[jI,HP.o];rfl,HO7.o,HB7.o,HM.o.keep HC.o HMO.o⟩
       case measure=>exact zm
section
variable {base:Nat}{w w1:World}{q:Pv}{g g1:Pg}
def Rg3(base:Nat)(w:World)(R:Nat)(vl:Value)(room:Nat)(gone':Int)(H':List Ro)(k:Nat)(w':World):Prop:=
 (∃vl' SL' first' n',RgO base w' R vl' SL' room first' n' gone'∧(zX SL' first' n').map yA=H'∧Mod (gA R vl) w w'∧(∀g,vl'.ownBlock=some g→vl.ownBlock=some g∨w.heap.size≤g)∧k∉gA R vl')∧
   w'.heap[k]? =some (.cells #[.slice none 0 0,.bool false] 97 (0,0))∧w.heap.size≤k
theorem iQ.pre{R:Nat}{vl:Value}{room:Nat}{gone':Int}{H':List Ro}{wp w':World}(hb:Below w.heap.size w wp)(h:iQ base wp R vl room gone' H' w'):iQ base w R vl room gone' H' w':=by
 obtain⟨vl',SL',f',n',h1,h2,h3,h4⟩:=h;exact⟨vl',SL',f',n',h1,h2,(Mod.of_below (X:=gA R vl) hb).trans h3 (fun b hb=>.inl hb),fun g hg=>(h4 g hg).imp id (fun h=>vY hb.size h)⟩
theorem Rg3.store{R:Nat}{vl:Value}{room:Nat}{gone':Int}{H':List Ro}{k:Nat}{w':World}(u v:Value)(h:Rg3 base w R vl room gone' H' k w'):iQ base w R vl room gone' H' ((w'.setCell ⟨k,0,none⟩ u).setCell ⟨k,1,none⟩ v):=by
 obtain⟨⟨vl',SL',f',n',h1,h2,h3,h4,h5⟩,hk,hkw⟩:=h;exact⟨vl',SL',f',n',h1.mod (yB (X:=[k]) (o:=0) (Mod.refl _ _) (.inl qV)) (fun b hb cs f he=>by
  rw[jR.1 hb]at he;exact uP hk he qZ rfl) (fun b hb hX=>by rw[jR.1 hX]at hb;exact h5 hb),h2,yB (o:=0) h3 (.inr hkw),h4⟩
theorem PgO.ringed(h:PgO base w q g){gone':Int}{H':List Ro}(hp:iQ base w q.R q.vl g.room (gone'%18446744073709551616) H' w1)(hg0:0≤gone'):pN base w q {g with hist:=H',gone:=gone'} w1:=by
 obtain⟨vl',SL',f',n',h1,h2,hm,hv⟩:=hp;have hX:=h.ring.nocel;have hne:∀(b:Nat) (cur:Array Value) (t:TypeId),w.heap[b]? =some (.cells cur t (0,0))→t≠178→t≠97→b∉gA q.R q.vl:=fun b cur t hb a1 a2 hx=>by
  rcases kW.1 hx with rfl|hx
  · exact uP h.ring.blk hb a1.symm rfl
  · obtain⟨cur2,hc⟩:=uA h.ring.own (jT.1 hx);exact uP hc hb a2.symm rfl
 have hvs:∀b,q.vs.ownBlock=some b→b∉gA q.R q.vl:=fun b hb hx=>by
  obtain⟨cur,hc⟩:=uA h.own hb;rcases kW.1 hx with rfl|hx
  · exact uP h.ring.blk hc qZ rfl
  · exact h.apart b hb (jT.1 hx)
 refine⟨{q with vl:=vl',SL:=SL',first :=f',n:=n'},rfl,rfl,⟨(hm.block q.P (kF.1 h.blk).1 (hne _ _ _ h.blk qZ qZ)).trans h.blk,h.hb,h1,uL h.own hm (fun b hb=>hvs b hb),uL h.told hm (fun b hb=>?_),fun b hb hb2=>?_,h.scr,h2,fun r hr=>⟨(h.rows r hr).1.mod hm hX,(h.rows r hr).2⟩,h.cols2,h.cols1000,h.rows1000,hg0⟩,hm.mono (fun b hb=>by simp[pgX,hb]),fun b hb=>?_⟩
 · obtain⟨cur,hc⟩:=uA h.told hb;exact hne _ _ _ hc qZ qZ
 · rcases hv b hb2 with h3|h3
   · exact h.apart b hb h3
   · have :=(h.own.lt b hb).2;omega
 · rcases kW.1 hb with rfl|hb
   · exact .inl qVg
   rcases kL.1 hb with hb|hb
   · exact .inl (by simp[pgX,jT.1 hb])
   rcases kL.1 hb with hb|hb
   · exact .inl (by simp[pgX,jT.1 hb])
   rcases kW.1 hb with rfl|hb
   · exact .inl (by simp[pgX,gA])
   · rcases hv b (jT.1 hb)with h3|h3
     · exact .inl (by simp[pgX,gA,h3])
     · exact .inr h3
end
def ZK(room:Nat)(H:List Ro)(r:Ro):List Ro:=if room=0 then[]else if H.length=room then H.drop 1++[r]else H++[r]
def xN(room:Nat)(H:List Ro)(gone:Int):Int:=if H.length=room then gone+1 else gone
theorem U9(g:Pg)(r:Ro)(h:g.hist.length≤g.room):iJ g r=({g with hist:=ZK g.room g.hist r,gone:=xN g.room g.hist g.gone},decide (g.hist.length=g.room)):=by
 unfold iJ ZK xN
 split
 · next h0=>
   have hn:g.hist=[]:=List.length_eq_zero_iff.1 qJ;obtain⟨room,hist,gone,scr,cols,told⟩:=g;simp only at h0 hn;subst h0 hn;simp
 · next h0=>
   split
   · next h1=>simp[h1]
   · next h1=>simp[h1]
section
variable {base:Nat}{w w1:World}{q:Pv}{g g1:Pg}
set_option maxHeartbeats 3200000 in
theorem qQa(h:PgO base w q g)(bottom:Nat)(b:Col)(h2:bottom<g.scr.length)(ht:g.told.length≤999990):
 Calls jG 212 #[.pointer (some ⟨q.P,0,none⟩),.int .i64 0,.int .i64 bottom,.agg #[.int .i64 b.k,.int .i64 b.n]] w (gY base w q (upP g 0 bottom b)):=by
 have hrows:=h.rows1000;have hlen:=h.len;have hh:=h.hist100k;have hhr:g.hist.length≤g.room:=by have :=h.hlen;have :=h.ring.hn;have :=h.ring.hm;omega
 have hg0:=h.gone0;obtain⟨r0,hr0⟩:∃r0,g.scr[0]? =some r0:=⟨_,jD qJ⟩;have hgD:g.scr.getD 0 ⟨[],false⟩=r0:=by rw[kP,hr0];rfl
 obtain⟨W,hW⟩:∃W,w.alloc (.cells #[.int .i64 b.k,.int .i64 b.n] 38)=W:=⟨_,rfl⟩;have hb0:Below w.heap.size w W:=by rw[←hW];exact jW (jU _ _) _
 have HN:=Hd (show W.heap[w.heap.size]? =some (.cells #[.int .i64 b.k,.int .i64 b.n] 38 (0,0))from by rw[←hW];exact kZ rfl);have HB:=Hd hb0;have HX:w.heap.size∉pgX q:=fun hx=>by have :=h.lt _ hx;omega
 have H0:=Hd (h.below hb0).res;have hwa:jP.wrap ((g.hist.length:Int)+(bottom:Int))=(g.hist.length:Int)+(bottom:Int):=jH _ qJ;have hwb:jP.wrap ((g.hist.length:Int)+(bottom:Int)+1)=(g.hist.length:Int)+(bottom:Int)+1:=jH _ qJ;have hwc:jP.wrap ((bottom:Int)+1)=(bottom:Int)+1:=jH _ qJ;have HBA:=Hd (mR H0.o);have HT1:=Hd (fG H0.o 0 ((g.hist.length:Int)+bottom+1) 1 qJ);obtain⟨b0,-⟩:=at_ HN.o 0 _ rfl;obtain⟨b1,-⟩:=at_ HN.o 1 _ rfl;have HB0:=Hd b0;have HB1:=Hd b1;have HR0:=Hd hr0;obtain⟨gP,hgP⟩:∃gP,({gW g 0 ((g.hist.length:Int)+bottom+1) 1 with hist:=ZK g.room g.hist r0,gone:=xN g.room g.hist g.gone}:Pg)=gP:=⟨_,rfl⟩;have HGP:=Hd hgP;obtain⟨gT,hgT⟩:∃gT,(if g.hist.length=g.room then gW gP 2 0 1 else gP)=gT:=⟨_,rfl⟩;have HU:Hid (upP g 0 bottom b=vL {gT with scr:=pT g.scr 0 bottom (gZ g.cols b)} ((bottom:Int)+1) false):=Hd (by
  unfold upP;rw[if_neg qJ];simp only[];rw[hgD,U9 _ _ (show(gW g 0 ((g.hist.length:Int)+bottom+1) 1).hist.length≤_ from hhr)];simp only[];rw[←hgT,←hgP]
  by_cases hf:g.hist.length=g.room
  · simp[gW,hf]
  · simp[gW,hf])
 have HGT:=Hd hgT;have HSC:Hid (gT.scr=g.scr∧gT.cols=g.cols∧gP.told.length=g.told.length+1):=Hd (by
  rw[←hgT,←hgP];refine⟨?_,?_,by simp[gW]⟩
  · split<;>rfl
  · split<;>rfl)
 rw[HU.o];have HSL:Hid (∀w1,pN base W q gT w1→Calls jG 260 #[.pointer (some ⟨q.P,0,none⟩),.int .i64 0,.int .i64 bottom,.agg #[.int .i64 b.k,.int .i64 b.n]] w1 (gY base W q {gT with scr:=pT g.scr 0 bottom (gZ g.cols b)})):=Hd (fun w1 hs=>by
  have :=wO hs 0 bottom b (kT _) (by rw[HSC.o.1];exact h2);rw[show pT g.scr 0 bottom (gZ g.cols b)=pT gT.scr 0 bottom (gZ gT.cols b)from by rw[HSC.o.1,HSC.o.2.1]];exact this)
 have HPA:=Hd (fun(w1:World) (hs:pN base W q {gT with scr:=pT g.scr 0 bottom (gZ g.cols b)} w1)=>mK hs ((bottom:Int)+1));have HT2:=Hd (fun(w1:World) (hs:pN base W q gP w1)=>fG hs 2 0 1 (by rw[HSC.o.2.2];omega));clear hb0 b0 b1 hr0 hgD hgP hgT;have H:=Hd h;clear h
 go_enter Tryz.func212,Tryz.ntmps212
 go_upto_region 4 with(first
  |(go_at_call 79;(with_reducible refine HBA.o.mono ?_);rintro e w9 ⟨rfl,rfl⟩)
  |(go_at_call 161;(with_reducible refine HT1.o.mono ?_);rintro e w2 ⟨rfl,hs⟩;have HS1:=Hd hs;clear hs))
 obtain⟨q1,e1,e2,hq1,hm1,hx1⟩:=HS1.o;have hS0:q1.S[0]?.map yA=some r0:=by
  rw[←vQ,hq1.scr];exact HR0.o
 obtain⟨rr,hrr,hro⟩:∃rr,q1.S[0]? =some rr∧yA rr=r0:=by
  cases h:q1.S[0]? with
  |none=>rw[h]at hS0;cases hS0
  |some x=>rw[h]at hS0;exact⟨x,rfl,by simpa using hS0⟩
 have h0S:0<q1.S.length:=(jE.1 hrr).1;obtain⟨gs,c,hv⟩:=gE hq1.own h0S;obtain⟨hrc,hrl⟩:=hq1.rows rr (uW hrr);obtain⟨⟨x0,-⟩,⟨x1,-⟩,-⟩:=hq1.cells;have hown:=hq1.own;rw[hv]at x1 hown;obtain⟨⟨y0,-⟩,y1,-⟩:=yL hown hrr;rw[e1]at x0 x1;rw[Nat.zero_mul]at y0 y1;have h0I:(0:Int)<(q1.S.length:Int):=by omega
 have hc2:=hq1.cols2;have HQ:=Hd hq1;have HRR:=Hd (kM hrc (kM hrl hro));have HMX:=Hd (kM hm1 hx1);have hPX:∀b,b∈[q.P,gs]→b∉gA q1.R q1.vl:=fun b hb hx=>by
  rcases kW.1 hb with rfl|hb
  · rw[←e1]at hx;rcases kW.1 hx with h|hx
    · exact uP hq1.blk hq1.ring.blk qZ h
    · obtain⟨cur,hc⟩:=uA hq1.ring.own (jT.1 hx);exact uP hq1.blk hc qZ rfl
  · rw[jR.1 hb]at hx;obtain⟨cur,hc⟩:=uA hq1.own (g:=gs) (by rw[hv];rfl);rcases kW.1 hx with h|hx
    · exact uP hc hq1.ring.blk qZ h
    · exact hq1.apart gs (by rw[hv];rfl) (jT.1 hx)
 have HPX:=Hd hPX;have HRlt:=Hd hq1.ring.lt;have HPU:Hid (∀w',Below w2.heap.size w2 w'→Calls jG 227 #[.pointer (some ⟨q1.R,0,none⟩),.agg #[.slice rr.A rr.cs.length rr.cap,.bool rr.cont]] w' (fun e w3=>∃r6:Rh,e=.returned (.tuple #[.agg #[.slice r6.A r6.cs.length r6.cap,.bool r6.cont],.bool (decide (g.hist.length=g.room))])∧iQ base w' q1.R q1.vl g.room (xN g.room g.hist g.gone%18446744073709551616) (ZK g.room g.hist r0) w3)):=Hd (fun w' hb=>by
  have hrg:=(hq1.below hb).ring;have hn:q1.n=g.hist.length:=hq1.hlen.symm;have hhist:(zX q1.SL q1.first q1.n).map yA=g.hist:=hq1.hist;refine(Ul hrg (Int.emod_nonneg _ qZ) (by have :=(hrg.lt q1.R qJ5);omega) rr (hrc.below hb) (by rw[hrl];have :(2:Nat)≤g.cols:=hc2;show 0<g.cols;omega)).mono ?_;rintro e w3 ⟨r6,he,hp⟩;rw[hn]at he hp;rw[←hn,hhist,hro,hn]at hp;refine⟨r6,he,?_⟩;have e1:(if g.hist.length=(gW g 0 ((g.hist.length:Int)+bottom+1) 1).room then((gW g 0 ((g.hist.length:Int)+bottom+1) 1).gone%18446744073709551616+1)%18446744073709551616 else(gW g 0 ((g.hist.length:Int)+bottom+1) 1).gone%18446744073709551616)=xN g.room g.hist g.gone%18446744073709551616:=by
   unfold xN;show(if g.hist.length=g.room then(g.gone%18446744073709551616+1)%18446744073709551616 else g.gone%18446744073709551616)=_
   split
   · omega
   · rfl
  rw[e1]at hp;exact hp)
 obtain⟨fl,hfl⟩:∃fl,decide (g.hist.length=g.room)=fl:=⟨_,rfl⟩;rw[hfl]at HPU;have HFL:=Hd hfl;clear hfl;generalize hG':xN g.room g.hist g.gone=G' at HPU;generalize hH':ZK g.room g.hist r0=H' at HPU;have HGH:=Hd (kM hG' hH');have HG0:=Hd (show 0≤G' from by rw[←hG'];unfold xN;split<;>omega);clear hS0 hrr hrc hm1 hx1 hown hPX hq1 hro hrl hG' hH';have HIm:Hid (∀(wa wb:World),(wa.cell? ⟨q.P,0,none⟩=some (.pointer (some ⟨q1.R,0,none⟩))∧wa.cell? ⟨q.P,1,none⟩=some (.slice (some ⟨gs,0,none⟩) q1.S.length c)∧wa.cell? ⟨gs,0,none⟩=some (.slice rr.A rr.cs.length rr.cap)∧wa.cell? ⟨gs,0+1,none⟩=some (.bool rr.cont))→Mod (gA q1.R q1.vl) wa wb→(wb.cell? ⟨q.P,0,none⟩=some (.pointer (some ⟨q1.R,0,none⟩))∧wb.cell? ⟨q.P,1,none⟩=some (.slice (some ⟨gs,0,none⟩) q1.S.length c)∧wb.cell? ⟨gs,0,none⟩=some (.slice rr.A rr.cs.length rr.cap)∧wb.cell? ⟨gs,0+1,none⟩=some (.bool rr.cont))):=
  Hd (fun wa wb hI hm=>⟨hm.cell (HPX.o _ qV) hI.1,hm.cell (HPX.o _ qV) hI.2.1,hm.cell (HPX.o _ qV) hI.2.2.1,hm.cell (HPX.o _ qV) hI.2.2.2⟩)
 have HIw:Hid (∀(wa:World) (k:Nat),(wa.cell? ⟨q.P,0,none⟩=some (.pointer (some ⟨q1.R,0,none⟩))∧wa.cell? ⟨q.P,1,none⟩=some (.slice (some ⟨gs,0,none⟩) q1.S.length c)∧wa.cell? ⟨gs,0,none⟩=some (.slice rr.A rr.cs.length rr.cap)∧wa.cell? ⟨gs,0+1,none⟩=some (.bool rr.cont))→w2.heap.size≤k→∀(u v:Value),(((wa.setCell ⟨k,0,none⟩ u).setCell ⟨k,1,none⟩ v).cell? ⟨q.P,0,none⟩=some (.pointer (some ⟨q1.R,0,none⟩))∧((wa.setCell ⟨k,0,none⟩ u).setCell ⟨k,1,none⟩ v).cell? ⟨q.P,1,none⟩=some (.slice (some ⟨gs,0,none⟩) q1.S.length c)∧((wa.setCell ⟨k,0,none⟩ u).setCell ⟨k,1,none⟩ v).cell? ⟨gs,0,none⟩=some (.slice rr.A rr.cs.length rr.cap)∧((wa.setCell ⟨k,0,none⟩ u).setCell ⟨k,1,none⟩ v).cell? ⟨gs,0+1,none⟩=some (.bool rr.cont))):=
  Hd (fun wa k hI hk u v=>by
   have hm:Mod [k] wa ((wa.setCell ⟨k,0,none⟩ u).setCell ⟨k,1,none⟩ v):=yB (o:=0) (Mod.refl _ _) (.inl qV);have h1:q.P∉[k]:=by have :=gO x0;simp;omega
   have h2:gs∉[k]:=by have :=gO y0;simp;omega
   exact⟨hm.cell h1 hI.1,hm.cell h1 hI.2.1,hm.cell h2 hI.2.2.1,hm.cell h2 hI.2.2.2⟩)
 refine Go.RL.wp_region_l 16 (fun w'=>w'.cell? ⟨q.P,0,none⟩=some (.pointer (some ⟨q1.R,0,none⟩))∧w'.cell? ⟨q.P,1,none⟩=some (.slice (some ⟨gs,0,none⟩) q1.S.length c)∧w'.cell? ⟨gs,0,none⟩=some (.slice rr.A rr.cs.length rr.cap)∧w'.cell? ⟨gs,0+1,none⟩=some (.bool rr.cont)) (fun w'=>Below w2.heap.size w2 w') qQ qQ ⟨x0,x1,y0,y1⟩ ((jU _ _).drew) ?_;refine Go.RL.AtL.go 0 ?_
 iterate 10 refine zK ?_
 refine Go.RL.AtK.back ?_;refine Go.RL.AtL.two 10 14 (o:=⟨_,_,_,_,_,_⟩) (o':=⟨_,_,_,_,_,_⟩) (fun v=>∃r6:Rh,v=.tuple #[.agg #[.slice r6.A r6.cs.length r6.cap,.bool r6.cont],.bool fl]) (fun v=>∃k,v=.pointer (some ⟨k,0,none⟩)) (fun _ w3=>iQ base w2 q1.R q1.vl g.room (G'%18446744073709551616) H' w3)
  (fun v w3=>∃k,v=.pointer (some ⟨k,0,none⟩)∧Below w2.heap.size w2 w3∧w3.heap[k]? =some (.cells #[.slice none 0 0,.bool false] 97 (0,0))∧w2.heap.size≤k) qV qV qQ rfl rfl
  (Go.RL.StabL.call 227 #[.pointer (some ⟨q1.R,0,none⟩),.agg #[.slice rr.A rr.cs.length rr.cap,.bool rr.cont]] _ _ qK ?_ (fun w' hI hS=>?_)) (Go.RL.StabL.op _ _ qK (fun w' hI hS=>?_)) ?_ ?_
 · intro w'
   go_simp
 · refine(HPU.o w' hS).mono ?_;rintro e w3 ⟨r6,rfl,hp⟩;exact⟨_,rfl,⟨r6,rfl⟩,HIm.o _ _ hI (by obtain⟨_,_,_,_,_,_,hm,_⟩:=hp;exact hm),hp.pre hS⟩
 · refine⟨.pointer (some ⟨w'.heap.size,0,none⟩),w'.alloc (.cells #[.slice none 0 0,.bool false] 97),by go_simp,⟨_,rfl⟩,HIm.o _ _ hI (Mod.of_below (jW (jU _ _) _)),_,rfl,jW hS _,kZ rfl,hS.size⟩
 · rintro v ⟨r6,rfl⟩;refine zP ?_;refine Go.RL.AtL.go 11 ?_
   iterate 3 refine zK ?_
   refine Go.RL.AtK.back ?_;refine Go.RL.AtL.one 14 (o:=⟨_,_,_,_,_,_⟩) (fun v=>∃k,v=.pointer (some ⟨k,0,none⟩)) (fun v w3=>∃k,v=.pointer (some ⟨k,0,none⟩)∧Rg3 base w2 q1.R q1.vl g.room (G'%18446744073709551616) H' k w3) qV qQ rfl (Go.RL.StabL.op _ _ qK (fun w' hI hS=>?_)) ?_
   · refine⟨.pointer (some ⟨w'.heap.size,0,none⟩),w'.alloc (.cells #[.slice none 0 0,.bool false] 97),by go_simp,⟨_,rfl⟩,HIm.o _ _ hI (Mod.of_below (jW (jU _ _) _)),_,rfl,?_⟩;obtain⟨vl',SL',f',n',k1,k2,k3,k4⟩:=hS;have hb:=jW (jU w'.heap.size w') (.cells #[.slice none 0 0,.bool false] 97);exact⟨⟨vl',SL',f',n',k1.below hb,k2,k3.then_below hb,k4,fun hx=>by have :=(k1.lt _ hx).2;omega⟩,kZ rfl,k3.size⟩
   rintro v ⟨k,rfl⟩;refine zP ?_;refine Go.RL.AtL.one 15 (o:=⟨none,.store 97 (.tmp 8) (.tmp 36),_,_,_,_⟩) (fun _=>True) (fun _ w3=>iQ base w2 q1.R q1.vl g.room (G'%18446744073709551616) H' w3) qV qQ rfl (Go.RL.StabL.unit _ _ qK (fun w' hI hS=>?_)) ?_
   · have hk3:Rg3 base w2 q1.R q1.vl g.room (G'%18446744073709551616) H' k w':=(by obtain⟨k',e,h⟩:=hS;simp only[Value.pointer.injEq,Option.some.injEq,Addr.mk.injEq,and_true]at e;rw[e];exact h);obtain⟨k0,k0f⟩:=at_ hk3.2.1 0 _ rfl;obtain⟨k1,k1f⟩:=at_ hk3.2.1 1 _ rfl;refine⟨(w'.setCell ⟨k,0,none⟩ (.slice r6.A r6.cs.length r6.cap)).setCell ⟨k,1,none⟩ (.bool r6.cont),by go_simp,trivial,HIw.o _ k hI hk3.2.2 _ _,hk3.store _ _⟩
   rintro v15 -;simp only[Act.put];refine Go.RL.AtL.done qQ (fun w' hI hS=>?_);have HS4:Hid (pN base W q gP w'):=Hd (by
    have :=pN.trans ⟨e1,e2,HMX.o.1,HMX.o.2⟩ (HQ.o.ringed (gone':=G') hS HG0.o);rw[←HGP.o,HGH.o.1,HGH.o.2];exact this)
   have z0:=HS4.o.hold HX HB0.o;have z1:=HS4.o.hold HX HB1.o;clear hI hS x0 x1 y0 y1;cases fl with
   |true=>
    have HE:Hid (gW gP 2 0 1=gT):=Hd (by rw[←HGT.o,if_pos (of_decide_eq_true HFL.o)]);rw[HE.o]at HT2
    go_wp2_with(first
     |(go_at_call 161;(with_reducible refine(HT2.o _ HS4.o).mono ?_);rintro e w5 ⟨rfl,hs⟩;have HS5:=Hd hs;have u0:=hs.hold HX HB0.o;have u1:=hs.hold HX HB1.o;clear hs z0 z1)
     |(go_at_call 260;(with_reducible refine(HSL.o _ HS5.o).mono ?_);rintro e w6 ⟨rfl,hs⟩;have HS6:=Hd hs;clear hs)
     |(go_at_call 203;(with_reducible refine(HPA.o _ HS6.o).mono ?_);rintro e w7 ⟨rfl,hs⟩;have HS7:=Hd hs;clear hs))
    go_end0
    exact qZn
   |false=>
    have HE:Hid (gP=gT):=Hd (by rw[←HGT.o,if_neg (of_decide_eq_false HFL.o)]);rw[HE.o]at HS4
    go_wp2_with(first
     |(go_at_call 260;(with_reducible refine(HSL.o _ HS4.o).mono ?_);rintro e w6 ⟨rfl,hs⟩;have HS6:=Hd hs;clear hs)
     |(go_at_call 203;(with_reducible refine(HPA.o _ HS6.o).mono ?_);rintro e w7 ⟨rfl,hs⟩;have HS7:=Hd hs;clear hs))
    go_end0
    exact qZn
 · rintro v ⟨k,rfl⟩;refine zP ?_;refine Go.RL.AtL.one 10 (o:=⟨_,_,_,_,_,_⟩) (fun v=>∃r6:Rh,v=.tuple #[.agg #[.slice r6.A r6.cs.length r6.cap,.bool r6.cont],.bool fl]) (fun _ w3=>Rg3 base w2 q1.R q1.vl g.room (G'%18446744073709551616) H' k w3) qV qQ rfl
    (Go.RL.StabL.call 227 #[.pointer (some ⟨q1.R,0,none⟩),.agg #[.slice rr.A rr.cs.length rr.cap,.bool rr.cont]] _ _ qK ?_ (fun w' hI hS=>?_)) ?_
   · intro w'
     go_simp
   · obtain⟨k',e,hb,hk,hkw⟩:=hS;simp only[Value.pointer.injEq,Option.some.injEq,Addr.mk.injEq,and_true]at e;subst e;refine(HPU.o w' hb).mono ?_;rintro e w3 ⟨r6,rfl,hp⟩;have hkX:k∉gA q1.R q1.vl:=fun hx=>by have :=(HRlt.o _ hx).2;omega
     have hm:Mod (gA q1.R q1.vl) w' w3:=by obtain⟨_,_,_,_,_,_,hm,_⟩:=hp;exact hm
     refine⟨_,rfl,⟨r6,rfl⟩,HIm.o _ _ hI hm,?_,(hm.block k (kQ hk) hkX).trans hk,hkw⟩;obtain⟨vl',SL',f',n',k1,k2,k3,k4⟩:=hp;refine⟨vl',SL',f',n',k1,k2,(Mod.of_below (X:=gA q1.R q1.vl) hb).trans k3 (fun b hb=>.inl hb),fun g hg=>(k4 g hg).imp id (fun h=>vY hb.size h),fun hx=>?_⟩;rcases kW.1 hx with h|h
     · have :=(HRlt.o q1.R qJ5).2;omega
     · rcases k4 k (jT.1 h)with h|h
       · exact hkX (by simp[gA,h])
       · have :=kQ hk;omega
   rintro v ⟨r6,rfl⟩;refine zP ?_;refine Go.RL.AtL.go 11 ?_
   iterate 3 refine zK ?_
   refine Go.RL.AtK.back ?_;refine Go.RL.AtL.one 15 (o:=⟨none,.store 97 (.tmp 8) (.tmp 36),_,_,_,_⟩) (fun _=>True) (fun _ w3=>iQ base w2 q1.R q1.vl g.room (G'%18446744073709551616) H' w3) qV qQ rfl (Go.RL.StabL.unit _ _ qK (fun w' hI hS=>?_)) ?_
   · have hk3:Rg3 base w2 q1.R q1.vl g.room (G'%18446744073709551616) H' k w':=hS;obtain⟨k0,k0f⟩:=at_ hk3.2.1 0 _ rfl;obtain⟨k1,k1f⟩:=at_ hk3.2.1 1 _ rfl;refine⟨(w'.setCell ⟨k,0,none⟩ (.slice r6.A r6.cs.length r6.cap)).setCell ⟨k,1,none⟩ (.bool r6.cont),by go_simp,trivial,HIw.o _ k hI hk3.2.2 _ _,hk3.store _ _⟩
   rintro v15 -;simp only[Act.put];refine Go.RL.AtL.done qQ (fun w' hI hS=>?_);have HS4:Hid (pN base W q gP w'):=Hd (by
    have :=pN.trans ⟨e1,e2,HMX.o.1,HMX.o.2⟩ (HQ.o.ringed (gone':=G') hS HG0.o);rw[←HGP.o,HGH.o.1,HGH.o.2];exact this)
   have z0:=HS4.o.hold HX HB0.o;have z1:=HS4.o.hold HX HB1.o;clear hI hS x0 x1 y0 y1;cases fl with
   |true=>
    have HE:Hid (gW gP 2 0 1=gT):=Hd (by rw[←HGT.o,if_pos (of_decide_eq_true HFL.o)]);rw[HE.o]at HT2
    go_wp2_with(first
     |(go_at_call 161;(with_reducible refine(HT2.o _ HS4.o).mono ?_);rintro e w5 ⟨rfl,hs⟩;have HS5:=Hd hs;have u0:=hs.hold HX HB0.o;have u1:=hs.hold HX HB1.o;clear hs z0 z1)
     |(go_at_call 260;(with_reducible refine(HSL.o _ HS5.o).mono ?_);rintro e w6 ⟨rfl,hs⟩;have HS6:=Hd hs;clear hs)
     |(go_at_call 203;(with_reducible refine(HPA.o _ HS6.o).mono ?_);rintro e w7 ⟨rfl,hs⟩;have HS7:=Hd hs;clear hs))
    go_end0
    exact qZn
   |false=>
    have HE:Hid (gP=gT):=Hd (by rw[←HGT.o,if_neg (of_decide_eq_false HFL.o)]);rw[HE.o]at HS4
    go_wp2_with(first
     |(go_at_call 260;(with_reducible refine(HSL.o _ HS4.o).mono ?_);rintro e w6 ⟨rfl,hs⟩;have HS6:=Hd hs;clear hs)
     |(go_at_call 203;(with_reducible refine(HPA.o _ HS6.o).mono ?_);rintro e w7 ⟨rfl,hs⟩;have HS7:=Hd hs;clear hs))
    go_end0
    exact qZn
end
section
variable {base:Nat}{w w1:World}{q:Pv}{g g1:Pg}
set_option maxHeartbeats 3200000 in
theorem pup_any(h:PgO base w q g)(top bottom:Nat)(b:Col)(h1:top≤bottom)(h2:bottom<g.scr.length)(ht:g.told.length≤999990):
 Calls jG 212 #[.pointer (some ⟨q.P,0,none⟩),.int .i64 top,.int .i64 bottom,.agg #[.int .i64 b.k,.int .i64 b.n]] w (gY base w q (upP g top bottom b)):=by
 rcases Nat.eq_zero_or_pos top with h0|h0
 · subst h0;exact qQa h bottom b h2 ht
 have hb0:Below w.heap.size w (w.alloc (.cells #[.int .i64 b.k,.int .i64 b.n] 38)):=jW (jU _ _) _;have HC:=Hd (ZW (h.below hb0) top bottom b h1 h2 ht);have HB:=Hd hb0;have HU:Hid (upP g top bottom b=lU g top bottom b):=Hd (by unfold upP;rw[if_pos h0]);have h0I:(0:Int)<(top:Int):=by omega
 rw[HU.o];clear h hb0
 go_enter Tryz.func212,Tryz.ntmps212
 go_wp2_with(go_at_call 211;(with_reducible refine HC.o.mono ?_);rintro e w2 ⟨rfl,hs⟩;have HS:=Hd hs;clear hs)
 go_end0
 exact qZo
set_option maxHeartbeats 3200000 in
theorem WB(h:PgO base w q g)(top bottom:Nat)(b:Col)(h1:top≤bottom)(h2:bottom<g.scr.length)(ht:g.told.length≤999990):
 Calls jG 193 #[.pointer (some ⟨q.P,0,none⟩),.int .i64 top,.int .i64 bottom,.agg #[.int .i64 b.k,.int .i64 b.n]] w (gY base w q (cK g top bottom b)):=by
 have hrows:=h.rows1000;have hlen:=h.len;have hh:=h.hist100k;obtain⟨W,hW⟩:∃W,w.alloc (.cells #[.int .i64 b.k,.int .i64 b.n] 38)=W:=⟨_,rfl⟩;have hb0:Below w.heap.size w W:=by rw[←hW];exact jW (jU _ _) _
 have HN:=Hd (show W.heap[w.heap.size]? =some (.cells #[.int .i64 b.k,.int .i64 b.n] 38 (0,0))from by rw[←hW];exact kZ rfl);have HB:=Hd hb0;have HX:w.heap.size∉pgX q:=fun hx=>by have :=h.lt _ hx;omega
 have H0:=Hd (h.below hb0).res;have hwa:jP.wrap ((g.hist.length:Int)+(bottom:Int))=(g.hist.length:Int)+(bottom:Int):=jH _ qJ;have hwb:jP.wrap ((g.hist.length:Int)+(top:Int))=(g.hist.length:Int)+(top:Int):=jH _ qJ;have hwc:jP.wrap ((bottom:Int)+1)=(bottom:Int)+1:=jH _ qJ;have hwd:jP.wrap ((top:Int)+1)=(top:Int)+1:=jH _ qJ;have HBA:=Hd (mR H0.o);have HBA2:Hid (∀w1,pN base W q (gW g 1 ((g.hist.length:Int)+bottom) 1) w1→Calls jG 79 #[.pointer (some ⟨q.P,0,none⟩)] w1 fun e w2=>e=.returned (.int .i64 g.hist.length)∧w1=w2):=Hd (fun w1 hs=>by have :=mR hs;exact this);have HT1:=Hd (fG H0.o 1 ((g.hist.length:Int)+bottom) 1 qJ);have HT2:Hid (∀w1,pN base W q (gW g 1 ((g.hist.length:Int)+bottom) 1) w1→Calls jG 161 #[.pointer (some ⟨q.P,0,none⟩),.int .i64 0,.int .i64 ((g.hist.length:Int)+top),.int .i64 1] w1 (gY base W q (gW (gW g 1 ((g.hist.length:Int)+bottom) 1) 0 ((g.hist.length:Int)+top) 1))):=Hd (fun w1 hs=>fG hs _ _ _ (by simp[gW];omega))
 have HSL:Hid (∀w1,pN base W q (gW (gW g 1 ((g.hist.length:Int)+bottom) 1) 0 ((g.hist.length:Int)+top) 1) w1→Calls jG 260 #[.pointer (some ⟨q.P,0,none⟩),.int .i64 bottom,.int .i64 top,.agg #[.int .i64 b.k,.int .i64 b.n]] w1 (gY base W q {(gW (gW g 1 ((g.hist.length:Int)+bottom) 1) 0 ((g.hist.length:Int)+top) 1)with scr:=bA g.scr top bottom (gZ g.cols b)})):=Hd (fun w1 hs=>Vk hs bottom top b h1 h2);have HPA:=Hd (fun(g1:Pg) (y:Int) (w1:World) (hs:pN base W q g1 w1)=>mK hs y);obtain⟨b0,-⟩:=at_ HN.o 0 _ rfl;obtain⟨b1,-⟩:=at_ HN.o 1 _ rfl;have HB0:=Hd b0;have HB1:=Hd b1;have HG:Hid (cK g top bottom b=vL (vL {(gW (gW g 1 ((g.hist.length:Int)+bottom) 1) 0 ((g.hist.length:Int)+top) 1)with scr:=bA g.scr top bottom (gZ g.cols b)} ((top:Int)+1) false) ((bottom:Int)+1) false):=Hd rfl;rw[HG.o];clear hb0 h b0 b1
 go_enter Tryz.func193,Tryz.ntmps193
 go_wp2_with(first
  |(go_at_call 79;first
     |(have hpv:=HS1.o;clear hpv;(with_reducible refine(HBA2.o _ HS1.o).mono ?_);rintro e w9 ⟨rfl,rfl⟩)
     |((with_reducible refine HBA.o.mono ?_);rintro e w9 ⟨rfl,rfl⟩))
  |(go_at_call 161;first
     |(have hpv:=HS1.o;clear hpv;(with_reducible refine(HT2.o _ HS1.o).mono ?_);rintro e w2 ⟨rfl,hs⟩;have HS2:=Hd hs;have y0:=hs.hold HX HB0.o;have y1:=hs.hold HX HB1.o;clear hs)
     |((with_reducible refine HT1.o.mono ?_);rintro e w2 ⟨rfl,hs⟩;have HS1:=Hd hs;clear hs))
  |(go_at_call 260;(with_reducible refine(HSL.o _ HS2.o).mono ?_);rintro e w3 ⟨rfl,hs⟩;have HS3:=Hd hs;clear hs)
  |(go_at_call 203;first
     |(have hpv:=HS4.o;clear hpv;(with_reducible refine(HPA.o _ _ _ HS4.o).mono ?_);rintro e w4 ⟨rfl,hs⟩;have HS5:=Hd hs;clear hs)
     |((with_reducible refine(HPA.o _ _ _ HS3.o).mono ?_);rintro e w4 ⟨rfl,hs⟩;have HS4:=Hd hs;clear hs)))
 go_end0
 exact⟨rfl,HS5.o.pre HB.o⟩
def Yo(F:Nat→Nat→Pg→Pg):Prop:=∀t b g,t≤b→b<g.scr.length→(F t b g).scr.length=g.scr.length∧(F t b g).told.length≤g.told.length+2∧(F t b g).cols=g.cols∧(F t b g).room=g.room
theorem bR(g:Pg)(y:Int)(b:Bool):(vL g y b).scr.length=g.scr.length∧(vL g y b).told=g.told∧(vL g y b).cols=g.cols∧(vL g y b).room=g.room:=by
 obtain⟨h1,h2,h3,h4,h5,h6⟩:=Qa g y b;exact⟨h6,h3,h4,h5⟩
theorem tF(b:Col):Yo (fun t bo g=>lU g t bo b):=fun t bo g h1 h2=>by
 unfold lU;simp only[];obtain⟨a1,a2,a3,a4⟩:=bR (vL {(gW (gW g 1 ((g.hist.length:Int)+t) 1) 0 ((g.hist.length:Int)+bo) 1)with scr:=pT g.scr t bo (gZ g.cols b)} t false) ((bo:Int)+1) false;obtain⟨b1,b2,b3,b4⟩:=bR {(gW (gW g 1 ((g.hist.length:Int)+t) 1) 0 ((g.hist.length:Int)+bo) 1)with scr:=pT g.scr t bo (gZ g.cols b)} t false;refine⟨a1.trans (b1.trans (lN h1 h2)),?_,a3.trans b3,a4.trans b4⟩;rw[a2,b2];simp[gW]
theorem mL(b:Col):Yo (fun t bo g=>cK g t bo b):=fun t bo g h1 h2=>by
 unfold cK;simp only[];obtain⟨a1,a2,a3,a4⟩:=bR (vL {(gW (gW g 1 ((g.hist.length:Int)+bo) 1) 0 ((g.hist.length:Int)+t) 1)with scr:=bA g.scr t bo (gZ g.cols b)} ((t:Int)+1) false) ((bo:Int)+1) false;obtain⟨b1,b2,b3,b4⟩:=bR {(gW (gW g 1 ((g.hist.length:Int)+bo) 1) 0 ((g.hist.length:Int)+t) 1)with scr:=bA g.scr t bo (gZ g.cols b)} ((t:Int)+1) false;refine⟨a1.trans (b1.trans (xQ h1 h2)),?_,a3.trans b3,a4.trans b4⟩;rw[a2,b2];simp[gW]
theorem Xt(g:Pg)(r:Ro):(iJ g r).1.scr=g.scr∧(iJ g r).1.told=g.told∧(iJ g r).1.cols=g.cols∧(iJ g r).1.room=g.room:=by
 unfold iJ
 split
 · exact⟨rfl,rfl,rfl,rfl⟩
 split
 · exact⟨rfl,rfl,rfl,rfl⟩
 · exact⟨rfl,rfl,rfl,rfl⟩
theorem tD(b:Col):Yo (fun t bo g=>upP g t bo b):=fun t bo g h1 h2=>by
 show(upP g t bo b).scr.length=g.scr.length∧(upP g t bo b).told.length≤g.told.length+2∧(upP g t bo b).cols=g.cols∧(upP g t bo b).room=g.room
 by_cases ht:0<t
 · have e:upP g t bo b=lU g t bo b:=by unfold upP;rw[if_pos ht]
   rw[e];exact tF b t bo g h1 h2
 unfold upP;rw[if_neg ht];simp only[];obtain⟨p1,p2,p3,p4⟩:=Xt (gW g 0 ((g.hist.length:Int)+bo+1) 1) (g.scr.getD 0 ⟨[],false⟩);generalize iJ (gW g 0 ((g.hist.length:Int)+bo+1) 1) (g.scr.getD 0 ⟨[],false⟩)=p at p1 p2 p3 p4;obtain⟨gp,fl⟩:=p;simp only at p1 p2 p3 p4;obtain⟨a1,a2,a3,a4⟩:=bR {(if fl=true then gW gp 2 0 1 else gp)with scr:=pT g.scr 0 bo (gZ g.cols b)} ((bo:Int)+1) false;refine⟨a1.trans (lN qJ h2),?_,?_,?_⟩
 · rw[a2];cases fl
   · simp[p2,gW]
   · simp[p2,gW]
 · rw[a3];cases fl
   · exact p3
   · exact p3
 · rw[a4];cases fl
   · exact p4
   · exact p4
end
section
variable {base:Nat}{w w1:World}{q:Pv}{g g1:Pg}
theorem rX{F:Nat→Nat→Pg→Pg}(hF:Yo F){t b:Nat}(h1:t≤b):∀(n:Nat) (g:Pg),b<g.scr.length→(eD (F t b) n g).scr.length=g.scr.length∧(eD (F t b) n g).told.length≤g.told.length+2*n
 |0,g,h=>⟨rfl,jS _⟩
 |n+1,g,h=>by
  have ih:=rX hF h1 n g h;have :=hF t b (eD (F t b) n g) h1 qJ;exact⟨this.1.trans ih.1,by show(F t b (eD (F t b) n g)).told.length≤_;omega⟩
set_option maxHeartbeats 3200000 in
theorem sK(h:PgO base w q g)(top bottom n:Int)(b:Col)(f:FuncId)(F:Nat→Nat→Pg→Pg)(hF:Yo F)(ht:g.told.length≤900000)(hn:n≤9223372036854775807)(hn0: -9223372036854775808≤n)
 (hf:∀(args:Array Value) (w:World),(callFunc f args).run jG w=.ok (.enter f args) w)
 (hdo:∀(w1:World) (q1:Pv) (g1:Pg) (t bo:Nat),q1.P=q.P→PgO base w1 q1 g1→t≤bo→bo<g1.scr.length→g1.told.length≤999990→Calls jG f #[.pointer (some ⟨q.P,0,none⟩),.int .i64 t,.int .i64 bo,.agg #[.int .i64 b.k,.int .i64 b.n]] w1 (gY base w1 q1 (F t bo g1))):
 Calls jG 192 #[.pointer (some ⟨q.P,0,none⟩),.int .i64 top,.int .i64 bottom,.int .i64 n,.func (.func f) #[.pointer (some ⟨q.P,0,none⟩)] #[],.agg #[.int .i64 b.k,.int .i64 b.n]] w (gY base w q (gI g top bottom n F)):=by
 have hrows:=h.rows1000;have hlen:=h.len;obtain⟨W,hW⟩:∃W,w.alloc (.cells #[.int .i64 b.k,.int .i64 b.n] 38)=W:=⟨_,rfl⟩;have hb0:Below w.heap.size w W:=by rw[←hW];exact jW (jU _ _) _
 have HN:=Hd (show W.heap[w.heap.size]? =some (.cells #[.int .i64 b.k,.int .i64 b.n] 38 (0,0))from by rw[←hW];exact kZ rfl);have HB:=Hd hb0;have HX:w.heap.size∉pgX q:=fun hx=>by have :=h.lt _ hx;omega
 have H0:=Hd (h.below hb0).res;have HI1:=Hd (rK (h.below hb0) top);have HI2:=Hd (rK (h.below hb0) bottom);have HIT:=Hd (show inP g top=decide (0≤top∧top<g.scr.length)from by unfold inP;rw[Bool.decide_and]);have HIB:=Hd (show inP g bottom=decide (0≤bottom∧bottom<g.scr.length)from by unfold inP;rw[Bool.decide_and]);have HTP:Hid (gI g top bottom n F=if inP g top&&inP g bottom&&decide (top≤bottom)then eD (F top.toNat bottom.toNat) (min n.toNat (bottom-top+1).toNat) g else g):=Hd rfl;rw[HTP.o];obtain⟨b0,-⟩:=at_ HN.o 0 _ rfl;obtain⟨b1,-⟩:=at_ HN.o 1 _ rfl;have HB0:=Hd b0;have HB1:=Hd b1;have HDO:=Hd hdo;clear hdo h hb0 HTP;generalize hi1:inP g top=i1 at HI1 HIT ⊢;generalize hi2:inP g bottom=i2 at HI2 HIB ⊢;clear hi1 hi2;cases i1 with
 |false=>
  clear b0 b1
  go_enter Tryz.func192,Tryz.ntmps192
  go_wp2_with(go_at_call 199;first|(refine HI1.o.mono ?_;rintro e w9 ⟨rfl,rfl⟩))
  go_end0
  exact⟨rfl,H0.o.pre HB.o⟩
 |true=>
 cases i2 with
 |false=>
  clear b0 b1
  go_enter Tryz.func192,Tryz.ntmps192
  go_wp2_with(go_at_call 199;first|((with_reducible refine HI1.o.mono ?_);rintro e w9 ⟨rfl,rfl⟩;have HI1:=Hd True.intro)|((with_reducible refine HI2.o.mono ?_);rintro e w9 ⟨rfl,rfl⟩))
  go_end0
  exact⟨rfl,H0.o.pre HB.o⟩
 |true=>
 by_cases htb:top≤bottom
 rotate_left
 · have hgt:bottom<top:=by omega
   rw[if_neg (show ¬(true&&true&&decide (top≤bottom))=true from by simp;omega)];clear b0 b1
   go_enter Tryz.func192,Tryz.ntmps192
   go_wp2_with(go_at_call 199;first|((with_reducible refine HI1.o.mono ?_);rintro e w9 ⟨rfl,rfl⟩;have HI1:=Hd True.intro)|((with_reducible refine HI2.o.mono ?_);rintro e w9 ⟨rfl,rfl⟩))
   go_end0
   exact⟨rfl,H0.o.pre HB.o⟩
 have ht1:=of_decide_eq_true HIT.o.symm;have hb1':=of_decide_eq_true HIB.o.symm;obtain⟨t,rfl⟩:∃t:Nat,top=t:=⟨top.toNat,by omega⟩;obtain⟨bo,rfl⟩:∃bo:Nat,bottom=bo:=⟨bottom.toNat,by omega⟩;have htb':t≤bo:=by omega
 have hbo:bo<g.scr.length:=by omega
 obtain⟨d,hd⟩:∃d:Nat,d=bo-t:=⟨_,rfl⟩;have hdI:(bo:Int)-(t:Int)=(d:Int):=by omega
 have hdN:bo-t=d:=hd.symm;have hwd:jP.wrap (d:Int)=(d:Int):=jH _ qJ;obtain⟨d1,hd1⟩:∃d1:Nat,d1=d+1:=⟨_,rfl⟩;have hd1I:(d:Int)+1=(d1:Int):=by omega
 have hwd1:jP.wrap (d1:Int)=(d1:Int):=jH _ qJ;obtain⟨m,hm⟩:∃m:Nat,(if 0<n then n else 0)=(m:Int):=⟨n.toNat,by omega⟩;obtain⟨N,hN⟩:∃N:Nat,(if(d1:Int)<(m:Int)then(d1:Int)else(m:Int))=(N:Int):=⟨min d1 m,by omega⟩;have hN2:(if d1<m then(d1:Int)else(m:Int))=(N:Int):=by rw[←hN];congr 1;simp
 have hNv:min n.toNat ((bo:Int)-(t:Int)+1).toNat=N:=by omega
 have hN1000:N≤1000:=by omega
 have hng:¬(bo:Int)<(t:Int):=by omega
 have hngN:¬bo<t:=by omega
 have hngD:decide (bo<t)=false:=decide_eq_false hngN;have HRES:Hid ((if(true&&true&&decide ((t:Int)≤(bo:Int)))=true then eD (F ((t:Int)).toNat ((bo:Int)).toNat) (min n.toNat ((bo:Int)-(t:Int)+1).toNat) g else g)=eD (F t bo) N g):=Hd (by
  rw[if_pos qW,hNv];rfl)
 rw[HRES.o];have HCA:=Hd (fun i=>rX hF htb' i g hbo);have HTB:=Hd (kM htb' hbo);clear hd hd1 hNv htb htb' hbo ht1 hb1' HRES
 go_enter Tryz.func192,Tryz.ntmps192
 go_wp2_with(go_at_call 199;first|((with_reducible refine HI1.o.mono ?_);rintro e w9 ⟨rfl,rfl⟩;have HI1:=Hd True.intro)|((with_reducible refine HI2.o.mono ?_);rintro e w9 ⟨rfl,rfl⟩))
 go_loopw [34] (fun s34 wr=>∃i:Nat,s34=.int .i64 i∧i≤N∧pN base W q (eD (F t bo) i g) wr) (fun s34 _=>N-(intOf s34).toNat)
 case atStart=>exact⟨0,rfl,kT _,H0.o⟩
 case round=>
  obtain⟨i,rfl,hi,hs⟩:=hrel;have HS:=Hd hs;have z0:=hs.hold HX HB0.o;have z1:=hs.hold HX HB1.o;clear hs
  by_cases hlt:i<N
  rotate_left
  · obtain rfl:i=N:=by omega
    go_wp2
    go_end0
    exact qZo
  · have hltI:(i:Int)<(N:Int):=by omega
    have HC:=Hd (tG HS.o (fun q1 e hq=>HDO.o wr q1 _ t bo e hq HTB.o.1 (by rw[(HCA.o i).1];exact HTB.o.2) (by have :=(HCA.o i).2;omega)));have hfc:=hf #[.pointer (some ⟨q.P,0,none⟩),.int .i64 t,.int .i64 bo,.agg #[.int .i64 b.k,.int .i64 b.n]]
    go_wp2_with(refine HC.o.mono ?_;rintro e w5 ⟨rfl,hs⟩;have HS5:=Hd hs;clear hs)
    go_roundw
    case rel=>exact⟨i+1,by go_num,by omega,HS5.o⟩
    case measure=>exact zm
end
section
variable {base:Nat}{w w1:World}{q:Pv}{g g1:Pg}
set_option maxHeartbeats 1600000 in
theorem UG(h:PgO base w q g)(top bottom n:Int)(b:Col)(ht:g.told.length≤900000)(hn:n≤9223372036854775807)(hn0: -9223372036854775808≤n):
 Calls jG 139 #[.pointer (some ⟨q.P,0,none⟩),.int .i64 top,.int .i64 bottom,.int .i64 n,.agg #[.int .i64 b.k,.int .i64 b.n]] w (gY base w q (gI g top bottom n (fun t bo g=>upP g t bo b))):=by
 have hb0:Below w.heap.size w (w.alloc (.cells #[.int .i64 b.k,.int .i64 b.n] 38)):=jW (jU _ _) _;have HB:=Hd hb0;have HT:=Hd (sK (h.below hb0) top bottom n b 212 (fun t bo g=>upP g t bo b) (tD b) ht hn hn0 (fun args w=>by kernel_rfl) (fun w1 q1 g1 t bo e hq h1 h2 h3=>by
  rw[←e];exact pup_any hq t bo b h1 h2 h3))
 clear h hb0
 go_enter Tryz.func139,Tryz.ntmps139
 go_wp2_with(go_at_call 192;(with_reducible refine HT.o.mono ?_);rintro e w2 ⟨rfl,hs⟩;have HS:=Hd hs;clear hs)
 go_end0
 exact qZo
set_option maxHeartbeats 1600000 in
theorem ZC(h:PgO base w q g)(top bottom n:Int)(b:Col)(ht:g.told.length≤900000)(hn:n≤9223372036854775807)(hn0: -9223372036854775808≤n):
 Calls jG 138 #[.pointer (some ⟨q.P,0,none⟩),.int .i64 top,.int .i64 bottom,.int .i64 n,.agg #[.int .i64 b.k,.int .i64 b.n]] w (gY base w q (gI g top bottom n (fun t bo g=>lU g t bo b))):=by
 have hb0:Below w.heap.size w (w.alloc (.cells #[.int .i64 b.k,.int .i64 b.n] 38)):=jW (jU _ _) _;have HB:=Hd hb0;have HT:=Hd (sK (h.below hb0) top bottom n b 211 (fun t bo g=>lU g t bo b) (tF b) ht hn hn0 (fun args w=>by kernel_rfl) (fun w1 q1 g1 t bo e hq h1 h2 h3=>by
  rw[←e];exact ZW hq t bo b h1 h2 h3))
 clear h hb0
 go_enter Tryz.func138,Tryz.ntmps138
 go_wp2_with(go_at_call 192;(with_reducible refine HT.o.mono ?_);rintro e w2 ⟨rfl,hs⟩;have HS:=Hd hs;clear hs)
 go_end0
 exact qZo
set_option maxHeartbeats 1600000 in
theorem mV(h:PgO base w q g)(top bottom n:Int)(b:Col)(ht:g.told.length≤900000)(hn:n≤9223372036854775807)(hn0: -9223372036854775808≤n):
 Calls jG 119 #[.pointer (some ⟨q.P,0,none⟩),.int .i64 top,.int .i64 bottom,.int .i64 n,.agg #[.int .i64 b.k,.int .i64 b.n]] w (gY base w q (gI g top bottom n (fun t bo g=>cK g t bo b))):=by
 have hb0:Below w.heap.size w (w.alloc (.cells #[.int .i64 b.k,.int .i64 b.n] 38)):=jW (jU _ _) _;have HB:=Hd hb0;have HT:=Hd (sK (h.below hb0) top bottom n b 193 (fun t bo g=>cK g t bo b) (mL b) ht hn hn0 (fun args w=>by kernel_rfl) (fun w1 q1 g1 t bo e hq h1 h2 h3=>by
  rw[←e];exact WB hq t bo b h1 h2 h3))
 clear h hb0
 go_enter Tryz.func119,Tryz.ntmps119
 go_wp2_with(go_at_call 192;(with_reducible refine HT.o.mono ?_);rintro e w2 ⟨rfl,hs⟩;have HS:=Hd hs;clear hs)
 go_end0
 exact qZo
set_option maxHeartbeats 1600000 in
theorem ZP(h:PgO base w q g)(ht:g.told.length≤900000):Calls jG 129 #[.pointer (some ⟨q.P,0,none⟩)] w (gY base w q (cO g)):=by
 have HBA:=Hd (mZ h);have hh:=h.hist100k
 by_cases h0:g.hist.length=0
 · have HF:=Hd (show cO g=g from by unfold cO;rw[if_pos h0]);have H0:=Hd h.res;have h0I:((g.hist.length:Int)==0)=true:=by simp[h0]
   rw[h0]at HBA;rw[HF.o];clear h
   go_enter Tryz.func129,Tryz.ntmps129
   go_wp2_with(go_at_call 79;refine HBA.o.mono ?_;rintro e w9 ⟨rfl,rfl⟩)
   go_end0
   exact⟨rfl,H0.o⟩
 · have HF:=Hd (show cO g=vL (gW {g with hist:=[],gone:=g.gone+g.hist.length} 2 0 g.hist.length) 0 false from by unfold cO;rw[if_neg h0]);obtain⟨m,hm⟩:∃m,g.hist.length=m:=⟨_,rfl⟩;rw[hm]at HF HBA;have h0I:((m:Int)==0)=false:=by simp;omega
   obtain⟨⟨x0,-⟩,-⟩:=h.cells;have HC:=Hd (Xd h.ring (Int.emod_nonneg _ qZ) (Int.emod_lt_of_pos _ qZ));have hqn:q.n=m:=by rw[←hm];exact h.hlen.symm
   rw[hqn]at HC;have HG:Hid (∀w2,iQ base w q.R q.vl g.room ((g.gone%18446744073709551616+(m:Int))%18446744073709551616) [] w2→pN base w q {g with hist:=[],gone:=g.gone+m} w2):=Hd (fun w2 hp=>by
    have e:(g.gone%18446744073709551616+(m:Int))%18446744073709551616=(g.gone+m)%18446744073709551616:=by omega
    rw[e]at hp;exact h.ringed hp (by have :=h.gone0;omega))
   have HT:=Hd (fun(w1:World) (hs:pN base w q {g with hist:=[],gone:=g.gone+(m:Int)} w1)=>fG hs 2 0 m (by show g.told.length≤1000000;omega));have HPA:=Hd (fun(w1:World) (hs:pN base w q (gW {g with hist:=[],gone:=g.gone+(m:Int)} 2 0 m) w1)=>mK hs 0);rw[HF.o];clear h hm h0 hqn
   go_enter Tryz.func129,Tryz.ntmps129
   go_wp2_with(first
    |(go_at_call 79;(with_reducible refine HBA.o.mono ?_);rintro e w9 ⟨rfl,rfl⟩)
    |(go_at_call 162;(with_reducible refine HC.o.mono ?_);rintro e w2 ⟨rfl,hp⟩;have HS:=Hd (HG.o _ hp);clear hp)
    |(go_at_call 161;(with_reducible refine(HT.o _ HS.o).mono ?_);rintro e w3 ⟨rfl,hs⟩;have HS3:=Hd hs;clear hs)
    |(go_at_call 203;(with_reducible refine(HPA.o _ HS3.o).mono ?_);rintro e w4 ⟨rfl,hs⟩;have HS4:=Hd hs;clear hs))
   go_end0
   exact⟨rfl,HS4.o⟩
def JW(base:Nat)(w:World)(q:Pv)(g:Pg)(e:Ending)(w':World):Prop:=
 ∃v,e=.returned v∧w'.ownsRow base 119 3 v g.told.length (uS dQ g.told)∧pN base w q {g with told:=[]} w'
set_option maxHeartbeats 1600000 in
theorem ZM(h:PgO base w q g):Calls jG 21 #[.pointer (some ⟨q.P,0,none⟩)] w (JW base w q g):=by
 obtain⟨-,-,-,x3,x3f⟩:=h.cells;have HR:=Hd (h.retold (vt':=.slice none 0 0) (t':=[]) (uE _ _ _ _) (Mod.refl _ _) (fun b hb=>by simp[Value.ownBlock]at hb));have HO:=Hd (uL h.told ((Mod.refl [q.P] w).setCell (a:=⟨q.P,3,none⟩) (.inl qV) (.slice none 0 0)) (fun b hb hx=>by
  obtain⟨cur,hc⟩:=uA h.told hb;rw[jR.1 hx]at hc;exact uP h.blk hc qZ rfl))
 clear h
 go_enter Tryz.func21,Tryz.ntmps21
 go_wp2
 go_ret
 exact⟨_,rfl,HO.o,HR.o⟩
end
def tT(r:Ro)(w:World)(e:Ending)(w':World):Prop:=∃g cap,e=.returned (.tuple #[.agg #[.slice (some ⟨g,0,none⟩) r.cs.length cap,.bool r.cont],.bool true])∧pX w' ⟨some ⟨g,0,none⟩,r.cs,cap,r.cont⟩∧Below w.heap.size w w'
section
variable {base:Nat}{w:World}{R:Nat}{vl:Value}{SL:List Rh}{room first n:Nat}{gone:Int}
set_option maxHeartbeats 3200000 in
theorem rat_in(h:RgO base w R vl SL room first n gone)(i:Nat)(r:Rh)(hr0:(zX SL first n)[i]? =some r):Calls jG 103 #[.pointer (some ⟨R,0,none⟩),.int .i64 i] w (tT (yA r) w):=by
 have hi:i<n:=by have :=(jE.1 hr0).1;rwa[zT]at this
 have hnr:n≤100000:=by have :=h.hn;have :=h.hm;have :=h.hroom;omega
 have hmr:SL.length≤100000:=by have :=h.hm;have :=h.hroom;omega
 have HOWN:=Hd (fun(r:Rh) (w':World) (h:pX w' r) (h0:0<r.cs.length)=>QY r w' h h0);have HAB:=Hd (jW (jU w.heap.size w) (.cells #[.slice none 0 0,.bool false] 97));have HX:=Hd (kZ (W:=w) (b:=w.heap.size) (o:=.cells #[.slice none 0 0,.bool false] 97) rfl);obtain⟨W,hW⟩:∃W,w.alloc (.cells #[.slice none 0 0,.bool false] 97)=W:=⟨_,rfl⟩;rw[hW]at HAB HX;have H:=Hd (h.below HAB.o);have HLEN:=Hd (sO H.o);have hiI:¬(n:Int)≤(i:Int):=by omega
 have hi0:¬(i:Int)<0:=by omega
 have hf:first < SL.length:=by
  rcases h.hf with hf|⟨-,hf⟩
  · exact hf
  · have :=h.hn;omega
 obtain⟨k,hk⟩:∃k,yM SL.length first i=k:=⟨_,rfl⟩
 have hkl:k<SL.length:=by rw[←hk];exact cD hf (by have :=h.hn;omega)
 have hr:SL[k]? =some r:=by rw[←hk,←fI hf h.hn hi];exact hr0
 have hrr:=H.o.rows r (uW hr0);obtain⟨gs,cs,hvs⟩:=gE H.o.own qJ;have hownS:=H.o.own;have x0:=(at_ H.o.blk 0 _ rfl).1;have x2:W.cell? ⟨R,2,none⟩=some (.int .i64 first):=(at_ H.o.blk 2 _ rfl).1;rw[hvs]at hownS x0;obtain⟨⟨r0,-⟩,r1,-⟩:=yL hownS hr;have hfr:first ≤100000:=by omega
 have hkI:(k:Int)<(SL.length:Int):=by omega
 have HRR:=Hd hrr;have HWW:=Hd hW;clear hr0 h hr hownS hvs hf hrr hW
 go_enter Tryz.func103,Tryz.ntmps103
 go_upto_region 1 with fail
 rw[HWW.o];clear HWW
 go_upto_region 3 with(go_at_call 148;(with_reducible refine HLEN.o.mono ?_);rintro e w1 ⟨rfl,rfl⟩)
 refine gG 10 (fun w2=>Below W.heap.size W w2∧w2.cell? ⟨R,0,none⟩=some (.slice (some ⟨gs,0,none⟩) SL.length cs)∧w2.cell? ⟨gs,k*2,none⟩=some (.slice r.A r.cs.length r.cap)∧w2.cell? ⟨gs,k*2+1,none⟩=some (.bool r.cont)) qQ qQ (fun w1 w2 hS hb=>⟨jN hS.1 hb,jA hb hS.2.1,jA hb hS.2.2.1,jA hb hS.2.2.2⟩) ⟨(jU _ _).drew,x0,r0,r1⟩ ?_;refine AtN.go 0 ?_
 iterate 6 refine zA ?_
 refine AtC.back ?_;refine AtN.take 6 (o:=⟨_,_,_,_,_,_⟩) (v:=.int .i64 k) qQ rfl qV qQ qQ (uY.call1 174 #[.pointer (some ⟨R,0,none⟩),.int .i64 i] (.int .i64 k) qK qB (fun w' hS=>(iT hS.2.1 ((Mod.of_below (X:=[]) hS.1).cell qV x2) hmr hfr i qJ).mono (fun e w3 h=>⟨by rw[←hk];exact h.1,h.2▸jU _ _⟩))) ?_;refine zP ?_;refine AtN.go 7 ?_
 iterate 2 refine zA ?_
 refine AtC.back ?_;refine AtN.one 9 (o:=⟨_,_,_,_,_,_⟩) (fun v=>∃g1 cap,v=.agg #[.slice (some ⟨g1,0,none⟩) r.cs.length cap,.bool r.cont]) (fun v w'=>∃g1 cap,v=.agg #[.slice (some ⟨g1,0,none⟩) r.cs.length cap,.bool r.cont]∧pX w' ⟨some ⟨g1,0,none⟩,r.cs,cap,r.cont⟩) qV qQ rfl (fun v w1 w2 ⟨g1,cap,hv,hr⟩ hb=>⟨g1,cap,hv,hr.below hb⟩) (uY.call 173 #[.agg #[.slice r.A r.cs.length r.cap,.bool r.cont]] _ _ qK ?_ (fun w' hS=>?_)) ?_
 · intro w'
   go_simp
 · refine(HOWN.o r w' (HRR.o.1.below hS.1) HRR.o.2).mono ?_;rintro e w3 ⟨g1,cap,rfl,hrc,hb,-⟩;exact⟨_,rfl,⟨⟨g1,cap,rfl⟩,g1,cap,rfl,hrc⟩,hb⟩
 rintro v ⟨g1,cap,rfl⟩;refine zP ?_;refine AtN.done qQ (fun w' hS=>?_);obtain⟨⟨hb1,-⟩,g1',cap',hv',hrc'⟩:=hS;simp only[Value.agg.injEq,Array.mk.injEq,List.cons.injEq,Value.slice.injEq,Option.some.injEq,Addr.mk.injEq,and_true,true_and]at hv';obtain⟨rfl,rfl⟩:=hv';have HR1:=Hd hrc';have HB1:=Hd (jN HAB.o hb1);have HX1:=Hd ((hb1.block _ (kQ HX.o)).trans HX.o);obtain⟨y0,y0f⟩:=at_ HX1.o 0 _ rfl;obtain⟨y1,y1f⟩:=at_ HX1.o 1 _ rfl;clear hb1 hrc' x0 x2 r0 r1
 go_wp2
 have HB3:=kH (kH HB1.o (jS _) (o:=0) (.slice (some ⟨g1,0,none⟩) r.cs.length cap)) (jS _) (o:=1) (.bool r.cont);have hset:=eZ (u':=.slice (some ⟨g1,0,none⟩) r.cs.length cap) (v':=.bool r.cont) ⟨y0,y0f⟩ ⟨y1,y1f⟩;refine bodyPost_ret (iE rfl _ _ w.heap.size _ _ _ rfl rfl hset.1.1 hset.2.1) rfl ⟨g1,cap,rfl,HR1.o.mod (X:=[w.heap.size]) (yB (Mod.refl _ _) (.inl qV)) ?_,HB3⟩;intro b hb cs' f he;rw[jR.1 hb,HX1.o]at he;injection he with he
 injection he with _ ht
 exact absurd ht qZ
end
section
variable {base:Nat}{w:World}{q:Pv}{g:Pg}
set_option maxHeartbeats 3200000 in
theorem qQi(h:PgO base w q g)(i k:Nat)(r:Ro)(hi:i=g.hist.length+k)(hr:g.scr[k]? =some r):Calls jG 34 #[.pointer (some ⟨q.P,0,none⟩),.int .i64 i] w (tT r w):=by
 have HAB:=Hd (jW (jU w.heap.size w) (.cells #[.slice none 0 0,.bool false] 97));have HX:=Hd (kZ (W:=w) (b:=w.heap.size) (o:=.cells #[.slice none 0 0,.bool false] 97) rfl);obtain⟨W,hW⟩:∃W,w.alloc (.cells #[.slice none 0 0,.bool false] 97)=W:=⟨_,rfl⟩;rw[hW]at HAB HX;have H:=Hd (h.below HAB.o);have HBA:=Hd (mZ H.o);have HRO:=Hd (rJ H.o);have hh:=h.hist100k;have hrow:=h.rows1000;rw[←h.scr,vQ]at hr;obtain⟨x,hx,rfl⟩:=Option.map_eq_some_iff.1 hr;have hkS:k<q.S.length:=(jE.1 hx).1;obtain⟨hrc,hrl⟩:=H.o.rows x (uW hx);obtain⟨gs,cs,hvs⟩:=gE H.o.own qJ;obtain⟨-,⟨x1,-⟩,-⟩:=H.o.cells;have hownS:=H.o.own;rw[hvs]at hownS x1;obtain⟨⟨r0,-⟩,r1,-⟩:=yL hownS hx;have h0r:0<x.cs.length:=by rw[hrl];have :=h.cols2;omega
 have HO:=Hd (ZV x W hrc h0r);have hlen:=h.len;have hsub:(i:Int)-(g.hist.length:Int)=(k:Int):=by omega
 have hwk:jP.wrap (k:Int)=(k:Int):=jH _ qJ;have hkI:(k:Int)<(g.scr.length:Int):=by omega
 have hkI2:(k:Int)<(q.S.length:Int):=by omega
 have HWW:=Hd hW;obtain⟨A,cs',cap0,cont⟩:=x;simp only at HO r0 r1;clear h hW hr hx hownS hvs hrc hrl hi hlen hrow hh h0r
 go_enter Tryz.func34,Tryz.ntmps34
 go_upto_region 1 with fail
 rw[HWW.o];clear HWW
 go_wp2_with(first
  |(go_at_call 79;(with_reducible refine HBA.o.mono ?_);rintro e w1 ⟨rfl,rfl⟩)
  |(go_at_call 15;(with_reducible refine HRO.o.mono ?_);rintro e w1 ⟨rfl,rfl⟩)
  |(go_at_call 102;(with_reducible refine HO.o.mono ?_);rintro e w1 ⟨g1,cap,rfl,hrc,hb,-⟩;have HRC:=Hd hrc;have HB1:=Hd (jN HAB.o hb);have HX1:=Hd ((hb.block _ (kQ HX.o)).trans HX.o);obtain⟨y0,y0f⟩:=at_ HX1.o 0 _ rfl;obtain⟨y1,y1f⟩:=at_ HX1.o 1 _ rfl;clear hrc hb x1 r0 r1))
 have HB3:=kH (kH HB1.o (jS _) (o:=0) (.slice (some ⟨g1,0,none⟩) cs'.length cap)) (jS _) (o:=1) (.bool cont);have hset:=eZ (u':=.slice (some ⟨g1,0,none⟩) cs'.length cap) (v':=.bool cont) ⟨y0,y0f⟩ ⟨y1,y1f⟩;refine bodyPost_ret (iE rfl _ _ w.heap.size _ _ _ rfl rfl hset.1.1 hset.2.1) rfl ⟨g1,cap,rfl,HRC.o.mod (X:=[w.heap.size]) (yB (Mod.refl _ _) (.inl qV)) ?_,HB3⟩;intro b hb cs' f he;rw[jR.1 hb,HX1.o]at he;injection he with he
 injection he with _ ht
 exact absurd ht qZ
set_option maxHeartbeats 3200000 in
theorem WD(h:PgO base w q g)(i:Nat)(r:Ro)(hr:g.hist[i]? =some r):Calls jG 34 #[.pointer (some ⟨q.P,0,none⟩),.int .i64 i] w (tT r w):=by
 have HAB:=Hd (jW (jU w.heap.size w) (.cells #[.slice none 0 0,.bool false] 97));have HX:=Hd (kZ (W:=w) (b:=w.heap.size) (o:=.cells #[.slice none 0 0,.bool false] 97) rfl);obtain⟨W,hW⟩:∃W,w.alloc (.cells #[.slice none 0 0,.bool false] 97)=W:=⟨_,rfl⟩;rw[hW]at HAB HX;have H:=Hd (h.below HAB.o);have HBA:=Hd (mZ H.o);have hh:=h.hist100k;have hil:i<g.hist.length:=(jE.1 hr).1;have hlen:=h.hlen;rw[←h.hist,vQ]at hr;obtain⟨x,hx,rfl⟩:=Option.map_eq_some_iff.1 hr;have HAT:=Hd (rat_in H.o.ring i x hx);obtain⟨⟨x0,-⟩,-⟩:=H.o.cells;obtain⟨z,hz⟩:∃z:Int,z=(i:Int)-(g.hist.length:Int):=⟨_,rfl⟩;have hsub:(i:Int)-(g.hist.length:Int)=z:=hz.symm;have hwk:jP.wrap z=z:=jH _ qJ;have hz0:z<0:=by omega
 have HWW:=Hd hW;clear h hW hr hx hz hlen hh hil
 go_enter Tryz.func34,Tryz.ntmps34
 go_upto_region 1 with fail
 rw[HWW.o];clear HWW
 go_wp2_with(first
  |(go_at_call 79;(with_reducible refine HBA.o.mono ?_);rintro e w1 ⟨rfl,rfl⟩)
  |(go_at_call 103;(with_reducible refine HAT.o.mono ?_);rintro e w1 ⟨g1,cap,rfl,hrc,hb⟩;have HRC:=Hd hrc;have HB1:=Hd (jN HAB.o hb);have HX1:=Hd ((hb.block _ (kQ HX.o)).trans HX.o);obtain⟨y0,y0f⟩:=at_ HX1.o 0 _ rfl;obtain⟨y1,y1f⟩:=at_ HX1.o 1 _ rfl;clear hrc hb x0))
 have HB3:=kH (kH HB1.o (jS _) (o:=0) (.slice (some ⟨g1,0,none⟩) x.cs.length cap)) (jS _) (o:=1) (.bool x.cont);have hset:=eZ (u':=.slice (some ⟨g1,0,none⟩) x.cs.length cap) (v':=.bool x.cont) ⟨y0,y0f⟩ ⟨y1,y1f⟩;refine bodyPost_ret (iE rfl _ _ w.heap.size _ _ _ rfl rfl hset.1.1 hset.2.1) rfl ⟨g1,cap,rfl,HRC.o.mod (X:=[w.heap.size]) (yB (Mod.refl _ _) (.inl qV)) ?_,HB3⟩;intro b hb cs' f he;rw[jR.1 hb,HX1.o]at he;injection he with he
 injection he with _ ht
 exact absurd ht qZ
end
def fC(b:Bool):List Value:=[.bool b]
theorem mF:∀b,(fC b).length=1:=fun _=>rfl
theorem Qn:∀b,∀v∈fC b,v.oneCell'=true:=fun b v hv=>by
 obtain rfl:=jR.1 hv;rfl
def DbO(B:Nat)(w:World)(v:Value)(l:List Bool):Prop:=w.ownsRow B 4 1 v l.length (uS fC l)
theorem DbO.mod{B:Nat}{w w':World}{v:Value}{l:List Bool}{X:List Nat}(h:DbO B w v l)(hm:Mod X w w')(hX:∀g,v.ownBlock=some g→g∉X):DbO B w' v l:=uL h hm hX
theorem DbO.below{B:Nat}{w w':World}{v:Value}{l:List Bool}(h:DbO B w v l)(hb:Below w.heap.size w w'):DbO B w' v l:=h.mod (Mod.of_below (X:=[]) hb) (fun _ _ h=>by cases h)
theorem KW:(jG.info? 4).map (fun i=>(i.zero,i.size,i.bytes))=some (some (.bool false),1,1):=by kernel_rfl
def JB(l:List Bool)(w:World)(e:Ending)(w':World):Prop:=∃v,e=.returned v∧DbO w.heap.size w' v l∧Below w.heap.size w w'
theorem qQ4{l:List Bool}{k:Nat}{b:Bool}(h:l[k]? =some b):(uS fC l)[k]? =some (.bool b):=by
 have :=bS mF l k b 0 h qZ;rw[Nat.mul_one,vO]at this;exact this
theorem Xq{st:List Bool}{i:Nat}{b:Bool}(hb:b=if i<st.length then st.getD i false else decide (i%8=0)):bN st (i+1)=bN st i++[b]:=by
 unfold bN;rw[List.range_succ,gK,hb];rfl
theorem oE(st:List Bool)(n:Nat):(bN st n).length=n:=by simp[bN]
theorem aO{w W2 w':World}{st:List Bool}{i c5:Nat}{A5:Option Addr}{b:Bool}{v':Value}(hB:Below w.heap.size w W2)(hO:W2.ownsRow w.heap.size 4 1 (.slice A5 i c5) i (uS fC (bN st i)))(hbv:b=if i<st.length then st.getD i false else decide (i%8=0))
 (ho:w'.ownsRow w.heap.size 4 1 v' (i+1) (uS fC (bN st i)++[.bool b])) (hg:W2.grownBy w' (Value.slice A5 i c5).ownBlock):DbO w.heap.size w' v' (bN st (i+1))∧Below w.heap.size w w':=by
 refine⟨?_,hB.grown hg hB.size (fun k hk=>(hO.lt k hk).1)⟩;unfold DbO;rw[oE,Xq hbv,uC];exact ho
set_option maxHeartbeats 1600000 in
theorem Ut(A:Option Addr)(st:List Bool)(ca cols:Nat)(w:World)(hA:pA fC 1 w A st)(hz:st.length≤1000)(h3:cols≤1000):Calls jG 98 #[.slice A st.length ca,.int .i64 cols] w (JB (bN st cols) w):=by
 obtain⟨j0,hj,gz0,gz1,gz2⟩:=info_parts KW;have HA:=Hd hA;obtain⟨m,hm⟩:∃m,st.length=m:=⟨_,rfl⟩;rw[hm]at hz ⊢;have HM:=Hd hm;clear hA hm
 go_enter Tryz.func98,Tryz.ntmps98
 go_wp2_with fail
 go_loopw [5,6] (fun s5 s6 wr=>∃i:Nat,s6=.int .i64 i∧i≤cols∧DbO w.heap.size wr s5 (bN st i)∧Below w.heap.size w wr) (fun _ s6 _=>cols-(intOf s6).toNat)
 case atStart=>exact⟨0,rfl,kT _,uE _ _ _ _,jU _ _⟩
 case round=>
  obtain⟨i,rfl,hi,ho,hb⟩:=hrel;have HO:=Hd ho;have HB:=Hd hb;obtain⟨A5,c5,hv5⟩:=gU ho;rw[oE]at hv5;subst hv5;clear ho hb
  by_cases hlt:i<cols
  rotate_left
  · obtain rfl:i=cols:=by omega
    go_wp2
    go_ret
    exact⟨_,rfl,HO.o,HB.o⟩
  · have hltI:(i:Int)<(cols:Int):=by omega
    have hlen:=oE st i
    by_cases hin:i<m
    · have hinI:(i:Int)<(m:Int):=by omega
      obtain⟨ga,off,rfl,hg⟩:=HA.o (by rw[HM.o];omega);obtain⟨b,hb⟩:∃b,st[i]? =some b:=⟨st[i]'(by rw[HM.o];exact hin),jD _⟩;have hsrc:=hg i b hb 0 (.bool b) rfl;rw[Nat.mul_one,vO]at hsrc;have hsrc2:=jA HB.o hsrc;obtain⟨W2,hW2⟩:∃W2,wr.alloc (.cells #[.bool b] 4)=W2:=⟨_,rfl⟩;have hb2:Below wr.heap.size wr W2:=by rw[←hW2];exact jW (jU _ _) _
      have HNW:=Hd (show W2.heap[wr.heap.size]? =some (.cells #[.bool b] 4 (0,0))from by rw[←hW2];exact kZ rfl);have HB2:=Hd (jN HB.o hb2);have HOB:=Hd (show W2.ownsRow w.heap.size 4 1 (.slice A5 i c5) i (uS fC (bN st i))from by have :=HO.o.below hb2;unfold DbO at this;rw[hlen]at this;exact this);have HBV:Hid (b=if i<st.length then st.getD i false else decide (i%8=0)):=Hd (by rw[HM.o,if_pos hin,kP,hb];rfl);have hbw2:=HB2.o.size;clear hb2 hsrc hg hb
      go_wp2_with(refine kO rfl (.tmp 16) (.tmp 21) 64 rfl w.heap.size 4 j0 _ 1 1 Tryz.underlying64 hj gz0 gz1 gz2 rfl qZ (.slice A5 i c5) i (uS fC (bN st i)) rfl HOB.o ⟨wr.heap.size,0,none⟩ 1 1 [.bool b] rfl rfl ?_ (Qn b) ?_ ?_ ?_ ?_)
      all_goals first
       |omega
       |(simp only[maxLen];omega)
       |skip
      · intro j u hj;rw[vZ,kB];exact(at_ HNW.o j u qF).1
      · intro v' w' ho hg hv';have HD:=Hd (aO HB2.o HOB.o HBV.o ho hg);obtain⟨A',c',hvf⟩:=gU ho;clear ho hg hv' hW2;subst hvf
        go_wp2
        go_roundw
        case rel=>exact⟨i+1,by go_num,by omega,HD.o.1,HD.o.2⟩
        case measure=>exact zm
    · have hinI:¬(i:Int)<(m:Int):=by omega
      have h8:(i:Int).tmod 8=((i%8:Nat):Int):=by rw[Int.tmod_eq_emod_of_nonneg qJ];omega
      obtain⟨b,hbd⟩:∃b,decide (i%8=0)=b:=⟨_,rfl⟩;have hbi:decide ((i:Int).tmod 8=0)=b:=by rw[h8,←hbd];congr 1;apply propext;omega
      have hbi2:((i:Int).tmod 8==0)=b:=hbi;obtain⟨W2,hW2⟩:∃W2,wr.alloc (.cells #[.bool b] 4)=W2:=⟨_,rfl⟩;have hb2:Below wr.heap.size wr W2:=by rw[←hW2];exact jW (jU _ _) _
      have HNW:=Hd (show W2.heap[wr.heap.size]? =some (.cells #[.bool b] 4 (0,0))from by rw[←hW2];exact kZ rfl);have HB2:=Hd (jN HB.o hb2);have HOB:=Hd (show W2.ownsRow w.heap.size 4 1 (.slice A5 i c5) i (uS fC (bN st i))from by have :=HO.o.below hb2;unfold DbO at this;rw[hlen]at this;exact this);have HBV:Hid (b=if i<st.length then st.getD i false else decide (i%8=0)):=Hd (by rw[HM.o,if_neg hin,hbd]);have hbw2:=HB2.o.size;clear hb2 h8
      go_upto_region 7 with fail
      refine wp_region_lit ?_;refine zG (.slice A5 i c5) ?_;refine zGs (.int .i64 (i:Int)) ?_;refine zGs (.int .i64 ((i:Int).tmod 8)) ?_;refine zGs (.bool b) ?_
      go_wp2_with(refine kO rfl (.tmp 23) (.tmp 27) 64 rfl w.heap.size 4 j0 _ 1 1 Tryz.underlying64 hj gz0 gz1 gz2 rfl qZ (.slice A5 i c5) i (uS fC (bN st i)) rfl HOB.o ⟨wr.heap.size,0,none⟩ 1 1 [.bool b] rfl rfl ?_ (Qn b) ?_ ?_ ?_ ?_)
      all_goals first
       |omega
       |(simp only[maxLen];omega)
       |skip
      · intro j u hj
        first|rw[vZ,kB]|skip
        exact(at_ HNW.o j u qF).1
      · intro v' w' ho hg hv';have HD:=Hd (aO HB2.o HOB.o HBV.o ho hg);obtain⟨A',c',hvf⟩:=gU ho;clear ho hg hv' hW2;subst hvf
        go_wp2
        go_roundw
        case rel=>exact⟨i+1,by go_num,by omega,HD.o.1,HD.o.2⟩
        case measure=>exact zm
theorem Xh(cols:Nat)(w:World)(h3:cols≤1000):Calls jG 105 #[.int .i64 cols] w (JB (bN [] cols) w):=by
 have HS:=Hd (Ut (some ⟨w.heap.size,0,none⟩) [] 0 cols (w.alloc (.cells #[] 4)) (fun h0=>absurd h0 qV) qV h3);have HB:=Hd (jW (jU w.heap.size w) (.cells #[] 4))
 go_enter Tryz.func105,Tryz.ntmps105
 go_wp2_with(go_at_call 98;refine HS.o.mono ?_;rintro e w2 ⟨v,rfl,hs,hb⟩;have HR:=Hd hs;have HB2:=Hd hb;clear hs hb)
 go_ret
 exact⟨v,rfl,⟨HR.o.1,HR.o.2.imp (fun h=>h) (fun⟨g,cap,cur,h1,h2,h3⟩=>⟨g,cap,cur,h1,by have :=HB.o.size;simp at h2;omega,h3⟩)⟩,jN HB.o HB2.o⟩
end Go.Proofs.YtjcpdcncfjkejaaGreatDoor
