/- Joined by a tool of this claim out of smaller texts. Conditions: as stated. -/
import Derived.Test.YtaefcahblmopfaaGreatDoorDj14
import Derived.Deep.LoopGhost
set_option linter.unusedVariables false
set_option linter.unusedSimpArgs false
set_option maxRecDepth 100000
open Go.Lib renaming hid → Hd
open List renaming setIfInBounds_toArray → jZ, set_cons_zero → jX, set_cons_succ → jY, mem_singleton → jM, getElem?_eq_getElem → jN, getElem?_eq_some_iff → jP, length_append → jC, drop_succ_cons → jL, take_succ_cons → jS, drop_zero → jO, take_succ_eq_append_getElem → kQ, mem_cons → kJ, take_zero → kK, getD_eq_getElem?_getD → kX, append_assoc → kG, mem_append → kU, replicate → kN, length_take → kC, getElem?_map → uX, mem_of_getElem? → uB, map_append → vX, take_of_length_le → vY
open Go.Proofs.Tryz renaming prog → jG
open Go.RowKit.Below renaming refl → jU
open Nat renaming le_refl → jD, le_trans → jI, zero_le → kM, zero_add → kP
open Go.IntWalk renaming i64_in → jF
open Option renaming mem_toList → jA
open Go.IntKind renaming i64 → jE
open And renaming intro → kY
open Array renaming getElem?_eq_some_iff → kB
open Go.World renaming ownsRow_nil → kS
namespace Go.Proofs.YtaefcahblmopfaaGreatDoor
open Go.RowKit
section
variable {base:Nat}{w w1:World}{q:Pv}{g g1:Pg}
theorem aT{g:Pg}(y:Int)(F:List Cl→List Cl):(zC g y F).scr.length=g.scr.length∧(zC g y F).cols=g.cols:=by
 unfold zC
 split
 · exact⟨by simp,rfl⟩
 · exact⟨rfl,rfl⟩
set_option maxHeartbeats 3200000 in
theorem YP(h:PgO base w q g)(y x z:Int)(b:Col):Calls jG 196 #[.pointer (some ⟨q.P,0,none⟩),.int .i64 y,.int .i64 x,.int .i64 z,.agg #[.int .i64 b.k,.int .i64 b.n]] w (pJ base w q (fT g y x z b)):=by
 have hrows:=h.rows1000;have hlen:=h.len;obtain⟨W,hW⟩:∃W,((w.alloc (.cells #[.int .i64 x] 3)).alloc (.cells #[.int .i64 z] 3)).alloc (.cells #[.int .i64 b.k,.int .i64 b.n] 61)=W:=⟨_,rfl⟩;have hb0:Below w.heap.size w W:=by rw[←hW];exact jH (jH (jH (jU _ _) _) _) _
 have hp0:W.heap[w.heap.size]? =some (.cells #[.int .i64 x] 3 (0,0)):=by rw[←hW];exact vJ (vJ (jT rfl))
 have hp1:W.heap[w.heap.size+1]? =some (.cells #[.int .i64 z] 3 (0,0)):=by rw[←hW];exact vJ (jT qV)
 have hp2:W.heap[w.heap.size+2]? =some (.cells #[.int .i64 b.k,.int .i64 b.n] 61 (0,0)):=by rw[←hW];exact jT qV
 have HB:=Hd hb0;have hO:=h.below hb0;have H0:=Hd hO.res;have HIN:=Hd (nU hO y);have HXb:Hid (∀i,w.heap.size+i∉pgX q):=Hd (fun i hx=>by have :=h.lt _ hx;omega);have HXz:Hid (w.heap.size∉pgX q):=Hd (HXb.o 0);cases hin:inP g y with
 |false=>
  rw[hin]at HIN;have HE:=Hd (show fT g y x z b=g from by unfold fT;rw[hin];rfl);rw[HE.o];clear h hb0 hp0 hp1 hp2 hO
  go_enter Tryz.func196,Tryz.ntmps196
  go_wp2_with(go_at_call 289;refine HIN.o.mono ?_;rintro e w9 ⟨rfl,rfl⟩)
  go_end0
  exact⟨rfl,H0.o.pre HB.o⟩
 |true=>
  rw[hin]at HIN;have hy:0≤y∧y<1000:=by unfold inP at hin;simp at hin;omega
  have HE:=Hd (show fT g y x z b=(if x<g.cols∧(g.cols:Int)≤z then(if x≤0 then yB (yB (zC g y (fun l=>bZ l x z b)) (y+1) false) y false else yB (zC g y (fun l=>bZ l x z b)) (y+1) false)else zC g y (fun l=>bZ l x z b))from by unfold fT;rw[hin];rfl);rw[HE.o];have hwy:jE.wrap (y+1)=y+1:=jF _ qJ;have hc2:=h.cols2;have HA:=Hd (sX hO y 291 #[.pointer (some ⟨w.heap.size,0,none⟩),.pointer (some ⟨w.heap.size+1,0,none⟩),.pointer (some ⟨w.heap.size+2,0,none⟩)] (fun l=>bZ l x z b) (fun l=>Yf l x z b) (fun l hl=>hl.erase x z b) (fun args w=>by kernel_rfl) (fun r w' hb hr hl=>ZX r x z b _ _ _ w' hr qJ (kZ hb (vH hp0 0 _ rfl)) (kZ hb (vH hp1 0 _ rfl)) (kZ hb (vH hp2 0 _ rfl)) (kZ hb (vH hp2 1 _ rfl))));have HX0:=Hd (vH hp0 0 _ rfl);have HX1:=Hd (vH hp1 0 _ rfl);have HP2:Hid (∀w1,pV base W q (zC g y (fun l=>bZ l x z b)) w1→w1.cell? ⟨q.P,2,none⟩=some (.int .i64 g.cols)):=Hd (fun w1 hs=>by
   obtain⟨q1,e1,-,hq1,-⟩:=hs;have :=hq1.cells.2.2.1.1;rw[e1,(aT y _).2]at this;exact this)
  have HPA:=Hd (fun(g1:Pg) (y:Int) (w1:World) (hs:pV base W q g1 w1)=>tP hs y);clear h hb0 hp0 hp1 hp2 hO hin
  by_cases hc:x<g.cols∧(g.cols:Int)≤z
  rotate_left
  · rw[if_neg hc];have HNC:=Hd hc
    by_cases hx:x<g.cols
    · have hz:¬(g.cols:Int)≤z:=fun h=>hc ⟨hx,h⟩;clear hc
      go_enter Tryz.func196,Tryz.ntmps196
      go_upto_region 3 with(first|(go_at_call 289;refine HIN.o.mono ?_;rintro e w9 ⟨rfl,rfl⟩)|(go_at_call 290;(with_reducible refine HA.o.mono ?_);rintro e w1 ⟨rfl,hs⟩;have HS:=Hd hs;have x0:=hs.hold HXz.o HX0.o;have x1:=hs.hold (HXb.o 1) HX1.o;have x2:=HP2.o _ hs;clear hs))
      refine kW 13 (fun w'=>Below w1.heap.size w1 w'∧w'.cell? ⟨w.heap.size,0,none⟩=some (.int .i64 x)∧w'.cell? ⟨w.heap.size+1,0,none⟩=some (.int .i64 z)∧w'.cell? ⟨q.P,2,none⟩=some (.int .i64 g.cols)) qQ qQ ?_ ?_
      · exact qXt
      simp only[jS,kK,jL,jO]
      repeat(
       (first
        |refine kF qK ?_
        |(refine kT ?_ qK ?_ ?_;rotate_left;(focus(intro w' hS;obtain⟨_,_,_,_⟩:=hS;go_simp;first|done|with_reducible rfl))))
       simp only[Act.put,jZ,jX,jY])
      refine kE (fun w' hS=>?_);have HS:=Hd (HS.o.post hS.1);have x0:=hS.2.1;clear hS x1 x2
      go_wp2
      go_end0
      exact qXs
    · clear hc
      go_enter Tryz.func196,Tryz.ntmps196
      go_upto_region 3 with(first|(go_at_call 289;refine HIN.o.mono ?_;rintro e w9 ⟨rfl,rfl⟩)|(go_at_call 290;(with_reducible refine HA.o.mono ?_);rintro e w1 ⟨rfl,hs⟩;have HS:=Hd hs;have x0:=hs.hold HXz.o HX0.o;have x1:=hs.hold (HXb.o 1) HX1.o;have x2:=HP2.o _ hs;clear hs))
      have hxn:¬x<(g.cols:Int):=by omega
      refine kW 13 (fun w'=>Below w1.heap.size w1 w'∧w'.cell? ⟨w.heap.size,0,none⟩=some (.int .i64 x)∧w'.cell? ⟨w.heap.size+1,0,none⟩=some (.int .i64 z)∧w'.cell? ⟨q.P,2,none⟩=some (.int .i64 g.cols)) qQ qQ ?_ ?_
      · exact qXt
      simp only[jS,kK,jL,jO]
      repeat(
       (first
        |refine kF qK ?_
        |(refine kT ?_ qK ?_ ?_;rotate_left;(focus(intro w' hS;obtain⟨_,_,_,_⟩:=hS;go_simp;first|done|with_reducible rfl))))
       simp only[Act.put,jZ,jX,jY])
      refine kE (fun w' hS=>?_);have HS:=Hd (HS.o.post hS.1);have x0:=hS.2.1;clear hS x1 x2
      go_wp2
      go_end0
      exact qXs
  rw[if_pos hc];obtain⟨hx,hz⟩:=hc
  by_cases hx0:x≤0
  · rw[if_pos hx0]
    go_enter Tryz.func196,Tryz.ntmps196
    go_upto_region 3 with(first|(go_at_call 289;refine HIN.o.mono ?_;rintro e w9 ⟨rfl,rfl⟩)|(go_at_call 290;(with_reducible refine HA.o.mono ?_);rintro e w1 ⟨rfl,hs⟩;have HS:=Hd hs;have x0:=hs.hold HXz.o HX0.o;have x1:=hs.hold (HXb.o 1) HX1.o;have x2:=HP2.o _ hs;clear hs))
    refine kW 13 (fun w'=>Below w1.heap.size w1 w'∧w'.cell? ⟨w.heap.size,0,none⟩=some (.int .i64 x)∧w'.cell? ⟨w.heap.size+1,0,none⟩=some (.int .i64 z)∧w'.cell? ⟨q.P,2,none⟩=some (.int .i64 g.cols)) qQ qQ ?_ ?_
    · exact qXt
    simp only[jS,kK,jL,jO]
    repeat(
     (first
      |refine kF qK ?_
      |(refine kT ?_ qK ?_ ?_;rotate_left;(focus(intro w' hS;obtain⟨_,_,_,_⟩:=hS;go_simp;first|done|with_reducible rfl))))
     simp only[Act.put,jZ,jX,jY])
    refine kE (fun w' hS=>?_);have HS:=Hd (HS.o.post hS.1);have x0:=hS.2.1;clear hS x1 x2
    go_wp2_with(go_at_call 293;first
     |(have hpv:=HS4.o;clear hpv;(with_reducible refine(HPA.o _ _ _ HS4.o).mono ?_);rintro e w4 ⟨rfl,hs⟩;have HS5:=Hd hs;clear hs)
     |((with_reducible refine(HPA.o _ _ _ HS.o).mono ?_);rintro e w4 ⟨rfl,hs⟩;have HS4:=Hd hs;have y0:=hs.hold HXz.o HX0.o;clear hs x0))
    go_end0
    exact⟨rfl,HS5.o.pre HB.o⟩
  · rw[if_neg hx0]
    go_enter Tryz.func196,Tryz.ntmps196
    go_upto_region 3 with(first|(go_at_call 289;refine HIN.o.mono ?_;rintro e w9 ⟨rfl,rfl⟩)|(go_at_call 290;(with_reducible refine HA.o.mono ?_);rintro e w1 ⟨rfl,hs⟩;have HS:=Hd hs;have x0:=hs.hold HXz.o HX0.o;have x1:=hs.hold (HXb.o 1) HX1.o;have x2:=HP2.o _ hs;clear hs))
    refine kW 13 (fun w'=>Below w1.heap.size w1 w'∧w'.cell? ⟨w.heap.size,0,none⟩=some (.int .i64 x)∧w'.cell? ⟨w.heap.size+1,0,none⟩=some (.int .i64 z)∧w'.cell? ⟨q.P,2,none⟩=some (.int .i64 g.cols)) qQ qQ ?_ ?_
    · exact qXt
    simp only[jS,kK,jL,jO]
    repeat(
     (first
      |refine kF qK ?_
      |(refine kT ?_ qK ?_ ?_;rotate_left;(focus(intro w' hS;obtain⟨_,_,_,_⟩:=hS;go_simp;first|done|with_reducible rfl))))
     simp only[Act.put,jZ,jX,jY])
    refine kE (fun w' hS=>?_);have HS:=Hd (HS.o.post hS.1);have x0:=hS.2.1;clear hS x1 x2
    go_wp2_with(go_at_call 293;(with_reducible refine(HPA.o _ _ _ HS.o).mono ?_);rintro e w4 ⟨rfl,hs⟩;have HS4:=Hd hs;have y0:=hs.hold HXz.o HX0.o;clear hs x0)
    go_end0
    exact⟨rfl,HS4.o.pre HB.o⟩
end
section
variable {base:Nat}{w w1:World}{q:Pv}{g g1:Pg}
theorem PgO.grown{vs':Value}{r:Rh}(h:PgO base w q g)(ho:w1.ownsRow base 52 2 vs' (q.S.length+1) (uM yG (q.S++[r])))(hm:Mod q.vs.ownBlock.toList w w1)(hv:∀b,vs'.ownBlock=some b→q.vs.ownBlock=some b∨w.heap.size≤b)
 (hr:zZ w1 r) (hrl:r.cs.length=g.cols) (hz:q.S.length+1≤1000):pV base w q {g with scr:=g.scr++[zU r]} (w1.setCell ⟨q.P,1,none⟩ vs'):=by
 have hvs:∀b,q.vs.ownBlock=some b→∃cur:Array Value,w.heap[b]? =some (.cells cur 52 (0,0)):=fun b hb=>uR h.own hb;have hPv:q.P∉q.vs.ownBlock.toList:=fun hb=>by
  obtain⟨cur,hc⟩:=hvs _ (jA.1 hb);exact qXn
 have hPl:=(kB.1 h.blk).1;have hm2:Mod (q.P::q.vs.ownBlock.toList) w (w1.setCell ⟨q.P,1,none⟩ vs'):=(hm.mono (fun b hb=>by simp[jA.1 hb])).setCell (a:=⟨q.P,1,none⟩) (.inl qV) _;have hX:yI w (q.P::q.vs.ownBlock.toList):=fun b hb cs f he=>by
  refine h.nocel b ?_ cs f he;rcases kJ.1 hb with rfl|hb
  · simp[pgX]
  · simp[pgX,jA.1 hb]
 have hblk:=kA (cs:=[.pointer (some ⟨q.R,0,none⟩),q.vs,.int .i64 g.cols,q.vt]) ((hm.block q.P hPl hPv).trans h.blk) 1 vs' (cs':=[.pointer (some ⟨q.R,0,none⟩),vs',.int .i64 g.cols,q.vt]) rfl;have hM1:Mod [q.P] w1 (w1.setCell ⟨q.P,1,none⟩ vs'):=(Mod.refl [q.P] w1).setCell (a:=⟨q.P,1,none⟩) (.inl qV) vs';have hN1:yI w1 [q.P]:=fun b hb cs f he=>by
  rw[jM.1 hb,hm.block q.P hPl hPv]at he;exact vM h.blk he qZ rfl
 refine⟨{q with vs:=vs',S:=q.S++[r]},rfl,rfl,⟨hblk,h.hb,h.ring.mod hm2 hX (fun b hb hx=>?_),?_,kD h.told hm2 (fun b hb hx=>?_),fun b hb hb2=>?_,?_,h.hist,fun x hx=>?_,h.cols2,h.cols1000,by show(q.S++[r]).length≤1000;simpa using hz,h.gone0⟩,hm2.mono (fun b hb=>?_),fun b hb=>?_⟩
 · rcases kJ.1 hx with rfl|hx
   · rcases kJ.1 hb with h1|hb
     · exact vM h.blk h.ring.blk qZ h1
     · obtain⟨cur,hc⟩:=uR h.ring.own (jA.1 hb);exact qXn
   · rcases kJ.1 hb with rfl|hb
     · obtain⟨cur,hc⟩:=hvs _ (jA.1 hx);exact vM h.ring.blk hc qZ rfl
     · exact h.apart b (jA.1 hx) (jA.1 hb)
 · have :=kD ho hM1 (fun b hb hx=>by
    have e:=jM.1 hx;rcases hv b hb with h1|h1
    · exact hPv (by rw[←e];simp[h1])
    · omega)
   simpa using this
 · obtain⟨cur,hc⟩:=uR h.told hb;rcases kJ.1 hx with rfl|hx
   · exact qXn
   · obtain⟨cur2,hc2⟩:=hvs _ (jA.1 hx);exact vM hc2 hc qZ rfl
 · rcases hv b hb with h1|h1
   · exact h.apart b h1 hb2
   · have :=(h.ring.own.lt b hb2).2;omega
 · show(q.S++[r]).map zU=g.scr++[zU r];rw[vX,h.scr];rfl
 · rcases kU.1 (show x∈q.S++[r]from hx)with hx|hx
   · exact⟨(h.rows x hx).1.mod hm2 hX,(h.rows x hx).2⟩
   · rw[jM.1 hx];exact⟨hr.mod hM1 hN1,hrl⟩
 · rcases kJ.1 hb with rfl|hb
   · simp[pgX]
   · simp[pgX,jA.1 hb]
 · rcases kJ.1 hb with rfl|hb
   · exact .inl qZz
   rcases kU.1 hb with hb|hb
   · rcases hv b (jA.1 hb)with h1|h1
     · exact .inl (by simp[pgX,h1])
     · exact .inr h1
   · exact .inl (by simp only[pgX,kJ,kU];right;right;simpa using hb)
def dA:Col:=⟨0,0⟩
set_option maxHeartbeats 3200000 in
theorem J6(h:PgO base w q g)(rows:Nat)(hr:rows≤1000):Calls jG 112 #[.pointer (some ⟨q.P,0,none⟩),.int .i64 rows] w (pJ base w q {g with scr:=g.scr++kN (rows-g.scr.length) (zD g.cols dA)}):=by
 obtain⟨j0,hj,gz0,gz1,gz2⟩:=info_parts nW;have hrows:=h.rows1000;have hlen:=h.len;have hc2:=h.cols2;have hc3:=h.cols1000;have HBK:=Hd (fun w' (x2:w'.cell? ⟨q.P,2,none⟩=some (.int .i64 g.cols))=>oS q.P g.cols dA w' x2 hc2 hc3);have H:=Hd h;clear h;obtain⟨N,hN⟩:∃N,rows-g.scr.length=N:=⟨_,rfl⟩;rw[hN];have HN:=Hd hN;clear hN
 go_enter Tryz.func112,Tryz.ntmps112
 go_wp2_with fail
 go_loopg [10] N (fun k _ wr=>∃i:Nat,i+k=N∧pV base w q {g with scr:=g.scr++kN i (zD g.cols dA)} wr)
 case atStart=>exact⟨0,by omega,by simpa using H.o.res⟩
 case round=>
  obtain⟨i,hik,hs⟩:=hrel;have HS:=Hd hs;obtain⟨q1,e1,e2,hq1,hm1,hx1⟩:=hs;obtain⟨A1,c1,hv1⟩:=uT hq1.own;have hl1:q1.S.length=g.scr.length+i:=by rw[hq1.len];simp
  obtain⟨-,⟨x1,x1f⟩,⟨x2,-⟩,-⟩:=hq1.cells;rw[e1]at x1 x1f x2;rw[hv1]at x1;obtain⟨m,hm⟩:∃m,q1.S.length=m:=⟨_,rfl⟩;rw[hm]at x1;have HM:=Hd hm;have hbw:base≤wr.heap.size:=by have :=hq1.lt q1.P qZz;omega
  have hPl:=uE x2
  by_cases hlt:m<rows
  rotate_left
  · have hltI:¬(m:Int)<(rows:Int):=by omega
    have hi:i=N:=by have :=HN.o;omega
    subst hi;clear hm hq1 hm1 hx1
    go_wp2
    go_end0
    exact⟨rfl,HS.o⟩
  · have hltI:(m:Int)<(rows:Int):=by omega
    have HQ:=Hd hq1;have HE:=Hd (kY e1 (kY e2 (kY hm1 hx1)));have HV:=Hd (show q1.vs=.slice A1 m c1 from by rw[←hm];exact hv1);have hNi:i<N:=by have :=HN.o;omega
    have hm1000:m+1≤1000:=by omega
    clear hm hq1 hm1 hx1 hv1 HS
    go_upto_region 1 with fail
    refine Go.RL.wp_region_l 12 (fun w'=>(w'.cell? ⟨q.P,1,none⟩=some (.slice A1 m c1)∧w'.frozen? ⟨q.P,1,none⟩=false)∧w'.cell? ⟨q.P,2,none⟩=some (.int .i64 g.cols)) (fun w'=>Below wr.heap.size wr w') qQ qQ ⟨⟨x1,x1f⟩,x2⟩ ((jU _ _).drew) ?_;refine Go.RL.AtL.go 0 ?_
    iterate 7 (refine Go.RL.AtK.take (o:=⟨_,_,_,_,_,_⟩) (v:=?_) qQ rfl qV qQ qQ ?_ ?_;rotate_left;(focus(refine Go.RL.Pure.val qK ?_;intro w' hI;obtain⟨⟨_,_⟩,_⟩:=hI;go_simp;first|done|with_reducible rfl));simp only[Act.put,jZ,jX,jY])
    refine Go.RL.AtK.back ?_;refine Go.RL.AtL.one 7 (o:=⟨_,_,_,_,_,_⟩) (fun v=>∃g1 cap,v=.agg #[.slice (some ⟨g1,0,none⟩) g.cols cap,.bool false]) (fun v w'=>∃g1 cap,v=.agg #[.slice (some ⟨g1,0,none⟩) g.cols cap,.bool false]∧Below wr.heap.size wr w'∧zZ w' ⟨some ⟨g1,0,none⟩,kN g.cols (pY dA),cap,false⟩) qV qQ rfl
     (Go.RL.StabL.call 174 #[.pointer (some ⟨q.P,0,none⟩),.agg #[.int .i64 0,.int .i64 0]] _ _ qK ?_ (fun w' hI hS=>?_)) ?_
    · intro w'
      go_simp
    · refine(HBK.o w' hI.2).mono ?_;rintro e w3 ⟨g1,cap,rfl,hr,hb⟩;exact⟨_,rfl,⟨g1,cap,rfl⟩,⟨iH hb hI.1,kZ hb hI.2⟩,g1,cap,rfl,jW hS hb,hr⟩
    rintro v ⟨g1,cap,rfl⟩;simp only[Act.put,jZ,jX,jY];refine Go.RL.AtL.one 8 (o:=⟨_,_,_,_,_,_⟩) (fun v=>∃k,v=.slice (some ⟨k,0,none⟩) 1 1) (fun v w'=>∃k,v=.slice (some ⟨k,0,none⟩) 1 1∧Below wr.heap.size wr w'∧zZ w' ⟨some ⟨g1,0,none⟩,kN g.cols (pY dA),cap,false⟩∧w'.heap[k]? =some (.cells #[.slice (some ⟨g1,0,none⟩) g.cols cap,.bool false] 52 (0,0))) qV qQ rfl (Go.RL.StabL.op _ _ qK (fun w' hI hS=>?_)) ?_
    · obtain⟨g1',cap',hv',hb,hrc⟩:=hS;simp only[Value.agg.injEq,Array.mk.injEq,List.cons.injEq,Value.slice.injEq,Option.some.injEq,Addr.mk.injEq,and_true,true_and]at hv';obtain⟨rfl,rfl⟩:=hv';have hb2:=jH (jU w'.heap.size w') (.cells #[.slice (some ⟨g1,0,none⟩) g.cols cap,.bool false] 52);exact⟨.slice (some ⟨w'.heap.size,0,none⟩) 1 1,w'.alloc (.cells #[.slice (some ⟨g1,0,none⟩) g.cols cap,.bool false] 52),by go_simp,⟨_,rfl⟩,⟨iH hb2 hI.1,kZ hb2 hI.2⟩,_,rfl,jW hb hb2,hrc.below hb2,jT rfl⟩
    rintro v ⟨k,rfl⟩;simp only[Act.put,jZ,jX,jY];refine Go.RL.AtL.one 9 (o:=⟨some 20,.call {callee:=.builtin .append,args:=#[.tmp 15,.tmp 19],argTypes:=#[46,46]},46,_,_,none⟩) (fun v=>∃g' c',v=.slice (some ⟨g',0,none⟩) (m+1) c') (fun v w'=>w'.ownsRow base 52 2 v (m+1) (uM yG (q1.S++[⟨some ⟨g1,0,none⟩,kN g.cols (pY dA),cap,false⟩]))∧Mod q1.vs.ownBlock.toList wr w'∧(∀b,v.ownBlock=some b→q1.vs.ownBlock=some b∨wr.heap.size≤b)∧zZ w' ⟨some ⟨g1,0,none⟩,kN g.cols (pY dA),cap,false⟩) qV qQ rfl (Go.RL.StabL.op _ _ qK (fun w' hI hS=>?_)) ?_
    · obtain⟨k',hv',hb,hrc,hk⟩:=hS;simp only[Value.slice.injEq,Option.some.injEq,Addr.mk.injEq,and_true,true_and]at hv';subst hv';have hown:=(HQ.o.below hb).own;rw[HM.o]at hown;obtain⟨v',w3,hr3,ho3,hg3,-,hn3⟩:=run_append_own_at (P:=jG) w' base 46 46 52 j0 _ 2 32 Tryz.underlying46 hj gz0 gz1 gz2 rfl qZ q1.vs m (uM yG q1.S) hown ⟨k,0,none⟩ 1 1 (yG ⟨some ⟨g1,0,none⟩,kN g.cols (pY dA),cap,false⟩) rfl (fun j u hj=>by
       rw[vF,kP];exact(at_ hk j u (by simpa[yG]using hj)).1) (iD _) jQ qJ (jI hbw hb.size)
      obtain⟨g',c',rfl⟩:=gH ho3 qJ;have hvs:∀b,q1.vs.ownBlock=some b→b<wr.heap.size:=fun b hb=>(HQ.o.own.lt b hb).2;have hMg:Mod q1.vs.ownBlock.toList w' w3:=Mod.of_grown hg3 (fun b hb=>by simp[hb]);have hPn:q.P∉q1.vs.ownBlock.toList:=fun hx=>by
       obtain⟨cur,hc⟩:=uR HQ.o.own (jA.1 hx);have :=HQ.o.blk;rw[HE.o.1]at this;exact vM this hc qZ rfl
      have hNC:yI w' q1.vs.ownBlock.toList:=fun b hb' cs f he=>by
       obtain⟨cur,hc⟩:=uR hown (jA.1 hb');exact vM hc he qZ rfl
      refine⟨_,w3,mC _ _ _ rfl _ _ _ rfl rfl (by rw[HV.o]at hr3;exact hr3),⟨g',c',rfl⟩,⟨hMg.hold hPn hI.1,hMg.cell hPn hI.2⟩,?_,(Mod.of_below (X:=q1.vs.ownBlock.toList) hb).trans hMg (fun b hb=>.inl hb),fun b hb'=>?_,hrc.mod hMg hNC⟩
      · rw[uI];exact ho3
      · rcases hn3 with h3|h3
        · exact .inl (by rw[←h3];exact hb')
        · rw[h3]at hb';injection hb' with hb';exact .inr (by have :=hb.size;omega)
    rintro v ⟨g',c',rfl⟩;simp only[Act.put,jZ,jX,jY];refine Go.RL.AtL.go 10 ?_
    iterate 2 (refine Go.RL.AtK.take (o:=⟨_,_,_,_,_,_⟩) (v:=?_) qQ rfl qV qQ qQ ?_ ?_;rotate_left;(focus(refine Go.RL.Pure.val qK ?_;intro w' hI;obtain⟨⟨_,_⟩,_⟩:=hI;go_simp;first|done|with_reducible rfl));simp only[Act.put,jZ,jX,jY])
    refine Go.RL.AtK.back ?_;refine Go.RL.AtL.done qQ (fun w' hI hS=>?_);obtain⟨hs1,hs2,hs3,hs4⟩:=hS;rw[←HM.o]at hs1;have HG:=Hd (HQ.o.grown hs1 hs2 hs3 hs4 qV (by rw[HM.o];exact hm1000));rw[HM.o,HE.o.1]at HG;obtain⟨⟨z1,z1f⟩,-⟩:=hI;clear hs1 hs2 hs3 hs4 x1 x1f x2
    go_wp2
    go_roundg (gk-1)
    case rel=>
     refine⟨i+1,by omega,?_⟩;have :=pV.trans ⟨HE.o.1,HE.o.2.1,HE.o.2.2.1,HE.o.2.2.2⟩ HG.o;rw[List.replicate_succ',←kG];exact this
    case measure=>omega
def Uo(r c:Int):Bool:=decide (1≤r∧r≤1000∧2≤c∧c≤1000)
theorem J5(r c:Int)(w:World):Calls jG 111 #[.int .i64 r,.int .i64 c] w fun e w'=>e=.returned (.bool (Uo r c))∧w=w':=by
 unfold Uo
 by_cases h1:1≤r<;>by_cases h2:r≤1000<;>by_cases h3:2≤c<;>
 · go_enter Tryz.func111,Tryz.ntmps111
   go_wp2
   go_ret
   refine⟨?_,rfl⟩;simp[h1,h2,h3]
   try omega
end
def newP(rows cols lines:Nat):Pg:=⟨lines,[],0,kN rows (zD cols dA),cols,[]⟩
def NewPost(rows cols lines:Nat)(w:World)(e:Ending)(w':World):Prop:=
 ∃q,e=.returned (.tuple #[.pointer (some ⟨q.P,0,none⟩),.int .i64 0])∧PgO w.heap.size w' q (newP rows cols lines)∧Below w.heap.size w w'
set_option maxHeartbeats 1600000 in
theorem pnew_ok(rows cols lines:Nat)(w:World)(hr1:1≤rows)(hr2:rows≤1000)(hc1:2≤cols)(hc2:cols≤1000)(hl:lines≤100000):
 Calls jG 62 #[.int .i64 rows,.int .i64 cols,.int .i64 lines] w (NewPost rows cols lines w):=by
 have HN:=Hd (rnew_ok lines w hl);have hf:Uo rows cols=true:=by unfold Uo;simp;omega
 have HF:=Hd (fun w=>J5 rows cols w);rw[hf]at HF;clear hf
 go_enter Tryz.func62,Tryz.ntmps62
 go_upto_region 5 with(first
  |(go_at_call 110;refine HN.o.mono ?_;rintro e w1 ⟨rfl,hro,hb⟩;have HRO:=Hd hro;have HB:=Hd hb;clear hro hb)
  |(go_at_call 111;refine(HF.o _).mono ?_;rintro e w9 ⟨rfl,rfl⟩))
 have hb2:=jH (jU w1.heap.size w1) (.cells #[.pointer (some ⟨w.heap.size,0,none⟩),.slice none 0 0,.int .i64 cols,.slice none 0 0] 175);have hp:(w1.alloc (.cells #[.pointer (some ⟨w.heap.size,0,none⟩),.slice none 0 0,.int .i64 cols,.slice none 0 0] 175)).heap[w1.heap.size]? =some (.cells #[.pointer (some ⟨w.heap.size,0,none⟩),.slice none 0 0,.int .i64 cols,.slice none 0 0] 175 (0,0)):=jT rfl;have hO:PgO w.heap.size (w1.alloc (.cells #[.pointer (some ⟨w.heap.size,0,none⟩),.slice none 0 0,.int .i64 cols,.slice none 0 0] 175)) ⟨w1.heap.size,w.heap.size,.slice none 0 0,.slice none 0 0,.slice none 0 0,[],[],0,0⟩ ⟨lines,[],0,[],cols,[]⟩:=
  ⟨hp,HB.o.size,HRO.o.below hb2,kS _ _ _ _,kS _ _ _ _,(fun b hb=>by simp[Value.ownBlock]at hb),rfl,rfl,(fun r hr=>by cases hr),hc1,hc2,by simp,Int.le_refl _⟩
 have HFI:=Hd (J6 hO rows hr2);have HB2:=Hd (jW HB.o hb2);have HX:=Hd hO.lt;clear hb2 hp hO
 go_wp2_with(go_at_call 112;(with_reducible refine HFI.o.mono ?_);rintro e w3 ⟨rfl,hs⟩;have HS:=Hd hs;clear hs)
 go_ret2
 obtain⟨q,e1,e2,h1,h2,h3⟩:=HS.o;simp only[List.length_nil,Nat.sub_zero,List.nil_append]at h1;refine⟨q,by rw[e1];rfl,h1,HB2.o.trans (h2.below (B:=w.heap.size) (fun b hb=>(HX.o b hb).1) HB2.o.size)⟩
def tJ(base:Nat)(w:World)(v:Value)(L:List Rh):Prop:=w.ownsRow base 52 2 v L.length (uM yG L)∧∀r∈L,zZ w r∧0<r.cs.length
theorem tJ.below{base:Nat}{w w':World}{v:Value}{L:List Rh}(h:tJ base w v L)(hb:Below w.heap.size w w'):tJ base w' v L:=⟨kD h.1 (Mod.of_below (X:=[]) hb) (fun _ _ h=>by cases h),fun r hr=>⟨(h.2 r hr).1.below hb,(h.2 r hr).2⟩⟩
theorem tJ.push{base:Nat}{w w1:World}{v v':Value}{L:List Rh}{r:Rh}(h:tJ base w v L)(ho:w1.ownsRow base 52 2 v' (L.length+1) (uM yG L++yG r))(hg:w.grownBy w1 v.ownBlock)(hr:zZ w r)(h0:0<r.cs.length):tJ base w1 v' (L++[r]):=by
 have hm:Mod v.ownBlock.toList w w1:=Mod.of_grown hg (fun b hb=>by simp[hb]);have hn:yI w v.ownBlock.toList:=fun b hb cs f he=>by
  obtain⟨cur,hc⟩:=uR h.1 (jA.1 hb);exact vM hc he qZ rfl
 refine⟨by rw[uI,jC];exact ho,fun x hx=>?_⟩;rcases kU.1 hx with hx|hx
 · exact⟨(h.2 x hx).1.mod hm hn,(h.2 x hx).2⟩
 · rw[jM.1 hx];exact⟨hr.mod hm hn,h0⟩
def WW(H:List Ro)(w:World)(e:Ending)(w':World):Prop:=∃v L,e=.returned v∧tJ w.heap.size w' v L∧L.map zU=H∧Below w.heap.size w w'
section
variable {base:Nat}{w:World}{R:Nat}{vl:Value}{SL:List Rh}{room first n:Nat}{gone:Int}
set_option maxHeartbeats 3200000 in
theorem qJu(h:RgO base w R vl SL room first n gone):Calls jG 159 #[.pointer (some ⟨R,0,none⟩)] w (WW ((pS SL first n).map zU) w):=by
 obtain⟨j0,hj,gz0,gz1,gz2⟩:=info_parts nW;have HLEN:=Hd (Vm h);have H:=Hd h;have hnr:n≤100000:=by have :=h.hn;have :=h.hm;have :=h.hroom;omega
 have hmr:SL.length≤100000:=by have :=h.hm;have :=h.hroom;omega
 have HOWN:=Hd (fun(r:Rh) (w':World) (h:zZ w' r) (h0:0<r.cs.length)=>Vf r w' h h0);clear h
 go_enter Tryz.func159,Tryz.ntmps159
 go_wp2_with(go_at_call 161;refine HLEN.o.mono ?_;rintro e w9 ⟨rfl,rfl⟩)
 go_loopw [3,7] (fun s3 s7 wr=>∃(i:Nat) (L:List Rh),s7=.int .i64 i∧i≤n∧L.length=i∧tJ w.heap.size wr s3 L∧L.map zU=((pS SL first n).take i).map zU∧Below w.heap.size w wr) (fun _ s7 _=>n-(intOf s7).toNat)
 case atStart=>exact⟨0,[],rfl,kM _,rfl,⟨kS _ _ _ _,fun r hr=>by cases hr⟩,rfl,jU _ _⟩
 case round=>
  obtain⟨i,L,rfl,hi,hL,hRo,hmap,hb⟩:=hrel;have HRO:=Hd hRo;have HMP:=Hd hmap;have HB:=Hd hb;have HL:=Hd hL;obtain⟨A3,c3,hv3⟩:=uT hRo.1;subst hv3;rw[hL];clear hRo hmap hb hL
  by_cases hlt:i<n
  rotate_left
  · obtain rfl:i=n:=by omega
    go_wp2
    go_ret
    exact⟨.slice A3 L.length c3,L,by rw[HL.o];rfl,HRO.o,by rw[HMP.o,vY (by rw[yC];exact jD _)],HB.o⟩
  · have hltI:(i:Int)<(n:Int):=by omega
    have hf:first < SL.length:=by
     rcases H.o.hf with hf|⟨-,hf⟩
     · exact hf
     · have :=H.o.hn;omega
    obtain⟨k,hk⟩:∃k,pZ SL.length first i=k:=⟨_,rfl⟩
    have hkl:k<SL.length:=by rw[←hk];exact bF hf (by have :=H.o.hn;omega)
    obtain⟨r,hr⟩:∃r,SL[k]? =some r:=⟨SL[k],jN hkl⟩;have hHi:(pS SL first n)[i]? =some r:=by rw[eA hf H.o.hn hlt,hk,hr]
    have hrr:=H.o.rows r (uB hHi);have HRi:=Hd (H.o.below HB.o);obtain⟨gs,cs,hvs⟩:=gH H.o.own qJ;have hownS:=HRi.o.own;have x0:=(at_ HRi.o.blk 0 _ rfl).1;have x2:wr.cell? ⟨R,2,none⟩=some (.int .i64 first):=(at_ HRi.o.blk 2 _ rfl).1;rw[hvs]at hownS x0;obtain⟨⟨r0,-⟩,r1,-⟩:=zK hownS hr;have hfr:first ≤100000:=by omega
    have hkI:(k:Int)<(SL.length:Int):=by omega
    have HHI:=Hd hHi;have HRR:=Hd hrr;clear hHi hr hownS hvs hf hrr
    go_upto_region 5 with fail
    refine gI 12 (fun w2=>Below wr.heap.size wr w2∧w2.cell? ⟨R,0,none⟩=some (.slice (some ⟨gs,0,none⟩) SL.length cs)∧w2.cell? ⟨gs,k*2,none⟩=some (.slice r.A r.cs.length r.cap)∧w2.cell? ⟨gs,k*2+1,none⟩=some (.bool r.cont)) qQ qQ (fun w1 w2 hS hb=>⟨jW hS.1 hb,kZ hb hS.2.1,kZ hb hS.2.2.1,kZ hb hS.2.2.2⟩) ⟨(jU _ _).drew,x0,r0,r1⟩ ?_;refine AtN.go 0 ?_
    iterate 7 (refine AtC.take (o:=⟨_,_,_,_,_,_⟩) (v:=?_) qQ rfl qV qQ qQ ?_ ?_;rotate_left;(focus(first|exact uQ.skip qK|(refine uQ.val qK ?_;intro w' hS;obtain⟨_,_,_,_⟩:=hS;go_simp;first|done|with_reducible rfl)));simp only[Act.put,jZ,jX,jY])
    refine AtC.back ?_;refine AtN.take 7 (o:=⟨_,_,_,_,_,_⟩) (v:=.int .i64 k) qQ rfl qV qQ qQ (uQ.call1 251 #[.pointer (some ⟨R,0,none⟩),.int .i64 i] (.int .i64 k) qK qH (fun w' hS=>(iV hS.2.1 ((Mod.of_below (X:=[]) hS.1).cell qV x2) hmr hfr i qJ).mono (fun e w3 h=>⟨by rw[←hk];exact h.1,h.2▸jU _ _⟩))) ?_;simp only[Act.put,jZ,jX,jY];refine AtN.go 8 ?_
    iterate 2 (refine AtC.take (o:=⟨_,_,_,_,_,_⟩) (v:=?_) qQ rfl qV qQ qQ ?_ ?_;rotate_left;(focus(first|exact uQ.skip qK|(refine uQ.val qK ?_;intro w' hS;obtain⟨_,_,_,_⟩:=hS;go_simp;first|done|with_reducible rfl)));simp only[Act.put,jZ,jX,jY])
    refine AtC.back ?_;refine AtN.one 10 (o:=⟨_,_,_,_,_,_⟩) (fun v=>∃g1 cap,v=.agg #[.slice (some ⟨g1,0,none⟩) r.cs.length cap,.bool r.cont]) (fun v w'=>∃g1 cap,v=.agg #[.slice (some ⟨g1,0,none⟩) r.cs.length cap,.bool r.cont]∧zZ w' ⟨some ⟨g1,0,none⟩,r.cs,cap,r.cont⟩) qV qQ rfl (fun v w1 w2 ⟨g1,cap,hv,hr⟩ hb=>⟨g1,cap,hv,hr.below hb⟩) (uQ.call 250 #[.agg #[.slice r.A r.cs.length r.cap,.bool r.cont]] _ _ qK ?_ (fun w' hS=>?_)) ?_
    · intro w'
      go_simp
    · refine(HOWN.o r w' (HRR.o.1.below (jW HB.o hS.1)) HRR.o.2).mono ?_;rintro e w3 ⟨g1,cap,rfl,hrc,hb,-⟩;exact⟨_,rfl,⟨⟨g1,cap,rfl⟩,g1,cap,rfl,hrc⟩,hb⟩
    rintro v ⟨g1,cap,rfl⟩;simp only[Act.put,jZ,jX,jY];refine AtN.one 11 (o:=⟨_,_,_,_,_,_⟩) (fun v=>∃k,v=.slice (some ⟨k,0,none⟩) 1 1) (fun v w'=>∃k,v=.slice (some ⟨k,0,none⟩) 1 1∧w'.heap[k]? =some (.cells #[.slice (some ⟨g1,0,none⟩) r.cs.length cap,.bool r.cont] 52 (0,0))) qV qQ rfl (fun v w1 w2 ⟨k,hv,hk⟩ hb=>⟨k,hv,(hb.block k (jR hk)).trans hk⟩) (uQ.new _ _ qK (fun w' hS=>?_)) ?_
    · exact⟨.slice (some ⟨w'.heap.size,0,none⟩) 1 1,w'.alloc (.cells #[.slice (some ⟨g1,0,none⟩) r.cs.length cap,.bool r.cont] 52),by go_simp,⟨_,rfl⟩,⟨_,rfl,jT rfl⟩,jH (jU _ _) _⟩
    rintro v ⟨kb,rfl⟩;simp only[Act.put,jZ,jX,jY];refine AtN.done qQ (fun w' hS=>?_);obtain⟨⟨⟨hb1,-⟩,g1',cap',hv',hrc'⟩,kb',hvk,hkb⟩:=hS;simp only[Value.agg.injEq,Array.mk.injEq,List.cons.injEq,Value.slice.injEq,Option.some.injEq,Addr.mk.injEq,and_true,true_and]at hv' hvk;obtain⟨rfl,rfl⟩:=hv';subst hvk;have HBW:=Hd (jW HB.o hb1);have HRO1:=Hd (HRO.o.below hb1);have HRC1:=Hd hrc';have HKB:=Hd hkb;clear hb1 hrc' hkb x0 x2 r0 r1;simp only[jL,jO];refine vG rfl (.tmp 10) (.tmp 21) 46 rfl w.heap.size 52 j0 _ 2 32 Tryz.underlying46 hj gz0 gz1 gz2 rfl qZ (.slice A3 L.length c3) L.length (uM yG L) (by rw[HL.o];rfl) HRO1.o.1 ⟨kb,0,none⟩ 1 1 (yG ⟨some ⟨g1,0,none⟩,r.cs,cap,r.cont⟩) rfl rfl ?_ (iD _) ?_ ?_ ?_ ?_
    all_goals first
     |(have :=HL.o;omega)
     |(simp only[maxLen];have :=HL.o;omega)
     |exact HBW.o.size
     |skip
    · intro j u hj;rw[vF,kP];exact(at_ HKB.o j u (by simpa[yG]using hj)).1
    · intro v' w3 ho hg hv';have HRO2:=Hd (HRO1.o.push (r:=⟨some ⟨g1,0,none⟩,r.cs,cap,r.cont⟩) ho hg HRC1.o HRR.o.2);have HB3:=Hd (HBW.o.grown hg HBW.o.size (fun x hx=>(HRO1.o.1.lt x hx).1));clear ho hg hv';obtain⟨A4,c4,hv4⟩:=uT HRO2.o.1;subst hv4
      go_wp2
      go_roundw
      case rel=>exact⟨i+1,L++[⟨some ⟨g1,0,none⟩,r.cs,cap,r.cont⟩],by go_num,by omega,by rw[jC,HL.o];rfl,by have :=HRO2.o;rw[jC]at this;exact this,by rw[vX,HMP.o,List.take_add_one,HHI.o,vX];rfl,HB3.o⟩
      case measure=>simp[intOf];omega
end
section
variable {base:Nat}{w:World}{q:Pv}{g:Pg}
set_option maxHeartbeats 3200000 in
theorem qKc(h:PgO base w q g):Calls jG 88 #[.pointer (some ⟨q.P,0,none⟩)] w (WW (g.hist++g.scr) w):=by
 obtain⟨j0,hj,gz0,gz1,gz2⟩:=info_parts nW;have HALL:=Hd (qJu h.ring);rw[h.hist]at HALL;have H:=Hd h;have hh:=h.hist100k;have hrows:=h.rows1000;obtain⟨⟨x0,-⟩,⟨x1,-⟩,-⟩:=h.cells;obtain⟨AS,cS,hvS⟩:=h.vform;rw[hvS]at x1;have HOWN:=Hd (fun(r:Rh) (w':World) (h:zZ w' r) (h0:0<r.cs.length)=>qJ6 r w' h h0);obtain⟨m,hm⟩:∃m,q.S.length=m:=⟨_,rfl⟩;rw[hm]at x1 hrows;have HM:=Hd hm;have HVS:=Hd hvS;clear h hm hvS
 go_enter Tryz.func88,Tryz.ntmps88
 go_upto_region 4 with(go_at_call 159;refine HALL.o.mono ?_;rintro e w1 ⟨v0,L0,rfl,hro,hmp,hb⟩;have HRO:=Hd hro;have HMP:=Hd hmp;have HB:=Hd hb;have x1':=kZ hb x1;clear hro hmp hb x1)
 go_wp2_with fail
 go_loopw [3,18] (fun s3 s18 wr=>∃(i:Nat) (L:List Rh),s18=.int .i64 i∧i≤m∧L.length=L0.length+i∧tJ w.heap.size wr s3 L∧L.map zU=g.hist++(q.S.take i).map zU∧Below w.heap.size w wr) (fun _ s18 _=>m-(intOf s18).toNat)
 case atStart=>exact⟨0,L0,rfl,kM _,rfl,HRO.o,by rw[HMP.o];simp,HB.o⟩
 case round=>
  obtain⟨i,L,rfl,hi,hL,hRo,hmap,hb⟩:=hrel;have hL0:L0.length≤100000:=by have :=congrArg List.length HMP.o;simp at this;omega
  obtain⟨bx,rfl⟩:∃bx:Value×Unit,u3=bx.1:=⟨(u3,()),rfl⟩;have HRO2:=Hd hRo;have HMP2:=Hd hmap;have HB2:=Hd hb;have HL:=Hd hL;clear hRo hmap hb hL
  by_cases hlt:i<m
  rotate_left
  · obtain rfl:i=m:=by omega
    go_wp2
    go_ret
    exact⟨_,L,rfl,HRO2.o,by rw[HMP2.o,←HM.o,List.take_length,H.o.scr],HB2.o⟩
  · have hltI:(i:Int)<(m:Int):=by omega
    have hiS:i<q.S.length:=by rw[HM.o];exact hlt
    obtain⟨r,hr⟩:∃r,q.S[i]? =some r:=⟨_,jN hiS⟩;obtain⟨hrc,hrl⟩:=H.o.rows r (uB hr);obtain⟨gs,cs,hvs⟩:=gH H.o.own qJ;have hAS:AS=some ⟨gs,0,none⟩:=by have :=HVS.o;rw[hvs]at this;simp only[Value.slice.injEq]at this;exact this.1.symm
    have hownS:=(H.o.below HB2.o).own;rw[hvs]at hownS;obtain⟨⟨r0,-⟩,r1,-⟩:=zK hownS hr;have HRC:=Hd (hrc.below HB2.o);have h0r:0<r.cs.length:=by rw[hrl];have :=H.o.cols2;omega
    have HRR:=Hd h0r;have HR:=Hd hr;clear hr hownS hvs hrc hrl;subst hAS;have hb5:=jH (jU wr.heap.size wr) (.cells #[.slice r.A r.cs.length r.cap,.bool r.cont] 52);have HO5:=Hd (HOWN.o r (wr.alloc (.cells #[.slice r.A r.cs.length r.cap,.bool r.cont] 52)) (HRC.o.below hb5) h0r);have HB5:=Hd hb5;clear hb5
    go_wp2_with(first
     |(go_at_call 160;refine HO5.o.mono ?_;rintro e w6 ⟨g1,cap,rfl,hrc,hb,-⟩;have HRC6:=Hd hrc;have HB6:=Hd (jW HB5.o hb);clear hrc hb)
     |(refine vG rfl (.tmp 22) (.tmp 25) 46 rfl w.heap.size 52 j0 _ 2 32 Tryz.underlying46 hj gz0 gz1 gz2 rfl qZ bx.1 L.length (uM yG L) rfl ((HRO2.o.below HB6.o).below (jH (jU _ _) _)).1 ⟨w6.heap.size,0,none⟩ 1 1 (yG ⟨some ⟨g1,0,none⟩,r.cs,cap,r.cont⟩) rfl rfl ?_ (iD _) ?_ ?_ ?_ ?_))
    all_goals first
     |(have :=HL.o;omega)
     |(simp only[maxLen];have :=HL.o;omega)
     |(have :=HB2.o.size;have :=HB6.o.size;simp;omega)
     |skip
    · intro j u hj;rw[vF,kP];exact(at_ (jT rfl) j u (by simpa[yG]using hj)).1
    · intro v' w7 ho hg hv';have hb7:=jH (jU w6.heap.size w6) (.cells #[.slice (some ⟨g1,0,none⟩) r.cs.length cap,.bool r.cont] 52);have HB7:=Hd (jW HB6.o hb7);have HRO7:=Hd (((HRO2.o.below HB6.o).below hb7).push (r:=⟨some ⟨g1,0,none⟩,r.cs,cap,r.cont⟩) ho hg (HRC6.o.below hb7) HRR.o);have HB8:=Hd ((jW HB2.o HB7.o).grown hg (jW HB2.o HB7.o).size (fun x hx=>((HRO2.o.below HB7.o).1.lt x hx).1));clear ho hg hv' hb7
      go_wp2
      go_roundw
      case rel=>exact⟨i+1,L++[⟨some ⟨g1,0,none⟩,r.cs,cap,r.cont⟩],by go_num,by omega,by rw[jC,HL.o];rfl,HRO7.o,by rw[vX,HMP2.o,List.take_add_one,HR.o,vX,kG];rfl,HB8.o⟩
      case measure=>simp[intOf];omega
end
def XL(l:List (Int×Int))(w:World)(e:Ending)(w':World):Prop:=∃g,e=.returned (.slice (some ⟨g,0,none⟩) (l.length*2) (l.length*2))∧pT QE 2 w' (some ⟨g,0,none⟩) l∧Below w.heap.size w w'
set_option maxHeartbeats 1600000 in
theorem Xa(w:World):Calls jG 107 #[] w (XL eS w):=by
 go_enter Tryz.func107,Tryz.ntmps107
 go_wp2
 go_ret
 exact⟨w.heap.size,rfl,Kt nD (l:=eS) (jT rfl),jH (jU _ _) _⟩
set_option maxHeartbeats 1600000 in
theorem Xs(w:World):Calls jG 108 #[] w (XL eC w):=by
 go_enter Tryz.func108,Tryz.ntmps108
 go_wp2
 go_ret
 exact⟨w.heap.size,rfl,Kt nD (l:=eC) (jT rfl),jH (jU _ _) _⟩
set_option maxHeartbeats 3200000 in
theorem Ub(r:Int)(a:Nat)(l:List (Int×Int))(w:World)(hl:pT QE 2 w (some ⟨a,0,none⟩) l)(hz:l.length≤1000):
 Calls jG 106 #[.slice (some ⟨a,0,none⟩) (l.length*2) (l.length*2),.int .i32 r] w fun e w'=>e=.returned (.bool (yA l r))∧w=w':=by
 obtain⟨L2,hL2⟩:∃L2,l.length*2=L2:=⟨_,rfl⟩;rw[hL2];have HL:=Hd hl;have HL2:=Hd hL2;clear hl hL2
 go_enter Tryz.func106,Tryz.ntmps106
 go_wp2_with fail
 go_loopw [5] (fun s5 wr=>∃i j:Nat,s5=.int .i64 j∧j=i*2∧i≤l.length∧yA (l.take i) r=false∧wr=w) (fun s5 _=>L2-(intOf s5).toNat)
 case atStart=>exact⟨0,0,rfl,rfl,kM _,rfl,rfl⟩
 case round=>
  obtain⟨i,j,rfl,hij,hi,hf,rfl⟩:=hrel;have HIJ:=Hd hij;have HF:=Hd hf;clear hf
  by_cases hlt:i<l.length
  rotate_left
  · have hge:¬(j:Int)<(L2:Int):=by have :=HL2.o;omega
    have HE:Hid (yA l r=false):=Hd (by have :=HF.o;rwa[vY qJ]at this);clear hij
    go_wp2
    go_ret
    exact⟨by rw[HE.o];rfl,rfl⟩
  · have hltI:(j:Int)<(L2:Int):=by have :=HL2.o;omega
    obtain⟨j1,hj1⟩:∃j1:Nat,j1=j+1:=⟨_,rfl⟩;have hj1I:(j:Int)+1=(j1:Int):=by omega
    have hwj1:jE.wrap (j1:Int)=(j1:Int):=jF _ qJ;have hj1L:(j1:Int)<(L2:Int):=by have :=HL2.o;omega
    obtain⟨j2,hj2⟩:∃j2:Nat,j2=j+2:=⟨_,rfl⟩;have hj2I:(j:Int)+2=(j2:Int):=by omega
    have hwj2:jE.wrap (j2:Int)=(j2:Int):=jF _ qJ;obtain⟨b,off,x,e,hx,hc⟩:=HL.o.at_ hlt;simp only[Option.some.injEq,Addr.mk.injEq,and_true]at e;obtain⟨rfl,rfl⟩:=e;have y0:wr.cell? ⟨a,j,none⟩=some (.int .i32 x.1):=by have :=hc 0 _ rfl;rw[hij];simpa using this
    have y1:wr.cell? ⟨a,j1,none⟩=some (.int .i32 x.2):=by have :=hc 1 _ rfl;rw[hj1,hij];simpa using this
    have HX:=Hd hx;have HJ2:=Hd hj2;have hjL:j<L2:=by omega
    have hj1LN:j1<L2:=by omega
    clear hc hx hij hj1 hj2
    by_cases h1:x.1≤r
    · by_cases h2:r≤x.2
      · have HE:Hid (yA l r=true):=Hd (oY (k:=i+1) (by rw[lM HX.o];unfold Zg;simp[h1,h2]))
        go_wp2
        go_ret
        exact⟨by rw[HE.o];rfl,rfl⟩
      · have HE:Hid (yA (l.take (i+1)) r=false):=Hd (by rw[lM HX.o,HF.o];unfold Zg;simp;omega)
        go_wp2
        go_roundw
        case rel=>exact⟨i+1,j2,by go_num,by have :=HIJ.o;have :=HJ2.o;omega,by omega,HE.o,by first|rfl|trivial⟩
        case measure=>have :=HJ2.o;simp[intOf];omega
    · have HE:Hid (yA (l.take (i+1)) r=false):=Hd (by rw[lM HX.o,HF.o];unfold Zg;simp;omega)
      go_wp2
      go_roundw
      case rel=>exact⟨i+1,j2,by go_num,by have :=HIJ.o;have :=HJ2.o;omega,by omega,HE.o,by first|rfl|trivial⟩
      case measure=>have :=HJ2.o;simp[intOf];omega
theorem ZC(r:Int):(bY r=true∧(r<32∨(126<r∧r<160∧¬r<32)∨(55295<r∧r<57344∧126<r∧¬r<160∧¬r<32)∨(1114111<r∧55295<r∧¬r<57344∧126<r∧¬r<160∧¬r<32)))∨
 (bY r=false∧((¬r<32∧¬126<r∧¬55295<r∧¬1114111<r)∨(¬r<32∧126<r∧¬r<160∧¬55295<r∧¬1114111<r)∨(¬r<32∧126<r∧¬r<160∧55295<r∧¬r<57344∧¬1114111<r))):=by
 unfold bY;simp only[Bool.or_eq_true,Bool.and_eq_true,decide_eq_true_eq,Bool.or_eq_false_iff,Bool.and_eq_false_iff,decide_eq_false_iff_not];omega
set_option maxHeartbeats 3200000 in
theorem xM(r:Int)(w:World):Calls jG 58 #[.int .i32 r] w fun e w'=>e=.returned (.int .i64 (vB r))∧Below w.heap.size w w':=by
 have HM:=Hd (fun w=>Xa w);have HW:=Hd (fun w=>Xs w);have HA1:=Hd (fun a w hl=>Ub r a eS w hl qZ);have HA2:=Hd (fun a w hl=>Ub r a eC w hl qZ);unfold vB;rcases ZC r with⟨hn,h⟩|⟨hn,h⟩
 · rw[hn];clear hn HM HW HA1 HA2;rcases h with h1|⟨h1,h2,h3⟩|⟨h1,h2,h3,h4,h5⟩|⟨h1,h2,h3,h4,h5,h6⟩
   all_goals
    go_enter Tryz.func58,Tryz.ntmps58
    go_wp2
    go_ret
    exact⟨rfl,jU _ _⟩
 · rw[hn];clear hn;generalize yA eS r=b1 at HA1;generalize yA eC r=b2 at HA2;rcases h with⟨h1,h2,h3,h4⟩|⟨h1,h2,h3,h4,h5⟩|⟨h1,h2,h3,h4,h5,h6⟩<;>cases b1<;>cases b2
   all_goals
    go_enter Tryz.func58,Tryz.ntmps58
    go_wp2_with(first
     |(go_at_call 107;refine(HM.o _).mono ?_;rintro e w2 ⟨g,rfl,hg,hb2⟩;have HG:=Hd hg;have HB:=Hd hb2;clear hg hb2)
     |(go_at_call 108;refine(HW.o _).mono ?_;rintro e w4 ⟨g2,rfl,hg,hb2⟩;have HG2:=Hd hg;have HB3:=Hd (jW HB.o hb2);clear hg hb2)
     |(go_at_call 106;first
        |(have hpv:=HB3.o;clear hpv;refine(HA2.o _ _ HG2.o).mono ?_;rintro e w5 ⟨rfl,rfl⟩)
        |(refine(HA1.o _ _ HG.o).mono ?_;rintro e w3 ⟨rfl,rfl⟩)))
    go_ret
    exact⟨rfl,by first|exact HB3.o|exact HB.o⟩
theorem yV(a b:List Int):strOfNums a++strOfNums b=strOfNums (a++b):=by
 unfold strOfNums;refine ByteArray.ext ?_;rw[ByteArray.data_append];simp
theorem qQj(r:Int):(kO r).length≤4:=by
 unfold kO
 repeat' split
 all_goals simp
theorem oK(L:List Int):(L.flatMap kO).length≤4*L.length:=by
 induction L with
 |nil=>simp
 |cons r L ih=>rw[List.flatMap_cons,jC,List.length_cons];have :=qQj r;omega
def yD(s:ByteArray):List Int:=s.data.toList.map fun b=>(b.toNat:Int)
theorem zB(s:ByteArray):(yD s).length=s.size:=by
 unfold yD;rw[List.length_map,Array.length_toList];rfl
theorem lQ(s:ByteArray):∀x∈yD s,0≤x∧x<256:=fun x hx=>by
 obtain⟨b,_,rfl⟩:=List.mem_map.1 hx;have :=b.toNat_lt;omega
theorem KC(w:World)(e:TypeId)(s:ByteArray):BsS (Lib.bytesWorld w e s) w.heap.size 0 (yD s):=fun i x hi=>by
 have hl:=(jP.1 hi).1;rw[zB]at hl;rw[kP,Lib.bytesWorld_cell w e s i hl];unfold yD at hi;rw[uX]at hi;obtain⟨b,hb,rfl⟩:=Option.map_eq_some_iff.1 hi;rw[kX,hb];rfl
theorem qVh(w:World)(e:TypeId)(n:Nat):n≤grownCap w n 0 e:=grownCap_ge w n 0 e
def KI(s:ByteArray)(w:World)(e:Ending)(w':World):Prop:=∃t:Bool,e=.returned (.bool t)∧(t=true→fD s)∧Below w.heap.size w w'
set_option maxHeartbeats 3200000 in
theorem Vl(s:ByteArray)(hz:s.size≤1048576)(w:World):Calls jG 59 #[.string s] w (KI s w):=by
 have hcv:=mA s w;have HBI:=Hd (KC w 5 s);have HBB:=Hd (dH w 5 s);have hcap:=qVh w 5 s.size;have HA:Hid (∀(w1:World),BsS w1 w.heap.size 0 (yD s)→Calls jG 109 #[.slice (some ⟨w.heap.size,0,none⟩) s.size (grownCap w s.size 0 5)] w1 (KT s.size w1)):=Hd (fun w1 hb=>by
  have :=Wa w.heap.size 0 (grownCap w s.size 0 5) (yD s) w1 (lQ s) (by rw[zB];exact hcap) (by rw[zB];omega) hb
  rwa[zB]at this)
 clear hcap;generalize Lib.bytesWorld w 5 s=wb at hcv HBI HBB
 go_enter Tryz.func59,Tryz.ntmps59
 go_wp2_with(go_at_call 109;(with_reducible refine(HA.o _ HBI.o).mono ?_);rintro e w1 ⟨v,L,rfl,ho,hsc,hLn,hb1⟩;obtain⟨A,c,rfl,hA⟩:=xP ho;have HB1:=Hd (jW HBB.o hb1);clear hb1 ho)
 have hAA:=Hd hA;have HSC:=Hd hsc;clear hA hsc
 go_loopw [4,5] (fun b i wr=>∃k:Nat,k≤L.length∧i=.int .i64 k∧b=.string (strOfNums ((L.take k).flatMap kO))∧(∀r∈L.take k,vB r=0)∧Below w.heap.size w wr∧Below w1.heap.size w1 wr) (fun _ i _=>L.length-(intOf i).toNat)
 case atStart=>exact⟨0,kM _,rfl,rfl,by simp,HB1.o,jU _ _⟩
 case round=>
  obtain⟨k,hk,rfl,rfl,hw0,hB,hb⟩:=hrel;have HW0:=Hd hw0;have hfl:=oK (L.take k);have hlk:(L.take k).length≤k:=by rw[kC];omega
  have hsz:(strOfNums ((L.take k).flatMap kO)).size≤4*k:=by rw[gJ];omega
  clear hw0 hfl hlk
  by_cases hlt:k<L.length
  · obtain⟨g,rfl,hc0⟩:=hAA.o k _ (jN hlt);have hc:=kZ hb hc0;have hr:=HSC.o _ (List.getElem_mem hlt);have HT:Hid (L.take (k+1)=L.take k++[L[k]]):=Hd (kQ hlt);clear hc0;generalize L[k]=r at hc hr HT;obtain⟨X,hX⟩:∃X,X=(L.take k).flatMap kO:=⟨_,rfl⟩;rw[←hX]at hsz ⊢;have HW:=Hd (fun w=>xM r w);have HU:=Hd (fun w=>nY r w);have hp32:=iY r;have HPB:=Hd (dQ r hr);have HXX:=Hd hX;clear hX hr;have hss:¬9223372036854775807<(strOfNums X).size+(vD r).size:=by omega
    by_cases h0:vB r=0
    · rw[h0]at HW;have hw00:=Hd h0;clear h0
      go_wp2_with(first|(go_at_call 58;(with_reducible refine(HW.o _).mono ?_);rintro e w2 ⟨rfl,hb2⟩;have hc2:=kZ hb2 hc)|(go_at_call 52;(with_reducible refine(HU.o _).mono ?_);rintro e w3 ⟨u,ys,rfl,hu,hy,hb3⟩;have hcu:=rH hu;rw[hy]at hcu;clear hu hy))
      go_roundw
      case rel=>exact⟨k+1,by omega,by go_num,by rw[HT.o,List.flatMap_append,←HXX.o,←yV,HPB.o];simp,fun x hx=>by
       rw[HT.o]at hx;rcases kU.1 hx with h|h
       · exact HW0.o x h
       · rw[jM.1 h];exact hw00.o,jW (jW hB hb2) hb3,jW (jW hb hb2) hb3⟩
      case measure=>simp[intOf];omega
    · go_wp2_with(go_at_call 58;(with_reducible refine(HW.o _).mono ?_);rintro e w2 ⟨rfl,hb2⟩)
      go_ret
      exact⟨_,rfl,fun h=>by simp at h,jW hB hb2⟩
  · obtain rfl:k=L.length:=by omega
    rw[List.take_length]at hsz HW0 ⊢;have HFIN:Hid (strOfNums (L.flatMap kO)=s→s.size≤32→fD s):=Hd (fun h h2=>⟨L,fun r hr=>⟨HSC.o r hr,HW0.o r hr⟩,h.symm,h2⟩);generalize strOfNums (L.flatMap kO)=S at hsz HFIN ⊢
    go_wp2
    all_goals
     go_ret
     first
     |exact⟨_,rfl,fun h=>HFIN.o (WideShapes.bytes_inj (by rw[←ByteArray.toList_eq,←ByteArray.toList_eq];assumption)) (by have h2:((s.size:Nat):Int)≤32:=of_decide_eq_true h;omega),hB⟩
     |exact⟨_,rfl,fun h=>by simp at h,hB⟩
end Go.Proofs.YtaefcahblmopfaaGreatDoor
