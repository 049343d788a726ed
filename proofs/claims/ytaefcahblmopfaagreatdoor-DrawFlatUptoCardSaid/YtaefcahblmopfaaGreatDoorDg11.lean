/- Joined by a tool of this claim out of smaller texts. Conditions: as stated. -/
import Derived.Test.YtaefcahblmopfaaGreatDoorDg10
import Derived.Deep.LoopGhost
set_option linter.unusedVariables false
set_option linter.unusedSimpArgs false
set_option maxRecDepth 100000
open Go.Lib renaming hid → Hd
open List renaming setIfInBounds_toArray → jZ, set_cons_zero → jX, set_cons_succ → jY, mem_singleton → jW, getElem?_eq_getElem → jN, length_append → jC, drop_succ_cons → jR, take_succ_cons → jS, drop_zero → jO, mem_cons → kJ, take_zero → kK, getD_eq_getElem?_getD → kV, append_assoc → kG, replicate → kW, mem_append → kM, length_set → kI, getElem?_map → uV, getElem?_eq_none → uZ, mem_of_getElem? → uW, map_append → uE, take_of_length_le → vV
open Go.Proofs.Tryz renaming prog → jG
open Go.RowKit.Below renaming refl → jU
open Nat renaming le_refl → jD, le_trans → jI, zero_le → kB, zero_add → kP
open Go.IntWalk renaming i64_in → jF
open Option renaming mem_toList → jT
open Go.IntKind renaming i64 → jE
open And renaming intro → kX
open Array renaming getElem?_eq_some_iff → kN
open Go.World renaming ownsRow_nil → kD, setCell → uB
open Int renaming toNat_natCast → vQ
namespace Go.Proofs.YtaefcahblmopfaaGreatDoor
open Go.RowKit
section
variable {base:Nat}{w w1:World}{q:Pv}{g g1:Pg}
theorem xO{g:Pg}(y:Int)(F:List Cl→List Cl):(zW g y F).scr.length=g.scr.length∧(zW g y F).cols=g.cols:=by
 unfold zW
 split
 · exact⟨by simp,rfl⟩
 · exact⟨rfl,rfl⟩
set_option maxHeartbeats 3200000 in
theorem Xn(h:PgO base w q g)(y x z:Int)(b:Col):Calls jG 196 #[.pointer (some ⟨q.P,0,none⟩),.int .i64 y,.int .i64 x,.int .i64 z,.agg #[.int .i64 b.k,.int .i64 b.n]] w (gO base w q (fL g y x z b)):=by
 have hrows:=h.rows1000;have hlen:=h.len;obtain⟨W,hW⟩:∃W,((w.alloc (.cells #[.int .i64 x] 3)).alloc (.cells #[.int .i64 z] 3)).alloc (.cells #[.int .i64 b.k,.int .i64 b.n] 61)=W:=⟨_,rfl⟩;have hb0:Below w.heap.size w W:=by rw[←hW];exact jH (jH (jH (jU _ _) _) _) _
 have hp0:W.heap[w.heap.size]? =some (.cells #[.int .i64 x] 3 (0,0)):=by rw[←hW];exact uA (uA (jA rfl))
 have hp1:W.heap[w.heap.size+1]? =some (.cells #[.int .i64 z] 3 (0,0)):=by rw[←hW];exact uA (jA qV)
 have hp2:W.heap[w.heap.size+2]? =some (.cells #[.int .i64 b.k,.int .i64 b.n] 61 (0,0)):=by rw[←hW];exact jA qV
 have HB:=Hd hb0;have hO:=h.below hb0;have H0:=Hd hO.res;have HIN:=Hd (nX hO y);have HXb:Hid (∀i,w.heap.size+i∉pgX q):=Hd (fun i hx=>by have :=h.lt _ hx;omega);have HXz:Hid (w.heap.size∉pgX q):=Hd (HXb.o 0);cases hin:inP g y with
 |false=>
  rw[hin]at HIN;have HE:=Hd (show fL g y x z b=g from by unfold fL;rw[hin];rfl);rw[HE.o];clear h hb0 hp0 hp1 hp2 hO
  go_enter Tryz.func196,Tryz.ntmps196
  go_wp2_with(go_at_call 289;refine HIN.o.mono ?_;rintro e w9 ⟨rfl,rfl⟩)
  go_end0
  exact⟨rfl,H0.o.pre HB.o⟩
 |true=>
  rw[hin]at HIN;have hy:0≤y∧y<1000:=by unfold inP at hin;simp at hin;omega
  have HE:=Hd (show fL g y x z b=(if x<g.cols∧(g.cols:Int)≤z then(if x≤0 then yG (yG (zW g y (fun l=>zO l x z b)) (y+1) false) y false else yG (zW g y (fun l=>zO l x z b)) (y+1) false)else zW g y (fun l=>zO l x z b))from by unfold fL;rw[hin];rfl);rw[HE.o];have hwy:jE.wrap (y+1)=y+1:=jF _ qJ;have hc2:=h.cols2;have HA:=Hd (rO hO y 291 #[.pointer (some ⟨w.heap.size,0,none⟩),.pointer (some ⟨w.heap.size+1,0,none⟩),.pointer (some ⟨w.heap.size+2,0,none⟩)] (fun l=>zO l x z b) (fun l=>YL l x z b) (fun l hl=>hl.erase x z b) (fun args w=>by kernel_rfl) (fun r w' hb hr hl=>Vz r x z b _ _ _ w' hr qJ (kZ hb (vY hp0 0 _ rfl)) (kZ hb (vY hp1 0 _ rfl)) (kZ hb (vY hp2 0 _ rfl)) (kZ hb (vY hp2 1 _ rfl))));have HX0:=Hd (vY hp0 0 _ rfl);have HX1:=Hd (vY hp1 0 _ rfl);have HP2:Hid (∀w1,pJ base W q (zW g y (fun l=>zO l x z b)) w1→w1.cell? ⟨q.P,2,none⟩=some (.int .i64 g.cols)):=Hd (fun w1 hs=>by
   obtain⟨q1,e1,-,hq1,-⟩:=hs;have :=hq1.cells.2.2.1.1;rw[e1,(xO y _).2]at this;exact this)
  have HPA:=Hd (fun(g1:Pg) (y:Int) (w1:World) (hs:pJ base W q g1 w1)=>tZ hs y);clear h hb0 hp0 hp1 hp2 hO hin
  by_cases hc:x<g.cols∧(g.cols:Int)≤z
  rotate_left
  · rw[if_neg hc];have HNC:=Hd hc
    by_cases hx:x<g.cols
    · have hz:¬(g.cols:Int)≤z:=fun h=>hc ⟨hx,h⟩;clear hc
      go_enter Tryz.func196,Tryz.ntmps196
      go_upto_region 3 with(first|(go_at_call 289;refine HIN.o.mono ?_;rintro e w9 ⟨rfl,rfl⟩)|(go_at_call 290;(with_reducible refine HA.o.mono ?_);rintro e w1 ⟨rfl,hs⟩;have HS:=Hd hs;have x0:=hs.hold HXz.o HX0.o;have x1:=hs.hold (HXb.o 1) HX1.o;have x2:=HP2.o _ hs;clear hs))
      refine kH 13 (fun w'=>Below w1.heap.size w1 w'∧w'.cell? ⟨w.heap.size,0,none⟩=some (.int .i64 x)∧w'.cell? ⟨w.heap.size+1,0,none⟩=some (.int .i64 z)∧w'.cell? ⟨q.P,2,none⟩=some (.int .i64 g.cols)) qQ qQ ?_ ?_
      · exact qZg
      simp only[jS,kK,jR,jO]
      repeat(
       (first
        |refine kF qK ?_
        |(refine kE ?_ qK ?_ ?_;rotate_left;(focus(intro w' hS;obtain⟨_,_,_,_⟩:=hS;go_simp;first|done|with_reducible rfl))))
       simp only[Act.put,jZ,jX,jY])
      refine kO (fun w' hS=>?_);have HS:=Hd (HS.o.post hS.1);have x0:=hS.2.1;clear hS x1 x2
      go_wp2
      go_end0
      exact qZf
    · clear hc
      go_enter Tryz.func196,Tryz.ntmps196
      go_upto_region 3 with(first|(go_at_call 289;refine HIN.o.mono ?_;rintro e w9 ⟨rfl,rfl⟩)|(go_at_call 290;(with_reducible refine HA.o.mono ?_);rintro e w1 ⟨rfl,hs⟩;have HS:=Hd hs;have x0:=hs.hold HXz.o HX0.o;have x1:=hs.hold (HXb.o 1) HX1.o;have x2:=HP2.o _ hs;clear hs))
      have hxn:¬x<(g.cols:Int):=by omega
      refine kH 13 (fun w'=>Below w1.heap.size w1 w'∧w'.cell? ⟨w.heap.size,0,none⟩=some (.int .i64 x)∧w'.cell? ⟨w.heap.size+1,0,none⟩=some (.int .i64 z)∧w'.cell? ⟨q.P,2,none⟩=some (.int .i64 g.cols)) qQ qQ ?_ ?_
      · exact qZg
      simp only[jS,kK,jR,jO]
      repeat(
       (first
        |refine kF qK ?_
        |(refine kE ?_ qK ?_ ?_;rotate_left;(focus(intro w' hS;obtain⟨_,_,_,_⟩:=hS;go_simp;first|done|with_reducible rfl))))
       simp only[Act.put,jZ,jX,jY])
      refine kO (fun w' hS=>?_);have HS:=Hd (HS.o.post hS.1);have x0:=hS.2.1;clear hS x1 x2
      go_wp2
      go_end0
      exact qZf
  rw[if_pos hc];obtain⟨hx,hz⟩:=hc
  by_cases hx0:x≤0
  · rw[if_pos hx0]
    go_enter Tryz.func196,Tryz.ntmps196
    go_upto_region 3 with(first|(go_at_call 289;refine HIN.o.mono ?_;rintro e w9 ⟨rfl,rfl⟩)|(go_at_call 290;(with_reducible refine HA.o.mono ?_);rintro e w1 ⟨rfl,hs⟩;have HS:=Hd hs;have x0:=hs.hold HXz.o HX0.o;have x1:=hs.hold (HXb.o 1) HX1.o;have x2:=HP2.o _ hs;clear hs))
    refine kH 13 (fun w'=>Below w1.heap.size w1 w'∧w'.cell? ⟨w.heap.size,0,none⟩=some (.int .i64 x)∧w'.cell? ⟨w.heap.size+1,0,none⟩=some (.int .i64 z)∧w'.cell? ⟨q.P,2,none⟩=some (.int .i64 g.cols)) qQ qQ ?_ ?_
    · exact qZg
    simp only[jS,kK,jR,jO]
    repeat(
     (first
      |refine kF qK ?_
      |(refine kE ?_ qK ?_ ?_;rotate_left;(focus(intro w' hS;obtain⟨_,_,_,_⟩:=hS;go_simp;first|done|with_reducible rfl))))
     simp only[Act.put,jZ,jX,jY])
    refine kO (fun w' hS=>?_);have HS:=Hd (HS.o.post hS.1);have x0:=hS.2.1;clear hS x1 x2
    go_wp2_with(go_at_call 293;first
     |(have hpv:=HS4.o;clear hpv;(with_reducible refine(HPA.o _ _ _ HS4.o).mono ?_);rintro e w4 ⟨rfl,hs⟩;have HS5:=Hd hs;clear hs)
     |((with_reducible refine(HPA.o _ _ _ HS.o).mono ?_);rintro e w4 ⟨rfl,hs⟩;have HS4:=Hd hs;have y0:=hs.hold HXz.o HX0.o;clear hs x0))
    go_end0
    exact⟨rfl,HS5.o.pre HB.o⟩
  · rw[if_neg hx0]
    go_enter Tryz.func196,Tryz.ntmps196
    go_upto_region 3 with(first|(go_at_call 289;refine HIN.o.mono ?_;rintro e w9 ⟨rfl,rfl⟩)|(go_at_call 290;(with_reducible refine HA.o.mono ?_);rintro e w1 ⟨rfl,hs⟩;have HS:=Hd hs;have x0:=hs.hold HXz.o HX0.o;have x1:=hs.hold (HXb.o 1) HX1.o;have x2:=HP2.o _ hs;clear hs))
    refine kH 13 (fun w'=>Below w1.heap.size w1 w'∧w'.cell? ⟨w.heap.size,0,none⟩=some (.int .i64 x)∧w'.cell? ⟨w.heap.size+1,0,none⟩=some (.int .i64 z)∧w'.cell? ⟨q.P,2,none⟩=some (.int .i64 g.cols)) qQ qQ ?_ ?_
    · exact qZg
    simp only[jS,kK,jR,jO]
    repeat(
     (first
      |refine kF qK ?_
      |(refine kE ?_ qK ?_ ?_;rotate_left;(focus(intro w' hS;obtain⟨_,_,_,_⟩:=hS;go_simp;first|done|with_reducible rfl))))
     simp only[Act.put,jZ,jX,jY])
    refine kO (fun w' hS=>?_);have HS:=Hd (HS.o.post hS.1);have x0:=hS.2.1;clear hS x1 x2
    go_wp2_with(go_at_call 293;(with_reducible refine(HPA.o _ _ _ HS.o).mono ?_);rintro e w4 ⟨rfl,hs⟩;have HS4:=Hd hs;have y0:=hs.hold HXz.o HX0.o;clear hs x0)
    go_end0
    exact⟨rfl,HS4.o.pre HB.o⟩
end
section
variable {base:Nat}{w w1:World}{q:Pv}{g g1:Pg}
theorem PgO.grown{vs':Value}{r:Rh}(h:PgO base w q g)(ho:w1.ownsRow base 52 2 vs' (q.S.length+1) (uY gI (q.S++[r])))(hm:Mod q.vs.ownBlock.toList w w1)(hv:∀b,vs'.ownBlock=some b→q.vs.ownBlock=some b∨w.heap.size≤b)
 (hr:yO w1 r) (hrl:r.cs.length=g.cols) (hz:q.S.length+1≤1000):pJ base w q {g with scr:=g.scr++[yW r]} (w1.setCell ⟨q.P,1,none⟩ vs'):=by
 have hvs:∀b,q.vs.ownBlock=some b→∃cur:Array Value,w.heap[b]? =some (.cells cur 52 (0,0)):=fun b hb=>uD h.own hb;have hPv:q.P∉q.vs.ownBlock.toList:=fun hb=>by
  obtain⟨cur,hc⟩:=hvs _ (jT.1 hb);exact qZe
 have hPl:=(kN.1 h.blk).1;have hm2:Mod (q.P::q.vs.ownBlock.toList) w (w1.setCell ⟨q.P,1,none⟩ vs'):=(hm.mono (fun b hb=>by simp[jT.1 hb])).setCell (a:=⟨q.P,1,none⟩) (.inl qV) _;have hX:yH w (q.P::q.vs.ownBlock.toList):=fun b hb cs f he=>by
  refine h.nocel b ?_ cs f he;rcases kJ.1 hb with rfl|hb
  · simp[pgX]
  · simp[pgX,jT.1 hb]
 have hblk:=kA (cs:=[.pointer (some ⟨q.R,0,none⟩),q.vs,.int .i64 g.cols,q.vt]) ((hm.block q.P hPl hPv).trans h.blk) 1 vs' (cs':=[.pointer (some ⟨q.R,0,none⟩),vs',.int .i64 g.cols,q.vt]) rfl;have hM1:Mod [q.P] w1 (w1.setCell ⟨q.P,1,none⟩ vs'):=(Mod.refl [q.P] w1).setCell (a:=⟨q.P,1,none⟩) (.inl qV) vs';have hN1:yH w1 [q.P]:=fun b hb cs f he=>by
  rw[jW.1 hb,hm.block q.P hPl hPv]at he;exact vX h.blk he qZ rfl
 refine⟨{q with vs:=vs',S:=q.S++[r]},rfl,rfl,⟨hblk,h.hb,h.ring.mod hm2 hX (fun b hb hx=>?_),?_,kC h.told hm2 (fun b hb hx=>?_),fun b hb hb2=>?_,?_,h.hist,fun x hx=>?_,h.cols2,h.cols1000,by show(q.S++[r]).length≤1000;simpa using hz,h.gone0⟩,hm2.mono (fun b hb=>?_),fun b hb=>?_⟩
 · rcases kJ.1 hx with rfl|hx
   · rcases kJ.1 hb with h1|hb
     · exact vX h.blk h.ring.blk qZ h1
     · obtain⟨cur,hc⟩:=uD h.ring.own (jT.1 hb);exact qZe
   · rcases kJ.1 hb with rfl|hb
     · obtain⟨cur,hc⟩:=hvs _ (jT.1 hx);exact vX h.ring.blk hc qZ rfl
     · exact h.apart b (jT.1 hx) (jT.1 hb)
 · have :=kC ho hM1 (fun b hb hx=>by
    have e:=jW.1 hx;rcases hv b hb with h1|h1
    · exact hPv (by rw[←e];simp[h1])
    · omega)
   simpa using this
 · obtain⟨cur,hc⟩:=uD h.told hb;rcases kJ.1 hx with rfl|hx
   · exact qZe
   · obtain⟨cur2,hc2⟩:=hvs _ (jT.1 hx);exact vX hc2 hc qZ rfl
 · rcases hv b hb with h1|h1
   · exact h.apart b h1 hb2
   · have :=(h.ring.own.lt b hb2).2;omega
 · show(q.S++[r]).map yW=g.scr++[yW r];rw[uE,h.scr];rfl
 · rcases kM.1 (show x∈q.S++[r]from hx)with hx|hx
   · exact⟨(h.rows x hx).1.mod hm2 hX,(h.rows x hx).2⟩
   · rw[jW.1 hx];exact⟨hr.mod hM1 hN1,hrl⟩
 · rcases kJ.1 hb with rfl|hb
   · simp[pgX]
   · simp[pgX,jT.1 hb]
 · rcases kJ.1 hb with rfl|hb
   · exact .inl qVr
   rcases kM.1 hb with hb|hb
   · rcases hv b (jT.1 hb)with h1|h1
     · exact .inl (by simp[pgX,h1])
     · exact .inr h1
   · exact .inl (by simp only[pgX,kJ,kM];right;right;simpa using hb)
def dP:Col:=⟨0,0⟩
set_option maxHeartbeats 3200000 in
theorem Wz(h:PgO base w q g)(rows:Nat)(hr:rows≤1000):Calls jG 112 #[.pointer (some ⟨q.P,0,none⟩),.int .i64 rows] w (gO base w q {g with scr:=g.scr++kW (rows-g.scr.length) (zN g.cols dP)}):=by
 obtain⟨j0,hj,gz0,gz1,gz2⟩:=info_parts nG;have hrows:=h.rows1000;have hlen:=h.len;have hc2:=h.cols2;have hc3:=h.cols1000;have HBK:=Hd (fun w' (x2:w'.cell? ⟨q.P,2,none⟩=some (.int .i64 g.cols))=>oB q.P g.cols dP w' x2 hc2 hc3);have H:=Hd h;clear h;obtain⟨N,hN⟩:∃N,rows-g.scr.length=N:=⟨_,rfl⟩;rw[hN];have HN:=Hd hN;clear hN
 go_enter Tryz.func112,Tryz.ntmps112
 go_wp2_with fail
 go_loopg [10] N (fun k _ wr=>∃i:Nat,i+k=N∧pJ base w q {g with scr:=g.scr++kW i (zN g.cols dP)} wr)
 case atStart=>exact⟨0,by omega,by simpa using H.o.res⟩
 case round=>
  obtain⟨i,hik,hs⟩:=hrel;have HS:=Hd hs;obtain⟨q1,e1,e2,hq1,hm1,hx1⟩:=hs;obtain⟨A1,c1,hv1⟩:=uI hq1.own;have hl1:q1.S.length=g.scr.length+i:=by rw[hq1.len];simp
  obtain⟨-,⟨x1,x1f⟩,⟨x2,-⟩,-⟩:=hq1.cells;rw[e1]at x1 x1f x2;rw[hv1]at x1;obtain⟨m,hm⟩:∃m,q1.S.length=m:=⟨_,rfl⟩;rw[hm]at x1;have HM:=Hd hm;have hbw:base≤wr.heap.size:=by have :=hq1.lt q1.P qVr;omega
  have hPl:=vG x2
  by_cases hlt:m<rows
  rotate_left
  · have hltI:¬(m:Int)<(rows:Int):=by omega
    have hi:i=N:=by have :=HN.o;omega
    subst hi;clear hm hq1 hm1 hx1
    go_wp2
    go_end0
    exact⟨rfl,HS.o⟩
  · have hltI:(m:Int)<(rows:Int):=by omega
    have HQ:=Hd hq1;have HE:=Hd (kX e1 (kX e2 (kX hm1 hx1)));have HV:=Hd (show q1.vs=.slice A1 m c1 from by rw[←hm];exact hv1);have hNi:i<N:=by have :=HN.o;omega
    have hm1000:m+1≤1000:=by omega
    clear hm hq1 hm1 hx1 hv1 HS
    go_upto_region 1 with fail
    refine Go.RL.wp_region_l 12 (fun w'=>(w'.cell? ⟨q.P,1,none⟩=some (.slice A1 m c1)∧w'.frozen? ⟨q.P,1,none⟩=false)∧w'.cell? ⟨q.P,2,none⟩=some (.int .i64 g.cols)) (fun w'=>Below wr.heap.size wr w') qQ qQ ⟨⟨x1,x1f⟩,x2⟩ ((jU _ _).drew) ?_;refine Go.RL.AtL.go 0 ?_
    iterate 7 (refine Go.RL.AtK.take (o:=⟨_,_,_,_,_,_⟩) (v:=?_) qQ rfl qV qQ qQ ?_ ?_;rotate_left;(focus(refine Go.RL.Pure.val qK ?_;intro w' hI;obtain⟨⟨_,_⟩,_⟩:=hI;go_simp;first|done|with_reducible rfl));simp only[Act.put,jZ,jX,jY])
    refine Go.RL.AtK.back ?_;refine Go.RL.AtL.one 7 (o:=⟨_,_,_,_,_,_⟩) (fun v=>∃g1 cap,v=.agg #[.slice (some ⟨g1,0,none⟩) g.cols cap,.bool false]) (fun v w'=>∃g1 cap,v=.agg #[.slice (some ⟨g1,0,none⟩) g.cols cap,.bool false]∧Below wr.heap.size wr w'∧yO w' ⟨some ⟨g1,0,none⟩,kW g.cols (vE dP),cap,false⟩) qV qQ rfl
     (Go.RL.StabL.call 174 #[.pointer (some ⟨q.P,0,none⟩),.agg #[.int .i64 0,.int .i64 0]] _ _ qK ?_ (fun w' hI hS=>?_)) ?_
    · intro w'
      go_simp
    · refine(HBK.o w' hI.2).mono ?_;rintro e w3 ⟨g1,cap,rfl,hr,hb⟩;exact⟨_,rfl,⟨g1,cap,rfl⟩,⟨lQ hb hI.1,kZ hb hI.2⟩,g1,cap,rfl,jM hS hb,hr⟩
    rintro v ⟨g1,cap,rfl⟩;simp only[Act.put,jZ,jX,jY];refine Go.RL.AtL.one 8 (o:=⟨_,_,_,_,_,_⟩) (fun v=>∃k,v=.slice (some ⟨k,0,none⟩) 1 1) (fun v w'=>∃k,v=.slice (some ⟨k,0,none⟩) 1 1∧Below wr.heap.size wr w'∧yO w' ⟨some ⟨g1,0,none⟩,kW g.cols (vE dP),cap,false⟩∧w'.heap[k]? =some (.cells #[.slice (some ⟨g1,0,none⟩) g.cols cap,.bool false] 52 (0,0))) qV qQ rfl (Go.RL.StabL.op _ _ qK (fun w' hI hS=>?_)) ?_
    · obtain⟨g1',cap',hv',hb,hrc⟩:=hS;simp only[Value.agg.injEq,Array.mk.injEq,List.cons.injEq,Value.slice.injEq,Option.some.injEq,Addr.mk.injEq,and_true,true_and]at hv';obtain⟨rfl,rfl⟩:=hv';have hb2:=jH (jU w'.heap.size w') (.cells #[.slice (some ⟨g1,0,none⟩) g.cols cap,.bool false] 52);exact⟨.slice (some ⟨w'.heap.size,0,none⟩) 1 1,w'.alloc (.cells #[.slice (some ⟨g1,0,none⟩) g.cols cap,.bool false] 52),by go_simp,⟨_,rfl⟩,⟨lQ hb2 hI.1,kZ hb2 hI.2⟩,_,rfl,jM hb hb2,hrc.below hb2,jA rfl⟩
    rintro v ⟨k,rfl⟩;simp only[Act.put,jZ,jX,jY];refine Go.RL.AtL.one 9 (o:=⟨some 20,.call {callee:=.builtin .append,args:=#[.tmp 15,.tmp 19],argTypes:=#[46,46]},46,_,_,none⟩) (fun v=>∃g' c',v=.slice (some ⟨g',0,none⟩) (m+1) c') (fun v w'=>w'.ownsRow base 52 2 v (m+1) (uY gI (q1.S++[⟨some ⟨g1,0,none⟩,kW g.cols (vE dP),cap,false⟩]))∧Mod q1.vs.ownBlock.toList wr w'∧(∀b,v.ownBlock=some b→q1.vs.ownBlock=some b∨wr.heap.size≤b)∧yO w' ⟨some ⟨g1,0,none⟩,kW g.cols (vE dP),cap,false⟩) qV qQ rfl (Go.RL.StabL.op _ _ qK (fun w' hI hS=>?_)) ?_
    · obtain⟨k',hv',hb,hrc,hk⟩:=hS;simp only[Value.slice.injEq,Option.some.injEq,Addr.mk.injEq,and_true,true_and]at hv';subst hv';have hown:=(HQ.o.below hb).own;rw[HM.o]at hown;obtain⟨v',w3,hr3,ho3,hg3,-,hn3⟩:=run_append_own_at (P:=jG) w' base 46 46 52 j0 _ 2 32 Tryz.underlying46 hj gz0 gz1 gz2 rfl qZ q1.vs m (uY gI q1.S) hown ⟨k,0,none⟩ 1 1 (gI ⟨some ⟨g1,0,none⟩,kW g.cols (vE dP),cap,false⟩) rfl (fun j u hj=>by
       rw[vC,kP];exact(at_ hk j u (by simpa[gI]using hj)).1) (iN _) qO qJ (jI hbw hb.size)
      obtain⟨g',c',rfl⟩:=gV ho3 qJ;have hvs:∀b,q1.vs.ownBlock=some b→b<wr.heap.size:=fun b hb=>(HQ.o.own.lt b hb).2;have hMg:Mod q1.vs.ownBlock.toList w' w3:=Mod.of_grown hg3 (fun b hb=>by simp[hb]);have hPn:q.P∉q1.vs.ownBlock.toList:=fun hx=>by
       obtain⟨cur,hc⟩:=uD HQ.o.own (jT.1 hx);have :=HQ.o.blk;rw[HE.o.1]at this;exact vX this hc qZ rfl
      have hNC:yH w' q1.vs.ownBlock.toList:=fun b hb' cs f he=>by
       obtain⟨cur,hc⟩:=uD hown (jT.1 hb');exact vX hc he qZ rfl
      refine⟨_,w3,mB _ _ _ rfl _ _ _ rfl rfl (by rw[HV.o]at hr3;exact hr3),⟨g',c',rfl⟩,⟨hMg.hold hPn hI.1,hMg.cell hPn hI.2⟩,?_,(Mod.of_below (X:=q1.vs.ownBlock.toList) hb).trans hMg (fun b hb=>.inl hb),fun b hb'=>?_,hrc.mod hMg hNC⟩
      · rw[uR];exact ho3
      · rcases hn3 with h3|h3
        · exact .inl (by rw[←h3];exact hb')
        · rw[h3]at hb';injection hb' with hb';exact .inr (by have :=hb.size;omega)
    rintro v ⟨g',c',rfl⟩;simp only[Act.put,jZ,jX,jY];refine Go.RL.AtL.go 10 ?_
    iterate 2 (refine Go.RL.AtK.take (o:=⟨_,_,_,_,_,_⟩) (v:=?_) qQ rfl qV qQ qQ ?_ ?_;rotate_left;(focus(refine Go.RL.Pure.val qK ?_;intro w' hI;obtain⟨⟨_,_⟩,_⟩:=hI;go_simp;first|done|with_reducible rfl));simp only[Act.put,jZ,jX,jY])
    refine Go.RL.AtK.back ?_;refine Go.RL.AtL.done qQ (fun w' hI hS=>?_);obtain⟨hs1,hs2,hs3,hs4⟩:=hS;rw[←HM.o]at hs1;have HG:=Hd (HQ.o.grown hs1 hs2 hs3 hs4 qV (by rw[HM.o];exact hm1000));rw[HM.o,HE.o.1]at HG;obtain⟨⟨z1,z1f⟩,-⟩:=hI;clear hs1 hs2 hs3 hs4 x1 x1f x2
    go_wp2
    go_roundg (gk-1)
    case rel=>
     refine⟨i+1,by omega,?_⟩;have :=pJ.trans ⟨HE.o.1,HE.o.2.1,HE.o.2.2.1,HE.o.2.2.2⟩ HG.o;rw[List.replicate_succ',←kG];exact this
    case measure=>omega
def UO(r c:Int):Bool:=decide (1≤r∧r≤1000∧2≤c∧c≤1000)
theorem Wy(r c:Int)(w:World):Calls jG 111 #[.int .i64 r,.int .i64 c] w fun e w'=>e=.returned (.bool (UO r c))∧w=w':=by
 unfold UO
 by_cases h1:1≤r<;>by_cases h2:r≤1000<;>by_cases h3:2≤c<;>
 · go_enter Tryz.func111,Tryz.ntmps111
   go_wp2
   go_ret
   refine⟨?_,rfl⟩;simp[h1,h2,h3]
   try omega
end
def newP(rows cols lines:Nat):Pg:=⟨lines,[],0,kW rows (zN cols dP),cols,[]⟩
def NewPost(rows cols lines:Nat)(w:World)(e:Ending)(w':World):Prop:=
 ∃q,e=.returned (.tuple #[.pointer (some ⟨q.P,0,none⟩),.int .i64 0])∧PgO w.heap.size w' q (newP rows cols lines)∧Below w.heap.size w w'
set_option maxHeartbeats 1600000 in
theorem pnew_ok(rows cols lines:Nat)(w:World)(hr1:1≤rows)(hr2:rows≤1000)(hc1:2≤cols)(hc2:cols≤1000)(hl:lines≤100000):
 Calls jG 62 #[.int .i64 rows,.int .i64 cols,.int .i64 lines] w (NewPost rows cols lines w):=by
 have HN:=Hd (rnew_ok lines w hl);have hf:UO rows cols=true:=by unfold UO;simp;omega
 have HF:=Hd (fun w=>Wy rows cols w);rw[hf]at HF;clear hf
 go_enter Tryz.func62,Tryz.ntmps62
 go_upto_region 5 with(first
  |(go_at_call 110;refine HN.o.mono ?_;rintro e w1 ⟨rfl,hro,hb⟩;have HRO:=Hd hro;have HB:=Hd hb;clear hro hb)
  |(go_at_call 111;refine(HF.o _).mono ?_;rintro e w9 ⟨rfl,rfl⟩))
 have hb2:=jH (jU w1.heap.size w1) (.cells #[.pointer (some ⟨w.heap.size,0,none⟩),.slice none 0 0,.int .i64 cols,.slice none 0 0] 175);have hp:(w1.alloc (.cells #[.pointer (some ⟨w.heap.size,0,none⟩),.slice none 0 0,.int .i64 cols,.slice none 0 0] 175)).heap[w1.heap.size]? =some (.cells #[.pointer (some ⟨w.heap.size,0,none⟩),.slice none 0 0,.int .i64 cols,.slice none 0 0] 175 (0,0)):=jA rfl;have hO:PgO w.heap.size (w1.alloc (.cells #[.pointer (some ⟨w.heap.size,0,none⟩),.slice none 0 0,.int .i64 cols,.slice none 0 0] 175)) ⟨w1.heap.size,w.heap.size,.slice none 0 0,.slice none 0 0,.slice none 0 0,[],[],0,0⟩ ⟨lines,[],0,[],cols,[]⟩:=
  ⟨hp,HB.o.size,HRO.o.below hb2,kD _ _ _ _,kD _ _ _ _,(fun b hb=>by simp[Value.ownBlock]at hb),rfl,rfl,(fun r hr=>by cases hr),hc1,hc2,by simp,Int.le_refl _⟩
 have HFI:=Hd (Wz hO rows hr2);have HB2:=Hd (jM HB.o hb2);have HX:=Hd hO.lt;clear hb2 hp hO
 go_wp2_with(go_at_call 112;(with_reducible refine HFI.o.mono ?_);rintro e w3 ⟨rfl,hs⟩;have HS:=Hd hs;clear hs)
 go_ret2
 obtain⟨q,e1,e2,h1,h2,h3⟩:=HS.o;simp only[List.length_nil,Nat.sub_zero,List.nil_append]at h1;refine⟨q,by rw[e1];rfl,h1,HB2.o.trans (h2.below (B:=w.heap.size) (fun b hb=>(HX.o b hb).1) HB2.o.size)⟩
def sP(base:Nat)(w:World)(v:Value)(L:List Rh):Prop:=w.ownsRow base 52 2 v L.length (uY gI L)∧∀r∈L,yO w r∧0<r.cs.length
theorem sP.below{base:Nat}{w w':World}{v:Value}{L:List Rh}(h:sP base w v L)(hb:Below w.heap.size w w'):sP base w' v L:=⟨kC h.1 (Mod.of_below (X:=[]) hb) (fun _ _ h=>by cases h),fun r hr=>⟨(h.2 r hr).1.below hb,(h.2 r hr).2⟩⟩
theorem sP.push{base:Nat}{w w1:World}{v v':Value}{L:List Rh}{r:Rh}(h:sP base w v L)(ho:w1.ownsRow base 52 2 v' (L.length+1) (uY gI L++gI r))(hg:w.grownBy w1 v.ownBlock)(hr:yO w r)(h0:0<r.cs.length):sP base w1 v' (L++[r]):=by
 have hm:Mod v.ownBlock.toList w w1:=Mod.of_grown hg (fun b hb=>by simp[hb]);have hn:yH w v.ownBlock.toList:=fun b hb cs f he=>by
  obtain⟨cur,hc⟩:=uD h.1 (jT.1 hb);exact vX hc he qZ rfl
 refine⟨by rw[uR,jC];exact ho,fun x hx=>?_⟩;rcases kM.1 hx with hx|hx
 · exact⟨(h.2 x hx).1.mod hm hn,(h.2 x hx).2⟩
 · rw[jW.1 hx];exact⟨hr.mod hm hn,h0⟩
def Ue(H:List Ro)(w:World)(e:Ending)(w':World):Prop:=∃v L,e=.returned v∧sP w.heap.size w' v L∧L.map yW=H∧Below w.heap.size w w'
section
variable {base:Nat}{w:World}{R:Nat}{vl:Value}{SL:List Rh}{room first n:Nat}{gone:Int}
set_option maxHeartbeats 3200000 in
theorem qQ4(h:RgO base w R vl SL room first n gone):Calls jG 159 #[.pointer (some ⟨R,0,none⟩)] w (Ue ((pF SL first n).map yW) w):=by
 obtain⟨j0,hj,gz0,gz1,gz2⟩:=info_parts nG;have HLEN:=Hd (VT h);have H:=Hd h;have hnr:n≤100000:=by have :=h.hn;have :=h.hm;have :=h.hroom;omega
 have hmr:SL.length≤100000:=by have :=h.hm;have :=h.hroom;omega
 have HOWN:=Hd (fun(r:Rh) (w':World) (h:yO w' r) (h0:0<r.cs.length)=>VF r w' h h0);clear h
 go_enter Tryz.func159,Tryz.ntmps159
 go_wp2_with(go_at_call 161;refine HLEN.o.mono ?_;rintro e w9 ⟨rfl,rfl⟩)
 go_loopw [3,7] (fun s3 s7 wr=>∃(i:Nat) (L:List Rh),s7=.int .i64 i∧i≤n∧L.length=i∧sP w.heap.size wr s3 L∧L.map yW=((pF SL first n).take i).map yW∧Below w.heap.size w wr) (fun _ s7 _=>n-(intOf s7).toNat)
 case atStart=>exact⟨0,[],rfl,kB _,rfl,⟨kD _ _ _ _,fun r hr=>by cases hr⟩,rfl,jU _ _⟩
 case round=>
  obtain⟨i,L,rfl,hi,hL,hRo,hmap,hb⟩:=hrel;have HRO:=Hd hRo;have HMP:=Hd hmap;have HB:=Hd hb;have HL:=Hd hL;obtain⟨A3,c3,hv3⟩:=uI hRo.1;subst hv3;rw[hL];clear hRo hmap hb hL
  by_cases hlt:i<n
  rotate_left
  · obtain rfl:i=n:=by omega
    go_wp2
    go_ret
    exact⟨.slice A3 L.length c3,L,by rw[HL.o];rfl,HRO.o,by rw[HMP.o,vV (by rw[yM];exact jD _)],HB.o⟩
  · have hltI:(i:Int)<(n:Int):=by omega
    have hf:first < SL.length:=by
     rcases H.o.hf with hf|⟨-,hf⟩
     · exact hf
     · have :=H.o.hn;omega
    obtain⟨k,hk⟩:∃k,pK SL.length first i=k:=⟨_,rfl⟩
    have hkl:k<SL.length:=by rw[←hk];exact bP hf (by have :=H.o.hn;omega)
    obtain⟨r,hr⟩:∃r,SL[k]? =some r:=⟨SL[k],jN hkl⟩;have hHi:(pF SL first n)[i]? =some r:=by rw[eD hf H.o.hn hlt,hk,hr]
    have hrr:=H.o.rows r (uW hHi);have HRi:=Hd (H.o.below HB.o);obtain⟨gs,cs,hvs⟩:=gV H.o.own qJ;have hownS:=HRi.o.own;have x0:=(at_ HRi.o.blk 0 _ rfl).1;have x2:wr.cell? ⟨R,2,none⟩=some (.int .i64 first):=(at_ HRi.o.blk 2 _ rfl).1;rw[hvs]at hownS x0;obtain⟨⟨r0,-⟩,r1,-⟩:=yI hownS hr;have hfr:first ≤100000:=by omega
    have hkI:(k:Int)<(SL.length:Int):=by omega
    have HHI:=Hd hHi;have HRR:=Hd hrr;clear hHi hr hownS hvs hf hrr
    go_upto_region 5 with fail
    refine pV 12 (fun w2=>Below wr.heap.size wr w2∧w2.cell? ⟨R,0,none⟩=some (.slice (some ⟨gs,0,none⟩) SL.length cs)∧w2.cell? ⟨gs,k*2,none⟩=some (.slice r.A r.cs.length r.cap)∧w2.cell? ⟨gs,k*2+1,none⟩=some (.bool r.cont)) qQ qQ (fun w1 w2 hS hb=>⟨jM hS.1 hb,kZ hb hS.2.1,kZ hb hS.2.2.1,kZ hb hS.2.2.2⟩) ⟨(jU _ _).drew,x0,r0,r1⟩ ?_;refine AtN.go 0 ?_
    iterate 7 (refine AtC.take (o:=⟨_,_,_,_,_,_⟩) (v:=?_) qQ rfl qV qQ qQ ?_ ?_;rotate_left;(focus(first|exact uJ.skip qK|(refine uJ.val qK ?_;intro w' hS;obtain⟨_,_,_,_⟩:=hS;go_simp;first|done|with_reducible rfl)));simp only[Act.put,jZ,jX,jY])
    refine AtC.back ?_;refine AtN.take 7 (o:=⟨_,_,_,_,_,_⟩) (v:=.int .i64 k) qQ rfl qV qQ qQ (uJ.call1 251 #[.pointer (some ⟨R,0,none⟩),.int .i64 i] (.int .i64 k) qK qM (fun w' hS=>(iQ hS.2.1 ((Mod.of_below (X:=[]) hS.1).cell qV x2) hmr hfr i qJ).mono (fun e w3 h=>⟨by rw[←hk];exact h.1,h.2▸jU _ _⟩))) ?_;simp only[Act.put,jZ,jX,jY];refine AtN.go 8 ?_
    iterate 2 (refine AtC.take (o:=⟨_,_,_,_,_,_⟩) (v:=?_) qQ rfl qV qQ qQ ?_ ?_;rotate_left;(focus(first|exact uJ.skip qK|(refine uJ.val qK ?_;intro w' hS;obtain⟨_,_,_,_⟩:=hS;go_simp;first|done|with_reducible rfl)));simp only[Act.put,jZ,jX,jY])
    refine AtC.back ?_;refine AtN.one 10 (o:=⟨_,_,_,_,_,_⟩) (fun v=>∃g1 cap,v=.agg #[.slice (some ⟨g1,0,none⟩) r.cs.length cap,.bool r.cont]) (fun v w'=>∃g1 cap,v=.agg #[.slice (some ⟨g1,0,none⟩) r.cs.length cap,.bool r.cont]∧yO w' ⟨some ⟨g1,0,none⟩,r.cs,cap,r.cont⟩) qV qQ rfl (fun v w1 w2 ⟨g1,cap,hv,hr⟩ hb=>⟨g1,cap,hv,hr.below hb⟩) (uJ.call 250 #[.agg #[.slice r.A r.cs.length r.cap,.bool r.cont]] _ _ qK ?_ (fun w' hS=>?_)) ?_
    · intro w'
      go_simp
    · refine(HOWN.o r w' (HRR.o.1.below (jM HB.o hS.1)) HRR.o.2).mono ?_;rintro e w3 ⟨g1,cap,rfl,hrc,hb,-⟩;exact⟨_,rfl,⟨⟨g1,cap,rfl⟩,g1,cap,rfl,hrc⟩,hb⟩
    rintro v ⟨g1,cap,rfl⟩;simp only[Act.put,jZ,jX,jY];refine AtN.one 11 (o:=⟨_,_,_,_,_,_⟩) (fun v=>∃k,v=.slice (some ⟨k,0,none⟩) 1 1) (fun v w'=>∃k,v=.slice (some ⟨k,0,none⟩) 1 1∧w'.heap[k]? =some (.cells #[.slice (some ⟨g1,0,none⟩) r.cs.length cap,.bool r.cont] 52 (0,0))) qV qQ rfl (fun v w1 w2 ⟨k,hv,hk⟩ hb=>⟨k,hv,(hb.block k (jL hk)).trans hk⟩) (uJ.new _ _ qK (fun w' hS=>?_)) ?_
    · exact⟨.slice (some ⟨w'.heap.size,0,none⟩) 1 1,w'.alloc (.cells #[.slice (some ⟨g1,0,none⟩) r.cs.length cap,.bool r.cont] 52),by go_simp,⟨_,rfl⟩,⟨_,rfl,jA rfl⟩,jH (jU _ _) _⟩
    rintro v ⟨kb,rfl⟩;simp only[Act.put,jZ,jX,jY];refine AtN.done qQ (fun w' hS=>?_);obtain⟨⟨⟨hb1,-⟩,g1',cap',hv',hrc'⟩,kb',hvk,hkb⟩:=hS;simp only[Value.agg.injEq,Array.mk.injEq,List.cons.injEq,Value.slice.injEq,Option.some.injEq,Addr.mk.injEq,and_true,true_and]at hv' hvk;obtain⟨rfl,rfl⟩:=hv';subst hvk;have HBW:=Hd (jM HB.o hb1);have HRO1:=Hd (HRO.o.below hb1);have HRC1:=Hd hrc';have HKB:=Hd hkb;clear hb1 hrc' hkb x0 x2 r0 r1;simp only[jR,jO];refine vW rfl (.tmp 10) (.tmp 21) 46 rfl w.heap.size 52 j0 _ 2 32 Tryz.underlying46 hj gz0 gz1 gz2 rfl qZ (.slice A3 L.length c3) L.length (uY gI L) (by rw[HL.o];rfl) HRO1.o.1 ⟨kb,0,none⟩ 1 1 (gI ⟨some ⟨g1,0,none⟩,r.cs,cap,r.cont⟩) rfl rfl ?_ (iN _) ?_ ?_ ?_ ?_
    all_goals first
     |(have :=HL.o;omega)
     |(simp only[maxLen];have :=HL.o;omega)
     |exact HBW.o.size
     |skip
    · intro j u hj;rw[vC,kP];exact(at_ HKB.o j u (by simpa[gI]using hj)).1
    · intro v' w3 ho hg hv';have HRO2:=Hd (HRO1.o.push (r:=⟨some ⟨g1,0,none⟩,r.cs,cap,r.cont⟩) ho hg HRC1.o HRR.o.2);have HB3:=Hd (HBW.o.grown hg HBW.o.size (fun x hx=>(HRO1.o.1.lt x hx).1));clear ho hg hv';obtain⟨A4,c4,hv4⟩:=uI HRO2.o.1;subst hv4
      go_wp2
      go_roundw
      case rel=>exact⟨i+1,L++[⟨some ⟨g1,0,none⟩,r.cs,cap,r.cont⟩],by go_num,by omega,by rw[jC,HL.o];rfl,by have :=HRO2.o;rw[jC]at this;exact this,by rw[uE,HMP.o,List.take_add_one,HHI.o,uE];rfl,HB3.o⟩
      case measure=>simp[intOf];omega
end
section
variable {base:Nat}{w:World}{q:Pv}{g:Pg}
set_option maxHeartbeats 3200000 in
theorem qJn(h:PgO base w q g):Calls jG 88 #[.pointer (some ⟨q.P,0,none⟩)] w (Ue (g.hist++g.scr) w):=by
 obtain⟨j0,hj,gz0,gz1,gz2⟩:=info_parts nG;have HALL:=Hd (qQ4 h.ring);rw[h.hist]at HALL;have H:=Hd h;have hh:=h.hist100k;have hrows:=h.rows1000;obtain⟨⟨x0,-⟩,⟨x1,-⟩,-⟩:=h.cells;obtain⟨AS,cS,hvS⟩:=h.vform;rw[hvS]at x1;have HOWN:=Hd (fun(r:Rh) (w':World) (h:yO w' r) (h0:0<r.cs.length)=>qJh r w' h h0);obtain⟨m,hm⟩:∃m,q.S.length=m:=⟨_,rfl⟩;rw[hm]at x1 hrows;have HM:=Hd hm;have HVS:=Hd hvS;clear h hm hvS
 go_enter Tryz.func88,Tryz.ntmps88
 go_upto_region 4 with(go_at_call 159;refine HALL.o.mono ?_;rintro e w1 ⟨v0,L0,rfl,hro,hmp,hb⟩;have HRO:=Hd hro;have HMP:=Hd hmp;have HB:=Hd hb;have x1':=kZ hb x1;clear hro hmp hb x1)
 go_wp2_with fail
 go_loopw [3,18] (fun s3 s18 wr=>∃(i:Nat) (L:List Rh),s18=.int .i64 i∧i≤m∧L.length=L0.length+i∧sP w.heap.size wr s3 L∧L.map yW=g.hist++(q.S.take i).map yW∧Below w.heap.size w wr) (fun _ s18 _=>m-(intOf s18).toNat)
 case atStart=>exact⟨0,L0,rfl,kB _,rfl,HRO.o,by rw[HMP.o];simp,HB.o⟩
 case round=>
  obtain⟨i,L,rfl,hi,hL,hRo,hmap,hb⟩:=hrel;have hL0:L0.length≤100000:=by have :=congrArg List.length HMP.o;simp at this;omega
  obtain⟨bx,rfl⟩:∃bx:Value×Unit,u3=bx.1:=⟨(u3,()),rfl⟩;have HRO2:=Hd hRo;have HMP2:=Hd hmap;have HB2:=Hd hb;have HL:=Hd hL;clear hRo hmap hb hL
  by_cases hlt:i<m
  rotate_left
  · obtain rfl:i=m:=by omega
    go_wp2
    go_ret
    exact⟨_,L,rfl,HRO2.o,by rw[HMP2.o,←HM.o,List.take_length,H.o.scr],HB2.o⟩
  · have hltI:(i:Int)<(m:Int):=by omega
    have hiS:i<q.S.length:=by rw[HM.o];exact hlt
    obtain⟨r,hr⟩:∃r,q.S[i]? =some r:=⟨_,jN hiS⟩;obtain⟨hrc,hrl⟩:=H.o.rows r (uW hr);obtain⟨gs,cs,hvs⟩:=gV H.o.own qJ;have hAS:AS=some ⟨gs,0,none⟩:=by have :=HVS.o;rw[hvs]at this;simp only[Value.slice.injEq]at this;exact this.1.symm
    have hownS:=(H.o.below HB2.o).own;rw[hvs]at hownS;obtain⟨⟨r0,-⟩,r1,-⟩:=yI hownS hr;have HRC:=Hd (hrc.below HB2.o);have h0r:0<r.cs.length:=by rw[hrl];have :=H.o.cols2;omega
    have HRR:=Hd h0r;have HR:=Hd hr;clear hr hownS hvs hrc hrl;subst hAS;have hb5:=jH (jU wr.heap.size wr) (.cells #[.slice r.A r.cs.length r.cap,.bool r.cont] 52);have HO5:=Hd (HOWN.o r (wr.alloc (.cells #[.slice r.A r.cs.length r.cap,.bool r.cont] 52)) (HRC.o.below hb5) h0r);have HB5:=Hd hb5;clear hb5
    go_wp2_with(first
     |(go_at_call 160;refine HO5.o.mono ?_;rintro e w6 ⟨g1,cap,rfl,hrc,hb,-⟩;have HRC6:=Hd hrc;have HB6:=Hd (jM HB5.o hb);clear hrc hb)
     |(refine vW rfl (.tmp 22) (.tmp 25) 46 rfl w.heap.size 52 j0 _ 2 32 Tryz.underlying46 hj gz0 gz1 gz2 rfl qZ bx.1 L.length (uY gI L) rfl ((HRO2.o.below HB6.o).below (jH (jU _ _) _)).1 ⟨w6.heap.size,0,none⟩ 1 1 (gI ⟨some ⟨g1,0,none⟩,r.cs,cap,r.cont⟩) rfl rfl ?_ (iN _) ?_ ?_ ?_ ?_))
    all_goals first
     |(have :=HL.o;omega)
     |(simp only[maxLen];have :=HL.o;omega)
     |(have :=HB2.o.size;have :=HB6.o.size;simp;omega)
     |skip
    · intro j u hj;rw[vC,kP];exact(at_ (jA rfl) j u (by simpa[gI]using hj)).1
    · intro v' w7 ho hg hv';have hb7:=jH (jU w6.heap.size w6) (.cells #[.slice (some ⟨g1,0,none⟩) r.cs.length cap,.bool r.cont] 52);have HB7:=Hd (jM HB6.o hb7);have HRO7:=Hd (((HRO2.o.below HB6.o).below hb7).push (r:=⟨some ⟨g1,0,none⟩,r.cs,cap,r.cont⟩) ho hg (HRC6.o.below hb7) HRR.o);have HB8:=Hd ((jM HB2.o HB7.o).grown hg (jM HB2.o HB7.o).size (fun x hx=>((HRO2.o.below HB7.o).1.lt x hx).1));clear ho hg hv' hb7
      go_wp2
      go_roundw
      case rel=>exact⟨i+1,L++[⟨some ⟨g1,0,none⟩,r.cs,cap,r.cont⟩],by go_num,by omega,by rw[jC,HL.o];rfl,HRO7.o,by rw[uE,HMP2.o,List.take_add_one,HR.o,uE,kG];rfl,HB8.o⟩
      case measure=>simp[intOf];omega
end
def Zm(base:Nat)(w:World)(T:Nat)(vw:Value)(st':List Bool)(w':World):Prop:=
 ∃vw' ws',TbO base w' T vw' ws' st'∧Mod (tbX T vw) w w'∧∀b∈tbX T vw',b∈tbX T vw∨w.heap.size≤b
theorem qJz:(jG.info? 206).map (fun i=>(i.zero,i.size,i.bytes))=some (some (.int .u64 0),1,8):=by kernel_rfl
theorem wds_any{ws:List Nat}{st st2:List Bool}(h:lB ws st)(hl:st2.length≤64*ws.length)(hg:∀y,st2.getD y false=st.getD y false):lB ws st2:=
 ⟨hl,fun i n hn=>⟨(h.2 i n hn).1,fun k hk=>by rw[(h.2 i n hn).2 k hk,hg]⟩⟩
theorem qJ6{a b:List Bool}(hl:a.length=b.length)(h:∀y,y<a.length→a.getD y false=b.getD y false):a=b:=by
 apply List.ext_getElem hl;intro i h1 h2;have :=h i h1;rw[kV,kV,jN h1,jN h2]at this;exact this
theorem ZM{n y:Nat}(f:Nat→Bool):((List.range n).map f).getD y false=if y<n then f y else false:=by
 rw[kV,uV]
 by_cases h:y<n
 · rw[List.getElem?_range h,if_pos h];rfl
 · rw[uZ qT,if_neg h];rfl
def cV(st:List Bool)(cols:Nat):List Bool:=(List.range cols).map (fun y=>if y<st.length then st.getD y false else decide (y%8=0))
section
variable {base:Nat}{w:World}{T:Nat}{vw:Value}{ws:List Nat}{st:List Bool}
theorem Zm.set{w1 w2:World}{st2:List Bool}{vw1:Value}(hm:Mod (tbX T vw) w w1)(hx:∀b∈tbX T vw1,b∈tbX T vw∨w.heap.size≤b)(h2:wC base w1 T vw1 st2 w2):Zm base w T vw st2 w2:=by
 obtain⟨ws2,ho,hm2⟩:=h2;exact⟨vw1,ws2,ho,hm.trans hm2 (fun b hb=>hx b (by simp only[tbX,kJ];exact .inr hb)),hx⟩
theorem Qs(c:Int)(w:World):Calls jG 113 #[.int .i64 c] w fun e w'=>e=.returned (.bool (decide (2≤c)&&decide (c≤1000)))∧w=w':=by
 by_cases h1:2≤c
 · go_enter Tryz.func113,Tryz.ntmps113
   go_wp2
   go_ret
   simp[h1]
 · go_enter Tryz.func113,Tryz.ntmps113
   go_wp2
   go_ret
   simp;omega
theorem TbO.ne(h:TbO base w T vw ws st):T∉vw.ownBlock.toList:=fun hb=>by
 obtain⟨cur,hc⟩:=uD h.own (jT.1 hb);exact qZe
theorem TbO.rewords{w1:World}{v':Value}{ws':List Nat}(h:TbO base w T vw ws st)(ho:w1.ownsRow base 206 1 v' ws'.length (uY J8 ws'))(hm:Mod vw.ownBlock.toList w w1)(hv:∀b,v'.ownBlock=some b→vw.ownBlock=some b∨w.heap.size≤b)(hw:lB ws' st)(hf:ws'.length≤16):
 TbO base (w1.setCell ⟨T,0,none⟩ v') T v' ws' st∧Mod (tbX T vw) w (w1.setCell ⟨T,0,none⟩ v')∧∀b∈tbX T v',b∈tbX T vw∨w.heap.size≤b:=by
 have hT:=(hm.block T (kN.1 h.blk).1 h.ne).trans h.blk;have hTl:=(kN.1 h.blk).1;have hT2:∀b,v'.ownBlock=some b→b∉[T]:=fun b hb hx=>by
  rw[jW.1 hx]at hb;rcases hv T hb with h1|h1
  · exact h.ne (jT.2 h1)
  · omega
 have hM1:Mod [T] w1 (w1.setCell ⟨T,0,none⟩ v'):=(Mod.refl _ _).setCell (a:=⟨T,0,none⟩) (.inl qV) _;refine⟨⟨vL hT,h.hb,kC ho hM1 hT2,hw,h.le,hf⟩,(hm.mono (fun b hb=>by simp only[tbX,kJ];exact .inr hb)).setCell (a:=⟨T,0,none⟩) (.inl (by simp[tbX])) _,fun b hb=>?_⟩;rcases kJ.1 hb with rfl|hb
 · exact .inl (by simp[tbX])
 · rcases hv b (jT.1 hb)with h1|h1
   · exact .inl (by simp only[tbX,kJ,jT];exact .inr h1)
   · exact .inr h1
theorem TbO.recols{st':List Bool}(h:TbO base w T vw ws st)(hl:st'.length≤64*ws.length)(h3:st'.length≤1000)(hg:∀y,st'.getD y false=st.getD y false):
 TbO base (w.setCell ⟨T,1,none⟩ (.int .i64 st'.length)) T vw ws st'∧Mod (tbX T vw) w (w.setCell ⟨T,1,none⟩ (.int .i64 st'.length)):=by
 have hM1:Mod [T] w (w.setCell ⟨T,1,none⟩ (.int .i64 st'.length)):=(Mod.refl _ _).setCell (a:=⟨T,1,none⟩) (.inl qV) _;exact⟨⟨vL h.blk,h.hb,kC h.own hM1 (fun b hb hx=>h.ne (by rw[←jW.1 hx];exact jT.2 hb)),wds_any h.wds hl hg,h3,h.few⟩,hM1.mono (fun b hb=>by rw[jW.1 hb];simp[tbX])⟩
def Yw(base:Nat)(w:World)(T:Nat)(vw:Value)(st':List Bool)(e:Ending)(w':World):Prop:=e=.returned (.int .i64 0)∧Zm base w T vw st' w'
set_option maxHeartbeats 1600000 in
theorem qQo(h:TbO base w T vw ws st)(cols:Nat)(h2:2≤cols)(h3:cols≤1000):Calls jG 80 #[.pointer (some ⟨T,0,none⟩),.int .i64 cols] w (Yw base w T vw (cV st cols)):=by
 obtain⟨j0,hj,gz0,gz1,gz2⟩:=info_parts qJz;have HF:=Hd (fun w=>Qs cols w);have hf:(decide (2≤(cols:Int))&&decide ((cols:Int)≤1000))=true:=by simp;omega
 rw[hf]at HF;clear hf;obtain⟨-,x1,-⟩:=h.cells;have H:=Hd h;have hle:=h.le;have hTl:=vG x1;obtain⟨was,hwas⟩:∃was,st.length=was:=⟨_,rfl⟩;rw[hwas]at x1 hle;have HW:=Hd hwas;clear h hwas
 go_enter Tryz.func80,Tryz.ntmps80
 go_wp2_with(go_at_call 113;refine(HF.o _).mono ?_;rintro e w1 ⟨rfl,rfl⟩)
 go_loopw [6] (fun s6 wr=>∃x:Nat,s6=.int .i64 x∧cols≤x∧(x≤was∨x=cols)∧∃st1,wC base w T vw st1 wr∧st1.length=was∧∀y,st1.getD y false=if cols≤y∧y<x then false else st.getD y false) (fun s6 _=>was-(intOf s6).toNat)
 case atStart=>exact⟨cols,rfl,jD _,.inr rfl,st,⟨ws,H.o,Mod.refl _ _⟩,HW.o,fun y=>by rw[if_neg qJ]⟩
 case round=>
  obtain⟨x,rfl,hx1,hx2,st1,hs,hsl,hsg⟩:=hrel;have HS:=Hd hs;have HG:=Hd hsg;have HL:=Hd hsl;clear hs hsg hsl
  by_cases hlt:x<was
  · have hltI:(x:Int)<(was:Int):=by omega
    obtain⟨ws1,ho,hm⟩:=HS.o;have HC:=Hd (XF ho x);have HM:=Hd hm;clear ho hm
    go_wp2_with(go_at_call 150;refine HC.o.mono ?_;rintro e w2 ⟨rfl,hs2⟩;have HS2:=Hd hs2;clear hs2)
    go_roundw
    case rel=>
     obtain⟨ws2,ho2,hm2⟩:=HS2.o;refine⟨x+1,by go_num,by omega,.inl qJ,_,⟨ws2,ho2,HM.o.trans hm2 (fun b hb=>.inl hb)⟩,?_,fun y=>?_⟩
     · unfold VW;split
       · rw[kI];exact HL.o
       · exact HL.o
     · unfold VW;rw[if_pos ⟨by omega,by rw[HL.o];omega⟩,vQ,iY (by rw[HL.o];exact hlt),HG.o y]
       by_cases hxy:x=y
       · rw[if_pos hxy,if_pos qJ]
       · rw[if_neg hxy]
         by_cases hc:cols≤y∧y<x
         · rw[if_pos hc,if_pos qJ]
         · rw[if_neg hc,if_neg qJ]
    case measure=>simp[intOf];omega
  · have hltI:¬(x:Int)<(was:Int):=by omega
    have HG1:Hid (∀y,st1.getD y false=if cols≤y then false else st.getD y false):=Hd (fun y=>by
     rw[HG.o y]
     by_cases hc:cols≤y∧y<x
     · rw[if_pos hc,if_pos hc.1]
     · rw[if_neg hc]
       by_cases hy:cols≤y
       · rw[if_pos hy,aF (by rw[HW.o];omega)]
       · rw[if_neg hy])
    have HR0:Hid (Zm base w T vw st1 wr):=Hd (by
     obtain⟨ws1,ho,hm⟩:=HS.o;exact⟨vw,ws1,ho,hm.mono (fun b hb=>by simp only[tbX,kJ];exact .inr hb),fun b hb=>.inl hb⟩)
    clear HG HS
    go_wp2_with fail
    go_loopg [35] 16 (fun k _ w2=>∃vw' ws',TbO base w2 T vw' ws' st1∧Mod (tbX T vw) w w2∧(∀b∈tbX T vw',b∈tbX T vw∨w.heap.size≤b)∧(16≤k+ws'.length))
    case atStart=>
     obtain⟨vw',ws',ho,hm,hx⟩:=HR0.o;exact⟨vw',ws',ho,hm,hx,by omega⟩
    case round=>
     obtain⟨vw1,ws1,ho1,hm1,hx1',hk1⟩:=hrel;obtain⟨A1,c1,hv1⟩:=ho1.vform;obtain⟨⟨z0,z0f⟩,z1,z1f⟩:=ho1.cells;rw[hv1]at z0;have hTw:=vG z1;have HO1:=Hd ho1;have HM1:=Hd hm1;have HX1:=Hd hx1';obtain⟨n1,hn1⟩:∃n1,ws1.length=n1:=⟨_,rfl⟩;have HN1:=Hd hn1;rw[hn1]at z0 hk1 hv1;have HV1:=Hd hv1;clear ho1 hm1 hx1' hn1 hv1 z1 z1f
     by_cases hlt2:64*n1<cols
     · have hn16:n1<16:=by omega
       have hw64:jE.wrap ((n1:Int)*64)=(n1:Int)*64:=jF _ qJ;have hltI2:(n1:Int)*64<(cols:Int):=by omega
       obtain⟨W2,hW2⟩:∃W2,wr.alloc (.cells #[.int .u64 0] 206)=W2:=⟨_,rfl⟩;have hb2:Below wr.heap.size wr W2:=by rw[←hW2];exact jH (jU _ _) _
       have HNW:=Hd (show W2.heap[wr.heap.size]? =some (.cells #[.int .u64 0] 206 (0,0))from by rw[←hW2];exact jA rfl);have HB2:=Hd hb2;have HOB:=Hd (show W2.ownsRow base 206 1 (.slice A1 n1 c1) n1 (uY J8 ws1)from by have :=(HO1.o.below hb2).own;rw[HV1.o,HN1.o]at this;exact this);have hbw2:base≤W2.heap.size:=by have :=HO1.o.hb;have :=hb2.size;omega
       clear hb2
       go_wp2_with(refine vW rfl (.tmp 40) (.tmp 41) 177 rfl base 206 j0 _ 1 8 Tryz.underlying177 hj gz0 gz1 gz2 rfl qZ (.slice A1 n1 c1) n1 (uY J8 ws1) rfl HOB.o ⟨wr.heap.size,0,none⟩ 1 1 [.int .u64 0] rfl rfl ?_ ?_ ?_ ?_ ?_ ?_)
       all_goals first
        |omega
        |(simp only[maxLen];omega)
        |skip
       · intro j u hj;rw[vC,kP];exact(at_ HNW.o j u qH).1
       · intro u hu;obtain rfl:=jW.1 hu;rfl
       · intro v' w' ho hg hv';have HMG:Hid (Mod vw1.ownBlock.toList wr w'):=Hd ((Mod.of_below (X:=vw1.ownBlock.toList) HB2.o).trans (Mod.of_grown (X:=vw1.ownBlock.toList) hg (fun g hg=>by rw[HV1.o,hg];simp)) (fun g hg=>.inl hg));have HR:=Hd (HO1.o.rewords (ws':=ws1++[0]) (by rw[jC,HN1.o,uR];exact ho) HMG.o (fun b hb=>(hv' b hb).imp (fun h=>by rw[HV1.o];exact h) (fun h=>by have :=HB2.o.size;omega)) (qQb HO1.o.wds) (by rw[jC,HN1.o];simp;omega));obtain⟨y0,y0f⟩:=HMG.o.hold HO1.o.ne HO1.o.cells.1;obtain⟨A',c',hvf⟩:=uI ho;clear ho hg hv' hW2;subst hvf
         go_wp2
         go_roundg (gk-1)
         case rel=>
          obtain⟨r1,r2,r3⟩:=HR.o;refine⟨_,ws1++[0],r1,HM1.o.trans r2 HX1.o,fun b hb=>?_,by rw[jC,HN1.o];simp;omega⟩;rcases r3 b hb with h|h
          · exact HX1.o b h
          · exact .inr (jI HM1.o.size h)
         case measure=>omega
     · have hn17:n1≤16:=by rw[←HN1.o];exact HO1.o.few
       have hw64:jE.wrap ((n1:Int)*64)=(n1:Int)*64:=jF _ qJ;have hltI2:¬(n1:Int)*64<(cols:Int):=by omega
       obtain⟨st2,hst2⟩:∃st2,(List.range cols).map (fun y=>st1.getD y false)=st2:=⟨_,rfl⟩;have hl2:st2.length=cols:=by rw[←hst2];simp
       have hg2:∀y,st2.getD y false=st1.getD y false:=fun y=>by
        rw[←hst2,ZM]
        by_cases hy:y<cols
        · rw[if_pos hy]
        · rw[if_neg hy,HG1.o y,if_pos qJ]
       have HRC:=Hd (HO1.o.recols (st':=st2) (by rw[hl2,HN1.o];omega) (by rw[hl2];exact h3) hg2);rw[hl2]at HRC;have HL2:=Hd hl2;have HG2:Hid (∀y,st2.getD y false=if cols≤y then false else st.getD y false):=Hd (fun y=>by rw[hg2 y];exact HG1.o y);obtain⟨-,z1,z1f⟩:=HO1.o.cells;clear hg2 hl2 hst2 HG1 HV1
       go_wp2_with fail
       generalize uB _ _ _=W3 at HRC ⊢;clear z0 z0f z1 z1f
       go_loopw [7] (fun s7 w4=>∃x:Nat,s7=.int .i64 x∧was≤x∧(x≤cols∨x=was)∧∃st3,wC base W3 T vw1 st3 w4∧st3.length=cols∧∀y,y<cols→st3.getD y false=if was≤y∧y<x then decide (y%8=0)else st2.getD y false) (fun s7 _=>cols-(intOf s7).toNat)
       case atStart=>exact⟨was,rfl,jD _,.inr rfl,st2,⟨ws1,HRC.o.1,Mod.refl _ _⟩,HL2.o,fun y _=>by rw[if_neg qJ]⟩
       case round=>
        obtain⟨x,rfl,hx1,hx2,st3,hs,hsl,hsg⟩:=hrel;have HS:=Hd hs;have HG:=Hd hsg;have HL:=Hd hsl;clear hs hsg hsl
        by_cases hlt3:x<cols
        · have hltI3:(x:Int)<(cols:Int):=by omega
          have h8:(x:Int).tmod 8=((x%8:Nat):Int):=by rw[Int.tmod_eq_emod_of_nonneg qJ];omega
          by_cases hx8:x%8=0
          · rw[hx8]at h8;obtain⟨ws3,ho,hm⟩:=HS.o;have HC:=Hd (qQq ho x);have HM:=Hd hm;clear ho hm
            go_wp2_with(go_at_call 151;refine HC.o.mono ?_;rintro e w5 ⟨rfl,hs2⟩;have HS2:=Hd hs2;clear hs2)
            go_roundw
            case rel=>
             obtain⟨ws4,ho4,hm4⟩:=HS2.o;refine⟨x+1,by go_num,by omega,.inl qJ,_,⟨ws4,ho4,HM.o.trans hm4 (fun b hb=>.inl hb)⟩,?_,fun y hy=>?_⟩
             · unfold VW;split
               · rw[kI];exact HL.o
               · exact HL.o
             · unfold VW;rw[if_pos ⟨by omega,by rw[HL.o];omega⟩,vQ,iY (by rw[HL.o];exact hlt3),HG.o y hy]
               by_cases hxy:x=y
               · subst hxy;rw[if_pos rfl,if_pos qJ,decide_eq_true hx8]
               · rw[if_neg hxy]
                 by_cases hc:was≤y∧y<x
                 · rw[if_pos hc,if_pos qJ]
                 · rw[if_neg hc,if_neg qJ]
            case measure=>simp[intOf];omega
          · have h8':¬(x:Int).tmod 8=0:=by omega
            go_wp2_with fail
            go_roundw
            case rel=>
             refine⟨x+1,by go_num,by omega,.inl qJ,st3,HS.o,HL.o,fun y hy=>?_⟩;rw[HG.o y hy]
             by_cases hxy:x=y
             · subst hxy;rw[if_neg qJ,if_pos qJ,decide_eq_false hx8,HG2.o x,if_neg qJ,aF (by rw[HW.o];omega)]
             · by_cases hc:was≤y∧y<x
               · rw[if_pos hc,if_pos qJ]
               · rw[if_neg hc,if_neg qJ]
            case measure=>simp[intOf];omega
        · have hltI3:¬(x:Int)<(cols:Int):=by omega
          go_wp2
          go_ret
          have he:st3=cV st cols:=by
           refine qJ6 (by rw[HL.o];simp[cV]) (fun y hy=>?_);rw[HL.o]at hy;unfold cV;rw[HG.o y hy,ZM,if_pos hy,HW.o]
           by_cases hw:y<was
           · rw[if_neg qJ,if_pos hw,HG2.o y,if_neg qJ]
           · rw[if_pos qJ,if_neg hw]
          rw[he]at HS;exact⟨rfl,Zm.set (HM1.o.trans HRC.o.2 HX1.o) HX1.o HS.o⟩
def Y9(cols:Nat)(w:World)(e:Ending)(w':World):Prop:=∃T vw ws,e=.returned (.tuple #[.pointer (some ⟨T,0,none⟩),.int .i64 0])∧TbO w.heap.size w' T vw ws (cV [] cols)∧Below w.heap.size w w'
set_option maxHeartbeats 1600000 in
theorem tnew_ok(cols:Nat)(w:World)(h2:2≤cols)(h3:cols≤1000):Calls jG 63 #[.int .i64 cols] w (Y9 cols w):=by
 have HF:=Hd (fun w=>Qs cols w);have hf:(decide (2≤(cols:Int))&&decide ((cols:Int)≤1000))=true:=by simp;omega
 rw[hf]at HF;clear hf;have hO:TbO w.heap.size (w.alloc (.cells #[.slice none 0 0,.int .i64 0] 179)) w.heap.size (.slice none 0 0) [] []:=
  ⟨jA rfl,jD _,kD _ _ _ _,⟨kB _,fun i n hn=>by simp at hn⟩,by simp,by simp⟩
 have HS:=Hd (qQo hO cols h2 h3);have HB:=Hd (jH (jU w.heap.size w) (.cells #[.slice none 0 0,.int .i64 0] 179));clear hO
 go_enter Tryz.func63,Tryz.ntmps63
 go_wp2_with(first
  |(go_at_call 113;refine(HF.o _).mono ?_;rintro e w1 ⟨rfl,rfl⟩)
  |(go_at_call 80;refine HS.o.mono ?_;rintro e w2 ⟨rfl,hs⟩;have HR:=Hd hs;clear hs))
 go_ret2
 obtain⟨vw,ws,h1,hm,-⟩:=HR.o;exact⟨w.heap.size,vw,ws,rfl,h1,HB.o.trans (hm.below (B:=w.heap.size) (fun b hb=>by simp[tbX,Value.ownBlock]at hb;omega) qV)⟩
end
end Go.Proofs.YtaefcahblmopfaaGreatDoor
