/- Joined by a tool of this claim out of smaller texts. Conditions: as stated. -/
import Derived.Test.YtaefcahblmopfaaGreatDoorDj22
set_option linter.unusedVariables false
set_option linter.unusedSimpArgs false
set_option maxRecDepth 100000
open Go.Lib renaming hid → Hd
open List renaming setIfInBounds_toArray → jZ, set_cons_zero → jX, set_cons_succ → jY, mem_singleton → jM, getElem?_eq_getElem → jN, getElem?_eq_some_iff → jP, drop_succ_cons → jL, take_succ_cons → jS, drop_zero → jO, take_succ_eq_append_getElem → kQ, mem_cons → kJ, take_zero → kK, getD_eq_getElem?_getD → kX, mem_append → kU, take_of_length_le → vY, getElem?_drop → gN
open Go.Proofs.Tryz renaming prog → jG
open Go.RowKit.Below renaming refl → jU
open Nat renaming le_refl → jD, zero_le → kM
open Go.IntWalk renaming i64_in → jF
open Go.IntKind renaming i64 → jE
open And renaming intro → kY
namespace Go.Proofs.YtaefcahblmopfaaGreatDoor
open Go.RowKit
section
variable {P:Program}
theorem sK{fn:Func}{p u:Tmp}{ty:TypeId}(h:fn.results=#[.cell p ty,.tmp u])(tmps:Array Value)(w:World):
 (results fn tmps).run P w=((asAddr (tmps.getD p undef)).run P w).andThen fun a w1=>((loadVar ty a).run P w1).andThen fun v w2=>.ok (.tuple #[v,tmps.getD u undef]) w2:=by
 simp only[results,h];simp[Sem.run_bind,Result.andThen]
theorem pH{fn:Func}{u p:Tmp}{ty:TypeId}{d:TypeDesc}(hr:fn.results=#[.cell p ty,.tmp u])(tmps:Array Value)(w:World)(b:Nat)(cs:List Value)(hp:tmps.getD p undef=.pointer (some ⟨b,0,none⟩))(h:w.rangeAt b 0 cs)
 (hu:P.underlying ty=some d) (hd:d.isRow=true) (hi:(P.info? ty).map (·.size)=some cs.length):(results fn tmps).run P w=.ok (.tuple #[.agg cs.toArray,tmps.getD u undef]) w:=by
 rw[sK hr,hp];have :=run_loadVar_mid (P:=P) w b 0 ty cs _ h hu hd hi;simp only[asAddr,Sem.run_pure,Result.andThen_ok,this]
end
theorem tQ(v lo hi:Int)(w:World)(h1:0≤lo)(h2:lo≤1000)(h3:0≤hi)(h4:hi≤1000)(hv:0≤v)(hv2:v≤65535):Calls jG 387 #[.int .i64 v,.int .i64 lo,.int .i64 hi] w (VW v lo hi w):=by
 have w1:jE.wrap (lo+8)=lo+8:=jF _ qJ;have w2:jE.wrap (hi+8)=hi+8:=jF _ qJ;have w3:jE.wrap (v-lo)=v-lo:=jF _ qJ;have w4:jE.wrap (v-hi)=v-hi:=jF _ qJ;have w5:jE.wrap (v-hi+8)=v-hi+8:=jF _ qJ;have w6:jE.wrap (lo+9)=lo+9:=jF _ qJ;unfold VW cH
 by_cases a1:lo≤v∧v<lo+8
 · rw[if_pos a1];obtain⟨b1,b2⟩:=a1
   go_enter Tryz.func387,Tryz.ntmps387
   go_wp2
   exact bodyPost_ret (pH rfl _ _ w.heap.size [.int .i64 1,.int .i64 (v-lo)] rfl (uH (jT rfl)) Tryz.underlying61 rfl gB) rfl ⟨rfl,jH (jU _ _) _⟩
 rw[if_neg a1];have a1':(lo≤v∧¬v<lo+8)∨¬lo≤v:=by omega
 clear a1
 by_cases a2:hi≤v∧v<hi+8
 · rw[if_pos a2];obtain⟨b1,b2⟩:=a2;rcases a1' with⟨c1,c2⟩|c1
   all_goals
    go_enter Tryz.func387,Tryz.ntmps387
    go_wp2
    exact bodyPost_ret (pH rfl _ _ w.heap.size [.int .i64 1,.int .i64 (v-hi+8)] rfl (uH (jT rfl)) Tryz.underlying61 rfl gB) rfl ⟨rfl,jH (jU _ _) _⟩
 · rw[if_neg a2];have a2':(hi≤v∧¬v<hi+8)∨¬hi≤v:=by omega
   clear a2;rcases a1' with⟨c1,c2⟩|c1<;>rcases a2' with⟨d1,d2⟩|d1
   all_goals
    go_enter Tryz.func387,Tryz.ntmps387
    go_wp2
    exact bodyPost_ret (pH rfl _ _ w.heap.size [.int .i64 0,.int .i64 0] rfl (uH (jT rfl)) Tryz.underlying61 rfl gB) rfl ⟨rfl,jH (jU _ _) _⟩
def f21(f v:Int):Int:=if v=21 then bits .or .i64 (bits .andNot .i64 f 8) 256 else f
def QF(f v:Int):Int:=bits .andNot .i64 (bits .or .i64 (f21 f v) (JI v)) (nR v)
def Uv(a:Atr)(v:Int):Atr:=
 ⟨if(cH v 30 90).2 then(cH v 30 90).1.k else a.fk,if(cH v 30 90).2 then(cH v 30 90).1.n else a.fn,if(cH v 40 100).2 then(cH v 40 100).1.k else a.bk,if(cH v 40 100).2 then(cH v 40 100).1.n else a.bn,QF a.fl v⟩
def iA(a:Atr)(w:World)(e:Ending)(w':World):Prop:=e=.returned (.agg (aL a).toArray)∧Below w.heap.size w w'
theorem uW{w:World}{b b2 i:Nat}{v:Value}{o:Obj}(h:w.heap[b]? =some o)(hn:b≠b2):(w.setCell ⟨b2,i,none⟩ v).heap[b]? =some o:=(vT hn).trans h
set_option maxHeartbeats 6400000 in
theorem XU(a:Atr)(v:Int)(w:World)(hv0:v≠0)(hv:0≤v)(hv2:v≤65535):Calls jG 362 #[.agg (aL a).toArray,.int .i64 v] w (iA (Uv a v) w):=by
 have HS:=Hd (fun w=>qQl v w);have HC:=Hd (fun w=>XM v w);have HP1:=Hd (fun w=>tQ v 30 90 w qZ qZ qZ qZ hv hv2);have HP2:=Hd (fun w=>tQ v 40 100 w qZ qZ qZ qZ hv hv2);unfold VW at HP1 HP2;obtain⟨fk,fn,bk,bn,fl⟩:=a;unfold Uv QF;simp only[];obtain⟨p1,hp1⟩:∃p,cH v 30 90=p:=⟨_,rfl⟩;obtain⟨p2,hp2⟩:∃p,cH v 40 100=p:=⟨_,rfl⟩;rw[hp1]at HP1 ⊢;rw[hp2]at HP2 ⊢;clear hp1 hp2;obtain⟨⟨k1,n1⟩,o1⟩:=p1;obtain⟨⟨k2,n2⟩,o2⟩:=p2;simp only[]at HP1 HP2 ⊢;obtain⟨sv,hsv⟩:∃sv,JI v=sv:=⟨_,rfl⟩;obtain⟨cv,hcv⟩:∃sv,nR v=sv:=⟨_,rfl⟩;rw[hsv]at HS ⊢;rw[hcv]at HC ⊢;clear hsv hcv;have hv0q:(v==0)=false:=beq_eq_false_iff_ne.2 hv0;unfold f21 aL;simp only[];obtain⟨g1,hg1⟩:∃g,(if o1=true then k1 else fk)=g:=⟨_,rfl⟩;obtain⟨g2,hg2⟩:∃g,(if o1=true then n1 else fn)=g:=⟨_,rfl⟩;obtain⟨g3,hg3⟩:∃g,(if o2=true then k2 else bk)=g:=⟨_,rfl⟩;obtain⟨g4,hg4⟩:∃g,(if o2=true then n2 else bn)=g:=⟨_,rfl⟩;rw[hg1,hg2,hg3,hg4];have HG1:=Hd (kY hg1 hg2);have HG2:=Hd (kY hg3 hg4);clear hg1 hg2 hg3 hg4
 by_cases h21:v=21
 · rw[if_pos h21];have hq:(v==21)=true:=by rw[h21];rfl
   obtain⟨f1,hf1⟩:∃f1,bits .or .i64 (bits .andNot .i64 fl 8) 256=f1:=⟨_,rfl⟩;rw[hf1];obtain⟨FB,hFB⟩:∃FB,bits .andNot .i64 (bits .or .i64 f1 sv) cv=FB:=⟨_,rfl⟩;rw[hFB];have HFB:=Hd hFB;clear h21 hv0 hv hv2 hFB
   go_enter Tryz.func362,Tryz.ntmps362
   go_upto_region 4 with fail
   generalize hW:World.alloc _ _=W2;have hx:W2.heap[w.heap.size]? =some (.cells (aL ⟨fk,fn,bk,bn,fl⟩).toArray 63 (0,0)):=by rw[←hW];exact vJ (jT rfl)
   have hy:W2.heap[w.heap.size+1]? =some (.cells (aL vI).toArray 63 (0,0)):=by rw[←hW];exact jT qV
   have hb:Below w.heap.size w W2:=by rw[←hW];exact jH (jH (jU _ _) _) _
   clear hW;obtain⟨c4,f4⟩:=at_ hx 4 (.int .i64 fl) rfl
   go_upto_region 5 with fail
   have hx5:(W2.setCell ⟨w.heap.size,4,none⟩ (.int .i64 f1)).heap[w.heap.size]? =some (.cells (aL ⟨fk,fn,bk,bn,f1⟩).toArray 63 (0,0)):=kA hx 4 _ rfl;have hy5:=uW (i:=4) (v:=.int .i64 f1) hy (show w.heap.size+1≠w.heap.size by omega);have hb5:=uK hb (jD w.heap.size) (o:=4) (.int .i64 f1);clear hx hy hb c4 f4 hf1 hq hv0q;generalize W2.setCell ⟨w.heap.size,4,none⟩ (.int .i64 f1)=W5 at hx5 hy5 hb5 ⊢;have HX5:=Hd hx5;have HY5:=Hd hy5;have HB5:=Hd hb5;obtain⟨c4,f4⟩:=at_ hx5 4 (.int .i64 f1) rfl;clear hx5 hy5 hb5;refine kW 9 (fun w'=>Below W5.heap.size W5 w'∧w'.cell? ⟨w.heap.size,4,none⟩=some (.int .i64 f1)) qQ qQ ?_ ?_
   · exact⟨(jU _ _).drew,c4⟩
   simp only[jS,kK,jL,jO]
   repeat(
    (first
     |refine kF qK ?_
     |((refine uO 385 #[.int .i64 v] (.int .i64 sv) qK ?_ (fun w' hS=>(HS.o w').mono fun e w2 ⟨he,hw⟩=>⟨he,hw▸hS⟩) ?_;(focus(intro w2;go_simp;done))))
     |((refine uO 386 #[.int .i64 v] (.int .i64 cv) qK ?_ (fun w' hS=>(HC.o w').mono fun e w2 ⟨he,hw⟩=>⟨he,hw▸hS⟩) ?_;(focus(intro w2;go_simp;done))))
     |(refine kT ?_ qK ?_ ?_;rotate_left;(focus(intro w' hS;obtain⟨_,_⟩:=hS;go_simp;first|done|with_reducible rfl))))
    simp only[Act.put,jZ,jX,jY])
   refine kE (fun w' hS=>?_);have hx6:=(hS.1.block _ (jR HX5.o)).trans HX5.o;have hy6:=(hS.1.block _ (jR HY5.o)).trans HY5.o;have hb6:=jW HB5.o hS.1;clear hS c4 f4;obtain⟨c4,f4⟩:=at_ hx6 4 (.int .i64 f1) rfl;have hFB:=HFB.o
   go_upto_region 6 with fail
   have hx7:(w'.setCell ⟨w.heap.size,4,none⟩ (.int .i64 FB)).heap[w.heap.size]? =some (.cells (aL ⟨fk,fn,bk,bn,FB⟩).toArray 63 (0,0)):=kA hx6 4 _ rfl;have hy7:=uW (i:=4) (v:=.int .i64 FB) hy6 (show w.heap.size+1≠w.heap.size by omega);have hb7:=uK hb6 (jD w.heap.size) (o:=4) (.int .i64 FB);clear hx6 hy6 hb6 c4 f4 hFB;generalize w'.setCell ⟨w.heap.size,4,none⟩ (.int .i64 FB)=W7 at hx7 hy7 hb7 ⊢;have HX:=Hd hx7;have HY:=Hd hy7;have HB:=Hd hb7;clear hx7 hy7 hb7 HX5 HY5 HB5
   go_upto_region 7 with(go_at_call 387;(with_reducible refine(HP1.o _).mono ?_);rintro e w8 ⟨rfl,hb8⟩;have HB8:=Hd hb8;clear hb8)
   generalize hW8:World.alloc _ _=W8;have hb8:Below w8.heap.size w8 W8:=by rw[←hW8];exact jH (jU _ _) _
   have hc8:W8.heap[w8.heap.size]? =some (.cells #[.int .i64 k1,.int .i64 n1] 61 (0,0)):=by rw[←hW8];exact jT rfl
   have hb9:=jW HB8.o hb8;have hx9:=(hb9.block _ (jR HX.o)).trans HX.o;have hy9:=(hb9.block _ (jR HY.o)).trans HY.o;have hB9:=jW HB.o hb9;clear hW8 hb8 hb9 HB8 HX HY HB;obtain⟨d0,-⟩:=at_ hc8 0 (.int .i64 k1) rfl;obtain⟨d1,-⟩:=at_ hc8 1 (.int .i64 n1) rfl;obtain⟨x0,x0f⟩:=at_ hx9 0 (.int .i64 fk) rfl;obtain⟨x1,x1f⟩:=at_ hx9 1 (.int .i64 fn) rfl;have HX9:=Hd hx9;have HY9:=Hd hy9;have HB9:=Hd hB9;clear hc8 hx9 hy9 hB9;cases o1
   case' false=>
    go_upto_region 9 with fail
    clear d0 d1 x0 x0f x1 x1f;have HX:Hid (W8.heap[w.heap.size]? =some (.cells (aL ⟨g1,g2,bk,bn,FB⟩).toArray 63 (0,0))):=Hd (by rw[←HG1.o.1,←HG1.o.2];exact HX9.o);have HY:=HY9;have HB:=HB9
    rename World=>W9
   case' true=>
    go_upto_region 9 with fail
    have HX:Hid (((W8.setCell ⟨w.heap.size,0,none⟩ (.int .i64 k1)).setCell ⟨w.heap.size,1,none⟩ (.int .i64 n1)).heap[w.heap.size]? =some (.cells (aL ⟨g1,g2,bk,bn,FB⟩).toArray 63 (0,0))):=Hd qZn;have HY:Hid (((W8.setCell ⟨w.heap.size,0,none⟩ (.int .i64 k1)).setCell ⟨w.heap.size,1,none⟩ (.int .i64 n1)).heap[w.heap.size+1]? =some (.cells (aL vI).toArray 63 (0,0))):=Hd (uW (uW HY9.o qJ) qJ);have HB:=Hd (uK (uK HB9.o (jD w.heap.size) (o:=0) (.int .i64 k1)) (jD w.heap.size) (o:=1) (.int .i64 n1));clear d0 d1 x0 x0f x1 x1f;generalize (W8.setCell ⟨w.heap.size,0,none⟩ (.int .i64 k1)).setCell ⟨w.heap.size,1,none⟩ (.int .i64 n1)=W9 at HX HY HB ⊢
   all_goals
    clear HX9 HY9 HB9 HP1
    go_upto_region 10 with(go_at_call 387;(with_reducible refine(HP2.o _).mono ?_);rintro e w10 ⟨rfl,hb10⟩;have HB10:=Hd hb10;clear hb10)
    generalize hW10:World.alloc _ _=W10;have hb11:Below w10.heap.size w10 W10:=by rw[←hW10];exact jH (jU _ _) _
    have hc11:W10.heap[w10.heap.size]? =some (.cells #[.int .i64 k2,.int .i64 n2] 61 (0,0)):=by rw[←hW10];exact jT rfl
    have hb12:=jW HB10.o hb11;have hx12:=(hb12.block _ (jR HX.o)).trans HX.o;have hy12:=(hb12.block _ (jR HY.o)).trans HY.o;have hB12:=jW HB.o hb12;clear hW10 hb11 hb12 HB10 HX HY HB;obtain⟨d0,-⟩:=at_ hc11 0 (.int .i64 k2) rfl;obtain⟨d1,-⟩:=at_ hc11 1 (.int .i64 n2) rfl;obtain⟨x2,x2f⟩:=at_ hx12 2 (.int .i64 bk) rfl;obtain⟨x3,x3f⟩:=at_ hx12 3 (.int .i64 bn) rfl;have HX12:=Hd hx12;have HY12:=Hd hy12;have HB12:=Hd hB12;clear hc11 hx12 hy12 hB12;cases o2
    case' false=>
     go_upto_region 12 with fail
     clear d0 d1 x2 x2f x3 x3f;have HX:Hid (W10.heap[w.heap.size]? =some (.cells (aL ⟨g1,g2,g3,g4,FB⟩).toArray 63 (0,0))):=Hd (by rw[←HG2.o.1,←HG2.o.2];exact HX12.o);have HY:=HY12;have HB:=HB12
     rename World=>W11
    case' true=>
     go_upto_region 12 with fail
     have HX:Hid (((W10.setCell ⟨w.heap.size,2,none⟩ (.int .i64 k2)).setCell ⟨w.heap.size,3,none⟩ (.int .i64 n2)).heap[w.heap.size]? =some (.cells (aL ⟨g1,g2,g3,g4,FB⟩).toArray 63 (0,0))):=Hd qZl;have HY:Hid (((W10.setCell ⟨w.heap.size,2,none⟩ (.int .i64 k2)).setCell ⟨w.heap.size,3,none⟩ (.int .i64 n2)).heap[w.heap.size+1]? =some (.cells (aL vI).toArray 63 (0,0))):=Hd (uW (uW HY12.o qJ) qJ);have HB:=Hd (uK (uK HB12.o (jD w.heap.size) (o:=2) (.int .i64 k2)) (jD w.heap.size) (o:=3) (.int .i64 n2));clear d0 d1 x2 x2f x3 x3f;generalize (W10.setCell ⟨w.heap.size,2,none⟩ (.int .i64 k2)).setCell ⟨w.heap.size,3,none⟩ (.int .i64 n2)=W11 at HX HY HB ⊢
    all_goals
     clear HX12 HY12 HB12 HP2;refine wp_region_lit ?_;refine vK qK 63 (.tmp 2) rfl (w.heap.size) (0) rfl (aL ⟨g1,g2,g3,g4,FB⟩) _ (uH HX.o) Tryz.underlying63 rfl pR ?_;simp only[Act.put,jZ,jX,jY];refine wpList_store_mid rfl 63 (.tmp 4) (.tmp 44) rfl (w.heap.size+1) (0) ((aL ⟨g1,g2,g3,g4,FB⟩).toArray) rfl rfl ((show World.there _ (w.heap.size+1) 0 5 from pW HY.o)) pR (all_oneCell_toArray (K5 _)) ?_;simp only[Act.put]
     go_wp2
     have hw:=uF (aL ⟨g1,g2,g3,g4,FB⟩) 0 _ _ HY.o (by simp[aL]);exact qX2
 · rw[if_neg h21];have hq:(v==21)=false:=beq_eq_false_iff_ne.2 h21;obtain⟨FB,hFB⟩:∃FB,bits .andNot .i64 (bits .or .i64 fl sv) cv=FB:=⟨_,rfl⟩;rw[hFB];have HFB:=Hd hFB;clear h21 hv0 hv hv2 hFB
   go_enter Tryz.func362,Tryz.ntmps362
   go_upto_region 5 with fail
   generalize hW:World.alloc _ _=W5;have hx5:W5.heap[w.heap.size]? =some (.cells (aL ⟨fk,fn,bk,bn,fl⟩).toArray 63 (0,0)):=by rw[←hW];exact vJ (jT rfl)
   have hy5:W5.heap[w.heap.size+1]? =some (.cells (aL vI).toArray 63 (0,0)):=by rw[←hW];exact jT qV
   have hb5:Below w.heap.size w W5:=by rw[←hW];exact jH (jH (jU _ _) _) _
   clear hW hq hv0q;have HX5:=Hd hx5;have HY5:=Hd hy5;have HB5:=Hd hb5;obtain⟨c4,f4⟩:=at_ hx5 4 (.int .i64 fl) rfl;clear hx5 hy5 hb5;refine kW 9 (fun w'=>Below W5.heap.size W5 w'∧w'.cell? ⟨w.heap.size,4,none⟩=some (.int .i64 fl)) qQ qQ ?_ ?_
   · exact⟨(jU _ _).drew,c4⟩
   simp only[jS,kK,jL,jO]
   repeat(
    (first
     |refine kF qK ?_
     |((refine uO 385 #[.int .i64 v] (.int .i64 sv) qK ?_ (fun w' hS=>(HS.o w').mono fun e w2 ⟨he,hw⟩=>⟨he,hw▸hS⟩) ?_;(focus(intro w2;go_simp;done))))
     |((refine uO 386 #[.int .i64 v] (.int .i64 cv) qK ?_ (fun w' hS=>(HC.o w').mono fun e w2 ⟨he,hw⟩=>⟨he,hw▸hS⟩) ?_;(focus(intro w2;go_simp;done))))
     |(refine kT ?_ qK ?_ ?_;rotate_left;(focus(intro w' hS;obtain⟨_,_⟩:=hS;go_simp;first|done|with_reducible rfl))))
    simp only[Act.put,jZ,jX,jY])
   refine kE (fun w' hS=>?_);have hx6:=(hS.1.block _ (jR HX5.o)).trans HX5.o;have hy6:=(hS.1.block _ (jR HY5.o)).trans HY5.o;have hb6:=jW HB5.o hS.1;clear hS c4 f4;obtain⟨c4,f4⟩:=at_ hx6 4 (.int .i64 fl) rfl;have hFB:=HFB.o
   go_upto_region 6 with fail
   have hx7:(w'.setCell ⟨w.heap.size,4,none⟩ (.int .i64 FB)).heap[w.heap.size]? =some (.cells (aL ⟨fk,fn,bk,bn,FB⟩).toArray 63 (0,0)):=kA hx6 4 _ rfl;have hy7:=uW (i:=4) (v:=.int .i64 FB) hy6 (show w.heap.size+1≠w.heap.size by omega);have hb7:=uK hb6 (jD w.heap.size) (o:=4) (.int .i64 FB);clear hx6 hy6 hb6 c4 f4 hFB;generalize w'.setCell ⟨w.heap.size,4,none⟩ (.int .i64 FB)=W7 at hx7 hy7 hb7 ⊢;have HX:=Hd hx7;have HY:=Hd hy7;have HB:=Hd hb7;clear hx7 hy7 hb7 HX5 HY5 HB5
   go_upto_region 7 with(go_at_call 387;(with_reducible refine(HP1.o _).mono ?_);rintro e w8 ⟨rfl,hb8⟩;have HB8:=Hd hb8;clear hb8)
   generalize hW8:World.alloc _ _=W8;have hb8:Below w8.heap.size w8 W8:=by rw[←hW8];exact jH (jU _ _) _
   have hc8:W8.heap[w8.heap.size]? =some (.cells #[.int .i64 k1,.int .i64 n1] 61 (0,0)):=by rw[←hW8];exact jT rfl
   have hb9:=jW HB8.o hb8;have hx9:=(hb9.block _ (jR HX.o)).trans HX.o;have hy9:=(hb9.block _ (jR HY.o)).trans HY.o;have hB9:=jW HB.o hb9;clear hW8 hb8 hb9 HB8 HX HY HB;obtain⟨d0,-⟩:=at_ hc8 0 (.int .i64 k1) rfl;obtain⟨d1,-⟩:=at_ hc8 1 (.int .i64 n1) rfl;obtain⟨x0,x0f⟩:=at_ hx9 0 (.int .i64 fk) rfl;obtain⟨x1,x1f⟩:=at_ hx9 1 (.int .i64 fn) rfl;have HX9:=Hd hx9;have HY9:=Hd hy9;have HB9:=Hd hB9;clear hc8 hx9 hy9 hB9;cases o1
   case' false=>
    go_upto_region 9 with fail
    clear d0 d1 x0 x0f x1 x1f;have HX:Hid (W8.heap[w.heap.size]? =some (.cells (aL ⟨g1,g2,bk,bn,FB⟩).toArray 63 (0,0))):=Hd (by rw[←HG1.o.1,←HG1.o.2];exact HX9.o);have HY:=HY9;have HB:=HB9
    rename World=>W9
   case' true=>
    go_upto_region 9 with fail
    have HX:Hid (((W8.setCell ⟨w.heap.size,0,none⟩ (.int .i64 k1)).setCell ⟨w.heap.size,1,none⟩ (.int .i64 n1)).heap[w.heap.size]? =some (.cells (aL ⟨g1,g2,bk,bn,FB⟩).toArray 63 (0,0))):=Hd qZn;have HY:Hid (((W8.setCell ⟨w.heap.size,0,none⟩ (.int .i64 k1)).setCell ⟨w.heap.size,1,none⟩ (.int .i64 n1)).heap[w.heap.size+1]? =some (.cells (aL vI).toArray 63 (0,0))):=Hd (uW (uW HY9.o qJ) qJ);have HB:=Hd (uK (uK HB9.o (jD w.heap.size) (o:=0) (.int .i64 k1)) (jD w.heap.size) (o:=1) (.int .i64 n1));clear d0 d1 x0 x0f x1 x1f;generalize (W8.setCell ⟨w.heap.size,0,none⟩ (.int .i64 k1)).setCell ⟨w.heap.size,1,none⟩ (.int .i64 n1)=W9 at HX HY HB ⊢
   all_goals
    clear HX9 HY9 HB9 HP1
    go_upto_region 10 with(go_at_call 387;(with_reducible refine(HP2.o _).mono ?_);rintro e w10 ⟨rfl,hb10⟩;have HB10:=Hd hb10;clear hb10)
    generalize hW10:World.alloc _ _=W10;have hb11:Below w10.heap.size w10 W10:=by rw[←hW10];exact jH (jU _ _) _
    have hc11:W10.heap[w10.heap.size]? =some (.cells #[.int .i64 k2,.int .i64 n2] 61 (0,0)):=by rw[←hW10];exact jT rfl
    have hb12:=jW HB10.o hb11;have hx12:=(hb12.block _ (jR HX.o)).trans HX.o;have hy12:=(hb12.block _ (jR HY.o)).trans HY.o;have hB12:=jW HB.o hb12;clear hW10 hb11 hb12 HB10 HX HY HB;obtain⟨d0,-⟩:=at_ hc11 0 (.int .i64 k2) rfl;obtain⟨d1,-⟩:=at_ hc11 1 (.int .i64 n2) rfl;obtain⟨x2,x2f⟩:=at_ hx12 2 (.int .i64 bk) rfl;obtain⟨x3,x3f⟩:=at_ hx12 3 (.int .i64 bn) rfl;have HX12:=Hd hx12;have HY12:=Hd hy12;have HB12:=Hd hB12;clear hc11 hx12 hy12 hB12;cases o2
    case' false=>
     go_upto_region 12 with fail
     clear d0 d1 x2 x2f x3 x3f;have HX:Hid (W10.heap[w.heap.size]? =some (.cells (aL ⟨g1,g2,g3,g4,FB⟩).toArray 63 (0,0))):=Hd (by rw[←HG2.o.1,←HG2.o.2];exact HX12.o);have HY:=HY12;have HB:=HB12
     rename World=>W11
    case' true=>
     go_upto_region 12 with fail
     have HX:Hid (((W10.setCell ⟨w.heap.size,2,none⟩ (.int .i64 k2)).setCell ⟨w.heap.size,3,none⟩ (.int .i64 n2)).heap[w.heap.size]? =some (.cells (aL ⟨g1,g2,g3,g4,FB⟩).toArray 63 (0,0))):=Hd qZl;have HY:Hid (((W10.setCell ⟨w.heap.size,2,none⟩ (.int .i64 k2)).setCell ⟨w.heap.size,3,none⟩ (.int .i64 n2)).heap[w.heap.size+1]? =some (.cells (aL vI).toArray 63 (0,0))):=Hd (uW (uW HY12.o qJ) qJ);have HB:=Hd (uK (uK HB12.o (jD w.heap.size) (o:=2) (.int .i64 k2)) (jD w.heap.size) (o:=3) (.int .i64 n2));clear d0 d1 x2 x2f x3 x3f;generalize (W10.setCell ⟨w.heap.size,2,none⟩ (.int .i64 k2)).setCell ⟨w.heap.size,3,none⟩ (.int .i64 n2)=W11 at HX HY HB ⊢
    all_goals
     clear HX12 HY12 HB12 HP2;refine wp_region_lit ?_;refine vK qK 63 (.tmp 2) rfl (w.heap.size) (0) rfl (aL ⟨g1,g2,g3,g4,FB⟩) _ (uH HX.o) Tryz.underlying63 rfl pR ?_;simp only[Act.put,jZ,jX,jY];refine wpList_store_mid rfl 63 (.tmp 4) (.tmp 44) rfl (w.heap.size+1) (0) ((aL ⟨g1,g2,g3,g4,FB⟩).toArray) rfl rfl ((show World.there _ (w.heap.size+1) 0 5 from pW HY.o)) pR (all_oneCell_toArray (K5 _)) ?_;simp only[Act.put]
     go_wp2
     have hw:=uF (aL ⟨g1,g2,g3,g4,FB⟩) 0 _ _ HY.o (by simp[aL]);exact qX2
def QL:List Int:=[1,2,3,5,6,7,8,9,21,22,23,24,25,27,28,29,53,55]
theorem X3:∀f:Fin 1024,∀v∈QL,QF (f.val:Int) v=cX (f.val:Int) v []:=by decide +kernel
theorem Yj:∀f:Fin 1024,bits .andNot .i64 (bits .or .i64 (f.val:Int) 0) 0=(f.val:Int):=by decide +kernel
theorem Yk:∀f:Fin 1024,bits .or .i64 (bits .andNot .i64 (f.val:Int) 264) 0=zQ (zQ f.val 256 false) 8 false∧bits .or .i64 (bits .andNot .i64 (f.val:Int) 264) 8=zQ (zQ f.val 256 false) 8 true∧bits .or .i64 (bits .andNot .i64 (f.val:Int) 264) 256=zQ (zQ f.val 256 true) 8 false:=by decide +kernel
theorem qQy:∀f:Fin 1024,∀k∈([1,2,4,8,16,32,64,128,256,512]:List Int),∀b:Bool,0≤zQ (f.val:Int) k b∧zQ (f.val:Int) k b<1024:=by decide +kernel
theorem cP.with{f:Int}(h:cP f)(k:Int)(hk:k∈([1,2,4,8,16,32,64,128,256,512]:List Int))(b:Bool):cP (zQ f k b):=by
 obtain⟨h0,h1⟩:=h;have :=qQy ⟨f.toNat,by omega⟩ k hk b;rw[show(((⟨f.toNat,by omega⟩:Fin 1024).val:Nat):Int)=f from by show((f.toNat:Nat):Int)=f;omega]at this;exact this
theorem qKs{f:Int}(h:cP f)(v:Int)(hv:v≠4)(g:List Int):QF f v=cX f v g:=by
 obtain⟨h0,h1⟩:=h;have e:(((⟨f.toNat,by omega⟩:Fin 1024).val:Nat):Int)=f:=by show((f.toNat:Nat):Int)=f;omega
 have hg:cX f v g=cX f v []:=by unfold cX;simp only[if_neg hv]
 rw[hg]
 by_cases hm:v∈QL
 · have :=X3 ⟨f.toNat,by omega⟩ v hm;rw[e]at this;exact this
 · simp only[QL,kJ,List.not_mem_nil,or_false,not_or]at hm;obtain⟨a1,a2,a3,a5,a6,a7,a8,a9,a21,a22,a23,a24,a25,a27,a28,a29,a53,a55⟩:=hm;have s0:JI v=0:=by unfold JI;simp[*]
   have c0:nR v=0:=by unfold nR;simp[*]
   have f0:cX f v []=f:=by unfold cX;simp[*]
   have b0:f21 f v=f:=by unfold f21;simp[*]
   unfold QF;rw[s0,c0,f0,b0];have :=Yj ⟨f.toNat,by omega⟩;rw[e]at this;exact this
theorem flags4{f:Int}(h:cP f)(g:List Int):bits .or .i64 (bits .andNot .i64 f 264) (QZ g)=cX f 4 g:=by
 obtain⟨h0,h1⟩:=h;have e:(((⟨f.toNat,by omega⟩:Fin 1024).val:Nat):Int)=f:=by show((f.toNat:Nat):Int)=f;omega
 have :=Yk ⟨f.toNat,by omega⟩;rw[e]at this;obtain⟨t0,t8,t256⟩:=this;unfold cX QZ;simp only[Int.reduceEq,if_false,if_true]
 by_cases h1:1<g.length
 · by_cases h2:g.getD 1 0=0
   · rw[if_pos ⟨h1,h2⟩];simp only[h1,h2,decide_true,Bool.true_and,show decide ((0:Int)=2)=false from rfl,show decide ((0:Int)=0)=true from rfl,Bool.not_false,Bool.not_true,Bool.and_false];exact t0
   · rw[if_neg qJ]
     by_cases h3:g.getD 1 0=2
     · rw[if_pos ⟨h1,h3⟩];simp only[h1,h3,decide_true,Bool.true_and,Bool.not_true,Bool.false_and];exact t256
     · rw[if_neg qJ];simp only[h1,h2,h3,decide_true,decide_false,Bool.and_false,Bool.not_false,Bool.and_true];exact t8
 · rw[if_neg qJ,if_neg qJ];simp only[h1,decide_false,Bool.false_and,Bool.not_false,Bool.and_true];exact t8
theorem qJ8(c:Col)(v:Int)(h:0≤v):(if(cH v 30 90).2 then(cH v 30 90).1 else c)=Jr c v:=by
 by_cases h1:30≤v∧v<30+8
 · have e:cH v 30 90=(⟨1,v-30⟩,true):=by unfold cH;rw[if_pos h1]
   rw[e];show(⟨1,v-30⟩:Col)=_;unfold Jr;rw[if_neg qJ,if_pos qJ]
 by_cases h2:90≤v∧v<90+8
 · have e:cH v 30 90=(⟨1,v-90+8⟩,true):=by unfold cH;rw[if_neg h1,if_pos h2]
   rw[e];show(⟨1,v-90+8⟩:Col)=_;unfold Jr;rw[if_neg qJ,if_neg qJ,if_pos qJ,show v-90+8=v-82 by omega]
 · have e:cH v 30 90=(⟨0,0⟩,v==30+9):=by unfold cH;rw[if_neg h1,if_neg h2]
   rw[e];unfold Jr
   by_cases h3:v=30+9
   · rw[if_pos (show v=39 by omega),h3];rfl
   · rw[if_neg (show ¬v=39 by omega),if_neg (show ¬(30≤v∧v≤37) by omega),if_neg (show ¬(90≤v∧v≤97) by omega)];rw[show(v==30+9)=false from beq_eq_false_iff_ne.2 h3];rfl
theorem qJ9(c:Col)(v:Int)(h:0≤v):(if(cH v 40 100).2 then(cH v 40 100).1 else c)=KF c v:=by
 by_cases h1:40≤v∧v<40+8
 · have e:cH v 40 100=(⟨1,v-40⟩,true):=by unfold cH;rw[if_pos h1]
   rw[e];show(⟨1,v-40⟩:Col)=_;unfold KF;rw[if_neg qJ,if_pos qJ]
 by_cases h2:100≤v∧v<100+8
 · have e:cH v 40 100=(⟨1,v-100+8⟩,true):=by unfold cH;rw[if_neg h1,if_pos h2]
   rw[e];show(⟨1,v-100+8⟩:Col)=_;unfold KF;rw[if_neg qJ,if_neg qJ,if_pos qJ,show v-100+8=v-92 by omega]
 · have e:cH v 40 100=(⟨0,0⟩,v==40+9):=by unfold cH;rw[if_neg h1,if_neg h2]
   rw[e];unfold KF
   by_cases h3:v=40+9
   · rw[if_pos (show v=49 by omega),h3];rfl
   · rw[if_neg (show ¬v=49 by omega),if_neg (show ¬(40≤v∧v≤47) by omega),if_neg (show ¬(100≤v∧v≤107) by omega)];rw[show(v==40+9)=false from beq_eq_false_iff_ne.2 h3];rfl
theorem simpB_A{a:Atr}(h:cP a.fl)(v:Int)(hv:0≤v)(h0:v≠0)(h4:v≠4)(g:List Int):Uv a v=dF a v g:=by
 unfold Uv dF;rw[if_neg h0,qKs h v h4 g,←qJ8 ⟨a.fk,a.fn⟩ v hv,←qJ9 ⟨a.bk,a.bn⟩ v hv]
 congr 1
 all_goals(split<;>rfl)
section
variable {P:Program}
theorem tW{fn:Func}{p u u2:Tmp}{ty:TypeId}(h:fn.results=#[.cell p ty,.tmp u,.tmp u2])(tmps:Array Value)(w:World):
 (results fn tmps).run P w=((asAddr (tmps.getD p undef)).run P w).andThen fun a w1=>((loadVar ty a).run P w1).andThen fun v w2=>.ok (.tuple #[v,tmps.getD u undef,tmps.getD u2 undef]) w2:=by
 simp only[results,h];simp[Sem.run_bind,Result.andThen]
theorem cU{fn:Func}{u u2 p:Tmp}{ty:TypeId}{d:TypeDesc}(hr:fn.results=#[.cell p ty,.tmp u,.tmp u2])(tmps:Array Value)(w:World)(b:Nat)(cs:List Value)(hp:tmps.getD p undef=.pointer (some ⟨b,0,none⟩))(h:w.rangeAt b 0 cs)
 (hu:P.underlying ty=some d) (hd:d.isRow=true) (hi:(P.info? ty).map (·.size)=some cs.length):(results fn tmps).run P w=.ok (.tuple #[.agg cs.toArray,tmps.getD u undef,tmps.getD u2 undef]) w:=by
 rw[tW hr,hp];have :=run_loadVar_mid (P:=P) w b 0 ty cs _ h hu hd hi;simp only[asAddr,Sem.run_pure,Result.andThen_ok,this]
end
theorem cP.ite{c:Prop}[Decidable c]{a b:Int}(ha:cP a)(hb:cP b):cP (if c then a else b):=by
 by_cases h:c
 · rw[if_pos h];exact ha
 · rw[if_neg h];exact hb
theorem cP.flags{f:Int}(h:cP f)(v:Int)(g:List Int):cP (cX f v g):=by
 unfold cX
 repeat' (first|(with_reducible exact h)|(with_reducible refine cP.ite ?_ ?_)|(with_reducible refine cP.with ?_ _ qZ _))
def rP(l:List Int):Int:=l.foldl (fun n x=>256*n+max 0 x) 0
def b3V(g:List Int):Option Col:=if ∀x∈g,x≤255 then some (if g.length=1 then⟨1,rP g⟩else⟨2,rP g⟩)else none
def ocK(c:Option Col):Int:=(c.getD ⟨0,0⟩).k
def ocN(c:Option Col):Int:=(c.getD ⟨0,0⟩).n
def rF(c:Option Col)(w:World)(e:Ending)(w':World):Prop:=e=.returned (.tuple #[.agg #[.int .i64 (ocK c),.int .i64 (ocN c)],.bool c.isSome])∧Below w.heap.size w w'
theorem shl8_or{n x:Int}(h0:0≤n)(h1:n<16777216)(x0:0≤x)(x1:x<256):bits .or .i64 (n*256) x=256*n+x:=by
 obtain⟨a,rfl⟩:=Int.eq_ofNat_of_zero_le h0;obtain⟨b,rfl⟩:=Int.eq_ofNat_of_zero_le x0;have ha:a<16777216:=by omega
 have hb:b<256:=by omega
 have e1:(((a:Int)*256))=((a*256:Nat):Int):=by simp
 have key:(BitVec.ofInt 64 ((a:Int)*256) ||| BitVec.ofInt 64 (b:Int)).toNat=a*256+b:=by
  rw[e1,BitVec.ofInt_natCast,BitVec.ofInt_natCast,BitVec.toNat_or,BitVec.toNat_ofNat,BitVec.toNat_ofNat,Nat.mod_eq_of_lt qJ,Nat.mod_eq_of_lt qJ];rw[show a*256=a <<< 8 by rw[Nat.shiftLeft_eq],←Nat.shiftLeft_add_eq_or_of_lt (by omega:b<2 ^ 8)]
 have e2:bits .or .i64 ((a:Int)*256) (b:Int)=jE.wrap (((BitVec.ofInt 64 ((a:Int)*256) ||| BitVec.ofInt 64 (b:Int)).toNat:Nat):Int):=rfl;rw[e2,key,jF _ qJ];omega
theorem qQp{g:List Int}{i:Nat}(hi:i<g.length):rP (g.take (i+1))=256*rP (g.take i)+max 0 (g.getD i 0):=by
 unfold rP;rw[kQ hi,List.foldl_append];simp only[List.foldl_cons,List.foldl_nil];rw[kX,jN hi];rfl
theorem UL{g:List Int}(hg:∀x∈g,x≤255)(h3:g.length≤3):0≤rP g∧rP g<16777216:=by
 unfold rP
 match g,h3 with
 |[],_=>exact⟨by decide,by decide⟩
 |[a],_=>have :=hg a qV;simp only[List.foldl_cons,List.foldl_nil];omega
 |[a,b],_=>have :=hg a qV;have :=hg b qV;simp only[List.foldl_cons,List.foldl_nil];omega
 |[a,b,c],_=>have :=hg a qV;have :=hg b qV;have :=hg c qV;simp only[List.foldl_cons,List.foldl_nil];omega
section
variable {w:World}
theorem lN{B:Option Addr}{g:List Int}(hG:pT pO 1 w B g)(ca:Nat)(h3:g.length≤3):Calls jG 384 #[.slice B g.length ca] w (rF (b3V g) w):=by
 have HGE:Hid (∀i,i<g.length→∃b off,B=some ⟨b,off,none⟩∧w.cell? ⟨b,off+i,none⟩=some (.int .i64 (g.getD i 0))):=Hd (fun i hi=>fS hG hi);obtain⟨W,hW⟩:∃W,w.alloc (.cells #[.int .i64 0,.int .i64 0] 61)=W:=⟨_,rfl⟩;have hb:Below w.heap.size w W:=by rw[←hW];exact jH (jU _ _) _
 have hc:W.heap[w.heap.size]? =some (.cells #[.int .i64 0,.int .i64 0] 61 (0,0)):=by rw[←hW];exact jT rfl
 have HB:=Hd hb;have HC:=Hd hc;have HW:=Hd hW;obtain⟨c0,f0⟩:=at_ hc 0 (.int .i64 0) rfl;obtain⟨c1,f1⟩:=at_ hc 1 (.int .i64 0) rfl;obtain⟨K,hK⟩:∃K,g.length=K:=⟨_,rfl⟩;rw[hK]at h3 HGE ⊢;have HK:=Hd hK;obtain⟨co,hco⟩:∃co,b3V g=co:=⟨_,rfl⟩;rw[hco];have HV:=Hd hco;clear hG hb hc hW hK hco
 go_enter Tryz.func384,Tryz.ntmps384
 go_upto_region 1 with fail
 rw[HW.o]
 go_wp2_with fail
 go_loopw [4,9] (fun s4 s9 wr=>∃i:Nat,s4=.int .i64 (rP (g.take i))∧s9=.int .i64 i∧i≤K∧(∀x∈g.take i,x≤255)∧W=wr) (fun _ s9 _=>K-(intOf s9).toNat)
 case atStart=>exact⟨0,rfl,rfl,kM _,fun x hx=>by simp at hx,rfl⟩
 case round=>
  obtain⟨i,rfl,rfl,hi,hall,rfl⟩:=hrel;have hwi:jE.wrap ((i:Int)+1)=(i:Int)+1:=jF _ qJ;have hbn:=UL (g:=g.take i) hall qY
  by_cases hlt:i<K
  rotate_left
  · obtain rfl:i=K:=by omega
    have hltI:¬(i:Int)<(i:Int):=by omega
    have ht:g.take i=g:=vY (by rw[HK.o];exact jD _);rw[ht]at hall hbn ⊢;have hv:b3V g=some (if g.length=1 then⟨1,rP g⟩else⟨2,rP g⟩):=by unfold b3V;rw[if_pos hall]
    obtain⟨N,hN⟩:∃N,rP g=N:=⟨_,rfl⟩;rw[hN,HK.o]at hv;have HVV:=Hd (HV.o.symm.trans hv);rw[hN];clear hall hbn hv ht hN
    by_cases h1:i=1
    · subst h1
      go_wp2
      have hz:=kA (kA HC.o 0 (.int .i64 1) rfl) 1 (.int .i64 N) rfl;exact bodyPost_ret (pH rfl _ _ w.heap.size [.int .i64 1,.int .i64 N] rfl (uH hz) Tryz.underlying61 rfl gB) rfl ⟨by rw[HVV.o];rfl,uK (uK HB.o (jD _) _) (jD _) _⟩
    · have h1q:((i:Int)==1)=false:=beq_eq_false_iff_ne.2 qJ;have h1I:¬(i:Int)=1:=by omega
      go_wp2
      have hz:=kA (kA HC.o 0 (.int .i64 2) rfl) 1 (.int .i64 N) rfl;exact bodyPost_ret (pH rfl _ _ w.heap.size [.int .i64 2,.int .i64 N] rfl (uH hz) Tryz.underlying61 rfl gB) rfl ⟨by rw[HVV.o,if_neg h1];rfl,uK (uK HB.o (jD _) _) (jD _) _⟩
  · have hltI:(i:Int)<(K:Int):=by omega
    obtain⟨b,off,hBe,hcell⟩:=HGE.o i hlt;subst hBe;have hcell2:=kZ HB.o hcell;have hsu:=qQp (g:=g) (i:=i) qZy;obtain⟨x,hx⟩:∃x,g.getD i 0=x:=⟨_,rfl⟩;obtain⟨n,hn⟩:∃n,rP (g.take i)=n:=⟨_,rfl⟩;rw[hx,hn]at hsu;rw[hn]at hbn ⊢;rw[hx]at hcell2;have HSU:=Hd hsu;have HXG:=Hd hx;have HALL:=Hd hall;clear hsu hx hn hall hcell
    by_cases hgt:255<x
    · have hv:b3V g=none:=by
       unfold b3V;rw[if_neg];intro h;have :=h x (by rw[←HXG.o,kX,jN qZy];exact List.getElem_mem _);omega
      have HVV:=Hd (HV.o.symm.trans hv);clear hv
      go_wp2
      have hz:=kA (kA HC.o 0 (.int .i64 0) rfl) 1 (.int .i64 0) rfl;exact qX3
    · have hwn:jE.wrap (n*256)=n*256:=jF _ qJ;have HOR:=Hd (shl8_or hbn.1 hbn.2 (x:=max 0 x) qJ qJ);have HMX:Hid ((if 0<x then x else 0)=max 0 x):=Hd (by split<;>omega);have hsh:(Op.shift .shl .i64 n .u64 8).run jG W=.ok (.int .i64 (n*256)) W:=by
       have e:=shift_shl .i64 .u64 n 8 qZ qZ;rw[e];show Result.ok (Value.int .i64 (jE.wrap (n*2 ^ (8:Int).toNat))) W=_;rw[show n*2 ^ (8:Int).toNat=n*256 from rfl,hwn]
      go_wp2
      go_roundw
      case rel=>
       refine⟨i+1,?_,by go_num,by omega,?_,by first|rfl|trivial⟩
       · rw[HSU.o,HMX.o,HOR.o]
       · intro y hy;rw[kQ qZy]at hy;rcases kU.1 hy with hy|hy
         · exact HALL.o y hy
         · rw[jM.1 hy];have :g[i]'qZy=x:=by rw[←HXG.o,kX,jN qZy];rfl
           omega
      case measure=>simp[intOf];omega
end
def tL(g:List Int):Option Col:=if g.getD 1 0=5∧g.length=3 then b3V [g.getD 2 0]else if g.getD 1 0=2∧(g.length=5∨g.length=6)then b3V (g.drop (g.length-3))else none
theorem gr_drop{w:World}{b off k:Nat}{g:List Int}(h:pT pO 1 w (some ⟨b,off,none⟩) g):pT pO 1 w (some ⟨b,off+k,none⟩) (g.drop k):=fun h0=>by
 have hl:k<g.length:=by simp at h0;omega
 obtain⟨b',off',hA,hg⟩:=h qJ;injection hA with hA
 injection hA with h1 h2
 subst h1 h2;refine⟨b,off+k,rfl,fun i x hi j v hv=>?_⟩;rw[gN]at hi;have :=hg (k+i) x hi j v hv;rw[Nat.mul_one]at this ⊢;rw[show off+k+i+j=off+(k+i)+j by omega];exact this
section
variable {w:World}
set_option maxHeartbeats 3200000 in
theorem XW{B:Option Addr}{g:List Int}(hG:pT pO 1 w B g)(ca:Nat)(h1:1<g.length)(h8:g.length≤8)(hca:g.length≤ca):Calls jG 360 #[.slice B g.length ca] w (rF (tL g) w):=by
 obtain⟨b,off,rfl,hc1⟩:=fS hG h1;have HGG:=Hd hG;obtain⟨W,hW⟩:∃W,w.alloc (.cells #[.int .i64 0,.int .i64 0] 61)=W:=⟨_,rfl⟩;have hb:Below w.heap.size w W:=by rw[←hW];exact jH (jU _ _) _
 have hcz:W.heap[w.heap.size]? =some (.cells #[.int .i64 0,.int .i64 0] 61 (0,0)):=by rw[←hW];exact jT rfl
 have HB:=Hd hb;have HC:=Hd hcz;have HW:=Hd hW;have hc1':=kZ hb hc1;obtain⟨co,hco⟩:∃co,tL g=co:=⟨_,rfl⟩;rw[hco];have HV:=Hd hco;clear hb hcz hW hc1 hco
 by_cases hA:g.getD 1 0=5∧g.length=3
 · obtain⟨ha1,ha2⟩:=hA;obtain⟨b',off',hbe,hc2⟩:=fS hG (i:=2) qJ;injection hbe with hbe
   injection hbe with e1 e2
   subst e1 e2;have hc2':=kZ HB.o hc2;have HVV:Hid (co=b3V [g.getD 2 0]):=Hd (by rw[←HV.o];unfold tL;rw[if_pos ⟨ha1,ha2⟩]);rw[ha1]at hc1';rw[ha2];obtain⟨x,hx⟩:∃x,g.getD 2 0=x:=⟨_,rfl⟩;rw[hx]at hc2' HVV;have H3:Hid (∀W2,Below W.heap.size W W2→Calls jG 384 #[.slice (some ⟨W2.heap.size,0,none⟩) 1 1] (W2.alloc (.cells #[.int .i64 x] 3)) (rF co (W2.alloc (.cells #[.int .i64 x] 3)))):=Hd (fun W2 hb2=>by
    rw[HVV.o];refine lN (B:=some ⟨W2.heap.size,0,none⟩) (g:=[x]) (fun _=>⟨W2.heap.size,0,rfl,fun i y hi j v hv=>?_⟩) 1 qV;have hi0:i=0:=by have :=(jP.1 hi).1;simpa using this
    subst hi0;obtain rfl:x=y:=by simpa using hi
    have hj0:j=0:=by have :=(jP.1 hv).1;simpa[pO]using this
    subst hj0;obtain rfl:Value.int .i64 x=v:=by simpa[pO]using hv
    exact(at_ (jT (W:=W2) (b:=W2.heap.size) (o:=.cells #[.int .i64 x] 3) rfl) 0 _ rfl).1)
   clear hG h1 h8 hca ha1 ha2 hc2 hx
   go_enter Tryz.func360,Tryz.ntmps360
   go_upto_region 1 with fail
   rw[HW.o]
   go_upto_region 2 with fail
   have hbx:=jH (jU W.heap.size W) (.cells #[.int .i64 x] 3);have HBX:=Hd hbx;clear hbx;refine wp_region_lit ?_;refine jB (.slice (some ⟨b,off,none⟩) 3 ca) qK qK ?_;simp only[Act.put,jZ,jX,jY];refine jB (.pointer (some ⟨b,off+2,none⟩)) qK qX ?_;simp only[Act.put,jZ,jX,jY];refine jB (.int .i64 x) qK qX ?_;simp only[Act.put,jZ,jX,jY];refine uC (.slice (some ⟨W.heap.size,0,none⟩) 1 1) (W.alloc (.cells #[.int .i64 x] 3)) qK qX ?_;simp only[Act.put,jZ,jX,jY];refine zM rfl 384 #[.slice (some ⟨W.heap.size,0,none⟩) 1 1] qX (H3.o W (jU _ _)) (.tuple #[.agg #[.int .i64 (ocK co),.int .i64 (ocN co)],.bool co.isSome]) (fun e w' h=>h.1) ?_;rintro w5 ⟨-,hb5⟩;have HB5:=Hd hb5;clear hb5;have hb6:=jW HBX.o HB5.o;have hz6:=(hb6.block _ (jR HC.o)).trans HC.o;have hbz:=jW HB.o hb6;obtain⟨z0,z0f⟩:=at_ hz6 0 (.int .i64 0) rfl;obtain⟨z1,z1f⟩:=at_ hz6 1 (.int .i64 0) rfl;have HZ6:=Hd hz6;have HBZ:=Hd hbz;clear hb6 hz6 hbz hc1' hc2';simp only[Act.put,jZ,jX,jY]
   go_wp2
   have hz:=kA (kA HZ6.o 0 (.int .i64 (ocK co)) rfl) 1 (.int .i64 (ocN co)) rfl;exact qX4
 have hA':g.getD 1 0≠5∨(g.getD 1 0=5∧g.length≠3):=by omega
 obtain⟨v1,hv1⟩:∃v1,g.getD 1 0=v1:=⟨_,rfl⟩;obtain⟨L,hL⟩:∃L,g.length=L:=⟨_,rfl⟩
 by_cases hBc:v1=2∧(L=5∨L=6)
 · obtain⟨hb1,hb2⟩:=hBc;have HVV:Hid (co=b3V (g.drop (L-3))):=Hd (by rw[←HV.o];unfold tL;rw[if_neg hA,hv1,hL,if_pos ⟨hb1,hb2⟩]);obtain⟨M,hM⟩:∃M,L=M+3:=⟨L-3,by omega⟩;have hMI:(L:Int)-3=(M:Int):=by omega
   have hwM:jE.wrap (M:Int)=(M:Int):=jF _ qJ;have H3:Hid (Calls jG 384 #[.slice (some ⟨b,off+M,none⟩) 3 (ca-M)] W (rF co W)):=Hd (by
    rw[HVV.o,show L-3=M by omega];have :=lN (w:=W) (g:=g.drop M) (gr_drop (HGG.o.below HB.o)) (ca-M) qY;rw[show(g.drop M).length=3 by simp;omega]at this;exact this)
   rw[hL]at h1 h8 hca ⊢;rw[hv1,hb1]at hc1';have hge:M≤L:=by omega
   have hLc:L≤ca:=hca;have hL3:L-M=3:=by omega
   have hML:(M:Int)≤(L:Int):=by omega
   have hLca:(L:Int)≤(ca:Int):=by omega
   have hor:(L==5)=true∨((L==5)=false∧(L==6)=true):=by
    rcases hb2 with rfl|rfl
    · exact .inl rfl
    · exact .inr ⟨rfl,rfl⟩
   subst hb1;clear hG hA hA' hv1 hL hMI h1 h8;rcases hb2 with rfl|rfl
   · obtain rfl:M=2:=by omega
     have hwk:jE.wrap (2:Int)=2:=jF _ qJ;have h2c:2≤ca:=by omega
     have hnc:¬ca=2:=by omega
     have h2cI:(2:Int)≤(ca:Int):=by omega
     have hncI:¬(ca:Int)=2:=by omega
     go_enter Tryz.func360,Tryz.ntmps360
     go_upto_region 1 with fail
     rw[HW.o]
     go_upto_region 4 with fail
     refine wp_region_lit ?_;refine jB (.slice (some ⟨b,off,none⟩) 5 ca) qK qK ?_;simp only[Act.put,jZ,jX,jY];refine jB (.slice (some ⟨b,off,none⟩) 5 ca) qK qK ?_;simp only[Act.put,jZ,jX,jY];refine jB (.int .i64 5) qK qX ?_;simp only[Act.put,jZ,jX,jY];refine jB (.int .i64 2) qK qX ?_;simp only[Act.put,jZ,jX,jY];refine jB (.slice (some ⟨b,off+2,none⟩) 3 (ca-2)) qK qX ?_;simp only[Act.put,jZ,jX,jY];refine zM rfl 384 #[.slice (some ⟨b,off+2,none⟩) 3 (ca-2)] qX H3.o (.tuple #[.agg #[.int .i64 (ocK co),.int .i64 (ocN co)],.bool co.isSome]) (fun e w' h=>h.1) ?_;rintro w5 ⟨-,hb5⟩;have HB5:=Hd hb5;clear hb5;have hz6:=(HB5.o.block _ (jR HC.o)).trans HC.o;have hbz:=jW HB.o HB5.o;obtain⟨z0,z0f⟩:=at_ hz6 0 (.int .i64 0) rfl;obtain⟨z1,z1f⟩:=at_ hz6 1 (.int .i64 0) rfl;have HZ6:=Hd hz6;have HBZ:=Hd hbz;clear hz6 hbz hc1';simp only[Act.put,jZ,jX,jY]
     go_wp2
     have hz:=kA (kA HZ6.o 0 (.int .i64 (ocK co)) rfl) 1 (.int .i64 (ocN co)) rfl;exact qX4
   · obtain rfl:M=3:=by omega
     have hwk:jE.wrap (3:Int)=3:=jF _ qJ;have h2c:3≤ca:=by omega
     have hnc:¬ca=3:=by omega
     have h2cI:(3:Int)≤(ca:Int):=by omega
     have hncI:¬(ca:Int)=3:=by omega
     go_enter Tryz.func360,Tryz.ntmps360
     go_upto_region 1 with fail
     rw[HW.o]
     go_upto_region 4 with fail
     refine wp_region_lit ?_;refine jB (.slice (some ⟨b,off,none⟩) 6 ca) qK qK ?_;simp only[Act.put,jZ,jX,jY];refine jB (.slice (some ⟨b,off,none⟩) 6 ca) qK qK ?_;simp only[Act.put,jZ,jX,jY];refine jB (.int .i64 6) qK qX ?_;simp only[Act.put,jZ,jX,jY];refine jB (.int .i64 3) qK qX ?_;simp only[Act.put,jZ,jX,jY];refine jB (.slice (some ⟨b,off+3,none⟩) 3 (ca-3)) qK qX ?_;simp only[Act.put,jZ,jX,jY];refine zM rfl 384 #[.slice (some ⟨b,off+3,none⟩) 3 (ca-3)] qX H3.o (.tuple #[.agg #[.int .i64 (ocK co),.int .i64 (ocN co)],.bool co.isSome]) (fun e w' h=>h.1) ?_;rintro w5 ⟨-,hb5⟩;have HB5:=Hd hb5;clear hb5;have hz6:=(HB5.o.block _ (jR HC.o)).trans HC.o;have hbz:=jW HB.o HB5.o;obtain⟨z0,z0f⟩:=at_ hz6 0 (.int .i64 0) rfl;obtain⟨z1,z1f⟩:=at_ hz6 1 (.int .i64 0) rfl;have HZ6:=Hd hz6;have HBZ:=Hd hbz;clear hz6 hbz hc1';simp only[Act.put,jZ,jX,jY]
     go_wp2
     have hz:=kA (kA HZ6.o 0 (.int .i64 (ocK co)) rfl) 1 (.int .i64 (ocN co)) rfl;exact qX4
 · have HVV:Hid (co=none):=Hd (by rw[←HV.o];unfold tL;rw[if_neg hA,hv1,hL,if_neg hBc]);obtain⟨z0,z0f⟩:=at_ HC.o 0 (.int .i64 0) rfl;obtain⟨z1,z1f⟩:=at_ HC.o 1 (.int .i64 0) rfl;rw[hv1]at hc1' hA';rw[hL]at hA' h1 h8 hca ⊢;clear hG hv1 hL hA HGG;have h31:(v1==5)=false∨(v1=5∧((L:Int)==3)=false∧¬(L:Int)=3):=by
    rcases hA' with h|⟨h,h'⟩
    · exact .inl (beq_eq_false_iff_ne.2 h)
    · exact .inr ⟨h,beq_eq_false_iff_ne.2 qJ,by omega⟩
   have h32:(v1==2)=false∨(v1=2∧(((L:Int)==5)=false∧((L:Int)==6)=false)∧¬L=5∧¬L=6):=by
    by_cases h:v1=2
    · exact .inr ⟨h,⟨beq_eq_false_iff_ne.2 qJ,beq_eq_false_iff_ne.2 qJ⟩,by omega,by omega⟩
    · exact .inl (beq_eq_false_iff_ne.2 h)
   clear hA' hBc;rcases h31 with h31|⟨rfl,h31,h31'⟩
   · rcases h32 with h32|⟨rfl,⟨h32,h33⟩,h34,h35⟩
     · go_enter Tryz.func360,Tryz.ntmps360
       go_upto_region 1 with fail
       rw[HW.o]
       go_wp2
       have hz:=kA (kA HC.o 0 (.int .i64 0) rfl) 1 (.int .i64 0) rfl;exact qX3
     · go_enter Tryz.func360,Tryz.ntmps360
       go_upto_region 1 with fail
       rw[HW.o]
       go_wp2
       have hz:=kA (kA HC.o 0 (.int .i64 0) rfl) 1 (.int .i64 0) rfl;exact qX3
   · clear h32
     go_enter Tryz.func360,Tryz.ntmps360
     go_upto_region 1 with fail
     rw[HW.o]
     go_wp2
     have hz:=kA (kA HC.o 0 (.int .i64 0) rfl) 1 (.int .i64 0) rfl;exact qX3
end
end Go.Proofs.YtaefcahblmopfaaGreatDoor
