/- Joined by a tool of this claim out of smaller texts. Conditions: as stated. -/
import Derived.Test.YtjcpdcncfjkejaaGreatDoorSx03
set_option linter.unusedVariables false
set_option linter.unusedSimpArgs false
set_option maxRecDepth 100000
open Go.Lib renaming hid → Hd
open List renaming setIfInBounds_toArray → jZ, set_cons_zero → jX, set_cons_succ → jY, drop_succ_cons → jB, take_succ_cons → jC, getElem?_eq_getElem → jD, drop_zero → jF, take_zero → jL, mem_singleton → jR, getElem?_eq_some_iff → jE, length_append → jI, replicate → kJ, mem_cons → kW, getD_eq_getElem?_getD → kP, mem_append → kL, length_replicate → kS, getElem?_eq_none → kI, append_assoc → uK, length_set → uG, mem_of_getElem? → uW, getElem?_map → vQ, take_succ_eq_append_getElem → vJ, ext_getElem? → vV, getElem?_append_right → vU, length_take → vH, getElem?_set → vP, take_of_length_le → vT, getElem?_append_left → vE, map_append → gK, getElem?_drop → gV
open Go.Proofs.Tryz renaming prog → jG, underlying95 → uT
open Go.RowKit.Below renaming refl → jU
open Go.IntWalk renaming i64_in → jH
open Go.IntKind renaming i64 → jP
open Nat renaming le_refl → jS, zero_add → kB, zero_le → kT, le_trans → vY, add_zero → vO
open Option renaming mem_toList → jT
open And renaming intro → kM
open Array renaming getElem?_eq_some_iff → kF
open Go.World renaming setCell → uQ, ownsRow_nil → uE
open Int renaming toNat_natCast → uJ
namespace Go.Proofs.YtjcpdcncfjkejaaGreatDoor
open Go.RowKit
structure Rh where
 A:Option Addr
 cs:List Cl
 cap:Nat
 cont:Bool
def yZ(r:Rh):List Value:=[.slice r.A r.cs.length r.cap,.bool r.cont]
def yA(r:Rh):Ro:=⟨r.cs,r.cont⟩
def eY:Rh:=⟨none,[],0,false⟩
theorem zJ:∀r,(yZ r).length=2:=fun _=>rfl
theorem fP:∀r,∀v∈yZ r,v.oneCell'=true:=fun r v hv=>by
 simp only[yZ,kW,List.not_mem_nil,or_false]at hv;rcases hv with rfl|rfl<;>rfl
def pX(w:World)(r:Rh):Prop:=
 r.cs.length≤10000∧zN r.cs∧pA kX 8 w r.A r.cs∧(0<r.cs.length→∃b off cs f,r.A=some ⟨b,off,none⟩∧w.heap[b]? =some (.cells cs 154 f))
def yD(w:World)(X:List Nat):Prop:=∀b∈X,∀cs f,w.heap[b]? ≠some (.cells cs 154 f)
theorem pX.mod{X:List Nat}{w w':World}{r:Rh}(h:pX w r)(hm:Mod X w w')(hX:yD w X):pX w' r:=by
 obtain⟨h1,h2,h3,h4⟩:=h
 by_cases h0:0<r.cs.length
 · obtain⟨b,off,cs,f,hA,hb⟩:=h4 h0;have hbX:b∉X:=fun hx=>hX b hx cs f hb;refine⟨h1,h2,?_,fun _=>⟨b,off,cs,f,hA,(hm.block b (kF.1 hb).1 hbX).trans hb⟩⟩;rw[hA]at h3 ⊢;exact VG h3 hm hbX
 · exact⟨h1,h2,fun h=>absurd h h0,fun h=>absurd h h0⟩
theorem yD.nil(w:World):yD w []:=fun _ h=>by cases h
theorem pX.below{w w':World}{r:Rh}(h:pX w r)(hb:Below w.heap.size w w'):pX w' r:=h.mod (Mod.of_below (X:=[]) hb) (yD.nil w)
theorem pX.of_own{w:World}{base g cap:Nat}{l:List Cl}(h:CrO w base g cap l)(hz:l.length≤10000)(hf:zN l)(cont:Bool):pX w ⟨some ⟨g,0,none⟩,l,cap,cont⟩:=by
 refine⟨hz,hf,fun h0=>⟨g,0,rfl,fun i x hx j v hv=>by rw[kB];exact h.range hx j v hv⟩,fun h0=>?_⟩;rcases h.2 with⟨e,-⟩|⟨g',c',cur,e,_,e3,_⟩
 · cases e
 · simp only[Value.slice.injEq,Option.some.injEq,Addr.mk.injEq,and_true,true_and]at e;obtain⟨rfl,-⟩:=e;exact⟨g,0,cur,(0,0),rfl,e3⟩
theorem pX.cont{w:World}{r:Rh}(h:pX w r)(b:Bool):pX w {r with cont:=b}:=h
def yM(m first i:Nat):Nat:=if m≤first + i then first + i-m else first + i
def zX(SL:List Rh)(first n:Nat):List Rh:=(List.range n).map (fun i=>SL.getD (yM SL.length first i) eY)
theorem zT(SL:List Rh)(first n:Nat):(zX SL first n).length=n:=by simp[zX]
theorem cD{m first i:Nat}(hf:first < m)(hi:i<m):yM m first i<m:=by unfold yM;split<;>omega
theorem XI{m first i j:Nat}(hf:first < m)(hi:i<m)(hj:j<m)(h:yM m first i=yM m first j):i=j:=by
 unfold yM at h
 split at h<;>split at h<;>omega
theorem fI{SL:List Rh}{first n i:Nat}(hf:first < SL.length)(hn:n≤SL.length)(hi:i<n):(zX SL first n)[i]? =SL[yM SL.length first i]? :=by
 have hs:=cD hf (show i<SL.length by omega);unfold zX;rw[vQ,List.getElem?_range hi];simp[kP,jD hs]
theorem nX{SL:List Rh}{first n:Nat}(hf:first < SL.length)(hn:n<SL.length)(r:Rh):zX (SL.set (yM SL.length first n) r) first (n+1)=zX SL first n++[r]:=by
 have hs:=cD hf hn;refine vV fun i=>?_;rcases Nat.lt_or_ge i (n+1)with hi|hi
 · rw[fI (by simpa using hf) qW hi,uG];rcases Nat.lt_or_ge i n with h|h
   · rw[vE (by rw[zT];exact h),fI hf qJ h,List.getElem?_set_ne (fun e=>by have :=XI hf qJ qJ e;omega)]
   · have :i=n:=by omega
     subst this;rw[vU (by rw[zT];exact jS _),zT,List.getElem?_set_self hs];simp
 · rw[kI (by rw[zT];exact hi),kI (by simp[zT];omega)]
theorem Qp{SL:List Rh}{first n:Nat}(hf:first < SL.length)(hn:n≤SL.length)(h0:0<n)(r:Rh):zX (SL.set first r) (yM SL.length first 1) (n-1)=(zX SL first n).drop 1:=by
 refine vV fun i=>?_;rw[gV];rcases Nat.lt_or_ge i (n-1)with hi|hi
 · have h1:1<SL.length:=by omega
   have hs:=cD hf h1;rw[fI (by simpa using hs) qW hi,fI hf hn qJ,uG];have e:yM SL.length (yM SL.length first 1) i=yM SL.length first (1+i):=by
    unfold yM
    repeat' split
    all_goals omega
   rw[e,List.getElem?_set_ne];unfold yM
   split<;>omega
 · rw[kI (by rw[zT];exact hi),kI (by rw[zT];omega)]
theorem xS{H Z:List Rh}:zX (H++Z) 0 H.length=H:=by
 refine vV fun i=>?_;rcases Nat.lt_or_ge i H.length with hi|hi
 · rw[fI qW qV hi];have e:yM (H++Z).length 0 i=i:=by unfold yM;rw[if_neg qW];omega
   rw[e,vE hi]
 · rw[kI (by rw[zT];exact hi),kI hi]
structure RgO(base:Nat)(w:World)(R:Nat)(vl:Value)(SL:List Rh)(room first n:Nat)(gone:Int):Prop where
 blk:w.heap[R]? =some (.cells #[vl,.int .i64 room,.int .i64 first,.int .i64 n,.int .u64 gone] 178 (0,0))
 own:w.ownsRow base 97 2 vl SL.length (uS yZ SL)
 hb:base≤R
 hroom:room≤100000
 hn:n≤SL.length
 hm:SL.length≤room
 hf:first < SL.length∨(first =0∧SL.length=0)
 rows:∀r∈zX SL first n,pX w r∧0<r.cs.length
def gA(R:Nat)(vl:Value):List Nat:=R::vl.ownBlock.toList
theorem uA{w:World}{base n size:Nat}{e:TypeId}{v:Value}{xs:List Value}(h:w.ownsRow base e size v n xs){g:Nat}(hg:v.ownBlock=some g):∃cur:Array Value,w.heap[g]? =some (.cells cur e (0,0)):=by
 rcases h.2 with⟨rfl,-⟩|⟨g',c',cur,rfl,_,e3,_⟩
 · simp[Value.ownBlock]at hg
 · simp[Value.ownBlock]at hg;subst hg;exact⟨cur,e3⟩
theorem RgO.nocel{base:Nat}{w:World}{R:Nat}{vl:Value}{SL:List Rh}{room first n:Nat}{gone:Int}(h:RgO base w R vl SL room first n gone):yD w (gA R vl):=by
 intro b hb cs f he;rcases kW.1 hb with rfl|hb
 · rw[h.blk]at he;injection he with he
   injection he with _ ht
   exact absurd ht qZ
 · obtain⟨cur,hc⟩:=uA h.own qJ8;rw[hc]at he;injection he with he
   injection he with _ ht
   exact absurd ht qZ
theorem RgO.mod{X:List Nat}{base:Nat}{w w':World}{R:Nat}{vl:Value}{SL:List Rh}{room first n:Nat}{gone:Int}(h:RgO base w R vl SL room first n gone)(hm:Mod X w w')(hX:yD w X)(hR:∀g∈gA R vl,g∉X):RgO base w' R vl SL room first n gone:=
 ⟨(hm.block R (kF.1 h.blk).1 (hR R qJ5)).trans h.blk,uL h.own hm (fun g hg=>hR g (by simp[gA,hg])),h.hb,h.hroom,h.hn,h.hm,h.hf,fun r hr=>⟨(h.rows r hr).1.mod hm hX,(h.rows r hr).2⟩⟩
theorem RgO.below{base:Nat}{w w':World}{R:Nat}{vl:Value}{SL:List Rh}{room first n:Nat}{gone:Int}(h:RgO base w R vl SL room first n gone)(hb:Below w.heap.size w w'):RgO base w' R vl SL room first n gone:=
 h.mod (Mod.of_below (X:=[]) hb) (yD.nil w) (fun _ _ h=>by cases h)
theorem RgO.lt{base:Nat}{w:World}{R:Nat}{vl:Value}{SL:List Rh}{room first n:Nat}{gone:Int}(h:RgO base w R vl SL room first n gone):∀g∈gA R vl,base≤g∧g<w.heap.size:=fun g hg=>by
 rcases kW.1 hg with rfl|hg
 · exact qZh
 · exact h.own.lt g (by simpa[jT]using hg)
theorem RgO.ne{base:Nat}{w:World}{R:Nat}{vl:Value}{SL:List Rh}{room first n:Nat}{gone:Int}(h:RgO base w R vl SL room first n gone){g:Nat}(hg:vl.ownBlock=some g):g≠R:=by
 rintro rfl;obtain⟨cur,hc⟩:=uA h.own hg;rw[h.blk]at hc;injection hc with hc
 injection hc with _ ht
 exact absurd ht qZ
theorem Qw(r:Rh)(w:World)(h:pX w r)(h0:0<r.cs.length):
 ∃g cap w',(Builtin.append_ #[95,95] 95 #[.slice none 0 0,.slice r.A r.cs.length r.cap]).run jG w=.ok (.slice (some ⟨g,0,none⟩) r.cs.length cap) w'∧CrO w' w.heap.size g cap r.cs∧Below w.heap.size w w':=by
 obtain⟨j0,hj,gz0,gz1,gz2⟩:=info_parts dY;obtain⟨hz,hf,hg,hA⟩:=h;obtain⟨b,off,cs,f,hA,-⟩:=hA h0;rw[hA]at hg ⊢;obtain⟨v',w',hr,ho,hgr,-⟩:=run_append_own_at (P:=jG) w w.heap.size 95 95 154 j0 _ 8 72 uT hj gz0 gz1 gz2 rfl qZ _ 0 [] (uE _ _ _ _) ⟨b,off,none⟩ r.cs.length r.cap (uS kX r.cs) (yP vF r.cs) (hg.news vF) (mC gL _) qJv qJ (jS _);rw[kB,List.nil_append]at ho;obtain⟨g,cap,hv⟩:=Go.Joins.ownsRow_form ho h0;subst hv;exact⟨g,cap,w',hr,ho,(jU _ _).grown hgr (jS _) (fun k hk=>by cases hk)⟩
def US(r:Rh)(w:World)(e:Ending)(w':World):Prop:=∃g cap,e=.returned (.agg #[.slice (some ⟨g,0,none⟩) r.cs.length cap,.bool r.cont])∧pX w' ⟨some ⟨g,0,none⟩,r.cs,cap,r.cont⟩∧Below w.heap.size w w'∧w.heap.size≤g
theorem tH:(jG.info? 97).map (·.size)=some 2:=by kernel_rfl
theorem tQ{fn:Func}{p:Tmp}(hr:fn.results=#[.cell p 97])(tmps:Array Value)(w:World)(b:Nat)(u v:Value)(hp:tmps.getD p undef=.pointer (some ⟨b,0,none⟩))(h0:w.cell? ⟨b,0,none⟩=some u)(h1:w.cell? ⟨b,1,none⟩=some v):
 (results fn tmps).run jG w=.ok (.agg #[u,v]) w:=by
 rw[lS hr,hp];have :=run_loadVar_mid (P:=jG) w b 0 97 [u,v] _ (fun j x hj=>by
  rw[kB]
  match j,hj with
  |0,hj=>simp at hj;subst hj;exact h0
  |1,hj=>simp at hj;subst hj;exact h1) Tryz.underlying97 rfl tH
 simp only[asAddr,Sem.run_pure,Result.andThen_ok,this]
set_option maxHeartbeats 3200000 in
theorem QY(r:Rh)(w:World)(h:pX w r)(h0:0<r.cs.length):Calls jG 173 #[.agg #[.slice r.A r.cs.length r.cap,.bool r.cont]] w (US r w):=by
 have H:=Hd h;have H0:=Hd h0;clear h h0;obtain⟨A,cs,cap0,cont⟩:=r;simp only at H H0
 go_enter Tryz.func173,Tryz.ntmps173
 go_upto_region 1 with fail
 have HB:=Hd (jW (jW (jU w.heap.size w) (.cells #[.slice A cs.length cap0,.bool cont] 97)) (.cells #[.slice none 0 0,.bool false] 97));have x:=uI (o:=.cells #[.slice none 0 0,.bool false] 97) (kZ (W:=w) (b:=w.heap.size) (o:=.cells #[.slice A cs.length cap0,.bool cont] 97) rfl);have y:=kZ (W:=w.alloc (.cells #[.slice A cs.length cap0,.bool cont] 97)) (b:=w.heap.size+1) (o:=.cells #[.slice none 0 0,.bool false] 97) qV;generalize World.alloc _ _=W at HB x y ⊢;have x0:=(at_ x 0 _ rfl).1;have x1:=(at_ x 1 _ rfl).1;have Y:=Hd y;clear x y;refine gG 5 (fun w'=>Below W.heap.size W w'∧w'.cell? ⟨w.heap.size,0,none⟩=some (.slice A cs.length cap0)∧w'.cell? ⟨w.heap.size,1,none⟩=some (.bool cont)) qQ qQ (fun w1 w2 hS hb=>⟨jN hS.1 hb,jA hb hS.2.1,jA hb hS.2.2⟩) ⟨(jU _ _).drew,x0,x1⟩ ?_;refine AtN.go 0 ?_
 iterate 2 refine zA ?_
 refine AtC.back ?_;refine AtN.go 3 ?_
 iterate 2 refine zA ?_
 refine AtC.back ?_;refine AtN.one 2 (o:=⟨some 5,.call {callee:=.builtin .append,args:=#[.const (.slice none 0 0),.tmp 4],argTypes:=#[95,95]},95,_,_,none⟩) (fun v=>∃g cap,v=.slice (some ⟨g,0,none⟩) cs.length cap) (fun v w'=>∃g cap,v=.slice (some ⟨g,0,none⟩) cs.length cap∧pX w' ⟨some ⟨g,0,none⟩,cs,cap,cont⟩∧w.heap.size≤g) qV qQ rfl (fun v w1 w2 ⟨g,cap,hv,hr,hg⟩ hb=>⟨g,cap,hv,hr.below hb,hg⟩) (uY.new _ _ qK (fun w' hS=>?_)) ?_
 · obtain⟨g,cap,w2,hr,hc,hb⟩:=Qw ⟨A,cs,cap0,cont⟩ w' (H.o.below (jN HB.o hS.1)) H0.o;exact qZi
 rintro v ⟨g,cap,rfl⟩;refine zP ?_;refine AtN.done qQ (fun w' hS=>?_);obtain⟨⟨hb1,-,-⟩,g',cap',hv,hrc,hg⟩:=hS;simp only[Value.slice.injEq,Option.some.injEq,Addr.mk.injEq,and_true,true_and]at hv;obtain⟨rfl,rfl⟩:=hv;have HR:=Hd hrc;have HG:=Hd hg;have HB2:=Hd (jN HB.o hb1);obtain⟨y0,y0f⟩:=bQ hb1 (at_ Y.o 0 _ rfl);obtain⟨y1,y1f⟩:=bQ hb1 (at_ Y.o 1 _ rfl);have HB1:=Hd hb1;clear hb1 hrc hg x0 x1
 go_wp2
 have HB3:=kH (kH HB2.o (show w.heap.size≤w.heap.size+1 by omega) (o:=0) (.slice (some ⟨g,0,none⟩) cs.length cap)) (show w.heap.size≤w.heap.size+1 by omega) (o:=1) (.bool cont);have hset:=eZ (u':=.slice (some ⟨g,0,none⟩) cs.length cap) (v':=.bool cont) ⟨y0,y0f⟩ ⟨y1,y1f⟩;refine bodyPost_ret (tQ rfl _ _ (w.heap.size+1) _ _ rfl hset.1.1 hset.2.1) rfl ⟨g,cap,rfl,HR.o.mod (X:=[w.heap.size+1]) (((Mod.refl _ _).setCell (a:=⟨w.heap.size+1,0,none⟩) (.inl qV) _).setCell (a:=⟨w.heap.size+1,1,none⟩) (.inl qV) _) ?_,HB3,HG.o⟩;intro b hb cs' f he;rw[jR.1 hb,HB1.o.block _ (kQ Y.o),Y.o]at he;injection he with he
 injection he with _ ht
 exact absurd ht qZ
set_option maxHeartbeats 3200000 in
theorem ZV(r:Rh)(w:World)(h:pX w r)(h0:0<r.cs.length):Calls jG 102 #[.agg #[.slice r.A r.cs.length r.cap,.bool r.cont]] w (US r w):=by
 have H:=Hd h;have H0:=Hd h0;clear h h0;obtain⟨A,cs,cap0,cont⟩:=r;simp only at H H0
 go_enter Tryz.func102,Tryz.ntmps102
 go_upto_region 1 with fail
 have HB:=Hd (jW (jW (jU w.heap.size w) (.cells #[.slice A cs.length cap0,.bool cont] 97)) (.cells #[.slice none 0 0,.bool false] 97));have x:=uI (o:=.cells #[.slice none 0 0,.bool false] 97) (kZ (W:=w) (b:=w.heap.size) (o:=.cells #[.slice A cs.length cap0,.bool cont] 97) rfl);have y:=kZ (W:=w.alloc (.cells #[.slice A cs.length cap0,.bool cont] 97)) (b:=w.heap.size+1) (o:=.cells #[.slice none 0 0,.bool false] 97) qV;generalize World.alloc _ _=W at HB x y ⊢;have x0:=(at_ x 0 _ rfl).1;have x1:=(at_ x 1 _ rfl).1;have Y:=Hd y;clear x y;refine gG 5 (fun w'=>Below W.heap.size W w'∧w'.cell? ⟨w.heap.size,0,none⟩=some (.slice A cs.length cap0)∧w'.cell? ⟨w.heap.size,1,none⟩=some (.bool cont)) qQ qQ (fun w1 w2 hS hb=>⟨jN hS.1 hb,jA hb hS.2.1,jA hb hS.2.2⟩) ⟨(jU _ _).drew,x0,x1⟩ ?_;refine AtN.go 0 ?_
 iterate 2 refine zA ?_
 refine AtC.back ?_;refine AtN.go 3 ?_
 iterate 2 refine zA ?_
 refine AtC.back ?_;refine AtN.one 2 (o:=⟨some 5,.call {callee:=.builtin .append,args:=#[.const (.slice none 0 0),.tmp 4],argTypes:=#[95,95]},95,_,_,none⟩) (fun v=>∃g cap,v=.slice (some ⟨g,0,none⟩) cs.length cap) (fun v w'=>∃g cap,v=.slice (some ⟨g,0,none⟩) cs.length cap∧pX w' ⟨some ⟨g,0,none⟩,cs,cap,cont⟩∧w.heap.size≤g) qV qQ rfl (fun v w1 w2 ⟨g,cap,hv,hr,hg⟩ hb=>⟨g,cap,hv,hr.below hb,hg⟩) (uY.new _ _ qK (fun w' hS=>?_)) ?_
 · obtain⟨g,cap,w2,hr,hc,hb⟩:=Qw ⟨A,cs,cap0,cont⟩ w' (H.o.below (jN HB.o hS.1)) H0.o;exact qZi
 rintro v ⟨g,cap,rfl⟩;refine zP ?_;refine AtN.done qQ (fun w' hS=>?_);obtain⟨⟨hb1,-,-⟩,g',cap',hv,hrc,hg⟩:=hS;simp only[Value.slice.injEq,Option.some.injEq,Addr.mk.injEq,and_true,true_and]at hv;obtain⟨rfl,rfl⟩:=hv;have HR:=Hd hrc;have HG:=Hd hg;have HB2:=Hd (jN HB.o hb1);obtain⟨y0,y0f⟩:=bQ hb1 (at_ Y.o 0 _ rfl);obtain⟨y1,y1f⟩:=bQ hb1 (at_ Y.o 1 _ rfl);have HB1:=Hd hb1;clear hb1 hrc hg x0 x1
 go_wp2
 have HB3:=kH (kH HB2.o (show w.heap.size≤w.heap.size+1 by omega) (o:=0) (.slice (some ⟨g,0,none⟩) cs.length cap)) (show w.heap.size≤w.heap.size+1 by omega) (o:=1) (.bool cont);have hset:=eZ (u':=.slice (some ⟨g,0,none⟩) cs.length cap) (v':=.bool cont) ⟨y0,y0f⟩ ⟨y1,y1f⟩;refine bodyPost_ret (tQ rfl _ _ (w.heap.size+1) _ _ rfl hset.1.1 hset.2.1) rfl ⟨g,cap,rfl,HR.o.mod (X:=[w.heap.size+1]) (((Mod.refl _ _).setCell (a:=⟨w.heap.size+1,0,none⟩) (.inl qV) _).setCell (a:=⟨w.heap.size+1,1,none⟩) (.inl qV) _) ?_,HB3,HG.o⟩;intro b hb cs' f he;rw[jR.1 hb,HB1.o.block _ (kQ Y.o),Y.o]at he;injection he with he
 injection he with _ ht
 exact absurd ht qZ
theorem gE{w:World}{base n size:Nat}{e:TypeId}{v:Value}{xs:List Value}(h:w.ownsRow base e size v n xs)(hn:0<n):∃g c,v=.slice (some ⟨g,0,none⟩) n c:=by
 rcases h.2 with⟨-,h0⟩|⟨g,cap,cur,rfl,-⟩
 · omega
 · exact⟨g,cap,rfl⟩
theorem iT{R m first c:Nat}{A:Option Addr}{w:World}(x0:w.cell? ⟨R,0,none⟩=some (.slice A m c))(x2:w.cell? ⟨R,2,none⟩=some (.int .i64 first))(hm:m≤100000)(hf:first ≤100000)(i:Nat)(hi:i≤100000):
 Calls jG 174 #[.pointer (some ⟨R,0,none⟩),.int .i64 i] w fun e w'=>e=.returned (.int .i64 (yM m first i))∧w=w':=by
 obtain⟨s,hs⟩:∃s:Nat,s=first + i:=⟨_,rfl⟩
 have hsI:(i:Int)+(first :Int)=(s:Int):=by omega
 have hws:jP.wrap (s:Int)=(s:Int):=jH _ qJ
 by_cases hc:m≤s
 · have hv2:yM m first i=s-m:=by unfold yM;rw[if_pos qJ];omega
   rw[hv2];have hcI:(m:Int)≤(s:Int):=by omega
   have hd:(s:Int)-(m:Int)=((s-m:Nat):Int):=by omega
   have hwd:jP.wrap ((s-m:Nat):Int)=((s-m:Nat):Int):=jH _ qJ;clear hs hf hm
   go_enter Tryz.func174,Tryz.ntmps174
   go_wp2
   go_ret
   exact⟨rfl,rfl⟩
 · have hv2:yM m first i=s:=by unfold yM;rw[if_neg qJ];omega
   rw[hv2];have hcI:¬(m:Int)≤(s:Int):=by omega
   clear hs hf hm
   go_enter Tryz.func174,Tryz.ntmps174
   go_wp2
   go_ret
   exact⟨rfl,rfl⟩
section
variable {base:Nat}{w:World}{R:Nat}{vl:Value}{SL:List Rh}{room first n:Nat}{gone:Int}
theorem sO(h:RgO base w R vl SL room first n gone):Calls jG 148 #[.pointer (some ⟨R,0,none⟩)] w fun e w'=>e=.returned (.int .i64 n)∧w=w':=by
 have x3:=(at_ h.blk 3 _ rfl).1;clear h
 go_enter Tryz.func148,Tryz.ntmps148
 go_wp2
 go_ret
 exact⟨rfl,rfl⟩
theorem Un(h:RgO base w R vl SL room first n gone):Calls jG 149 #[.pointer (some ⟨R,0,none⟩)] w fun e w'=>e=.returned (.int .u64 gone)∧w=w':=by
 have x4:=(at_ h.blk 4 _ rfl).1;clear h
 go_enter Tryz.func149,Tryz.ntmps149
 go_wp2
 go_ret
 exact⟨rfl,rfl⟩
end
theorem Ya(room:Nat)(w:World)(hr:room≤100000):Calls jG 154 #[.int .i64 room] w fun e w'=>e=.returned (.tuple #[.pointer (some ⟨w.heap.size,0,none⟩),.int .i64 0])∧RgO w.heap.size w' w.heap.size (.slice none 0 0) [] room 0 0 0∧Below w.heap.size w w':=by
 have hrI:¬(100000:Int)<(room:Int):=by omega
 have hrI0:¬(room:Int)<0:=by omega
 go_enter Tryz.func154,Tryz.ntmps154
 go_wp2
 go_ret2
 exact⟨rfl,⟨kZ rfl,uE _ _ _ _,jS _,hr,jS _,kT _,.inr ⟨rfl,rfl⟩,fun r hr=>by cases hr⟩,jW (jU _ _) _⟩
theorem X7(room:Int)(w:World)(hr:room<0∨100000<room):Calls jG 154 #[.int .i64 room] w fun e w'=>e=.returned (.tuple #[.pointer none,.int .i64 1])∧w=w':=by
 by_cases h0:room<0
 · go_enter Tryz.func154,Tryz.ntmps154
   go_wp2
   go_ret2
   exact⟨rfl,rfl⟩
 · have h1:(100000:Int)<room:=by omega
   go_enter Tryz.func154,Tryz.ntmps154
   go_wp2
   go_ret2
   exact⟨rfl,rfl⟩
def iQ(base:Nat)(w:World)(R:Nat)(vl:Value)(room:Nat)(gone':Int)(H':List Ro)(w':World):Prop:=
 ∃vl' SL' first' n',RgO base w' R vl' SL' room first' n' gone'∧(zX SL' first' n').map yA=H'∧Mod (gA R vl) w w'∧∀g,vl'.ownBlock=some g→vl.ownBlock=some g∨w.heap.size≤g
theorem RgO.reblk{base:Nat}{w w':World}{R:Nat}{vl vl':Value}{SL SL':List Rh}{room first n first' n':Nat}{gone gone':Int}(h:RgO base w R vl SL room first n gone)
 (hb:w'.heap[R]? =some (.cells #[vl',.int .i64 room,.int .i64 first',.int .i64 n',.int .u64 gone'] 178 (0,0))) (ho:w'.ownsRow base 97 2 vl' SL'.length (uS yZ SL')) (hn:n'≤SL'.length) (hm:SL'.length≤room)
 (hf:first'<SL'.length∨(first'=0∧SL'.length=0)) (hr:∀r∈zX SL' first' n',pX w' r∧0<r.cs.length):RgO base w' R vl' SL' room first' n' gone':=⟨hb,ho,h.hb,h.hroom,hn,hm,hf,hr⟩
section
variable {base:Nat}{w:World}{R:Nat}{vl:Value}{SL:List Rh}{room first n:Nat}{gone:Int}
theorem Xd(h:RgO base w R vl SL room first n gone)(hg0:0≤gone)(hg1:gone<18446744073709551616):Calls jG 162 #[.pointer (some ⟨R,0,none⟩)] w fun e w'=>e=.returned (.int .i64 n)∧iQ base w R vl room ((gone+n)%18446744073709551616) [] w':=by
 have HL:=Hd (sO h);have hnr:n≤100000:=by have :=h.hn;have :=h.hm;have :=h.hroom;omega
 by_cases h0:n=0
 · subst h0;have H:=Hd h;clear h
   go_enter Tryz.func162,Tryz.ntmps162
   go_wp2_with(go_at_call 148;refine HL.o.mono ?_;rintro e w1 ⟨rfl,rfl⟩)
   go_ret
   refine⟨rfl,vl,SL,first,0,?_,rfl,Mod.refl _ _,fun g hg=>.inl hg⟩;have :=H.o
   rwa[show(gone+((0:Nat):Int))%18446744073709551616=gone by omega]
 · have hn0:(0:Int)<(n:Int):=by omega
   have hwn:IntKind.u64.wrap (n:Int)=(n:Int):=by rw[IntKind.wrap_u64];omega
   have hwg:IntKind.u64.wrap (gone+(n:Int))=(gone+n)%18446744073709551616:=IntKind.wrap_u64 _;have k0:=kY (cs:=[vl,.int .i64 room,.int .i64 first,.int .i64 n,.int .u64 gone]) h.blk 0 (.slice none 0 0) rfl;have k2:=kY k0 2 (.int .i64 0) rfl;have k3:=kY k2 3 (.int .i64 0) rfl;have k4:=kY k3 4 (.int .u64 ((gone+n)%18446744073709551616)) rfl;have HK:=Hd k4;have hM:Mod (gA R vl) w ((((w.setCell ⟨R,0,none⟩ (.slice none 0 0)).setCell ⟨R,2,none⟩ (.int .i64 0)).setCell ⟨R,3,none⟩ (.int .i64 0)).setCell ⟨R,4,none⟩ (.int .u64 ((gone+n)%18446744073709551616))):=
    ((((Mod.refl _ _).setCell (a:=⟨R,0,none⟩) (.inl qJ5) _).setCell (a:=⟨R,2,none⟩) (.inl qJ5) _).setCell (a:=⟨R,3,none⟩) (.inl qJ5) _).setCell (a:=⟨R,4,none⟩) (.inl qJ5) _
   have HM:=Hd hM;obtain⟨x0,f0⟩:=at_ h.blk 0 _ rfl;obtain⟨x2,f2⟩:=at_ h.blk 2 _ rfl;obtain⟨x3,f3⟩:=at_ h.blk 3 _ rfl;obtain⟨x4,f4⟩:=at_ h.blk 4 _ rfl;have H:=Hd h;clear h k0 k2 k3 k4 hM
   go_enter Tryz.func162,Tryz.ntmps162
   go_wp2_with(go_at_call 148;refine HL.o.mono ?_;rintro e w1 ⟨rfl,rfl⟩)
   go_ret
   refine⟨rfl,.slice none 0 0,[],0,0,H.o.reblk HK.o (uE _ _ _ _) (jS _) (kT _) (.inr ⟨rfl,rfl⟩) (fun r hr=>by cases hr),rfl,HM.o,fun g hg=>by simp[Value.ownBlock]at hg⟩
end
theorem lB{w:World}{base g n cap:Nat}{SL:List Rh}(h:w.ownsRow base 97 2 (.slice (some ⟨g,0,none⟩) n cap) n (uS yZ SL)){i:Nat}(hi:i<SL.length)(r:Rh):
 ((w.setCell ⟨g,i*2,none⟩ (.slice r.A r.cs.length r.cap)).setCell ⟨g,i*2+1,none⟩ (.bool r.cont)).ownsRow base 97 2 (.slice (some ⟨g,0,none⟩) n cap) n (uS yZ (SL.set i r)):=by
 have hx:SL[i]? =some SL[i]:=jD hi;have h1:=cR h (i*2) (.slice r.A r.cs.length r.cap);have h2:=cR h1 (i*2+1) (.bool r.cont);have e1:((uS yZ SL).set (i*2) (.slice r.A r.cs.length r.cap)).set (i*2+1) (.bool r.cont)=uS yZ (SL.set i r):=by
  have a1:=cT zJ SL i SL[i] {r with cont:=SL[i].cont} 0 (.slice r.A r.cs.length r.cap) hx qZ rfl;rw[vO]at a1;rw[a1];have a2:=cT zJ (SL.set i {r with cont:=SL[i].cont}) i {r with cont:=SL[i].cont} r 1 (.bool r.cont) (by simp[List.getElem?_set_self hi]) qZ rfl;rw[a2,List.set_set]
 rw[e1]at h2;exact h2
theorem yL{w:World}{base g n cap:Nat}{SL:List Rh}(h:w.ownsRow base 97 2 (.slice (some ⟨g,0,none⟩) n cap) n (uS yZ SL)){i:Nat}{r:Rh}(hr:SL[i]? =some r):
 (w.cell? ⟨g,i*2,none⟩=some (.slice r.A r.cs.length r.cap)∧w.frozen? ⟨g,i*2,none⟩=false)∧w.cell? ⟨g,i*2+1,none⟩=some (.bool r.cont)∧w.frozen? ⟨g,i*2+1,none⟩=false:=by
 have h0:=pC h (i:=i*2+0) (by rw[bS zJ SL i r 0 hr qZ];rfl);have h1:=pC h (i:=i*2+1) (by rw[bS zJ SL i r 1 hr qZ];rfl);rw[vO]at h0;exact⟨h0,h1⟩
theorem yB{X:List Nat}{w w1:World}{b o:Nat}{u v:Value}(h:Mod X w w1)(hb:b∈X∨w.heap.size≤b):Mod X w ((w1.setCell ⟨b,o,none⟩ u).setCell ⟨b,o+1,none⟩ v):=(h.setCell (a:=⟨b,o,none⟩) hb u).setCell (a:=⟨b,o+1,none⟩) hb v
section
variable {base:Nat}{w:World}{R:Nat}{vl:Value}{SL:List Rh}{room first n:Nat}{gone:Int}
theorem RgO.slots(h:RgO base w R vl SL room first n gone)(hf:first < SL.length):∃g c,vl=.slice (some ⟨g,0,none⟩) SL.length c∧g≠R∧g<w.heap.size∧R<w.heap.size:=by
 obtain⟨g,c,rfl⟩:=gE h.own qJ;exact⟨g,c,rfl,h.ne rfl,(h.own.lt g rfl).2,(kF.1 h.blk).1⟩
def qJs(base:Nat)(w:World)(R:Nat)(vl:Value)(SL:List Rh)(room first n:Nat)(gone:Int)(e:Ending)(w':World):Prop:=
 (∃r:Rh,e=.returned (.agg #[.slice r.A r.cs.length r.cap,.bool r.cont]))∧RgO base w' R vl (SL.set first eY) room (yM SL.length first 1) (n-1) ((gone+1)%18446744073709551616)∧Mod (gA R vl) w w'
set_option maxHeartbeats 3200000 in
theorem Uo(h:RgO base w R vl SL room first n gone)(hn0:0<n)(hg0:0≤gone):Calls jG 275 #[.pointer (some ⟨R,0,none⟩)] w (qJs base w R vl SL room first n gone):=by
 have hf:first < SL.length:=by
  rcases h.hf with hf|⟨-,hf⟩
  · exact hf
  · have :=h.hn;omega
 obtain⟨g,c,hv,hgR,hgl,hRl⟩:=h.slots hf;subst hv;have H:=Hd h;obtain⟨r,hr⟩:∃r,SL[first]? =some r:=⟨SL[first],jD hf⟩;have hnr:n≤100000:=by have :=h.hn;have :=h.hm;have :=h.hroom;omega
 have hmr:SL.length≤100000:=by have :=h.hm;have :=h.hroom;omega
 have hfI:(first :Int)<(SL.length:Int):=by omega
 have hw1:jP.wrap ((n:Int)-1)=((n-1:Nat):Int):=by rw[jH _ qJ];omega
 have hwn:jP.wrap ((n-1:Nat):Int)=((n-1:Nat):Int):=jH _ qJ;have hsub:(n:Int)-1=((n-1:Nat):Int):=by omega
 have hwg:IntKind.u64.wrap (gone+1)=(gone+1)%18446744073709551616:=IntKind.wrap_u64 _;obtain⟨W,hW⟩:∃W,w.alloc (.cells #[.slice none 0 0,.bool false] 97)=W:=⟨_,rfl⟩;have HB:=Hd (show Below w.heap.size w W from by rw[←hW];exact jW (jU _ _) _);have HN:=Hd (show W.heap[w.heap.size]? =some (.cells #[.slice none 0 0,.bool false] 97 (0,0))from by rw[←hW];exact kZ rfl);have hO:=h.below HB.o;have HO:=Hd hO;have x0:=(at_ hO.blk 0 _ rfl).1;have x2:=(at_ hO.blk 2 _ rfl).1;obtain⟨⟨r0,-⟩,r1,-⟩:=yL hO.own hr;clear h hO
 go_enter Tryz.func275,Tryz.ntmps275
 go_upto_region 1 with fail
 clear hW;refine gG 11 (fun w'=>Below W.heap.size W w'∧w'.cell? ⟨R,0,none⟩=some (.slice (some ⟨g,0,none⟩) SL.length c)∧w'.cell? ⟨R,2,none⟩=some (.int .i64 first)∧w'.cell? ⟨g,first * 2,none⟩=some (.slice r.A r.cs.length r.cap)∧w'.cell? ⟨g,first * 2+1,none⟩=some (.bool r.cont)) qQ qQ (fun w1 w2 hS hb=>⟨jN hS.1 hb,jA hb hS.2.1,jA hb hS.2.2.1,jA hb hS.2.2.2.1,jA hb hS.2.2.2.2⟩) ⟨(jU _ _).drew,x0,x2,r0,r1⟩ ?_;refine AtN.go 0 ?_
 iterate 10 refine zA ?_
 refine AtC.back ?_;refine AtN.one 10 (o:=⟨_,_,_,_,_,_⟩) _ _ qV qQ rfl (Yl.pers 97 #[.slice none 0 0,.bool false]) (uY.alloc W.heap.size 97 #[.slice none 0 0,.bool false] [] qK (fun w' hS=>by go_simp) (fun w' hS=>hS.1.size) (fun _ _ _ hx=>by cases hx)) ?_;rintro v ⟨k,rfl,hk,-⟩;refine zP ?_;refine AtN.done qQ (fun w' hS=>?_);have HB1:=Hd hS.1.1;have HK:=Hd hS.2.at_;clear hS x0 x2 r0 r1;have hkW:w.heap.size<k:=by have :=HN.o;have :=kQ this;omega
 obtain⟨y0,y0f⟩:=at_ HK.o 0 _ rfl;obtain⟨y1,y1f⟩:=at_ HK.o 1 _ rfl
 go_upto_region 2 with fail
 have HM2:=Hd (yB (o:=0) (u:=.slice r.A r.cs.length r.cap) (v:=.bool r.cont) (Mod.of_below (X:=[]) (jN HB.o HB1.o)) (.inr (Nat.le_of_lt hkW)));have HN2:Hid (((w'.setCell ⟨k,0,none⟩ (.slice r.A r.cs.length r.cap)).setCell ⟨k,1,none⟩ (.bool r.cont)).heap[w.heap.size]? =some (.cells #[.slice none 0 0,.bool false] 97 (0,0))):=Hd (by
  rw[gS qJ,gS qJ];exact(HB1.o.block _ (kQ HN.o)).trans HN.o)
 have HK2:=Hd (kY (kY (cs:=[.slice none 0 0,.bool false]) HK.o 0 (.slice r.A r.cs.length r.cap) (cs':=[.slice r.A r.cs.length r.cap,.bool false]) rfl) 1 (.bool r.cont) (cs':=[.slice r.A r.cs.length r.cap,.bool r.cont]) rfl);generalize uQ _ _ _=W2 at HM2 HN2 HK2 ⊢;have HO2:=Hd (H.o.mod HM2.o (yD.nil w) (fun _ _ h=>by cases h));have x0:=(at_ HO2.o.blk 0 _ rfl).1;have x2:=(at_ HO2.o.blk 2 _ rfl).1;clear y0 y0f y1 y1f;refine zW2 10 x0 x2 fun w' hS=>?_;have HB3:=Hd hS.1;have hO3:=HO2.o.below hS.1;obtain⟨⟨q0,q0f⟩,q1,q1f⟩:=yL hO3.own hr;have HK3:=Hd ((hS.1.block _ (kQ HK2.o)).trans HK2.o);have HN3:=Hd ((hS.1.block _ (kQ HN2.o)).trans HN2.o);have HO3:=Hd hO3;clear hS x0 x2 hO3
 go_upto_region 3 with fail
 have HOW:=Hd (lB HO3.o.own hf eY);have HM4:=Hd (yB (X:=gA R (.slice (some ⟨g,0,none⟩) SL.length c)) (b:=g) (o:=first * 2) (u:=.slice none 0 0) (v:=.bool false) ((HM2.o.mono (fun _ h=>by cases h)).then_below HB3.o) (.inl (by simp[gA,Value.ownBlock])));have HKg:k≠g:=by have :=HB1.o.size;have :=HB.o.size;omega
 have HBLK:Hid (((w'.setCell ⟨g,first * 2,none⟩ (.slice none 0 0)).setCell ⟨g,first * 2+1,none⟩ (.bool false)).heap[R]? =some (.cells [.slice (some ⟨g,0,none⟩) SL.length c,.int .i64 room,.int .i64 first,.int .i64 n,.int .u64 gone].toArray 178 (0,0))):=Hd ((gS (Ne.symm hgR)).trans ((gS (Ne.symm hgR)).trans HO3.o.blk));have HK4:=Hd ((gS (i:=first * 2+1) (v:=.bool false) HKg).trans ((gS (i:=first * 2) (v:=.slice none 0 0) HKg).trans HK3.o));have hNg:w.heap.size≠g:=by omega
 have HN4:=Hd ((gS (i:=first * 2+1) (v:=.bool false) hNg).trans ((gS (i:=first * 2) (v:=.slice none 0 0) hNg).trans HN3.o));clear q0 q0f q1 q1f;change Hid ((((w'.setCell ⟨g,first * 2,none⟩ (.slice none 0 0)).setCell ⟨g,first * 2+1,none⟩ (.bool false))).ownsRow _ _ _ _ _ _)at HOW;generalize uQ _ _ _=W4 at HOW HM4 HBLK HK4 HN4 ⊢;have HSL:=Hd (iT (vM HBLK.o 0 _ rfl) (vM HBLK.o 2 _ rfl) hmr qJ 1 qJ);obtain⟨z2,z2f⟩:=kC HBLK.o 2 _ rfl;obtain⟨z3,z3f⟩:=kC HBLK.o 3 _ rfl;obtain⟨z4,z4f⟩:=kC HBLK.o 4 _ rfl
 go_upto_region 6 with(go_at_call 174;refine HSL.o.mono ?_;rintro e w1 ⟨rfl,rfl⟩)
 have c2:=kY HBLK.o 2 (.int .i64 (yM SL.length first 1)) rfl;have c3:=kY c2 3 (.int .i64 ((n-1:Nat):Int)) rfl;have C4:=Hd (kY c3 4 (.int .u64 ((gone+1)%18446744073709551616)) rfl);have hkR:k≠R:=by have :=HB1.o.size;have :=HB.o.size;omega
 have hNR:w.heap.size≠R:=by omega
 have HK5:=Hd ((gS (i:=4) (v:=.int .u64 ((gone+1)%18446744073709551616)) hkR).trans ((gS (i:=3) (v:=.int .i64 ((n-1:Nat):Int)) hkR).trans ((gS (i:=2) (v:=.int .i64 (yM SL.length first 1)) hkR).trans HK4.o)));have HN5:=Hd ((gS (i:=4) (v:=.int .u64 ((gone+1)%18446744073709551616)) hNR).trans ((gS (i:=3) (v:=.int .i64 ((n-1:Nat):Int)) hNR).trans ((gS (i:=2) (v:=.int .i64 (yM SL.length first 1)) hNR).trans HN4.o)));have HM5:=Hd ((((Mod.refl [R] W4).setCell (a:=⟨R,2,none⟩) (.inl qV) (.int .i64 (yM SL.length first 1))).setCell (a:=⟨R,3,none⟩) (.inl qV) (.int .i64 ((n-1:Nat):Int))).setCell (a:=⟨R,4,none⟩) (.inl qV) (.int .u64 ((gone+1)%18446744073709551616)));clear c2 c3 z2 z2f z3 z3f z4 z4f;generalize uQ _ _ _=W5 at C4 HK5 HN5 HM5 ⊢;obtain⟨a0,-⟩:=at_ HK5.o 0 _ rfl;obtain⟨a1,-⟩:=at_ HK5.o 1 _ rfl;obtain⟨b0,b0f⟩:=at_ HN5.o 0 _ rfl;obtain⟨b1,b1f⟩:=at_ HN5.o 1 _ rfl;have HM6:=Hd (yB (b:=w.heap.size) (o:=0) (u:=.slice r.A r.cs.length r.cap) (v:=.bool r.cont) (HM4.o.trans HM5.o (fun x hx=>.inl (by rw[jR.1 hx];simp[gA]))) (.inr (jS _)))
 have HM7:=Hd (yB (b:=w.heap.size) (o:=0) (u:=.slice r.A r.cs.length r.cap) (v:=.bool r.cont) (HM5.o.mono (Y:=[R,w.heap.size]) (fun x hx=>by rw[jR.1 hx];simp)) (.inl qV));have HBLK7:=Hd ((gS (i:=1) (v:=.bool r.cont) (Ne.symm hNR)).trans ((gS (i:=0) (v:=.slice r.A r.cs.length r.cap) (Ne.symm hNR)).trans C4.o))
 go_wp2
 have hset:=eZ (u':=.slice r.A r.cs.length r.cap) (v':=.bool r.cont) ⟨b0,b0f⟩ ⟨b1,b1f⟩;refine bodyPost_ret (tQ rfl _ _ w.heap.size _ _ rfl hset.1.1 hset.2.1) rfl ⟨⟨r,rfl⟩,H.o.reblk HBLK7.o ?_ ?_ ?_ ?_ ?_,HM6.o⟩
 · have :=uL HOW.o HM7.o (fun x hx=>by simp[Value.ownBlock]at hx;subst hx;simp;omega)
   rwa[uG]
 · rw[uG];have :=H.o.hn;omega
 · rw[uG];exact H.o.hm
 · rw[uG];exact .inl (by unfold yM;split<;>omega)
 · intro x hx;rw[Qp hf H.o.hn hn0]at hx;have hx2:=H.o.rows x (List.mem_of_mem_drop hx);exact⟨hx2.1.mod HM6.o H.o.nocel,hx2.2⟩
end
theorem QO{α:Type}{enc:α→List Value}{K:Nat}(hl:∀x,(enc x).length=K)(hK:0<K)(z:α)(n:Nat):(madeCells (enc z).toArray (n*K)).toList=uS enc (kJ n z):=by
 refine vV fun m=>?_
 by_cases hm:m<n*K
 · have hd:m/K<n:=(Nat.div_lt_iff_lt_mul hK).2 hm;have h1:(kJ n z)[m/K]? =some z:=by rw[List.getElem?_replicate];rw[if_pos hd]
   have h2:=bS hl (kJ n z) (m/K) z (m%K) h1 (Nat.mod_lt _ hK);rw[show m/K*K+m%K=m by rw[Nat.mul_comm];exact Nat.div_add_mod m K]at h2;rw[h2];have hj:m%K<(enc z).length:=by rw[hl];exact Nat.mod_lt _ hK
   unfold madeCells;simp only[Array.toList_map,Array.toList_range,vQ,List.getElem?_range hm,Option.map_some];rw[jD hj]
   congr 1
   have hs:(enc z).toArray.size=K:=by rw[List.size_toArray,hl]
   rw[hs,getElem!_pos _ _ (by rw[hs];exact Nat.mod_lt _ hK)];simp
 · rw[kI (by simp[size_madeCells];omega),kI (by rw[yP hl,kS];omega)]
theorem iB:(jG.info? 97).map (fun i=>(i.zero,i.size,i.bytes))=some (some (.agg #[.slice none 0 0,.bool false]),2,32):=by kernel_rfl
theorem V6{α:Type}{H:List α}{z:α}{m i:Nat}(hi:i<H.length)(hm:i<m):(H.take i++kJ (m-i) z).set i H[i]=H.take (i+1)++kJ (m-(i+1)) z:=by
 rw[List.set_append_right _ _ (by rw[vH];omega),vH,show i-min i H.length=0 by omega,show m-i=(m-(i+1))+1 by omega,List.replicate_succ,jX,vJ hi,uK];rfl
section
variable {base:Nat}{w:World}{R:Nat}{vl:Value}{SL:List Rh}{room first n:Nat}{gone:Int}
def qJr(base:Nat)(w:World)(R:Nat)(H:List Rh)(room n:Nat)(gone:Int)(e:Ending)(w':World):Prop:=
 e=.returned (.tuple #[])∧∃vl' m,n<m∧RgO base w' R vl' (H++kJ (m-n) eY) room 0 n gone∧Mod [R] w w'∧∀g,vl'.ownBlock=some g→w.heap.size≤g
set_option maxHeartbeats 3200000 in
theorem Um(h:RgO base w R vl SL room first n gone)(hfull:n=SL.length)(hlt:SL.length<room)(hbw:base≤w.heap.size):Calls jG 276 #[.pointer (some ⟨R,0,none⟩)] w (qJr base w R (zX SL first n) room n gone):=by
 obtain⟨j0,hj,gz0,gz1,gz2⟩:=info_parts iB;obtain⟨A,c,hv⟩:=gU h.own;have hroom:=h.hroom;obtain⟨q,hq⟩:∃q:Nat,q=2*SL.length:=⟨_,rfl⟩;have hqI:(2:Int)*(SL.length:Int)=(q:Int):=by omega
 have hwq:jP.wrap (q:Int)=(q:Int):=jH _ qJ;obtain⟨s1,hs1⟩:∃s1:Nat,(if(4:Int)<(q:Int)then(q:Int)else 4)=(s1:Int):=⟨max 4 q,by omega⟩;obtain⟨m,hm⟩:∃m:Nat,(if s1<room then(s1:Int)else(room:Int))=(m:Int):=⟨min s1 room,by omega⟩;have hmn:n<m:=by omega
 have hmr:m≤room:=by omega
 have hmr2:m≤100000:=by omega
 have H:=Hd h;have x0:=(at_ h.blk 0 _ rfl).1;have x1:=(at_ h.blk 1 _ rfl).1;rw[hv]at x0;have HV:=Hd hv;have HQ:=Hd (kM hmn (kM hmr (kM hfull hlt)));clear hq h hv hfull
 go_enter Tryz.func276,Tryz.ntmps276
 go_upto_region 0 with fail
 refine zW2 12 x0 x1 fun w' hS=>?_;have HB1:=Hd hS.1;clear hS x0 x1;clear hs1 hqI hwq;have hb1:=HB1.o.size
 go_wp2_with(refine wpList_make_full _ rfl (.tmp 17) (.tmp 17) _ rfl w.heap.size 97 j0 _ 2 Tryz.underlying58 hj gz0 gz1 .i64 .i64 _ _ m rfl rfl ?_ ?_ ?_ ?_ ?_ ?_)
 all_goals first
  |rfl
  |omega
  |(simp only[maxLen];omega)
  |(rw[gz2];omega)
  |(simp;done)
  |skip
 intro w1 hown hg;have HG:=Hd hg;have e:=QO zJ qZ eY m;have HO0:Hid (w1.ownsRow w.heap.size 97 2 (.slice (some ⟨w'.heap.size,0,none⟩) m m) m (uS yZ (kJ m eY))):=Hd (by rw[←e];exact hown);clear hown hg e;have HB2:=Hd (show Below w.heap.size w w1 from HB1.o.grown HG.o hb1 (fun k hk=>by cases hk));have hO1:=H.o.below HB2.o;have x3:=(at_ hO1.blk 3 _ rfl).1;clear HG hO1;have hg1:w.heap.size≤w'.heap.size:=hb1;have hg2:=(HO0.o.lt w'.heap.size rfl).2;generalize w'.heap.size=g1 at HO0 hg1 hg2 ⊢;clear hm HB1 hb1;have HH:=Hd (zT SL first n);have hnN:n≤100000:=by omega
 go_wp2_with fail
 go_loopw [23] (fun s23 wr=>∃i:Nat,s23=.int .i64 i∧i≤n∧wr.ownsRow w.heap.size 97 2 (.slice (some ⟨g1,0,none⟩) m m) m (uS yZ ((zX SL first n).take i++kJ (m-i) eY))∧Mod [g1] w1 wr) (fun s23 _=>n-(intOf s23).toNat)
 case atStart=>exact⟨0,rfl,kT _,by simpa using HO0.o,Mod.refl _ _⟩
 case round=>
  obtain⟨i,rfl,hi,hO,hM⟩:=hrel;have HOi:=Hd hO;have HMi:=Hd hM;have HMw:=Hd ((Mod.of_below (X:=[g1]) HB2.o).trans hM (fun x hx=>.inl hx));have hNC:yD w1 [g1]:=fun b hb cs f he=>by
   rw[jR.1 hb]at he;obtain⟨cur,hc⟩:=uA HO0.o (g:=g1) rfl;rw[hc]at he;injection he with he
   injection he with _ ht
   exact absurd ht qZ
  have HRi:=Hd ((H.o.below HB2.o).mod hM hNC (fun x hx hX=>by rw[jR.1 hX]at hx;have :=H.o.lt g1 hx;omega));clear hO hM hNC
  by_cases hlt2:i<n
  rotate_left
  · obtain rfl:i=n:=by omega
    obtain⟨y0,y0f⟩:=at_ HRi.o.blk 0 _ rfl;obtain⟨y2,y2f⟩:=at_ HRi.o.blk 2 _ rfl;have HK:=Hd (kY (kY (cs:=[vl,.int .i64 room,.int .i64 first,.int .i64 i,.int .u64 gone]) HRi.o.blk 0 (.slice (some ⟨g1,0,none⟩) m m) (cs':=[.slice (some ⟨g1,0,none⟩) m m,.int .i64 room,.int .i64 first,.int .i64 i,.int .u64 gone]) rfl) 2 (.int .i64 0) (cs':=[.slice (some ⟨g1,0,none⟩) m m,.int .i64 room,.int .i64 0,.int .i64 i,.int .u64 gone]) rfl);have hRl:=(H.o.lt R qJ5).2;have HMf:=Hd (((HMw.o.mono (Y:=[R,g1]) (fun x hx=>by rw[jR.1 hx];simp)).setCell (a:=⟨R,0,none⟩) (.inl qV) (.slice (some ⟨g1,0,none⟩) m m)).setCell (a:=⟨R,2,none⟩) (.inl qV) (.int .i64 0))
    go_wp2
    go_end0
    have hl:(zX SL first i++kJ (m-i) eY).length=m:=by rw[jI,HH.o,kS];omega
    have hMR:Mod [R] w ((wr.setCell ⟨R,0,none⟩ (.slice (some ⟨g1,0,none⟩) m m)).setCell ⟨R,2,none⟩ (.int .i64 0)):=(Mod.trans (X:=[R]) (Y:=[R,g1]) (Mod.refl [R] w) HMf.o (fun x hx=>by
     rcases kW.1 hx with rfl|hx
     · exact .inl qV
     · rw[jR.1 hx];exact .inr hg1))
    refine⟨rfl,.slice (some ⟨g1,0,none⟩) m m,m,HQ.o.1,⟨HK.o,?_,H.o.hb,H.o.hroom,by rw[hl];omega,by rw[hl];exact hmr,.inl (by rw[hl];omega),?_⟩,hMR,fun g hg=>by simp[Value.ownBlock]at hg;omega⟩
    · rw[hl];have h1:=HOi.o;rw[show(zX SL first i).take i=zX SL first i from vT (by rw[HH.o];exact jS _)]at h1;have h2:=uL h1 ((Mod.refl [R] wr).setCell (a:=⟨R,0,none⟩) (.inl qV) (.slice (some ⟨g1,0,none⟩) m m) |>.setCell (a:=⟨R,2,none⟩) (.inl qV) (.int .i64 0)) (fun x hx=>by simp[Value.ownBlock]at hx;simp;omega);exact gJ h2 hbw
    · intro x hx;have e:zX (zX SL first i++kJ (m-i) eY) 0 i=zX SL first i:=by
       have :=xS (H:=zX SL first i) (Z:=kJ (m-i) eY)
       rwa[HH.o]at this
      rw[e]at hx;have :=H.o.rows x hx;exact⟨this.1.mod hMR (fun b hb cs f he=>by
       rw[jR.1 hb,H.o.blk]at he;injection he with he
       injection he with _ ht
       exact absurd ht qZ),this.2⟩
  · have hf:first < SL.length:=by
     rcases H.o.hf with hf|⟨-,hf⟩
     · exact hf
     · have :=H.o.hn;omega
    obtain⟨k,hk⟩:∃k,yM SL.length first i=k:=⟨_,rfl⟩
    have hkl:k<SL.length:=by rw[←hk];exact cD hf (by have :=H.o.hn;omega)
    obtain⟨r,hr⟩:∃r,SL[k]? =some r:=⟨SL[k],jD hkl⟩;have hHi:(zX SL first n)[i]? =some r:=by rw[fI hf H.o.hn hlt2,hk,hr]
    obtain⟨gs,cs,hvs⟩:=gE H.o.own qJ;have hownS:=HRi.o.own;have x0:=(at_ HRi.o.blk 0 _ rfl).1;rw[hvs]at hownS x0;obtain⟨⟨r0,-⟩,r1,-⟩:=yL hownS hr;have x2:wr.cell? ⟨R,2,none⟩=some (.int .i64 first):=(at_ HRi.o.blk 2 _ rfl).1;have hfr:first ≤100000:=by have :=HQ.o;omega
    have hkI:(k:Int)<(SL.length:Int):=by omega
    have hiI:(i:Int)<(n:Int):=by omega
    have him:i<m:=by omega
    have himI:(i:Int)<(m:Int):=by omega
    have HHI:=Hd hHi;clear hHi hr hownS hvs hf
    go_upto_region 5 with fail
    refine zU 12 (fun w2=>Below wr.heap.size wr w2∧w2.cell? ⟨R,0,none⟩=some (.slice (some ⟨gs,0,none⟩) SL.length cs)∧w2.cell? ⟨gs,k*2,none⟩=some (.slice r.A r.cs.length r.cap)∧w2.cell? ⟨gs,k*2+1,none⟩=some (.bool r.cont)) ⟨(jU _ _).drew,x0,r0,r1⟩ ?_
    repeat first|refine zS ?_|(refine kN 174 #[.pointer (some ⟨R,0,none⟩),.int .i64 i] (.int .i64 k) qK ?_ (fun w2 hS=>(iT hS.2.1 ((Mod.of_below (X:=[]) hS.1).cell qV x2) qJ qJ i qJ).mono (fun e w3 h=>⟨by rw[←hk];exact h.1,h.2▸hS⟩)) ?_;(focus(intro w2;go_simp;done));refine zP ?_)|refine zV ?_
    refine kU (fun w' hS=>?_);have HB5:=Hd hS.1;have hO5:=uL HOi.o (Mod.of_below (X:=[]) hS.1) (fun _ _ h=>by cases h);have hil:i<((zX SL first n).take i++kJ (m-i) eY).length:=by rw[jI,vH,kS];have :=HH.o;omega
    obtain⟨zr,hzr⟩:∃zr,((zX SL first n).take i++kJ (m-i) eY)[i]? =some zr:=⟨_,jD hil⟩;obtain⟨⟨q0,q0f⟩,q1,q1f⟩:=yL hO5 hzr;have HO5:=Hd hO5;clear hS x0 r0 r1 hO5 x2
    go_wp2
    have hset:=lB HO5.o hil r;have hHe:r=(zX SL first n)[i]'(by rw[HH.o];exact hlt2):=by have :=(jE.1 HHI.o).2;exact this.symm
    rw[hHe,V6 (by rw[HH.o];exact hlt2) him,←hHe]at hset;have HSET:=Hd hset;have HM6:=Hd (yB (b:=g1) (o:=i*2) (u:=.slice r.A r.cs.length r.cap) (v:=.bool r.cont) (HMi.o.then_below HB5.o) (.inl qV));clear hset hHe
    go_roundw
    case rel=>exact⟨i+1,by go_num,by omega,HSET.o,HM6.o⟩
    case measure=>exact zm
end
theorem iE{fn:Func}{p u:Tmp}(hr:fn.results=#[.cell p 97,.tmp u])(tmps:Array Value)(w:World)(b:Nat)(x y z:Value)(hp:tmps.getD p undef=.pointer (some ⟨b,0,none⟩))(hu:tmps.getD u undef=z)(h0:w.cell? ⟨b,0,none⟩=some x)(h1:w.cell? ⟨b,1,none⟩=some y):
 (results fn tmps).run jG w=.ok (.tuple #[.agg #[x,y],z]) w:=by
 rw[results_cell_tmp hr,hp,hu];have :=run_loadVar_mid (P:=jG) w b 0 97 [x,y] _ (fun j v hj=>by
  rw[kB]
  match j,hj with
  |0,hj=>simp at hj;subst hj;exact h0
  |1,hj=>simp at hj;subst hj;exact h1) Tryz.underlying97 rfl tH
 simp only[asAddr,Sem.run_pure,Result.andThen_ok,this]
section
variable {base:Nat}{w:World}{R:Nat}{vl:Value}{SL:List Rh}{room first n:Nat}{gone:Int}
def qJo(base:Nat)(w:World)(R:Nat)(vl:Value)(room n:Nat)(gone:Int)(H:List Ro)(r:Ro)(e:Ending)(w':World):Prop:=
 ∃r6:Rh,e=.returned (.tuple #[.agg #[.slice r6.A r6.cs.length r6.cap,.bool r6.cont],.bool (decide (n=room))])∧iQ base w R vl room (if n=room then(gone+1)%18446744073709551616 else gone) (if room=0 then[]else if n=room then H.drop 1++[r]else H++[r]) w'
theorem RgO.pushed{w':World}{SL':List Rh}{first' n' g c:Nat}{gone':Int}(h:RgO base w' R (.slice (some ⟨g,0,none⟩) SL'.length c) SL' room first' n' gone')(hn:n'<SL'.length)(r1:Rh)(hr:pX w' r1)(h0:0<r1.cs.length)(hgR:g≠R)(k:Nat)(hk:yM SL'.length first' n'=k):
 RgO base (((w'.setCell ⟨g,k*2,none⟩ (.slice r1.A r1.cs.length r1.cap)).setCell ⟨g,k*2+1,none⟩ (.bool r1.cont)).setCell ⟨R,3,none⟩ (.int .i64 ((n'+1:Nat):Int))) R (.slice (some ⟨g,0,none⟩) SL'.length c) (SL'.set k r1) room first' (n'+1) gone'∧
 Mod (gA R (.slice (some ⟨g,0,none⟩) SL'.length c)) w' (((w'.setCell ⟨g,k*2,none⟩ (.slice r1.A r1.cs.length r1.cap)).setCell ⟨g,k*2+1,none⟩ (.bool r1.cont)).setCell ⟨R,3,none⟩ (.int .i64 ((n'+1:Nat):Int))):=by
 have hf:first'<SL'.length:=by
  rcases h.hf with hf|⟨-,hf⟩
  · exact hf
  · omega
 have hkl:k<SL'.length:=by rw[←hk];exact cD hf hn
 have hM:Mod (gA R (.slice (some ⟨g,0,none⟩) SL'.length c)) w' (((w'.setCell ⟨g,k*2,none⟩ (.slice r1.A r1.cs.length r1.cap)).setCell ⟨g,k*2+1,none⟩ (.bool r1.cont)).setCell ⟨R,3,none⟩ (.int .i64 ((n'+1:Nat):Int))):=
  (yB (Mod.refl _ _) (.inl (by simp[gA,Value.ownBlock]))).setCell (a:=⟨R,3,none⟩) (.inl qJ5) _
 refine⟨h.reblk ?_ ?_ ?_ ?_ ?_ ?_,hM⟩
 · have h1:=(gS (i:=k*2+1) (v:=.bool r1.cont) (Ne.symm hgR)).trans ((gS (i:=k*2) (v:=.slice r1.A r1.cs.length r1.cap) (Ne.symm hgR)).trans h.blk);exact kY (cs:=[.slice (some ⟨g,0,none⟩) SL'.length c,.int .i64 room,.int .i64 first',.int .i64 n',.int .u64 gone']) h1 3 _ rfl
 · have h1:=lB h.own hkl r1;have h2:=uL h1 ((Mod.refl [R] _).setCell (a:=⟨R,3,none⟩) (.inl qV) (.int .i64 ((n'+1:Nat):Int))) (fun x hx=>by simp[Value.ownBlock]at hx;simp;omega)
   rwa[uG]
 · rw[uG];omega
 · rw[uG];exact h.hm
 · rw[uG];exact .inl hf
 · intro x hx;rw[←hk,nX hf hn]at hx;rcases kL.1 hx with hx|hx
   · exact⟨(h.rows x hx).1.mod hM h.nocel,(h.rows x hx).2⟩
   · rw[jR.1 hx];exact⟨hr.mod hM h.nocel,h0⟩
set_option maxHeartbeats 3200000 in
theorem Ul(h:RgO base w R vl SL room first n gone)(hg0:0≤gone)(hbw:base≤w.heap.size)(r:Rh)(hr:pX w r)(h0:0<r.cs.length):
 Calls jG 227 #[.pointer (some ⟨R,0,none⟩),.agg #[.slice r.A r.cs.length r.cap,.bool r.cont]] w (qJo base w R vl room n gone ((zX SL first n).map yA) (yA r)):=by
 have H:=Hd h;have HOWN:=Hd (fun w' (hr:pX w' r)=>QY r w' hr h0);have HR:=Hd hr;have H0:=Hd h0;have hRl:=(h.lt R qJ5).2;clear h hr h0;obtain⟨A,cs,cap0,cont⟩:=r;simp only at HOWN HR H0;have HA3:=Hd (uI (o:=.cells #[.slice none 0 0,.bool false] 97) (kZ (W:=w) (o:=.cells #[.slice A cs.length cap0,.bool cont] 97) rfl));have HA4:=Hd (kZ (W:=w.alloc (.cells #[.slice A cs.length cap0,.bool cont] 97)) (b:=w.heap.size+1) (o:=.cells #[.slice none 0 0,.bool false] 97) qV);have HAB:=Hd (jW (jW (jU w.heap.size w) (.cells #[.slice A cs.length cap0,.bool cont] 97)) (.cells #[.slice none 0 0,.bool false] 97))
 go_enter Tryz.func227,Tryz.ntmps227
 go_upto_region 4 with(first
  |(go_at_call 173;refine(HOWN.o _ (HR.o.below HAB.o)).mono ?_;rintro e w1 ⟨g1,cap1,rfl,hrc,hb1,hg1⟩;have HRC:=Hd hrc;have HB1:=Hd (jN HAB.o hb1)
    have HC3:=Hd ((hb1.block _ (kQ HA3.o)).trans HA3.o);have HC4:=Hd ((hb1.block _ (kQ HA4.o)).trans HA4.o);obtain⟨n0,n0f⟩:=at_ HC3.o 0 _ rfl;obtain⟨n1,n1f⟩:=at_ HC3.o 1 _ rfl;clear hrc hb1)
  |fail)
 clear HA3 HA4 HAB hg1 n0 n0f n1 n1f;have HB2:=Hd (kH (kH HB1.o (jS _) (o:=0) (.slice (some ⟨g1,0,none⟩) cs.length cap1)) (jS _) (o:=1) (.bool cont));have HN3:=Hd (kY (kY (cs:=[.slice A cs.length cap0,.bool cont]) HC3.o 0 (.slice (some ⟨g1,0,none⟩) cs.length cap1) (cs':=[.slice (some ⟨g1,0,none⟩) cs.length cap1,.bool cont]) rfl) 1 (.bool cont) (cs':=[.slice (some ⟨g1,0,none⟩) cs.length cap1,.bool cont]) rfl);have HN4:=Hd ((gS (i:=1) (v:=.bool cont) (show w.heap.size+1≠w.heap.size by omega)).trans ((gS (i:=0) (v:=.slice (some ⟨g1,0,none⟩) cs.length cap1) (show w.heap.size+1≠w.heap.size by omega)).trans HC4.o));have HRC2:=Hd (HRC.o.mod (yB (X:=[w.heap.size]) (b:=w.heap.size) (o:=0) (u:=.slice (some ⟨g1,0,none⟩) cs.length cap1) (v:=.bool cont) (Mod.refl _ _) (.inl qV)) (fun b hb cs' f he=>by
  rw[jR.1 hb,HC3.o]at he;injection he with he
  injection he with _ ht
  exact absurd ht qZ))
 generalize uQ _ _ _=W2 at HB2 HN3 HN4 HRC2 ⊢;clear HB1 HC3 HC4 HRC HOWN HR;have HO2:=Hd (H.o.below HB2.o);have x1:=(at_ HO2.o.blk 1 _ rfl).1;have hNR:w.heap.size≠R:=by omega
 have hNR4:w.heap.size+1≠R:=by omega
 have hwg:IntKind.u64.wrap (gone+1)=(gone+1)%18446744073709551616:=IntKind.wrap_u64 _;have hnr:n≤100000:=by have :=H.o.hn;have :=H.o.hm;have :=H.o.hroom;omega
 have hmr:SL.length≤100000:=by have :=H.o.hm;have :=H.o.hroom;omega
 by_cases hr0:room=0
 · subst hr0;have hn0:n=0:=by have :=H.o.hn;have :=H.o.hm;omega
   subst hn0;obtain⟨z4,z4f⟩:=at_ HO2.o.blk 4 _ rfl
   go_upto_region 6 with fail
   have HK:=Hd (kY (cs:=[vl,.int .i64 (0:Nat),.int .i64 first,.int .i64 (0:Nat),.int .u64 gone]) HO2.o.blk 4 (.int .u64 ((gone+1)%18446744073709551616)) (cs':=[vl,.int .i64 (0:Nat),.int .i64 first,.int .i64 (0:Nat),.int .u64 ((gone+1)%18446744073709551616)]) rfl);have HM:=Hd (((Mod.of_below (X:=gA R vl) HB2.o).setCell (a:=⟨R,4,none⟩) (.inl qJ5) (.int .u64 ((gone+1)%18446744073709551616))));have HO3:=Hd (uL HO2.o.own ((Mod.refl [R] W2).setCell (a:=⟨R,4,none⟩) (.inl qV) (.int .u64 ((gone+1)%18446744073709551616))) (fun x hx=>by have :=H.o.ne hx;simpa using this));have HP3:=Hd ((gS (i:=4) (v:=.int .u64 ((gone+1)%18446744073709551616)) hNR).trans HN3.o);have HP4:=Hd ((gS (i:=4) (v:=.int .u64 ((gone+1)%18446744073709551616)) hNR4).trans HN4.o);clear z4 z4f x1;generalize uQ _ _ _=W3 at HK HM HO3 HP3 HP4 ⊢;obtain⟨a0,-⟩:=kC HP3.o 0 _ rfl;obtain⟨a1,-⟩:=kC HP3.o 1 _ rfl;obtain⟨b0,b0f⟩:=at_ HP4.o 0 _ rfl;obtain⟨b1,b1f⟩:=at_ HP4.o 1 _ rfl
   go_wp2
   have hset:=eZ (u':=.slice (some ⟨g1,0,none⟩) cs.length cap1) (v':=.bool cont) ⟨b0,b0f⟩ ⟨b1,b1f⟩;have hM2:Mod [w.heap.size+1] W3 ((W3.setCell ⟨w.heap.size+1,0,none⟩ (.slice (some ⟨g1,0,none⟩) cs.length cap1)).setCell ⟨w.heap.size+1,1,none⟩ (.bool cont)):=yB (Mod.refl _ _) (.inl qV);refine bodyPost_ret (iE rfl _ _ (w.heap.size+1) _ _ _ rfl rfl hset.1.1 hset.2.1) rfl ⟨⟨some ⟨g1,0,none⟩,cs,cap1,cont⟩,rfl,vl,SL,first,0,H.o.reblk ((hM2.block R (by have :=HM.o.size;omega) qW).trans HK.o) (uL HO3.o hM2 (fun x hx=>by have :=(H.o.own.lt x hx).2;simp;omega)) H.o.hn H.o.hm H.o.hf (fun r hr=>by cases hr),rfl,HM.o.trans hM2 (fun x hx=>by rw[jR.1 hx];exact .inr qJ),fun g hg=>.inl hg⟩
 have hr0I:((room:Int)==0)=false:=by simp;omega
 have x3:W2.cell? ⟨R,3,none⟩=some (.int .i64 n):=(at_ HO2.o.blk 3 _ rfl).1;have x1':W2.cell? ⟨R,1,none⟩=some (.int .i64 room):=x1;clear x1;obtain⟨W3,hW3⟩:∃W3,W2.alloc (.cells #[.slice none 0 0,.bool false] 97)=W3:=⟨_,rfl⟩;have hb3:Below W2.heap.size W2 W3:=by rw[←hW3];exact jW (jU _ _) _
 have HN6:=Hd (show W3.heap[W2.heap.size]? =some (.cells #[.slice none 0 0,.bool false] 97 (0,0))from by rw[←hW3];exact kZ rfl);have HBW3:=Hd (jN HB2.o hb3);have HO3:=Hd (HO2.o.below hb3);have HP3:=Hd ((hb3.block _ (kQ HN3.o)).trans HN3.o);have HP4:=Hd ((hb3.block _ (kQ HN4.o)).trans HN4.o);have HRC3:=Hd (HRC2.o.below hb3);have x31:=jA hb3 x1';have x33:=jA hb3 x3;have hN4lt:w.heap.size+1<W3.heap.size:=kQ HP4.o;have hN6lt:W2.heap.size<W3.heap.size:=kQ HN6.o;have hN64:w.heap.size+1<W2.heap.size:=kQ HN4.o;clear hb3 HN3 HN4 HRC2 HO2;generalize hN6e:W2.heap.size=N6 at HN6 hN6lt hN64
 by_cases hfull:n=room
 · have hfullI:((n:Int)==(room:Int))=true:=by simp;omega
   have hmfull:SL.length=room:=by have :=H.o.hn;have :=H.o.hm;omega
   have hn0:0<n:=by omega
   have HF:=Hd hfull;have hN6V:N6∉gA R vl:=fun hx=>by have :=H.o.lt N6 hx;omega
   clear hfull
   go_upto_region 8 with fail
   clear hW3 x3 x1';refine jO 9 (fun w2=>Below W3.heap.size W3 w2∧w2.cell? ⟨R,3,none⟩=some (.int .i64 n)∧w2.cell? ⟨R,1,none⟩=some (.int .i64 room)) qQ qQ ?_ ?_
   · exact⟨(jU _ _).drew,x33,x31⟩
   simp only[jC,jL,jB,jF]
   repeat(
    (first
     |refine kV qK ?_
     |(refine kG ?_ qK ?_ ?_;rotate_left;(focus(intro w' hS;obtain⟨_,_,_⟩:=hS;go_simp;first|done|with_reducible rfl))))
    simp only[Act.put,jZ,jX,jY])
   refine kU (fun w' hS=>?_);have HBW:=Hd (jN HBW3.o hS.1);have HBS:=Hd hS.1.size;have HO4:=Hd (HO3.o.below hS.1);have HQ3:=Hd ((hS.1.block _ (kQ HP3.o)).trans HP3.o);have HQ4:=Hd ((hS.1.block _ (kQ HP4.o)).trans HP4.o);have HQ6:=Hd ((hS.1.block _ (kQ HN6.o)).trans HN6.o);have HRC4:=Hd (HRC3.o.below hS.1);clear hS x33 x31;have HDR:=Hd (Uo HO4.o hn0 hg0)
   go_upto_region 11 with(go_at_call 275;refine HDR.o.mono ?_;rintro e w5 ⟨⟨r6,rfl⟩,ho5,hm5⟩;have HO5':=Hd ho5;have HM5':=Hd hm5
                          have HT6:=Hd ((hm5.block _ (kQ HQ6.o) hN6V).trans HQ6.o);obtain⟨t60,t60f⟩:=at_ HT6.o 0 _ rfl;obtain⟨t61,t61f⟩:=at_ HT6.o 1 _ rfl;clear ho5 hm5)
   clear t60 t60f t61 t61f;have HT6':=Hd (kY (kY (cs:=[.slice none 0 0,.bool false]) HT6.o 0 (.slice r6.A r6.cs.length r6.cap) (cs':=[.slice r6.A r6.cs.length r6.cap,.bool false]) rfl) 1 (.bool r6.cont) (cs':=[.slice r6.A r6.cs.length r6.cap,.bool r6.cont]) rfl);have HS6:=Hd (yB (X:=[N6]) (b:=N6) (o:=0) (u:=.slice r6.A r6.cs.length r6.cap) (v:=.bool r6.cont) (Mod.refl _ w5) (.inl qV));have HV5:w.heap.size+1∉gA R vl:=fun hx=>by have :=H.o.lt _ hx;omega
   have HV3:w.heap.size∉gA R vl:=fun hx=>by have :=H.o.lt _ hx;omega
   have HU3:=Hd ((HM5'.o.block _ (kQ HQ3.o) HV3).trans HQ3.o);have HU4:=Hd ((HM5'.o.block _ (kQ HQ4.o) HV5).trans HQ4.o);have HU3':=Hd ((HS6.o.block _ (kQ HU3.o) qW).trans HU3.o);have HU4':=Hd ((HS6.o.block _ (kQ HU4.o) qW).trans HU4.o);have hNC6:yD w5 [N6]:=fun b hb cs' f he=>by
    rw[jR.1 hb,HT6.o]at he;injection he with he
    injection he with _ ht
    exact absurd ht qZ
   have HO6':=Hd (HO5'.o.mod HS6.o hNC6 (fun x hx hX=>by rw[jR.1 hX]at hx;exact hN6V hx));have HRC6:=Hd ((HRC4.o.mod HM5'.o HO4.o.nocel).mod HS6.o hNC6);have HM6:=Hd (((Mod.of_below (X:=gA R vl) HBW.o).trans HM5'.o (fun x hx=>.inl hx)).trans HS6.o (fun x hx=>by rw[jR.1 hx];exact .inr qJ));have hs6:W3.heap.size≤((w5.setCell ⟨N6,0,none⟩ (.slice r6.A r6.cs.length r6.cap)).setCell ⟨N6,1,none⟩ (.bool r6.cont)).heap.size:=vY HBS.o (vY HM5'.o.size HS6.o.size);clear HT6 HU3 HU4 HRC4 HQ3 HQ4 HQ6 HM5' HO5' hNC6;generalize uQ _ _ _=Wc at HT6' HS6 HU3' HU4' HO6' HRC6 HM6 hs6 ⊢;have hnS:=H.o.hn;have hfS:first < SL.length:=by
    rcases H.o.hf with h|⟨-,h⟩
    · exact h
    · omega
   obtain⟨gv,cv,hgv⟩:=gE HO6'.o.own (by rw[uG];omega);obtain⟨SL5,first5,n5,g5,c5,r6,HO5,HIST,HP6,hn5,hg5p,hlt5⟩:∃(SL5:List Rh) (first5 n5 g5 c5:Nat) (r6:Rh),Hid (RgO base Wc R (.slice (some ⟨g5,0,none⟩) SL5.length c5) SL5 room first5 n5 ((gone+1)%18446744073709551616))∧Hid ((zX SL5 first5 n5).map yA=((zX SL first n).map yA).drop 1)∧Hid (Wc.heap[N6]? =some (.cells [.slice r6.A r6.cs.length r6.cap,.bool r6.cont].toArray 97 (0,0)))∧n5<SL5.length∧(vl.ownBlock=some g5∨W3.heap.size≤g5)∧W3.heap.size≤Wc.heap.size:=
    ⟨_,_,_,gv,cv,r6,Hd (by have :=HO6'.o;rw[hgv]at this;exact this),Hd (by rw[Qp qJ qJ hn0,List.map_drop]),HT6',by have :=HF.o;rw[uG];omega,.inl (by rw[hgv];rfl),hs6⟩
   have HP3:=HU3';have HP4:=HU4';have HRC5:=HRC6;have HM5:=HM6;clear hgv HU3' HU4' HRC6 HM6 HO6' HT6' HS6 HDR;have hg5:vl.ownBlock=some g5∨w.heap.size≤g5:=hg5p.imp id (fun h=>by omega);have hN4X:w.heap.size+1∉gA R (.slice (some ⟨g5,0,none⟩) SL5.length c5):=fun hx=>by
    rcases kW.1 hx with h|h
    · exact hNR4 h
    · have e:w.heap.size+1=g5:=by simpa[Value.ownBlock]using h
      rcases hg5p with h|h
      · have :=(H.o.own.lt g5 h).2;omega
      · omega
   have hN6X:N6∉gA R (.slice (some ⟨g5,0,none⟩) SL5.length c5):=fun hx=>by
    rcases kW.1 hx with h|h
    · omega
    · have e:N6=g5:=by simpa[Value.ownBlock]using h
      rcases hg5p with h|h
      · have :=(H.o.own.lt g5 h).2;omega
      · omega
   have hl5':SL5.length≤100000:=by have :=HO5.o.hm;have :=HO5.o.hroom;omega
   have yy0:Wc.cell? ⟨R,0,none⟩=some (.slice (some ⟨g5,0,none⟩) SL5.length c5):=(at_ HO5.o.blk 0 _ rfl).1;have yy3:Wc.cell? ⟨R,3,none⟩=some (.int .i64 n5):=(at_ HO5.o.blk 3 _ rfl).1;have hne5:((n5:Int)==(SL5.length:Int))=false:=by simp;omega
   refine jO 9 (fun w2=>Below Wc.heap.size Wc w2∧w2.cell? ⟨R,3,none⟩=some (.int .i64 n5)∧w2.cell? ⟨R,0,none⟩=some (.slice (some ⟨g5,0,none⟩) SL5.length c5)) qQ qQ ?_ ?_
   · exact⟨(jU _ _).drew,yy3,yy0⟩
   simp only[jC,jL,jB,jF]
   repeat(
    (first
     |refine kV qK ?_
     |(refine kG ?_ qK ?_ ?_;rotate_left;(focus(intro w' hS;obtain⟨_,_,_⟩:=hS;go_simp;first|done|with_reducible rfl))))
    simp only[Act.put,jZ,jX,jY])
   refine kU (fun w' hS=>?_);have HO5:=Hd (HO5.o.below hS.1);have HP3:=Hd ((hS.1.block _ (kQ HP3.o)).trans HP3.o);have HP4:=Hd ((hS.1.block _ (kQ HP4.o)).trans HP4.o);have HP6:=Hd ((hS.1.block _ (kQ HP6.o)).trans HP6.o);have HRC5:=Hd (HRC5.o.below hS.1);have HM5:=Hd (HM5.o.then_below hS.1);clear hS yy0 yy3
   rename_i Wc9
   go_upto_region 13 with fail
   have hfull:=HF.o;obtain⟨k,hk⟩:∃k,yM SL5.length first5 n5=k:=⟨_,rfl⟩;have hf5:first5<SL5.length:=by
    rcases HO5.o.hf with hf|⟨-,hf⟩
    · exact hf
    · omega
   have hkl:k<SL5.length:=by rw[←hk];exact cD hf5 hn5
   have hgR5:g5≠R:=HO5.o.ne rfl;have hl5:SL5.length≤100000:=by have :=HO5.o.hm;have :=HO5.o.hroom;omega
   obtain⟨zr,hzr⟩:∃zr,SL5[k]? =some zr:=⟨_,jD hkl⟩;have y0:w'.cell? ⟨R,0,none⟩=some (.slice (some ⟨g5,0,none⟩) SL5.length c5):=(at_ HO5.o.blk 0 _ rfl).1;have y2:w'.cell? ⟨R,2,none⟩=some (.int .i64 first5):=(at_ HO5.o.blk 2 _ rfl).1;have y3:w'.cell? ⟨R,3,none⟩=some (.int .i64 n5):=(at_ HO5.o.blk 3 _ rfl).1;obtain⟨p0,-⟩:=kC HP3.o 0 _ rfl;obtain⟨p1,-⟩:=kC HP3.o 1 _ rfl;have hkI:(k:Int)<(SL5.length:Int):=by omega
   obtain⟨n6,hn6⟩:∃n6:Nat,n6=n5+1:=⟨_,rfl⟩;have hcn5:(n5:Int)+1=(n6:Int):=by omega
   have hwn6:jP.wrap (n6:Int)=(n6:Int):=jH _ qJ;have HN6':=Hd hn6;clear hn6;refine jO 12 (fun w2=>Below w'.heap.size w' w2∧w2.cell? ⟨R,0,none⟩=some (.slice (some ⟨g5,0,none⟩) SL5.length c5)∧w2.cell? ⟨R,3,none⟩=some (.int .i64 n5)∧w2.cell? ⟨w.heap.size,0,none⟩=some (.slice (some ⟨g1,0,none⟩) cs.length cap1)∧w2.cell? ⟨w.heap.size,1,none⟩=some (.bool cont)) qQ qQ ?_ ?_
   · exact⟨(jU _ _).drew,y0,y3,p0,p1⟩
   simp only[jC,jL,jB,jF]
   repeat(
    (first
     |refine kV qK ?_
     |(refine kN 174 #[.pointer (some ⟨R,0,none⟩),.int .i64 n5] (.int .i64 k) qK ?_ (fun w2 hS=>(iT hS.2.1 ((Mod.of_below (X:=[]) hS.1).cell qV y2) hl5 qJ n5 qJ).mono (fun e w3 h=>⟨by rw[←hk];exact h.1,h.2▸hS⟩)) ?_;(focus(intro w2;go_simp;done)))
     |(refine kG ?_ qK ?_ ?_;rotate_left;(focus(intro w' hS;obtain⟨_,_,_,_,_⟩:=hS;go_simp;first|done|with_reducible rfl))))
    simp only[Act.put,jZ,jX,jY])
   refine kU (fun w' hS=>?_);have HB6:=Hd hS.1;have hO6:=HO5.o.below hS.1;obtain⟨⟨q0,q0f⟩,q1,q1f⟩:=yL hO6.own hzr;have PU:=hO6.pushed hn5 ⟨some ⟨g1,0,none⟩,cs,cap1,cont⟩ (HRC5.o.below hS.1) H0.o hgR5 k hk;rw[←HN6'.o]at PU;have PU1:=Hd PU.1;have PU2:=Hd PU.2;have HQ3:=Hd ((hS.1.block _ (kQ HP3.o)).trans HP3.o);have HQ4:=Hd ((hS.1.block _ (kQ HP4.o)).trans HP4.o);have HQ6:=Hd ((hS.1.block _ (kQ HP6.o)).trans HP6.o);obtain⟨z3,z3f⟩:=at_ hO6.blk 3 _ rfl;clear hS y0 y2 y3 p0 p1 PU hO6
   go_upto_region 15 with fail
   simp only at PU1 PU2;have HH:=Hd (nX hf5 hn5 ⟨some ⟨g1,0,none⟩,cs,cap1,cont⟩);rw[hk,←HN6'.o]at HH;have hX5:∀x∈gA R (.slice (some ⟨g5,0,none⟩) SL5.length c5),x∈gA R vl∨w.heap.size≤x:=fun x hx=>by
    rcases kW.1 hx with rfl|hx
    · exact .inl qJ5
    · have e:x=g5:=by simpa[Value.ownBlock]using hx
      subst e;rcases hg5 with h|h
      · exact .inl (by simp[gA,h])
      · exact .inr h
   have HM7:=Hd ((HM5.o.then_below HB6.o).trans PU2.o hX5);have HQQ4:=Hd ((PU2.o.block _ (kQ HQ4.o) hN4X).trans HQ4.o);have HQQ6:=Hd ((PU2.o.block _ (kQ HQ6.o) hN6X).trans HQ6.o);have HRl7:=(PU1.o.lt R qJ5).2;clear q0 q0f q1 q1f z3 z3f PU2;generalize uQ _ _ _=W7 at PU1 HM7 HQQ4 HQQ6 HRl7 ⊢;obtain⟨a0,-⟩:=kC HQQ6.o 0 _ rfl;obtain⟨a1,-⟩:=kC HQQ6.o 1 _ rfl;obtain⟨b0,b0f⟩:=at_ HQQ4.o 0 _ rfl;obtain⟨b1,b1f⟩:=at_ HQQ4.o 1 _ rfl
   go_wp2
   have hset:=eZ (u':=.slice r6.A r6.cs.length r6.cap) (v':=.bool r6.cont) ⟨b0,b0f⟩ ⟨b1,b1f⟩;have hM2:Mod [w.heap.size+1] W7 ((W7.setCell ⟨w.heap.size+1,0,none⟩ (.slice r6.A r6.cs.length r6.cap)).setCell ⟨w.heap.size+1,1,none⟩ (.bool r6.cont)):=yB (Mod.refl _ _) (.inl qV);refine bodyPost_ret (iE rfl _ _ (w.heap.size+1) _ _ _ rfl rfl hset.1.1 hset.2.1) rfl ⟨r6,by rw[decide_eq_true hfull];rfl,.slice (some ⟨g5,0,none⟩) SL5.length c5,SL5.set k ⟨some ⟨g1,0,none⟩,cs,cap1,cont⟩,first5,n6,?_,?_,HM7.o.trans hM2 (fun x hx=>by rw[jR.1 hx];exact .inr qJ),fun x hx=>by simp[Value.ownBlock]at hx;subst hx;exact hg5⟩
   · have h1:=PU1.o.mod hM2 (fun b hb cs' f he=>by
      rw[jR.1 hb,HQQ4.o]at he;injection he with he
      injection he with _ ht
      exact absurd ht qZ) (fun x hx hX=>by rw[jR.1 hX]at hx;exact hN4X hx)
     rw[if_pos hfull];exact h1
   · rw[HH.o,gK,HIST.o,if_neg hr0];rw[if_pos hfull];rfl
 have hfullI:((n:Int)==(room:Int))=false:=by simp;omega
 have HF:=Hd hfull;clear hfull
 go_upto_region 8 with fail
 clear hW3 x3 x1';refine jO 9 (fun w2=>Below W3.heap.size W3 w2∧w2.cell? ⟨R,3,none⟩=some (.int .i64 n)∧w2.cell? ⟨R,1,none⟩=some (.int .i64 room)) qQ qQ ?_ ?_
 · exact⟨(jU _ _).drew,x33,x31⟩
 simp only[jC,jL,jB,jF]
 repeat(
  (first
   |refine kV qK ?_
   |(refine kG ?_ qK ?_ ?_;rotate_left;(focus(intro w' hS;obtain⟨_,_,_⟩:=hS;go_simp;first|done|with_reducible rfl))))
  simp only[Act.put,jZ,jX,jY])
 refine kU (fun w' hS=>?_);have HBW:=Hd (jN HBW3.o hS.1);have HBS:=Hd hS.1.size;have HO4:=Hd (HO3.o.below hS.1);have HQ3:=Hd ((hS.1.block _ (kQ HP3.o)).trans HP3.o);have HQ4:=Hd ((hS.1.block _ (kQ HP4.o)).trans HP4.o);have HQ6:=Hd ((hS.1.block _ (kQ HN6.o)).trans HN6.o);have HRC4:=Hd (HRC3.o.below hS.1);clear hS x33 x31;obtain⟨vA,vc,hvA⟩:=gU H.o.own;have y0:w'.cell? ⟨R,0,none⟩=some (.slice vA SL.length vc):=by rw[←hvA];exact(at_ HO4.o.blk 0 _ rfl).1
 have y3:w'.cell? ⟨R,3,none⟩=some (.int .i64 n):=(at_ HO4.o.blk 3 _ rfl).1;clear hvA
 by_cases hgr:n=SL.length
 · have hgrI:((n:Int)==(SL.length:Int))=true:=by simp;omega
   have HGR:=Hd hgr;clear hgr
   go_upto_region 11 with fail
   refine jO 9 (fun w2=>Below w'.heap.size w' w2∧w2.cell? ⟨R,3,none⟩=some (.int .i64 n)∧w2.cell? ⟨R,0,none⟩=some (.slice vA SL.length vc)) qQ qQ ?_ ?_
   · exact⟨(jU _ _).drew,y3,y0⟩
   simp only[jC,jL,jB,jF]
   repeat(
    (first
     |refine kV qK ?_
     |(refine kG ?_ qK ?_ ?_;rotate_left;(focus(intro w' hS;obtain⟨_,_,_⟩:=hS;go_simp;first|done|with_reducible rfl))))
    simp only[Act.put,jZ,jX,jY])
   refine kU (fun w' hS=>?_);have HBW2:=Hd (jN HBW.o hS.1);have HBS2:=Hd (vY HBS.o hS.1.size);have HO5':=Hd (HO4.o.below hS.1);have HP3':=Hd ((hS.1.block _ (kQ HQ3.o)).trans HQ3.o);have HP4':=Hd ((hS.1.block _ (kQ HQ4.o)).trans HQ4.o);have HP6':=Hd ((hS.1.block _ (kQ HQ6.o)).trans HQ6.o);have HRC5':=Hd (HRC4.o.below hS.1);clear hS y0 y3;have HGW:=Hd (Um HO5'.o HGR.o (by have :=H.o.hn;have :=H.o.hm;have :=HGR.o;have :=HF.o;omega) (vY hbw HBW2.o.size))
   go_upto_region 13 with(go_at_call 276;refine HGW.o.mono ?_;rintro e w5 ⟨rfl,vl5,m5,hm5,ho5,hmod5,hown5⟩;have HO6':=Hd ho5;have HMD:=Hd hmod5;have HOW:=Hd hown5;clear ho5 hmod5 hown5)
   have hRn:w.heap.size∉[R]:=by simp;omega
   have hRn1:w.heap.size+1∉[R]:=by simp;omega
   have hRn6:N6∉[R]:=by simp;omega
   have HP3:=Hd ((HMD.o.block _ (kQ HP3'.o) hRn).trans HP3'.o);have HP4:=Hd ((HMD.o.block _ (kQ HP4'.o) hRn1).trans HP4'.o);have HP6z:=Hd ((HMD.o.block _ (kQ HP6'.o) hRn6).trans HP6'.o);have HRC5:=Hd (HRC5'.o.mod HMD.o (fun b hb cs' f he=>HO5'.o.nocel b (by rw[jR.1 hb];simp[gA]) cs' f he));have HM5:=Hd ((Mod.of_below (X:=gA R vl) HBW2.o).trans HMD.o (fun x hx=>.inl (by rw[jR.1 hx];simp[gA])));have hs5:W3.heap.size≤w5.heap.size:=vY HBS2.o HMD.o.size;obtain⟨gv,cv,hgv⟩:=gE HO6'.o.own (by rw[jI,zT];simp;omega);obtain⟨SL5,first5,n5,g5,c5,r6,HO5,HIST,HP6,hn5,hg5p,hlt5⟩:∃(SL5:List Rh) (first5 n5 g5 c5:Nat) (r6:Rh),Hid (RgO base w5 R (.slice (some ⟨g5,0,none⟩) SL5.length c5) SL5 room first5 n5 (gone))∧Hid ((zX SL5 first5 n5).map yA=(zX SL first n).map yA)∧Hid (w5.heap[N6]? =some (.cells [.slice r6.A r6.cs.length r6.cap,.bool r6.cont].toArray 97 (0,0)))∧n5<SL5.length∧(vl.ownBlock=some g5∨W3.heap.size≤g5)∧W3.heap.size≤w5.heap.size:=
    ⟨_,0,n,gv,cv,eY,Hd (by have :=HO6'.o;rw[hgv]at this;exact this),Hd (by
     have :=xS (H:=zX SL first n) (Z:=kJ (m5-n) eY);rw[zT]at this;rw[this]),HP6z,by rw[jI,zT];simp;omega,.inr (vY HBS2.o (HOW.o gv (by rw[hgv];rfl))),hs5⟩
   clear hgv HO6' HP6z HGW HMD HOW HO5' HRC5' HP3' HP4' HP6' HQ3 HQ4 HQ6 HRC4;have hfull:=HF.o;have hg5:vl.ownBlock=some g5∨w.heap.size≤g5:=hg5p.imp id (fun h=>by omega);have hN4X:w.heap.size+1∉gA R (.slice (some ⟨g5,0,none⟩) SL5.length c5):=fun hx=>by
    rcases kW.1 hx with h|h
    · exact hNR4 h
    · have e:w.heap.size+1=g5:=by simpa[Value.ownBlock]using h
      rcases hg5p with h|h
      · have :=(H.o.own.lt g5 h).2;omega
      · omega
   have hN6X:N6∉gA R (.slice (some ⟨g5,0,none⟩) SL5.length c5):=fun hx=>by
    rcases kW.1 hx with h|h
    · omega
    · have e:N6=g5:=by simpa[Value.ownBlock]using h
      rcases hg5p with h|h
      · have :=(H.o.own.lt g5 h).2;omega
      · omega
   obtain⟨k,hk⟩:∃k,yM SL5.length first5 n5=k:=⟨_,rfl⟩;have hf5:first5<SL5.length:=by
    rcases HO5.o.hf with hf|⟨-,hf⟩
    · exact hf
    · omega
   have hkl:k<SL5.length:=by rw[←hk];exact cD hf5 hn5
   have hgR5:g5≠R:=HO5.o.ne rfl;have hl5:SL5.length≤100000:=by have :=HO5.o.hm;have :=HO5.o.hroom;omega
   obtain⟨zr,hzr⟩:∃zr,SL5[k]? =some zr:=⟨_,jD hkl⟩;have y0:w5.cell? ⟨R,0,none⟩=some (.slice (some ⟨g5,0,none⟩) SL5.length c5):=(at_ HO5.o.blk 0 _ rfl).1;have y2:w5.cell? ⟨R,2,none⟩=some (.int .i64 first5):=(at_ HO5.o.blk 2 _ rfl).1;have y3:w5.cell? ⟨R,3,none⟩=some (.int .i64 n5):=(at_ HO5.o.blk 3 _ rfl).1;obtain⟨p0,-⟩:=kC HP3.o 0 _ rfl;obtain⟨p1,-⟩:=kC HP3.o 1 _ rfl;have hkI:(k:Int)<(SL5.length:Int):=by omega
   obtain⟨n6,hn6⟩:∃n6:Nat,n6=n5+1:=⟨_,rfl⟩;have hcn5:(n5:Int)+1=(n6:Int):=by omega
   have hwn6:jP.wrap (n6:Int)=(n6:Int):=jH _ qJ;have HN6':=Hd hn6;clear hn6;refine jO 12 (fun w2=>Below w5.heap.size w5 w2∧w2.cell? ⟨R,0,none⟩=some (.slice (some ⟨g5,0,none⟩) SL5.length c5)∧w2.cell? ⟨R,3,none⟩=some (.int .i64 n5)∧w2.cell? ⟨w.heap.size,0,none⟩=some (.slice (some ⟨g1,0,none⟩) cs.length cap1)∧w2.cell? ⟨w.heap.size,1,none⟩=some (.bool cont)) qQ qQ ?_ ?_
   · exact⟨(jU _ _).drew,y0,y3,p0,p1⟩
   simp only[jC,jL,jB,jF]
   repeat(
    (first
     |refine kV qK ?_
     |(refine kN 174 #[.pointer (some ⟨R,0,none⟩),.int .i64 n5] (.int .i64 k) qK ?_ (fun w2 hS=>(iT hS.2.1 ((Mod.of_below (X:=[]) hS.1).cell qV y2) hl5 qJ n5 qJ).mono (fun e w3 h=>⟨by rw[←hk];exact h.1,h.2▸hS⟩)) ?_;(focus(intro w2;go_simp;done)))
     |(refine kG ?_ qK ?_ ?_;rotate_left;(focus(intro w' hS;obtain⟨_,_,_,_,_⟩:=hS;go_simp;first|done|with_reducible rfl))))
    simp only[Act.put,jZ,jX,jY])
   refine kU (fun w' hS=>?_);have HB6:=Hd hS.1;have hO6:=HO5.o.below hS.1;obtain⟨⟨q0,q0f⟩,q1,q1f⟩:=yL hO6.own hzr;have PU:=hO6.pushed hn5 ⟨some ⟨g1,0,none⟩,cs,cap1,cont⟩ (HRC5.o.below hS.1) H0.o hgR5 k hk;rw[←HN6'.o]at PU;have PU1:=Hd PU.1;have PU2:=Hd PU.2;have HQ3:=Hd ((hS.1.block _ (kQ HP3.o)).trans HP3.o);have HQ4:=Hd ((hS.1.block _ (kQ HP4.o)).trans HP4.o);have HQ6:=Hd ((hS.1.block _ (kQ HP6.o)).trans HP6.o);obtain⟨z3,z3f⟩:=at_ hO6.blk 3 _ rfl;clear hS y0 y2 y3 p0 p1 PU hO6
   go_upto_region 15 with fail
   simp only at PU1 PU2;have HH:=Hd (nX hf5 hn5 ⟨some ⟨g1,0,none⟩,cs,cap1,cont⟩);rw[hk,←HN6'.o]at HH;have hX5:∀x∈gA R (.slice (some ⟨g5,0,none⟩) SL5.length c5),x∈gA R vl∨w.heap.size≤x:=fun x hx=>by
    rcases kW.1 hx with rfl|hx
    · exact .inl qJ5
    · have e:x=g5:=by simpa[Value.ownBlock]using hx
      subst e;rcases hg5 with h|h
      · exact .inl (by simp[gA,h])
      · exact .inr h
   have HM7:=Hd ((HM5.o.then_below HB6.o).trans PU2.o hX5);have HQQ4:=Hd ((PU2.o.block _ (kQ HQ4.o) hN4X).trans HQ4.o);have HQQ6:=Hd ((PU2.o.block _ (kQ HQ6.o) hN6X).trans HQ6.o);have HRl7:=(PU1.o.lt R qJ5).2;clear q0 q0f q1 q1f z3 z3f PU2;generalize uQ _ _ _=W7 at PU1 HM7 HQQ4 HQQ6 HRl7 ⊢;obtain⟨a0,-⟩:=kC HQQ6.o 0 _ rfl;obtain⟨a1,-⟩:=kC HQQ6.o 1 _ rfl;obtain⟨b0,b0f⟩:=at_ HQQ4.o 0 _ rfl;obtain⟨b1,b1f⟩:=at_ HQQ4.o 1 _ rfl
   go_wp2
   have hset:=eZ (u':=.slice r6.A r6.cs.length r6.cap) (v':=.bool r6.cont) ⟨b0,b0f⟩ ⟨b1,b1f⟩;have hM2:Mod [w.heap.size+1] W7 ((W7.setCell ⟨w.heap.size+1,0,none⟩ (.slice r6.A r6.cs.length r6.cap)).setCell ⟨w.heap.size+1,1,none⟩ (.bool r6.cont)):=yB (Mod.refl _ _) (.inl qV);refine bodyPost_ret (iE rfl _ _ (w.heap.size+1) _ _ _ rfl rfl hset.1.1 hset.2.1) rfl ⟨r6,by rw[decide_eq_false hfull];rfl,.slice (some ⟨g5,0,none⟩) SL5.length c5,SL5.set k ⟨some ⟨g1,0,none⟩,cs,cap1,cont⟩,first5,n6,?_,?_,HM7.o.trans hM2 (fun x hx=>by rw[jR.1 hx];exact .inr qJ),fun x hx=>by simp[Value.ownBlock]at hx;subst hx;exact hg5⟩
   · have h1:=PU1.o.mod hM2 (fun b hb cs' f he=>by
      rw[jR.1 hb,HQQ4.o]at he;injection he with he
      injection he with _ ht
      exact absurd ht qZ) (fun x hx hX=>by rw[jR.1 hX]at hx;exact hN4X hx)
     rw[if_neg hfull];exact h1
   · rw[HH.o,gK,HIST.o,if_neg hr0];rw[if_neg hfull];rfl
 · have hgrI:((n:Int)==(SL.length:Int))=false:=by simp;omega
   have HGR:=Hd hgr;clear hgr
   go_upto_region 11 with fail
   refine jO 9 (fun w2=>Below w'.heap.size w' w2∧w2.cell? ⟨R,3,none⟩=some (.int .i64 n)∧w2.cell? ⟨R,0,none⟩=some (.slice vA SL.length vc)) qQ qQ ?_ ?_
   · exact⟨(jU _ _).drew,y3,y0⟩
   simp only[jC,jL,jB,jF]
   repeat(
    (first
     |refine kV qK ?_
     |(refine kG ?_ qK ?_ ?_;rotate_left;(focus(intro w' hS;obtain⟨_,_,_⟩:=hS;go_simp;first|done|with_reducible rfl))))
    simp only[Act.put,jZ,jX,jY])
   refine kU (fun w' hS=>?_);have HBW2:=Hd (jN HBW.o hS.1);have hs5:=vY HBS.o hS.1.size;have HO5':=Hd (HO4.o.below hS.1);have HP3:=Hd ((hS.1.block _ (kQ HQ3.o)).trans HQ3.o);have HP4:=Hd ((hS.1.block _ (kQ HQ4.o)).trans HQ4.o);have HP6':=Hd ((hS.1.block _ (kQ HQ6.o)).trans HQ6.o);have HRC5:=Hd (HRC4.o.below hS.1);have HM5:=Hd (Mod.of_below (X:=gA R vl) HBW2.o);clear hS y0 y3
   go_upto_region 13 with fail
   have hnlt:n<SL.length:=by have :=H.o.hn;have :=HGR.o;omega
   obtain⟨gv,cv,hgv⟩:=gE HO5'.o.own qJ;obtain⟨SL5,first5,n5,g5,c5,r6,HO5,HIST,HP6,hn5,hg5p,hlt5⟩:∃(SL5:List Rh) (first5 n5 g5 c5:Nat) (r6:Rh),Hid (RgO base w' R (.slice (some ⟨g5,0,none⟩) SL5.length c5) SL5 room first5 n5 (gone))∧Hid ((zX SL5 first5 n5).map yA=(zX SL first n).map yA)∧Hid (w'.heap[N6]? =some (.cells [.slice r6.A r6.cs.length r6.cap,.bool r6.cont].toArray 97 (0,0)))∧n5<SL5.length∧(vl.ownBlock=some g5∨W3.heap.size≤g5)∧W3.heap.size≤w'.heap.size:=
    ⟨SL,first,n,gv,cv,eY,Hd (by have :=HO5'.o;rw[hgv]at this;exact this),Hd rfl,HP6',hnlt,.inl (by rw[hgv];rfl),hs5⟩
   clear hgv HO5' HP6' HQ3 HQ4 HQ6 HRC4 HO4;have hfull:=HF.o;have hg5:vl.ownBlock=some g5∨w.heap.size≤g5:=hg5p.imp id (fun h=>by omega);have hN4X:w.heap.size+1∉gA R (.slice (some ⟨g5,0,none⟩) SL5.length c5):=fun hx=>by
    rcases kW.1 hx with h|h
    · exact hNR4 h
    · have e:w.heap.size+1=g5:=by simpa[Value.ownBlock]using h
      rcases hg5p with h|h
      · have :=(H.o.own.lt g5 h).2;omega
      · omega
   have hN6X:N6∉gA R (.slice (some ⟨g5,0,none⟩) SL5.length c5):=fun hx=>by
    rcases kW.1 hx with h|h
    · omega
    · have e:N6=g5:=by simpa[Value.ownBlock]using h
      rcases hg5p with h|h
      · have :=(H.o.own.lt g5 h).2;omega
      · omega
   obtain⟨k,hk⟩:∃k,yM SL5.length first5 n5=k:=⟨_,rfl⟩;have hf5:first5<SL5.length:=by
    rcases HO5.o.hf with hf|⟨-,hf⟩
    · exact hf
    · omega
   have hkl:k<SL5.length:=by rw[←hk];exact cD hf5 hn5
   have hgR5:g5≠R:=HO5.o.ne rfl;have hl5:SL5.length≤100000:=by have :=HO5.o.hm;have :=HO5.o.hroom;omega
   obtain⟨zr,hzr⟩:∃zr,SL5[k]? =some zr:=⟨_,jD hkl⟩;have y0:w'.cell? ⟨R,0,none⟩=some (.slice (some ⟨g5,0,none⟩) SL5.length c5):=(at_ HO5.o.blk 0 _ rfl).1;have y2:w'.cell? ⟨R,2,none⟩=some (.int .i64 first5):=(at_ HO5.o.blk 2 _ rfl).1;have y3:w'.cell? ⟨R,3,none⟩=some (.int .i64 n5):=(at_ HO5.o.blk 3 _ rfl).1;obtain⟨p0,-⟩:=kC HP3.o 0 _ rfl;obtain⟨p1,-⟩:=kC HP3.o 1 _ rfl;have hkI:(k:Int)<(SL5.length:Int):=by omega
   obtain⟨n6,hn6⟩:∃n6:Nat,n6=n5+1:=⟨_,rfl⟩;have hcn5:(n5:Int)+1=(n6:Int):=by omega
   have hwn6:jP.wrap (n6:Int)=(n6:Int):=jH _ qJ;have HN6':=Hd hn6;clear hn6;refine jO 12 (fun w2=>Below w'.heap.size w' w2∧w2.cell? ⟨R,0,none⟩=some (.slice (some ⟨g5,0,none⟩) SL5.length c5)∧w2.cell? ⟨R,3,none⟩=some (.int .i64 n5)∧w2.cell? ⟨w.heap.size,0,none⟩=some (.slice (some ⟨g1,0,none⟩) cs.length cap1)∧w2.cell? ⟨w.heap.size,1,none⟩=some (.bool cont)) qQ qQ ?_ ?_
   · exact⟨(jU _ _).drew,y0,y3,p0,p1⟩
   simp only[jC,jL,jB,jF]
   repeat(
    (first
     |refine kV qK ?_
     |(refine kN 174 #[.pointer (some ⟨R,0,none⟩),.int .i64 n5] (.int .i64 k) qK ?_ (fun w2 hS=>(iT hS.2.1 ((Mod.of_below (X:=[]) hS.1).cell qV y2) hl5 qJ n5 qJ).mono (fun e w3 h=>⟨by rw[←hk];exact h.1,h.2▸hS⟩)) ?_;(focus(intro w2;go_simp;done)))
     |(refine kG ?_ qK ?_ ?_;rotate_left;(focus(intro w' hS;obtain⟨_,_,_,_,_⟩:=hS;go_simp;first|done|with_reducible rfl))))
    simp only[Act.put,jZ,jX,jY])
   refine kU (fun w' hS=>?_);have HB6:=Hd hS.1;have hO6:=HO5.o.below hS.1;obtain⟨⟨q0,q0f⟩,q1,q1f⟩:=yL hO6.own hzr;have PU:=hO6.pushed hn5 ⟨some ⟨g1,0,none⟩,cs,cap1,cont⟩ (HRC5.o.below hS.1) H0.o hgR5 k hk;rw[←HN6'.o]at PU;have PU1:=Hd PU.1;have PU2:=Hd PU.2;have HQ3:=Hd ((hS.1.block _ (kQ HP3.o)).trans HP3.o);have HQ4:=Hd ((hS.1.block _ (kQ HP4.o)).trans HP4.o);have HQ6:=Hd ((hS.1.block _ (kQ HP6.o)).trans HP6.o);obtain⟨z3,z3f⟩:=at_ hO6.blk 3 _ rfl;clear hS y0 y2 y3 p0 p1 PU hO6
   go_upto_region 15 with fail
   simp only at PU1 PU2;have HH:=Hd (nX hf5 hn5 ⟨some ⟨g1,0,none⟩,cs,cap1,cont⟩);rw[hk,←HN6'.o]at HH;have hX5:∀x∈gA R (.slice (some ⟨g5,0,none⟩) SL5.length c5),x∈gA R vl∨w.heap.size≤x:=fun x hx=>by
    rcases kW.1 hx with rfl|hx
    · exact .inl qJ5
    · have e:x=g5:=by simpa[Value.ownBlock]using hx
      subst e;rcases hg5 with h|h
      · exact .inl (by simp[gA,h])
      · exact .inr h
   have HM7:=Hd ((HM5.o.then_below HB6.o).trans PU2.o hX5);have HQQ4:=Hd ((PU2.o.block _ (kQ HQ4.o) hN4X).trans HQ4.o);have HQQ6:=Hd ((PU2.o.block _ (kQ HQ6.o) hN6X).trans HQ6.o);have HRl7:=(PU1.o.lt R qJ5).2;clear q0 q0f q1 q1f z3 z3f PU2;generalize uQ _ _ _=W7 at PU1 HM7 HQQ4 HQQ6 HRl7 ⊢;obtain⟨a0,-⟩:=kC HQQ6.o 0 _ rfl;obtain⟨a1,-⟩:=kC HQQ6.o 1 _ rfl;obtain⟨b0,b0f⟩:=at_ HQQ4.o 0 _ rfl;obtain⟨b1,b1f⟩:=at_ HQQ4.o 1 _ rfl
   go_wp2
   have hset:=eZ (u':=.slice r6.A r6.cs.length r6.cap) (v':=.bool r6.cont) ⟨b0,b0f⟩ ⟨b1,b1f⟩;have hM2:Mod [w.heap.size+1] W7 ((W7.setCell ⟨w.heap.size+1,0,none⟩ (.slice r6.A r6.cs.length r6.cap)).setCell ⟨w.heap.size+1,1,none⟩ (.bool r6.cont)):=yB (Mod.refl _ _) (.inl qV);refine bodyPost_ret (iE rfl _ _ (w.heap.size+1) _ _ _ rfl rfl hset.1.1 hset.2.1) rfl ⟨r6,by rw[decide_eq_false hfull];rfl,.slice (some ⟨g5,0,none⟩) SL5.length c5,SL5.set k ⟨some ⟨g1,0,none⟩,cs,cap1,cont⟩,first5,n6,?_,?_,HM7.o.trans hM2 (fun x hx=>by rw[jR.1 hx];exact .inr qJ),fun x hx=>by simp[Value.ownBlock]at hx;subst hx;exact hg5⟩
   · have h1:=PU1.o.mod hM2 (fun b hb cs' f he=>by
      rw[jR.1 hb,HQQ4.o]at he;injection he with he
      injection he with _ ht
      exact absurd ht qZ) (fun x hx hX=>by rw[jR.1 hX]at hx;exact hN4X hx)
     rw[if_neg hfull];exact h1
   · rw[HH.o,gK,HIST.o,if_neg hr0];rw[if_neg hfull];rfl
end
def dQ(t:Tl):List Value:=[.int .i64 t.k,.int .i64 t.a,.int .i64 t.n]
theorem KB:∀t,(dQ t).length=3:=fun _=>rfl
theorem KN:∀t,∀v∈dQ t,v.oneCell'=true:=fun t v hv=>by
 simp only[dQ,kW,List.not_mem_nil,or_false]at hv;rcases hv with rfl|rfl|rfl<;>rfl
structure Pv where
 P:Nat
 R:Nat
 vs:Value
 vl:Value
 vt:Value
 S:List Rh
 SL:List Rh
 first :Nat
 n:Nat
def pgX(q:Pv):List Nat:=q.P::(q.vs.ownBlock.toList++(q.vt.ownBlock.toList++gA q.R q.vl))
structure PgO(base:Nat)(w:World)(q:Pv)(g:Pg):Prop where
 blk:w.heap[q.P]? =some (.cells #[.pointer (some ⟨q.R,0,none⟩),q.vs,.int .i64 g.cols,q.vt] 111 (0,0))
 hb:base≤q.P
 ring:RgO base w q.R q.vl q.SL g.room q.first q.n (g.gone%18446744073709551616)
 own:w.ownsRow base 97 2 q.vs q.S.length (uS yZ q.S)
 told:w.ownsRow base 119 3 q.vt g.told.length (uS dQ g.told)
 apart:∀b,q.vs.ownBlock=some b→q.vl.ownBlock≠some b
 scr:q.S.map yA=g.scr
 hist:(zX q.SL q.first q.n).map yA=g.hist
 rows:∀r∈q.S,pX w r∧r.cs.length=g.cols
 cols2:2≤g.cols
 cols1000:g.cols≤1000
 rows1000:q.S.length≤1000
 gone0:0≤g.gone
theorem uP{w:World}{a b:Nat}{ca cb:Array Value}{ta tb:TypeId}{fa fb:Nat×Nat}(ha:w.heap[a]? =some (.cells ca ta fa))(hb:w.heap[b]? =some (.cells cb tb fb))(ht:ta≠tb):a≠b:=by
 rintro rfl;rw[ha]at hb;injection hb with hb
 injection hb with _ h
 exact ht h
section
variable {base:Nat}{w:World}{q:Pv}{g:Pg}
theorem PgO.len(h:PgO base w q g):q.S.length=g.scr.length:=by rw[←h.scr,List.length_map]
theorem PgO.hlen(h:PgO base w q g):g.hist.length=q.n:=by rw[←h.hist,List.length_map,zT]
theorem PgO.nocel(h:PgO base w q g):yD w (pgX q):=by
 intro b hb cs f he;rcases kW.1 hb with rfl|hb
 · exact qZj
 rcases kL.1 hb with hb|hb
 · obtain⟨cur,hc⟩:=uA h.own qJ8;exact uP hc he qZ rfl
 rcases kL.1 hb with hb|hb
 · obtain⟨cur,hc⟩:=uA h.told qJ8;exact uP hc he qZ rfl
 · exact h.ring.nocel b hb cs f he
theorem PgO.lt(h:PgO base w q g):∀b∈pgX q,base≤b∧b<w.heap.size:=by
 intro b hb;rcases kW.1 hb with rfl|hb
 · exact qZh
 rcases kL.1 hb with hb|hb
 · exact h.own.lt b qJ8
 rcases kL.1 hb with hb|hb
 · exact h.told.lt b qJ8
 · exact h.ring.lt b hb
theorem PgO.mod{X:List Nat}{w':World}(h:PgO base w q g)(hm:Mod X w w')(hX:yD w X)(hd:∀b∈pgX q,b∉X):PgO base w' q g:=
 ⟨(hm.block q.P (kF.1 h.blk).1 (hd q.P qVg)).trans h.blk,h.hb,h.ring.mod hm hX (fun b hb=>hd b (by simp[pgX,hb])),uL h.own hm (fun b hb=>hd b (by simp[pgX,hb])),uL h.told hm (fun b hb=>hd b (by simp[pgX,hb])),
   h.apart,h.scr,h.hist,fun r hr=>⟨(h.rows r hr).1.mod hm hX,(h.rows r hr).2⟩,h.cols2,h.cols1000,h.rows1000,h.gone0⟩
theorem PgO.below{w':World}(h:PgO base w q g)(hb:Below w.heap.size w w'):PgO base w' q g:=h.mod (Mod.of_below (X:=[]) hb) (yD.nil w) (fun _ _ h=>by cases h)
def pN(base:Nat)(w:World)(q:Pv)(g':Pg)(w':World):Prop:=
 ∃q',q'.P=q.P∧q'.R=q.R∧PgO base w' q' g'∧Mod (pgX q) w w'∧∀b∈pgX q',b∈pgX q∨w.heap.size≤b
def gY(base:Nat)(w:World)(q:Pv)(g':Pg)(e:Ending)(w':World):Prop:=e=.returned (.tuple #[])∧pN base w q g' w'
theorem PgO.res(h:PgO base w q g):pN base w q g w:=⟨q,rfl,rfl,h,Mod.refl _ _,fun b hb=>.inl hb⟩
theorem pN.trans{w1 w2:World}{q1:Pv}{g2:Pg}(h1:q1.P=q.P∧q1.R=q.R∧Mod (pgX q) w w1∧∀b∈pgX q1,b∈pgX q∨w.heap.size≤b)(h2:pN base w1 q1 g2 w2):pN base w q g2 w2:=by
 obtain⟨e1,e2,hm,hx⟩:=h1;obtain⟨q2,a1,a2,a3,a4,a5⟩:=h2;refine⟨q2,a1.trans e1,a2.trans e2,a3,hm.trans a4 hx,fun b hb=>?_⟩;rcases a5 b hb with h|h
 · exact hx b h
 · exact .inr (vY hm.size h)
theorem pN.pre{w1 w2:World}{g2:Pg}(hb:Below w.heap.size w w1)(h2:pN base w1 q g2 w2):pN base w q g2 w2:=pN.trans ⟨rfl,rfl,Mod.of_below hb,fun b hb=>.inl hb⟩ h2
theorem pN.post{w1 w2:World}{g2:Pg}(h:pN base w q g2 w1)(hb:Below w1.heap.size w1 w2):pN base w q g2 w2:=by
 obtain⟨q',a1,a2,a3,a4,a5⟩:=h;exact⟨q',a1,a2,a3.below hb,a4.then_below hb,a5⟩
theorem PgO.cells(h:PgO base w q g):(w.cell? ⟨q.P,0,none⟩=some (.pointer (some ⟨q.R,0,none⟩))∧w.frozen? ⟨q.P,0,none⟩=false)∧(w.cell? ⟨q.P,1,none⟩=some q.vs∧w.frozen? ⟨q.P,1,none⟩=false)∧(w.cell? ⟨q.P,2,none⟩=some (.int .i64 g.cols)∧w.frozen? ⟨q.P,2,none⟩=false)∧w.cell? ⟨q.P,3,none⟩=some q.vt∧w.frozen? ⟨q.P,3,none⟩=false:=
 ⟨at_ h.blk 0 _ rfl,at_ h.blk 1 _ rfl,at_ h.blk 2 _ rfl,at_ h.blk 3 _ rfl⟩
theorem PgO.screen{w':World}{S':List Rh}{scr':List Ro}(h:PgO base w q g)(hl:S'.length=q.S.length)(ho:w'.ownsRow base 97 2 q.vs S'.length (uS yZ S'))(hm:Mod q.vs.ownBlock.toList w w')(hs:S'.map yA=scr')(hr:∀r∈S',pX w' r∧r.cs.length=g.cols):
 pN base w q {g with scr:=scr'} w':=by
 have hX:yD w q.vs.ownBlock.toList:=fun b hb cs f he=>h.nocel b (by simp[pgX,(jT.1 hb)]) cs f he;have hvs:∀b,q.vs.ownBlock=some b→∃cur:Array Value,w.heap[b]? =some (.cells cur 97 (0,0)):=fun b hb=>uA h.own hb;refine⟨{q with S:=S'},rfl,rfl,⟨(hm.block q.P (kF.1 h.blk).1 (fun hb=>?_)).trans h.blk,h.hb,h.ring.mod hm hX (fun b hb hbX=>?_),ho,uL h.told hm (fun b hb hbX=>?_),h.apart,hs,h.hist,hr,h.cols2,h.cols1000,by show S'.length≤1000;rw[hl];exact h.rows1000,h.gone0⟩,hm.mono (fun b hb=>by simp[pgX,(jT.1 hb)]),fun b hb=>.inl hb⟩
 · obtain⟨cur,hc⟩:=hvs _ (jT.1 hb);exact qZk
 · rcases kW.1 hb with rfl|hb
   · obtain⟨cur,hc⟩:=hvs _ (jT.1 hbX);exact uP h.ring.blk hc qZ rfl
   · exact h.apart b (jT.1 hbX) (jT.1 hb)
 · obtain⟨cur,hc⟩:=hvs _ (jT.1 hbX);obtain⟨cur2,hc2⟩:=uA h.told hb;exact uP hc2 hc qZ rfl
end
section
variable {base:Nat}{w:World}{q:Pv}{g:Pg}
theorem PgO.vform(h:PgO base w q g):∃A c,q.vs=.slice A q.S.length c:=gU h.own
theorem rJ(h:PgO base w q g):Calls jG 15 #[.pointer (some ⟨q.P,0,none⟩)] w fun e w'=>e=.returned (.int .i64 g.scr.length)∧w=w':=by
 obtain⟨A,c,hv⟩:=h.vform;have hl:=h.len;obtain⟨-,⟨x1,-⟩,-,-⟩:=h.cells;rw[hv,hl]at x1;clear h hl hv
 go_enter Tryz.func15,Tryz.ntmps15
 go_wp2
 go_ret
 exact⟨rfl,rfl⟩
theorem wW(h:PgO base w q g):Calls jG 16 #[.pointer (some ⟨q.P,0,none⟩)] w fun e w'=>e=.returned (.int .i64 g.cols)∧w=w':=by
 obtain⟨-,-,⟨x2,-⟩,-⟩:=h.cells;clear h
 go_enter Tryz.func16,Tryz.ntmps16
 go_wp2
 go_ret
 exact⟨rfl,rfl⟩
theorem mZ(h:PgO base w q g):Calls jG 79 #[.pointer (some ⟨q.P,0,none⟩)] w fun e w'=>e=.returned (.int .i64 g.hist.length)∧w=w':=by
 obtain⟨⟨x0,-⟩,-⟩:=h.cells;have HL:=Hd (sO h.ring);rw[←h.hlen]at HL;clear h
 go_enter Tryz.func79,Tryz.ntmps79
 go_wp2_with(go_at_call 148;refine HL.o.mono ?_;rintro e w1 ⟨rfl,rfl⟩)
 go_ret
 exact⟨rfl,rfl⟩
theorem WL(h:PgO base w q g):Calls jG 80 #[.pointer (some ⟨q.P,0,none⟩)] w fun e w'=>e=.returned (.int .u64 (g.gone%18446744073709551616))∧w=w':=by
 obtain⟨⟨x0,-⟩,-⟩:=h.cells;have HL:=Hd (Un h.ring);clear h
 go_enter Tryz.func80,Tryz.ntmps80
 go_wp2_with(go_at_call 149;refine HL.o.mono ?_;rintro e w1 ⟨rfl,rfl⟩)
 go_ret
 exact⟨rfl,rfl⟩
theorem rK(h:PgO base w q g)(y:Int):Calls jG 199 #[.pointer (some ⟨q.P,0,none⟩),.int .i64 y] w fun e w'=>e=.returned (.bool (inP g y))∧w=w':=by
 have HR:=Hd (rJ h);unfold inP;clear h
 by_cases hy:0≤y
 · go_enter Tryz.func199,Tryz.ntmps199
   go_wp2_with(go_at_call 15;refine HR.o.mono ?_;rintro e w1 ⟨rfl,rfl⟩)
   go_ret
   simp[hy]
 · go_enter Tryz.func199,Tryz.ntmps199
   go_wp2_with(go_at_call 15;refine HR.o.mono ?_;rintro e w1 ⟨rfl,rfl⟩)
   go_ret
   simp;omega
theorem PgO.setCont(h:PgO base w q g){k gs c:Nat}(hv:q.vs=.slice (some ⟨gs,0,none⟩) q.S.length c)(hk:k<q.S.length)(b:Bool):pN base w q (vL g k b) (w.setCell ⟨gs,k*2+1,none⟩ (.bool b)):=by
 have hx:q.S[k]? =some q.S[k]:=jD hk;have hM:Mod q.vs.ownBlock.toList w (w.setCell ⟨gs,k*2+1,none⟩ (.bool b)):=(Mod.refl _ _).setCell (a:=⟨gs,k*2+1,none⟩) (.inl qKk) _;have hX:yD w q.vs.ownBlock.toList:=fun x hx cs f he=>h.nocel x (by simp[pgX,(jT.1 hx)]) cs f he;have hown:=h.own;rw[hv]at hown;have h1:=cR hown (k*2+1) (.bool b);rw[cT zJ q.S k q.S[k] {q.S[k]with cont:=b} 1 (.bool b) hx qZ rfl]at h1;have hin:inP g k=true:=by unfold inP;have :=h.len;simp;omega
 unfold vL;rw[hin,if_pos rfl];refine h.screen (S':=q.S.set k {q.S[k]with cont:=b}) qV qV1 hM ?_ (fun r hr=>?_)
 · rw[←h.scr,uJ];refine vV fun i=>?_;rw[vQ,vP,List.getElem?_modify,vQ]
   by_cases hi:k=i
   · subst hi;rw[if_pos rfl,if_pos hk,hx];simp[yA]
   · rw[if_neg hi];cases q.S[i]? with
     |none=>rfl
     |some x=>simp[hi]
 · rcases List.mem_or_eq_of_mem_set hr with hr|rfl
   · exact⟨(h.rows r hr).1.mod hM hX,(h.rows r hr).2⟩
   · have :=h.rows q.S[k] (List.getElem_mem hk);exact⟨(this.1.mod hM hX).cont b,this.2⟩
theorem KR{y:Int}(b:Bool)(h:inP g y=false):vL g y b=g:=by unfold vL;rw[h];rfl
theorem WU(h:PgO base w q g)(y:Int):Calls jG 203 #[.pointer (some ⟨q.P,0,none⟩),.int .i64 y] w (gY base w q (vL g y false)):=by
 have HIN:=Hd (rK h y);cases hin:inP g y with
 |false=>
  rw[hin]at HIN;have H:=Hd h.res;have HC:=Hd (KR false hin);clear h
  go_enter Tryz.func203,Tryz.ntmps203
  go_wp2_with(go_at_call 199;refine HIN.o.mono ?_;rintro e w1 ⟨rfl,rfl⟩)
  go_end0
  rw[HC.o];exact⟨rfl,H.o⟩
 |true=>
  rw[hin]at HIN;obtain⟨k,rfl⟩:∃k:Nat,y=k:=⟨y.toNat,by unfold inP at hin;simp at hin;omega⟩;have hk:k<q.S.length:=by unfold inP at hin;have :=h.len;simp at hin;omega
  obtain⟨gs,c,hv⟩:=gE h.own qJ;have HS:=Hd (h.setCont hv hk false);obtain⟨-,⟨x1,-⟩,-,-⟩:=h.cells;have hown:=h.own;rw[hv]at x1 hown;obtain⟨-,y1,y1f⟩:=yL hown (jD hk);have hkI:(k:Int)<(q.S.length:Int):=by omega
  clear h hown hv hin
  go_enter Tryz.func203,Tryz.ntmps203
  go_wp2_with(go_at_call 199;refine HIN.o.mono ?_;rintro e w1 ⟨rfl,rfl⟩)
  go_end0
  exact⟨rfl,HS.o⟩
theorem WC(h:PgO base w q g)(y:Int):Calls jG 245 #[.pointer (some ⟨q.P,0,none⟩),.int .i64 y] w (gY base w q (vL g y true)):=by
 have HIN:=Hd (rK h y);cases hin:inP g y with
 |false=>
  rw[hin]at HIN;have H:=Hd h.res;have HC:=Hd (KR true hin);clear h
  go_enter Tryz.func245,Tryz.ntmps245
  go_wp2_with(go_at_call 199;refine HIN.o.mono ?_;rintro e w1 ⟨rfl,rfl⟩)
  go_end0
  rw[HC.o];exact⟨rfl,H.o⟩
 |true=>
  rw[hin]at HIN;obtain⟨k,rfl⟩:∃k:Nat,y=k:=⟨y.toNat,by unfold inP at hin;simp at hin;omega⟩;have hk:k<q.S.length:=by unfold inP at hin;have :=h.len;simp at hin;omega
  obtain⟨gs,c,hv⟩:=gE h.own qJ;have HS:=Hd (h.setCont hv hk true);obtain⟨-,⟨x1,-⟩,-,-⟩:=h.cells;have hown:=h.own;rw[hv]at x1 hown;obtain⟨-,y1,y1f⟩:=yL hown (jD hk);have hkI:(k:Int)<(q.S.length:Int):=by omega
  clear h hown hv hin
  go_enter Tryz.func245,Tryz.ntmps245
  go_wp2_with(go_at_call 199;refine HIN.o.mono ?_;rintro e w1 ⟨rfl,rfl⟩)
  go_end0
  exact⟨rfl,HS.o⟩
end
theorem X6{g:Pg}{y:Int}(F:List Cl→List Cl)(h:inP g y=false):pW g y F=g:=by unfold pW;rw[h];rfl
section
variable {base:Nat}{w:World}{q:Pv}{g:Pg}
theorem PgO.setRow(h:PgO base w q g){k gs c:Nat}{r:Rh}(hv:q.vs=.slice (some ⟨gs,0,none⟩) q.S.length c)(hr:q.S[k]? =some r){A:Option Addr}{cap:Nat}(F:List Cl→List Cl)(hF:(F r.cs).length=r.cs.length)(hc:pX w ⟨A,F r.cs,cap,r.cont⟩):
 pN base w q (pW g k F) (w.setCell ⟨gs,k*2,none⟩ (.slice A r.cs.length cap)):=by
 have hk:=(jE.1 hr).1;have hM:Mod q.vs.ownBlock.toList w (w.setCell ⟨gs,k*2,none⟩ (.slice A r.cs.length cap)):=(Mod.refl _ _).setCell (a:=⟨gs,k*2,none⟩) (.inl qKk) _;have hX:yD w q.vs.ownBlock.toList:=fun x hx cs f he=>h.nocel x (by simp[pgX,(jT.1 hx)]) cs f he;have hown:=h.own;rw[hv]at hown;have h1:=cR hown (k*2) (.slice A r.cs.length cap);have e:=cT zJ q.S k r ⟨A,F r.cs,cap,r.cont⟩ 0 (.slice A r.cs.length cap) hr qZ (by simp[yZ,hF]);rw[vO]at e;rw[e]at h1;have hin:inP g k=true:=by unfold inP;have :=h.len;simp;omega
 unfold pW;rw[hin,if_pos rfl];refine h.screen (S':=q.S.set k ⟨A,F r.cs,cap,r.cont⟩) qV qV1 hM ?_ (fun x hx=>?_)
 · rw[←h.scr,uJ];refine vV fun i=>?_;rw[vQ,vP,List.getElem?_modify,vQ]
   by_cases hi:k=i
   · subst hi;rw[if_pos rfl,if_pos hk,hr];simp[yA]
   · rw[if_neg hi];cases q.S[i]? with
     |none=>rfl
     |some x=>simp[hi]
 · rcases List.mem_or_eq_of_mem_set hx with hx|rfl
   · exact qZl
   · exact⟨hc.mod hM hX,by show(F r.cs).length=g.cols;rw[hF];exact(h.rows r (uW hr)).2⟩
set_option maxHeartbeats 3200000 in
theorem rQ(h:PgO base w q g)(y:Int)(f:FuncId)(capt:Array Value)(F:List Cl→List Cl)(hF:∀l,(F l).length=l.length)(hfine:∀l,zN l→zN (F l))
 (hf:∀(args:Array Value) (w:World),(callFunc f args).run jG w=.ok (.enter f args) w)
 (hdo:∀(r:Rh) (w':World),Below w.heap.size w w'→pX w' r→r.cs.length=g.cols→Calls jG f (#[.slice r.A r.cs.length r.cap]++capt) w' (pK (F r.cs) w')):
 Calls jG 200 #[.pointer (some ⟨q.P,0,none⟩),.int .i64 y,.func (.func f) #[] capt] w (gY base w q (pW g y F)):=by
 have HIN:=Hd (rK h y);cases hin:inP g y with
 |false=>
  rw[hin]at HIN;have H:=Hd h.res;have HC:=Hd (X6 F hin);clear h hdo
  go_enter Tryz.func200,Tryz.ntmps200
  go_wp2_with(go_at_call 199;refine HIN.o.mono ?_;rintro e w1 ⟨rfl,rfl⟩)
  go_end0
  rw[HC.o];exact⟨rfl,H.o⟩
 |true=>
  rw[hin]at HIN;obtain⟨k,rfl⟩:∃k:Nat,y=k:=⟨y.toNat,by unfold inP at hin;simp at hin;omega⟩;have hk:k<q.S.length:=by unfold inP at hin;have :=h.len;simp at hin;omega
  obtain⟨gs,c,hv⟩:=gE h.own qJ;obtain⟨r,hr⟩:∃r,q.S[k]? =some r:=⟨_,jD hk⟩;obtain⟨hrc,hrl⟩:=h.rows r (uW hr);obtain⟨-,⟨x1,-⟩,-,-⟩:=h.cells;have hown:=h.own;rw[hv]at x1 hown;obtain⟨⟨y0,y0f⟩,-⟩:=yL hown hr;have hkI:(k:Int)<(q.S.length:Int):=by omega
  have H:=Hd h;have HV:=Hd hv;have HR:=Hd hr;have HDO:=Hd hdo;have HRC:=Hd hrc;have HFI:=Hd hfine;have HF:=Hd hF;clear h hown hv hin hr hdo hrc hF hfine
  go_enter Tryz.func200,Tryz.ntmps200
  go_upto_region 1 with(go_at_call 199;refine HIN.o.mono ?_;rintro e w1 ⟨rfl,rfl⟩)
  refine gG 15 (fun w'=>Below w.heap.size w w'∧w'.cell? ⟨q.P,1,none⟩=some (.slice (some ⟨gs,0,none⟩) q.S.length c)∧w'.cell? ⟨gs,k*2,none⟩=some (.slice r.A r.cs.length r.cap)) qQ qQ (fun w1 w2 hS hb=>⟨jN hS.1 hb,jA hb hS.2.1,jA hb hS.2.2⟩) ⟨(jU _ _).drew,x1,y0⟩ ?_;refine AtN.go 0 ?_
  iterate 14 refine zA ?_
  refine AtC.back ?_;refine AtN.one 14 (o:=⟨_,_,_,_,_,_⟩) (fun v=>∃g cap,v=.slice (some ⟨g,0,none⟩) r.cs.length cap) (fun v w'=>∃g cap,v=.slice (some ⟨g,0,none⟩) r.cs.length cap∧pX w' ⟨some ⟨g,0,none⟩,F r.cs,cap,r.cont⟩) qV qQ rfl (fun v w1 w2 ⟨g,cap,hv,hr⟩ hb=>⟨g,cap,hv,hr.below hb⟩) (uY.call f (#[.slice r.A r.cs.length r.cap]++capt) _ _ qK ?_ (fun w' hS=>?_)) ?_
  · intro w'
    go_simp
  · refine(HDO.o r w' hS.1 (HRC.o.below hS.1) hrl).mono ?_;rintro e w2 ⟨g1,cap,rfl,hc,hb⟩;rw[HF.o];exact⟨_,rfl,⟨⟨g1,cap,rfl⟩,g1,cap,rfl,.of_own hc (by rw[HF.o];exact HRC.o.1) (HFI.o _ HRC.o.2.1) _⟩,hb⟩
  rintro v ⟨g1,cap,rfl⟩;refine zP ?_;refine AtN.done qQ (fun w' hS=>?_);obtain⟨⟨hb1,-,z0⟩,g1',cap',hv',hrc'⟩:=hS;simp only[Value.slice.injEq,Option.some.injEq,Addr.mk.injEq,and_true,true_and]at hv';obtain⟨rfl,rfl⟩:=hv';have HB1:=Hd hb1;have HRC':=Hd hrc';have hfz:w'.frozen? ⟨gs,k*2,none⟩=false:=(bQ hb1 ⟨y0,y0f⟩).2;clear hb1 hrc' x1 y0 y0f
  go_wp2
  go_end0
  have key:=((H.o.below HB1.o).setRow HV.o HR.o F (HF.o _) HRC'.o).pre HB1.o;rw[hrl]at key;exact⟨rfl,key⟩
end
set_option maxHeartbeats 1600000 in
theorem WG(r0:Rh)(x r:Int)(a:Atr)(bx br ba:Nat)(w:World)(hrc:pX w r0)(h0:0<r0.cs.length)(hx:w.cell? ⟨bx,0,none⟩=some (.int .i64 x))(hr:w.cell? ⟨br,0,none⟩=some (.int .i32 r))(a0:w.cell? ⟨ba,0,none⟩=some (.int .i64 a.fk))(a1:w.cell? ⟨ba,1,none⟩=some (.int .i64 a.fn))(a2:w.cell? ⟨ba,2,none⟩=some (.int .i64 a.bk))(a3:w.cell? ⟨ba,3,none⟩=some (.int .i64 a.bn))(a4:w.cell? ⟨ba,4,none⟩=some (.int .i64 a.fl)):
 Calls jG 213 (#[.slice r0.A r0.cs.length r0.cap]++#[.pointer (some ⟨bx,0,none⟩),.pointer (some ⟨br,0,none⟩),.pointer (some ⟨ba,0,none⟩)]) w (pK (dS r0.cs x r a) w):=by
 have HC:=Hd (qJi r0.A r0.cs r0.cap x r a w hrc.2.2.1 h0 hrc.1);simp only[List.append_toArray,List.cons_append,List.nil_append];clear hrc
 go_enter Tryz.func213,Tryz.ntmps213
 go_wp2_with(go_at_call 214;refine HC.o.mono ?_;rintro e w1 ⟨g,cap,rfl,hc,hb⟩;have HK:=Hd hc;clear hc)
 go_ret
 exact qZm
set_option maxHeartbeats 1600000 in
theorem Xw(r0:Rh)(x r:Int)(bx br:Nat)(w:World)(hrc:pX w r0)(h0:0<r0.cs.length)(hx:w.cell? ⟨bx,0,none⟩=some (.int .i64 x))(hr:w.cell? ⟨br,0,none⟩=some (.int .i32 r)):
 Calls jG 242 (#[.slice r0.A r0.cs.length r0.cap]++#[.pointer (some ⟨bx,0,none⟩),.pointer (some ⟨br,0,none⟩)]) w (pK (fK r0.cs x r) w):=by
 have HC:=Hd (Q6 r0.A r0.cs r0.cap x r w hrc.2.2.1 h0 hrc.1 hrc.2.1);simp only[List.append_toArray,List.cons_append,List.nil_append];clear hrc
 go_enter Tryz.func242,Tryz.ntmps242
 go_wp2_with(go_at_call 243;refine HC.o.mono ?_;rintro e w1 ⟨g,cap,rfl,hc,hb⟩;have HK:=Hd hc;clear hc)
 go_ret
 exact qZm
set_option maxHeartbeats 1600000 in
theorem Km(r0:Rh)(x n:Int)(b:Col)(bx bn bb:Nat)(w:World)(hrc:pX w r0)(h0:0<r0.cs.length)(hx:w.cell? ⟨bx,0,none⟩=some (.int .i64 x))(hn:w.cell? ⟨bn,0,none⟩=some (.int .i64 n))(b0:w.cell? ⟨bb,0,none⟩=some (.int .i64 b.k))(b1:w.cell? ⟨bb,1,none⟩=some (.int .i64 b.n)):
 Calls jG 207 (#[.slice r0.A r0.cs.length r0.cap]++#[.pointer (some ⟨bx,0,none⟩),.pointer (some ⟨bn,0,none⟩),.pointer (some ⟨bb,0,none⟩)]) w (pK (pU r0.cs x n b) w):=by
 have HC:=Hd (Zr r0.A r0.cs r0.cap x n b w hrc.2.2.1 h0 hrc.1);simp only[List.append_toArray,List.cons_append,List.nil_append];clear hrc
 go_enter Tryz.func207,Tryz.ntmps207
 go_wp2_with(go_at_call 208;refine HC.o.mono ?_;rintro e w1 ⟨g,cap,rfl,hc,hb⟩;have HK:=Hd hc;clear hc)
 go_ret
 exact qZm
set_option maxHeartbeats 1600000 in
theorem Ko(r0:Rh)(x n:Int)(b:Col)(bx bn bb:Nat)(w:World)(hrc:pX w r0)(h0:0<r0.cs.length)(hx:w.cell? ⟨bx,0,none⟩=some (.int .i64 x))(hn:w.cell? ⟨bn,0,none⟩=some (.int .i64 n))(b0:w.cell? ⟨bb,0,none⟩=some (.int .i64 b.k))(b1:w.cell? ⟨bb,1,none⟩=some (.int .i64 b.n)):
 Calls jG 209 (#[.slice r0.A r0.cs.length r0.cap]++#[.pointer (some ⟨bx,0,none⟩),.pointer (some ⟨bn,0,none⟩),.pointer (some ⟨bb,0,none⟩)]) w (pK (yC r0.cs x n b) w):=by
 have HC:=Hd (Zs r0.A r0.cs r0.cap x n b w hrc.2.2.1 h0 hrc.1);simp only[List.append_toArray,List.cons_append,List.nil_append];clear hrc
 go_enter Tryz.func209,Tryz.ntmps209
 go_wp2_with(go_at_call 210;refine HC.o.mono ?_;rintro e w1 ⟨g,cap,rfl,hc,hb⟩;have HK:=Hd hc;clear hc)
 go_ret
 exact qZm
set_option maxHeartbeats 1600000 in
theorem ZZ(r0:Rh)(x n:Int)(b:Col)(bx bn bb:Nat)(w:World)(hrc:pX w r0)(h0:0<r0.cs.length)(hx:w.cell? ⟨bx,0,none⟩=some (.int .i64 x))(hn:w.cell? ⟨bn,0,none⟩=some (.int .i64 n))(b0:w.cell? ⟨bb,0,none⟩=some (.int .i64 b.k))(b1:w.cell? ⟨bb,1,none⟩=some (.int .i64 b.n)):
 Calls jG 201 (#[.slice r0.A r0.cs.length r0.cap]++#[.pointer (some ⟨bx,0,none⟩),.pointer (some ⟨bn,0,none⟩),.pointer (some ⟨bb,0,none⟩)]) w (pK (pG r0.cs x n b) w):=by
 have HC:=Hd (Yd r0.A r0.cs r0.cap x n b w hrc.2.2.1 h0 hrc.1);simp only[List.append_toArray,List.cons_append,List.nil_append];clear hrc
 go_enter Tryz.func201,Tryz.ntmps201
 go_wp2_with(go_at_call 202;refine HC.o.mono ?_;rintro e w1 ⟨g,cap,rfl,hc,hb⟩;have HK:=Hd hc;clear hc)
 go_ret
 exact qZm
set_option maxHeartbeats 3200000 in
theorem ZB{base:Nat}{w:World}{q:Pv}{g:Pg}(h:PgO base w q g)(y:Int)(x r9:Int)(a:Atr):
 Calls jG 140 #[.pointer (some ⟨q.P,0,none⟩),.int .i64 y,.int .i64 x,.int .i32 r9,.agg #[.int .i64 a.fk,.int .i64 a.fn,.int .i64 a.bk,.int .i64 a.bn,.int .i64 a.fl]] w (gY base w q (pW g y (fun l=>dS l x r9 a))):=by
 have hb0:Below w.heap.size w (((w.alloc (.cells #[.int .i64 x] 3)).alloc (.cells #[.int .i32 r9] 21)).alloc (.cells #[.int .i64 a.fk,.int .i64 a.fn,.int .i64 a.bk,.int .i64 a.bn,.int .i64 a.fl] 40)):=jW (jW (jW (jU w.heap.size w) _) _) _;have hp0:((((w.alloc (.cells #[.int .i64 x] 3)).alloc (.cells #[.int .i32 r9] 21)).alloc (.cells #[.int .i64 a.fk,.int .i64 a.fn,.int .i64 a.bk,.int .i64 a.bn,.int .i64 a.fl] 40)):World).heap[w.heap.size+0]? =some (.cells #[.int .i64 x] 3 (0,0)):=by first|exact uI (uI (kZ qV))|(refine uI ?_;refine uI ?_;exact kZ rfl)
 have hp1:((((w.alloc (.cells #[.int .i64 x] 3)).alloc (.cells #[.int .i32 r9] 21)).alloc (.cells #[.int .i64 a.fk,.int .i64 a.fn,.int .i64 a.bk,.int .i64 a.bn,.int .i64 a.fl] 40)):World).heap[w.heap.size+1]? =some (.cells #[.int .i32 r9] 21 (0,0)):=by first|exact uI (kZ qV)|(refine uI ?_;refine uI ?_;exact kZ rfl)
 have hp2:((((w.alloc (.cells #[.int .i64 x] 3)).alloc (.cells #[.int .i32 r9] 21)).alloc (.cells #[.int .i64 a.fk,.int .i64 a.fn,.int .i64 a.bk,.int .i64 a.bn,.int .i64 a.fl] 40)):World).heap[w.heap.size+2]? =some (.cells #[.int .i64 a.fk,.int .i64 a.fn,.int .i64 a.bk,.int .i64 a.bn,.int .i64 a.fl] 40 (0,0)):=by first|exact kZ qV|(refine uI ?_;refine uI ?_;exact kZ rfl)
 have HB0:=Hd hb0;have hc2:=h.cols2;have HA:=Hd (rQ (h.below hb0) y 213 #[.pointer (some ⟨w.heap.size,0,none⟩),.pointer (some ⟨w.heap.size+1,0,none⟩),.pointer (some ⟨w.heap.size+2,0,none⟩)] (fun l=>dS l x r9 a) (fun l=>lQ l x r9 a) (fun l hl=>hl.put x r9 a) (fun args w=>by kernel_rfl) (fun r w' hb hr hl=>WG r x r9 a _ _ _ w' hr qJ (jA hb (vM hp0 0 _ rfl)) (jA hb (vM hp1 0 _ rfl)) (jA hb (vM hp2 0 _ rfl)) (jA hb (vM hp2 1 _ rfl)) (jA hb (vM hp2 2 _ rfl)) (jA hb (vM hp2 3 _ rfl)) (jA hb (vM hp2 4 _ rfl))));clear h hb0 hp0 hp1 hp2
 go_enter Tryz.func140,Tryz.ntmps140
 go_wp2_with(go_at_call 200;refine HA.o.mono ?_;rintro e w1 ⟨rfl,hp⟩;have HP:=Hd hp;clear hp)
 go_end0
 exact⟨rfl,HP.o.pre HB0.o⟩
set_option maxHeartbeats 3200000 in
theorem WF{base:Nat}{w:World}{q:Pv}{g:Pg}(h:PgO base w q g)(y:Int)(x r9:Int):
 Calls jG 171 #[.pointer (some ⟨q.P,0,none⟩),.int .i64 y,.int .i64 x,.int .i32 r9] w (gY base w q (pW g y (fun l=>fK l x r9))):=by
 have hb0:Below w.heap.size w ((w.alloc (.cells #[.int .i64 x] 3)).alloc (.cells #[.int .i32 r9] 21)):=jW (jW (jU w.heap.size w) _) _;have hp0:(((w.alloc (.cells #[.int .i64 x] 3)).alloc (.cells #[.int .i32 r9] 21)):World).heap[w.heap.size+0]? =some (.cells #[.int .i64 x] 3 (0,0)):=by first|exact uI (kZ qV)|(refine uI ?_;refine uI ?_;exact kZ rfl)
 have hp1:(((w.alloc (.cells #[.int .i64 x] 3)).alloc (.cells #[.int .i32 r9] 21)):World).heap[w.heap.size+1]? =some (.cells #[.int .i32 r9] 21 (0,0)):=by first|exact kZ qV|(refine uI ?_;refine uI ?_;exact kZ rfl)
 have HB0:=Hd hb0;have hc2:=h.cols2;have HA:=Hd (rQ (h.below hb0) y 242 #[.pointer (some ⟨w.heap.size,0,none⟩),.pointer (some ⟨w.heap.size+1,0,none⟩)] (fun l=>fK l x r9) (fun l=>mU l x r9) (fun l hl=>hl.mark x r9) (fun args w=>by kernel_rfl) (fun r w' hb hr hl=>Xw r x r9 _ _ w' hr qJ (jA hb (vM hp0 0 _ rfl)) (jA hb (vM hp1 0 _ rfl))));clear h hb0 hp0 hp1
 go_enter Tryz.func171,Tryz.ntmps171
 go_wp2_with(go_at_call 200;refine HA.o.mono ?_;rintro e w1 ⟨rfl,hp⟩;have HP:=Hd hp;clear hp)
 go_end0
 exact⟨rfl,HP.o.pre HB0.o⟩
set_option maxHeartbeats 3200000 in
theorem oY{base:Nat}{w:World}{q:Pv}{g:Pg}(h:PgO base w q g)(y:Int)(x n:Int)(b:Col):
 Calls jG 135 #[.pointer (some ⟨q.P,0,none⟩),.int .i64 y,.int .i64 x,.int .i64 n,.agg #[.int .i64 b.k,.int .i64 b.n]] w (gY base w q (pW g y (fun l=>pU l x n b))):=by
 have hb0:Below w.heap.size w (((w.alloc (.cells #[.int .i64 x] 3)).alloc (.cells #[.int .i64 n] 3)).alloc (.cells #[.int .i64 b.k,.int .i64 b.n] 38)):=jW (jW (jW (jU w.heap.size w) _) _) _;have hp0:((((w.alloc (.cells #[.int .i64 x] 3)).alloc (.cells #[.int .i64 n] 3)).alloc (.cells #[.int .i64 b.k,.int .i64 b.n] 38)):World).heap[w.heap.size+0]? =some (.cells #[.int .i64 x] 3 (0,0)):=by first|exact uI (uI (kZ qV))|(refine uI ?_;refine uI ?_;exact kZ rfl)
 have hp1:((((w.alloc (.cells #[.int .i64 x] 3)).alloc (.cells #[.int .i64 n] 3)).alloc (.cells #[.int .i64 b.k,.int .i64 b.n] 38)):World).heap[w.heap.size+1]? =some (.cells #[.int .i64 n] 3 (0,0)):=by first|exact uI (kZ qV)|(refine uI ?_;refine uI ?_;exact kZ rfl)
 have hp2:((((w.alloc (.cells #[.int .i64 x] 3)).alloc (.cells #[.int .i64 n] 3)).alloc (.cells #[.int .i64 b.k,.int .i64 b.n] 38)):World).heap[w.heap.size+2]? =some (.cells #[.int .i64 b.k,.int .i64 b.n] 38 (0,0)):=by first|exact kZ qV|(refine uI ?_;refine uI ?_;exact kZ rfl)
 have HB0:=Hd hb0;have hc2:=h.cols2;have HA:=Hd (rQ (h.below hb0) y 207 #[.pointer (some ⟨w.heap.size,0,none⟩),.pointer (some ⟨w.heap.size+1,0,none⟩),.pointer (some ⟨w.heap.size+2,0,none⟩)] (fun l=>pU l x n b) (fun l=>dX l x n b) (fun l hl=>hl.insert x n b) (fun args w=>by kernel_rfl) (fun r w' hb hr hl=>Km r x n b _ _ _ w' hr qJ (jA hb (vM hp0 0 _ rfl)) (jA hb (vM hp1 0 _ rfl)) (jA hb (vM hp2 0 _ rfl)) (jA hb (vM hp2 1 _ rfl))));clear h hb0 hp0 hp1 hp2
 go_enter Tryz.func135,Tryz.ntmps135
 go_wp2_with(go_at_call 200;refine HA.o.mono ?_;rintro e w1 ⟨rfl,hp⟩;have HP:=Hd hp;clear hp)
 go_end0
 exact⟨rfl,HP.o.pre HB0.o⟩
set_option maxHeartbeats 3200000 in
theorem xP{base:Nat}{w:World}{q:Pv}{g:Pg}(h:PgO base w q g)(y:Int)(x n:Int)(b:Col):
 Calls jG 136 #[.pointer (some ⟨q.P,0,none⟩),.int .i64 y,.int .i64 x,.int .i64 n,.agg #[.int .i64 b.k,.int .i64 b.n]] w (gY base w q (pW g y (fun l=>yC l x n b))):=by
 have hb0:Below w.heap.size w (((w.alloc (.cells #[.int .i64 x] 3)).alloc (.cells #[.int .i64 n] 3)).alloc (.cells #[.int .i64 b.k,.int .i64 b.n] 38)):=jW (jW (jW (jU w.heap.size w) _) _) _;have hp0:((((w.alloc (.cells #[.int .i64 x] 3)).alloc (.cells #[.int .i64 n] 3)).alloc (.cells #[.int .i64 b.k,.int .i64 b.n] 38)):World).heap[w.heap.size+0]? =some (.cells #[.int .i64 x] 3 (0,0)):=by first|exact uI (uI (kZ qV))|(refine uI ?_;refine uI ?_;exact kZ rfl)
 have hp1:((((w.alloc (.cells #[.int .i64 x] 3)).alloc (.cells #[.int .i64 n] 3)).alloc (.cells #[.int .i64 b.k,.int .i64 b.n] 38)):World).heap[w.heap.size+1]? =some (.cells #[.int .i64 n] 3 (0,0)):=by first|exact uI (kZ qV)|(refine uI ?_;refine uI ?_;exact kZ rfl)
 have hp2:((((w.alloc (.cells #[.int .i64 x] 3)).alloc (.cells #[.int .i64 n] 3)).alloc (.cells #[.int .i64 b.k,.int .i64 b.n] 38)):World).heap[w.heap.size+2]? =some (.cells #[.int .i64 b.k,.int .i64 b.n] 38 (0,0)):=by first|exact kZ qV|(refine uI ?_;refine uI ?_;exact kZ rfl)
 have HB0:=Hd hb0;have hc2:=h.cols2;have HA:=Hd (rQ (h.below hb0) y 209 #[.pointer (some ⟨w.heap.size,0,none⟩),.pointer (some ⟨w.heap.size+1,0,none⟩),.pointer (some ⟨w.heap.size+2,0,none⟩)] (fun l=>yC l x n b) (fun l=>lF l x n b) (fun l hl=>hl.delete x n b) (fun args w=>by kernel_rfl) (fun r w' hb hr hl=>Ko r x n b _ _ _ w' hr qJ (jA hb (vM hp0 0 _ rfl)) (jA hb (vM hp1 0 _ rfl)) (jA hb (vM hp2 0 _ rfl)) (jA hb (vM hp2 1 _ rfl))));clear h hb0 hp0 hp1 hp2
 go_enter Tryz.func136,Tryz.ntmps136
 go_wp2_with(go_at_call 200;refine HA.o.mono ?_;rintro e w1 ⟨rfl,hp⟩;have HP:=Hd hp;clear hp)
 go_end0
 exact⟨rfl,HP.o.pre HB0.o⟩
theorem qQj{base:Nat}{w:World}{q:Pv}{g:Pg}(h:PgO base w q g)(y:Int):Calls jG 244 #[.pointer (some ⟨q.P,0,none⟩),.int .i64 y] w (gY base w q (pW g y cH)):=by
 have hc2:=h.cols2;have HA:=Hd (rQ h y 283 #[] cH nH (fun l hl=>hl.close) (fun args w=>by kernel_rfl) (fun r w' hb hr hl=>by
  have :=Ye r.A r.cs r.cap w' hr.2.2.1 qJ hr.1;simpa using this))
 clear h
 go_enter Tryz.func244,Tryz.ntmps244
 go_wp2_with(go_at_call 200;refine HA.o.mono ?_;rintro e w1 ⟨rfl,hp⟩;have HP:=Hd hp;clear hp)
 go_end0
 exact⟨rfl,HP.o⟩
def Wn(n:Nat):List Value:=[.int .u64 n]
theorem Ze:∀n,(Wn n).length=1:=fun _=>rfl
theorem sU{ws:List Nat}{k n:Nat}(h:ws[k]? =some n):(uS Wn ws)[k]? =some (.int .u64 n):=by
 have :=bS Ze ws k n 0 h qZ;rw[Nat.mul_one,vO]at this;exact this
theorem mX{w:World}{base:Nat}{e:TypeId}{size n cap:Nat}{A:Option Addr}{xs:List Value}(h:w.ownsRow base e size (.slice A n cap) n xs)(hn:0<n):∃g,A=some ⟨g,0,none⟩:=by
 obtain⟨-,h2|⟨g',cap',cur,hv,-⟩⟩:=h
 · have :=h2.1;injection this with h1 h3;omega
 · injection hv with h1
   exact⟨g',h1⟩
theorem UX{j:Nat}(h:j<64):2 ^ j<18446744073709551616:=Nat.lt_of_lt_of_le (Nat.pow_lt_pow_right qZ h:2 ^ j<2 ^ 64) qZ
theorem Vd(P:Program)(w:World){x j:Nat}(h:x%64=j):(Op.shift .shl .u64 1 .i64 ((x:Int).tmod 64)).run P w=.ok (.int .u64 ((2 ^ j:Nat):Int)) w:=by
 have hj:j<64:=by omega
 have e:(x:Int).tmod 64=(j:Int):=by rw[Int.tmod_eq_emod_of_nonneg qJ];omega
 have hp:2 ^ j<2 ^ 64:=Nat.pow_lt_pow_right qZ hj;rw[e,shift_shl_any _ _ _ _ qJ,uJ,Int.one_mul];show Result.ok (Value.int .u64 (IntKind.u64.wrap (2 ^ min j 64))) w=_;rw[show min j 64=j by omega,IntKind.wrap_u64];have e2:(2:Int) ^ j=((2 ^ j:Nat):Int):=by simp
 have hp2:2 ^ j<18446744073709551616:=Nat.lt_of_lt_of_le hp qZ;have h3:((2 ^ j:Nat):Int)%18446744073709551616=((2 ^ j:Nat):Int):=Int.emod_eq_of_lt (Int.natCast_nonneg _) (show((2 ^ j:Nat):Int)<18446744073709551616 from Int.ofNat_lt.2 hp2);rw[e2,h3]
structure TbO(base:Nat)(w:World)(T:Nat)(vw:Value)(ws:List Nat)(st:List Bool):Prop where
 blk:w.heap[T]? =some (.cells #[vw,.int .i64 st.length] 164 (0,0))
 hb:base≤T
 own:w.ownsRow base 59 1 vw ws.length (uS Wn ws)
 wds:nF ws st
 le:st.length≤1000
 few:ws.length≤16
def tbX(T:Nat)(vw:Value):List Nat:=T::vw.ownBlock.toList
section
variable {base:Nat}{w:World}{T:Nat}{vw:Value}{ws:List Nat}{st:List Bool}
theorem TbO.cells(h:TbO base w T vw ws st):(w.cell? ⟨T,0,none⟩=some vw∧w.frozen? ⟨T,0,none⟩=false)∧w.cell? ⟨T,1,none⟩=some (.int .i64 st.length)∧w.frozen? ⟨T,1,none⟩=false:=⟨at_ h.blk 0 _ rfl,at_ h.blk 1 _ rfl⟩
theorem TbO.vform(h:TbO base w T vw ws st):∃A c,vw=.slice A ws.length c:=gU h.own
theorem TbO.mod{X:List Nat}{w':World}(h:TbO base w T vw ws st)(hm:Mod X w w')(hd:∀b∈tbX T vw,b∉X):TbO base w' T vw ws st:=
 ⟨(hm.block T (kF.1 h.blk).1 (hd T (by simp[tbX]))).trans h.blk,h.hb,uL h.own hm (fun b hb=>hd b (by simp[tbX,hb])),h.wds,h.le,h.few⟩
theorem TbO.below{w':World}(h:TbO base w T vw ws st)(hb:Below w.heap.size w w'):TbO base w' T vw ws st:=h.mod (Mod.of_below (X:=[]) hb) (fun _ _ h=>by cases h)
theorem Jy(h:TbO base w T vw ws st):Calls jG 152 #[.pointer (some ⟨T,0,none⟩)] w fun e w'=>e=.returned (.int .i64 st.length)∧w=w':=by
 obtain⟨-,x1,-⟩:=h.cells;clear h
 go_enter Tryz.func152,Tryz.ntmps152
 go_wp2
 go_ret
 exact⟨rfl,rfl⟩
theorem sD(h:TbO base w T vw ws st)(x:Int):Calls jG 216 #[.pointer (some ⟨T,0,none⟩),.int .i64 x] w fun e w'=>e=.returned (.bool (decide (0≤x)&&decide (x<st.length)))∧w=w':=by
 have HR:=Hd (Jy h);clear h
 by_cases hy:0≤x
 · go_enter Tryz.func216,Tryz.ntmps216
   go_wp2_with(go_at_call 152;refine HR.o.mono ?_;rintro e w1 ⟨rfl,rfl⟩)
   go_ret
   simp[hy]
 · go_enter Tryz.func216,Tryz.ntmps216
   go_wp2_with(go_at_call 152;refine HR.o.mono ?_;rintro e w1 ⟨rfl,rfl⟩)
   go_ret
   simp;omega
def tS(base:Nat)(w:World)(T:Nat)(vw:Value)(st':List Bool)(w':World):Prop:=∃ws',TbO base w' T vw ws' st'∧Mod vw.ownBlock.toList w w'
theorem TbO.setW{g c k n:Nat}{st':List Bool}(h:TbO base w T vw ws st)(hv:vw=.slice (some ⟨g,0,none⟩) ws.length c)(hk:k<ws.length)(hw:nF (ws.set k n) st')(hl:st'.length=st.length):tS base w T vw st' (w.setCell ⟨g,k,none⟩ (.int .u64 n)):=by
 have hown:=h.own;rw[hv]at hown;have h1:=cR hown (k*1+0) (.int .u64 n);rw[cT Ze ws k ws[k] n 0 (.int .u64 n) (jD hk) qZ rfl,Nat.mul_one,vO]at h1;have hM:Mod vw.ownBlock.toList w (w.setCell ⟨g,k,none⟩ (.int .u64 n)):=(Mod.refl _ _).setCell (a:=⟨g,k,none⟩) (.inl qKk) _;refine⟨ws.set k n,⟨?_,h.hb,by rw[uG,hv];exact h1,hw,by rw[hl];exact h.le,by rw[uG];exact h.few⟩,hM⟩;rw[hl];refine(hM.block T (kF.1 h.blk).1 (fun hb=>?_)).trans h.blk;obtain⟨cur,hc⟩:=uA h.own (jT.1 hb);exact qZk
theorem tS.trans{w1 w2:World}{st':List Bool}(h:tS base w1 T vw st' w2)(hb:Below w.heap.size w w1):tS base w T vw st' w2:=by
 obtain⟨ws',h1,h2⟩:=h;exact⟨ws',h1,(Mod.of_below hb).trans h2 (fun b hb=>.inl hb)⟩
def eF(base:Nat)(w:World)(T:Nat)(vw:Value)(st':List Bool)(e:Ending)(w':World):Prop:=e=.returned (.tuple #[])∧tS base w T vw st' w'
set_option maxHeartbeats 1600000 in
theorem tSet_in(h:TbO base w T vw ws st)(x:Nat)(hx:x<st.length):Calls jG 145 #[.pointer (some ⟨T,0,none⟩),.int .i64 x] w (eF base w T vw (st.set x true)):=by
 have HIN:=Hd (sD h x);have hin:(decide (0≤(x:Int))&&decide ((x:Int)<st.length))=true:=by simp;omega
 rw[hin]at HIN;clear hin;obtain⟨⟨x0,-⟩,-⟩:=h.cells;obtain⟨A,c,hv⟩:=h.vform;obtain⟨wd,hwd,hlt,hbit⟩:=nO h.wds hx;have hl:=(jE.1 hwd).1;have hle:=h.le;have hown:=h.own;rw[hv]at hown x0;obtain⟨g,rfl⟩:∃g,A=some ⟨g,0,none⟩:=mX hown qJ;obtain⟨y,yf⟩:=pC hown (i:=x/64) (v:=.int .u64 wd) (sU hwd);have hwds:=h.wds;generalize hk:x/64=k at *;have hq:jP.wrap ((x:Int)/64)=(k:Int):=by rw[jH _ qJ];omega
 have hkl:(k:Int)<(ws.length:Int):=by omega
 obtain⟨j,hj⟩:∃j,x%64=j:=⟨_,rfl⟩;have hsh:=fun w'=>Vd jG w' hj;have hor:=u64_or_nat wd (2 ^ j) hlt (UX (show j<64 by omega))
 go_enter Tryz.func145,Tryz.ntmps145
 go_upto_region 1 with(go_at_call 216;refine HIN.o.mono ?_;rintro e w1 ⟨rfl,rfl⟩)
 refine zW2 13 x0 y fun w' hS=>?_;have hO:=h.below hS.1;have hown2:=hO.own;rw[hv]at hown2;obtain⟨z,zf⟩:=pC hown2 (i:=k) (v:=.int .u64 wd) (sU hwd)
 go_wp2
 go_end0
 have e2:(2:Int) ^ j=((2 ^ j:Nat):Int):=by simp
 rw[e2,hor];have hs:=wds_set hO.wds hx (hk.symm▸hwd);rw[hk,hj]at hs;exact⟨rfl,(hO.setW hv qJ hs qV).trans hS.1⟩
theorem V9(h:TbO base w T vw ws st)(x:Int)(hx:x<0∨(st.length:Int)≤x):Calls jG 145 #[.pointer (some ⟨T,0,none⟩),.int .i64 x] w (eF base w T vw st):=by
 have HIN:=Hd (sD h x);have hin:(decide (0≤x)&&decide (x<st.length))=false:=by simp;omega
 rw[hin]at HIN;have H:=Hd h;clear hin hx h
 go_enter Tryz.func145,Tryz.ntmps145
 go_wp2_with(go_at_call 216;refine HIN.o.mono ?_;rintro e w1 ⟨rfl,rfl⟩)
 go_end0
 exact⟨rfl,ws,H.o,Mod.refl _ _⟩
def iA(st:List Bool)(x:Int)(b:Bool):List Bool:=if 0≤x∧x<st.length then st.set x.toNat b else st
theorem VT(h:TbO base w T vw ws st)(x:Int):Calls jG 145 #[.pointer (some ⟨T,0,none⟩),.int .i64 x] w (eF base w T vw (iA st x true)):=by
 unfold iA
 by_cases hx:0≤x∧x<st.length
 · obtain⟨k,rfl⟩:=Int.eq_ofNat_of_zero_le hx.1;rw[if_pos hx,uJ];exact tSet_in h k qJ
 · rw[if_neg hx];exact V9 h x qJ
set_option maxHeartbeats 1600000 in
theorem Uz(h:TbO base w T vw ws st)(x:Nat)(hx:x<st.length):Calls jG 147 #[.pointer (some ⟨T,0,none⟩),.int .i64 x] w (eF base w T vw (st.set x false)):=by
 have HIN:=Hd (sD h x);have hin:(decide (0≤(x:Int))&&decide ((x:Int)<st.length))=true:=by simp;omega
 rw[hin]at HIN;clear hin;obtain⟨⟨x0,-⟩,-⟩:=h.cells;obtain⟨A,c,hv⟩:=h.vform;obtain⟨wd,hwd,hlt,hbit⟩:=nO h.wds hx;have hl:=(jE.1 hwd).1;have hle:=h.le;have hown:=h.own;rw[hv]at hown x0;obtain⟨g,rfl⟩:∃g,A=some ⟨g,0,none⟩:=mX hown qJ;obtain⟨y,yf⟩:=pC hown (i:=x/64) (v:=.int .u64 wd) (sU hwd);have hwds:=h.wds;generalize hk:x/64=k at *;have hq:jP.wrap ((x:Int)/64)=(k:Int):=by rw[jH _ qJ];omega
 have hkl:(k:Int)<(ws.length:Int):=by omega
 obtain⟨j,hj⟩:∃j,x%64=j:=⟨_,rfl⟩;have hsh:=fun w'=>Vd jG w' hj;have hor:=u64_andNot_nat wd (2 ^ j) hlt (UX (show j<64 by omega))
 go_enter Tryz.func147,Tryz.ntmps147
 go_upto_region 1 with(go_at_call 216;refine HIN.o.mono ?_;rintro e w1 ⟨rfl,rfl⟩)
 refine zW2 13 x0 y fun w' hS=>?_;have hO:=h.below hS.1;have hown2:=hO.own;rw[hv]at hown2;obtain⟨z,zf⟩:=pC hown2 (i:=k) (v:=.int .u64 wd) (sU hwd)
 go_wp2
 go_end0
 have e2:(2:Int) ^ j=((2 ^ j:Nat):Int):=by simp
 rw[e2,hor];have hs:=Uj hO.wds hx (hk.symm▸hwd);rw[hk,hj]at hs;exact⟨rfl,(hO.setW hv qJ hs qV).trans hS.1⟩
theorem XS(h:TbO base w T vw ws st)(x:Int)(hx:x<0∨(st.length:Int)≤x):Calls jG 147 #[.pointer (some ⟨T,0,none⟩),.int .i64 x] w (eF base w T vw st):=by
 have HIN:=Hd (sD h x);have hin:(decide (0≤x)&&decide (x<st.length))=false:=by simp;omega
 rw[hin]at HIN;have H:=Hd h;clear hin hx h
 go_enter Tryz.func147,Tryz.ntmps147
 go_wp2_with(go_at_call 216;refine HIN.o.mono ?_;rintro e w1 ⟨rfl,rfl⟩)
 go_end0
 exact⟨rfl,ws,H.o,Mod.refl _ _⟩
theorem aI(h:TbO base w T vw ws st)(x:Int):Calls jG 147 #[.pointer (some ⟨T,0,none⟩),.int .i64 x] w (eF base w T vw (iA st x false)):=by
 unfold iA
 by_cases hx:0≤x∧x<st.length
 · obtain⟨k,rfl⟩:=Int.eq_ofNat_of_zero_le hx.1;rw[if_pos hx,uJ];exact Uz h k qJ
 · rw[if_neg hx];exact XS h x qJ
end
def fD(cols:Nat)(b:Col)(w:World)(e:Ending)(w':World):Prop:=
 ∃g cap,e=.returned (.agg #[.slice (some ⟨g,0,none⟩) cols cap,.bool false])∧pX w' ⟨some ⟨g,0,none⟩,kJ cols (vD b),cap,false⟩∧Below w.heap.size w w'
set_option maxHeartbeats 1600000 in
theorem sV(P cols:Nat)(b:Col)(w:World)(x2:w.cell? ⟨P,2,none⟩=some (.int .i64 cols))(h2:2≤cols)(h3:cols≤1000):
 Calls jG 217 #[.pointer (some ⟨P,0,none⟩),.agg #[.int .i64 b.k,.int .i64 b.n]] w (fD cols b w):=by
 have HBL:=Hd (fun w=>Zt cols b w qJ h3);have x:=uI (o:=.cells #[.slice none 0 0,.bool false] 97) (kZ (W:=w) (b:=w.heap.size) (o:=.cells #[.int .i64 b.k,.int .i64 b.n] 38) rfl);have y:=kZ (W:=w.alloc (.cells #[.int .i64 b.k,.int .i64 b.n] 38)) (b:=w.heap.size+1) (o:=.cells #[.slice none 0 0,.bool false] 97) qV;have hb0:=jW (jW (jU w.heap.size w) (.cells #[.int .i64 b.k,.int .i64 b.n] 38)) (.cells #[.slice none 0 0,.bool false] 97);have HB:=Hd hb0;have X2:=Hd (jA hb0 x2);have X0:=Hd (at_ x 0 _ rfl).1;have X1:=Hd (at_ x 1 _ rfl).1;have Y:=Hd y;clear x y hb0 x2
 go_enter Tryz.func217,Tryz.ntmps217
 go_upto_region 1 with fail
 generalize World.alloc _ _=W at HB X2 X0 X1 Y ⊢;have x2:=X2.o;have x0:=X0.o;have x1:=X1.o;refine zW3 5 x2 x0 x1 fun w' hS=>?_;have HB1:=Hd (jN HB.o hS.1);have HY:=Hd ((hS.1.block _ (kQ Y.o)).trans Y.o);clear hS x2 x0 x1 X2 X0 X1 Y
 go_wp2_with(go_at_call 268;refine(HBL.o _).mono ?_;rintro e w2 ⟨g,cap,rfl,hc,hb⟩;rw[kS];have HC:=Hd hc;have HB2:=Hd hb
             have HY2:=Hd ((hb.block _ (kQ HY.o)).trans HY.o);obtain⟨y0,y0f⟩:=at_ HY2.o 0 _ rfl;obtain⟨y1,y1f⟩:=at_ HY2.o 1 _ rfl;clear hc hb)
 have hset:=eZ (u':=.slice (some ⟨g,0,none⟩) cols cap) (v':=.bool false) ⟨y0,y0f⟩ ⟨y1,y1f⟩;have HB3:=kH (kH (jN HB1.o HB2.o) (show w.heap.size≤w.heap.size+1 by omega) (o:=0) (.slice (some ⟨g,0,none⟩) cols cap)) (show w.heap.size≤w.heap.size+1 by omega) (o:=1) (.bool false);refine bodyPost_ret (tQ rfl _ _ (w.heap.size+1) _ _ rfl hset.1.1 hset.2.1) rfl ⟨g,cap,rfl,(pX.of_own HC.o qW (Qd _ _) false).mod (X:=[w.heap.size+1]) (yB (Mod.refl _ _) (.inl qV)) ?_,HB3⟩;intro x hx cs' f he;rw[jR.1 hx]at he;exact uP HY2.o he qZ rfl
section
variable {P:Program}
theorem kO{ops:Array Oper}{rest:List Oper}{o:Oper}{a:Act}{w:World}{Q:Exit→Act→World→Prop}(hgd:o.guard=none)(s x:Operand)(t:TypeId)
 (ho:o.op=.call {callee:=.builtin .append,args:=#[s,x],argTypes:=#[t,t]}) (base:Nat) (e:TypeId) (i:TypeInfo) (z:Value) (size bytes:Nat) (ht:P.underlying t=some (.slice e)) (hi:P.info? e=some i) (hz:i.zero=some z) (hsize:i.size=size) (hby:i.bytes=bytes) (hzs:z.cells.size=size) (hsz:0<size)
 (v:Value) (n:Nat) (xs:List Value) (hs:a.eval s=v) (hown:w.ownsRow base e size v n xs) (ad:Addr) (m c:Nat) (news:List Value) (hx:a.eval x=.slice (some ad) m c) (hl:news.length=m*size) (hnews:∀j u,news[j]? =some u→w.cell? (ad.add j)=some u) (h1:∀u∈news,u.oneCell'=true)
 (h63:n+m≤maxLen) (hbytes:(n+m)*bytes≤140737488355328) (hbase:base≤w.heap.size)
 (h:∀v' w',w'.ownsRow base e size v' (n+m) (xs++news)→w.grownBy w' v.ownBlock→(∀g,v'.ownBlock=some g→v.ownBlock=some g∨w.heap.size≤g)→wpList P ops Q rest (a.put o.dst v') w'):wpList P ops Q (o::rest) a w:=by
 obtain⟨v',w',hr,h2,h3,-,h4⟩:=run_append_own_at (P:=P) w base t o.type e i z size bytes ht hi hz hsize hby hzs hsz v n xs hown ad m c news hl hnews h1 h63 hbytes hbase;refine wpList_plain hgd fun K hK=>?_;unfold Oper.wp execOp;simp only[ho,resolve,invoke,builtin,Sem.run_bind,Sem.run_pure,Result.andThen_ok,List.map_toArray,List.map_cons,List.map_nil,hs,hx,hr];exact hK _ _ (h _ _ h2 h3 (fun g hg=>by
  rcases h4 with h4|h4
  · exact .inl (by rw[←h4];exact hg)
  · rw[h4]at hg;injection hg with hg;exact .inr qJ))
end
theorem xR:(jG.info? 119).map (fun i=>(i.zero,i.size,i.bytes))=some (some (.agg #[.int .i64 0,.int .i64 0,.int .i64 0]),3,24):=by kernel_rfl
section
variable {base:Nat}{w:World}{q:Pv}{g:Pg}
theorem PgO.retold{w1:World}{vt':Value}{t':List Tl}(h:PgO base w q g)(ho:w1.ownsRow base 119 3 vt' t'.length (uS dQ t'))(hm:Mod q.vt.ownBlock.toList w w1)(hv:∀b,vt'.ownBlock=some b→q.vt.ownBlock=some b∨w.heap.size≤b):
 pN base w q {g with told:=t'} (w1.setCell ⟨q.P,3,none⟩ vt'):=by
 have hvt:∀b,q.vt.ownBlock=some b→∃cur:Array Value,w.heap[b]? =some (.cells cur 119 (0,0)):=fun b hb=>uA h.told hb;have hPv:q.P∉q.vt.ownBlock.toList:=fun hb=>by
  obtain⟨cur,hc⟩:=hvt _ (jT.1 hb);exact qZk
 have hPl:=(kF.1 h.blk).1;have hm2:Mod (q.P::q.vt.ownBlock.toList) w (w1.setCell ⟨q.P,3,none⟩ vt'):=(hm.mono (fun b hb=>by simp[jT.1 hb])).setCell (a:=⟨q.P,3,none⟩) (.inl qV) _;have hX:yD w (q.P::q.vt.ownBlock.toList):=fun b hb cs f he=>by
  refine h.nocel b ?_ cs f he;rcases kW.1 hb with rfl|hb
  · simp[pgX]
  · simp[pgX,jT.1 hb]
 have hblk:=kY (cs:=[.pointer (some ⟨q.R,0,none⟩),q.vs,.int .i64 g.cols,q.vt]) ((hm.block q.P hPl hPv).trans h.blk) 3 vt' (cs':=[.pointer (some ⟨q.R,0,none⟩),q.vs,.int .i64 g.cols,vt']) rfl;have hne:∀(b:Nat) (cur:Array Value) (t:TypeId),w.heap[b]? =some (.cells cur t (0,0))→t≠111→t≠119→b∉q.P::q.vt.ownBlock.toList:=fun b cur t hb h1 h2 hx=>by
  rcases kW.1 hx with rfl|hx
  · exact uP h.blk hb h1.symm rfl
  · obtain⟨cur2,hc⟩:=hvt _ (jT.1 hx);exact uP hc hb h2.symm rfl
 refine⟨{q with vt:=vt'},rfl,rfl,⟨hblk,h.hb,h.ring.mod hm2 hX (fun b hb=>?_),uL h.own hm2 (fun b hb=>?_),?_,h.apart,h.scr,h.hist,fun r hr=>⟨(h.rows r hr).1.mod hm2 hX,(h.rows r hr).2⟩,h.cols2,h.cols1000,h.rows1000,h.gone0⟩,hm2.mono (fun b hb=>?_),fun b hb=>?_⟩
 · rcases kW.1 hb with rfl|hb
   · exact hne _ _ _ h.ring.blk qZ qZ
   · obtain⟨cur,hc⟩:=uA h.ring.own (jT.1 hb);exact hne _ _ _ hc qZ qZ
 · obtain⟨cur,hc⟩:=uA h.own hb;exact hne _ _ _ hc qZ qZ
 · refine uL ho ((Mod.refl [q.P] w1).setCell (a:=⟨q.P,3,none⟩) (.inl qV) vt') (fun b hb hx=>?_);have e:=jR.1 hx;rcases hv b hb with h1|h1
   · exact hPv qV7
   · omega
 · rcases kW.1 hb with rfl|hb
   · simp[pgX]
   · simp[pgX,jT.1 hb]
 · rcases kW.1 hb with rfl|hb
   · exact .inl qVg
   rcases kL.1 hb with hb|hb
   · exact .inl (by simp[pgX,jT.1 hb])
   rcases kL.1 hb with hb|hb
   · rcases hv b (jT.1 hb)with h1|h1
     · exact .inl (by simp[pgX,h1])
     · exact .inr h1
   · exact .inl (by simp[pgX,hb])
set_option maxHeartbeats 1600000 in
theorem WX(h:PgO base w q g)(k a n:Int)(ht:g.told.length≤1000000)(hbw:base≤w.heap.size):Calls jG 161 #[.pointer (some ⟨q.P,0,none⟩),.int .i64 k,.int .i64 a,.int .i64 n] w (gY base w q (gW g k a n)):=by
 obtain⟨j0,hj,gz0,gz1,gz2⟩:=info_parts xR;obtain⟨-,-,-,x3,x3f⟩:=h.cells;have H:=Hd h;obtain⟨W,hW⟩:∃W,w.alloc (.cells #[.int .i64 k,.int .i64 a,.int .i64 n] 119)=W:=⟨_,rfl⟩;have hb:Below w.heap.size w W:=by rw[←hW];exact jW (jU _ _) _
 have HN:=Hd (show W.heap[w.heap.size]? =some (.cells #[.int .i64 k,.int .i64 a,.int .i64 n] 119 (0,0))from by rw[←hW];exact kZ rfl);have HB:=Hd hb;have HO:=Hd (h.below hb);have hsz:W.heap.size=w.heap.size+1:=by rw[←hW];simp
 clear h hb
 go_enter Tryz.func161,Tryz.ntmps161
 go_wp2_with(refine kO rfl (.tmp 12) (.tmp 17) 56 rfl base 119 j0 _ 3 24 Tryz.underlying56 hj gz0 gz1 gz2 rfl qZ q.vt g.told.length (uS dQ g.told) rfl HO.o.told ⟨w.heap.size,0,none⟩ 1 1 (dQ ⟨k,a,n⟩) rfl rfl ?_ (KN _) ?_ ?_ ?_ ?_)
 all_goals first
  |omega
  |(simp only[maxLen];omega)
  |skip
 · intro j u hj;rw[vZ,kB];exact(at_ HN.o j u (by simpa[dQ]using hj)).1
 · intro v' w' ho hg hv';have HM:=Hd ((Mod.of_below (X:=q.vt.ownBlock.toList) HB.o).trans (Mod.of_grown (X:=q.vt.ownBlock.toList) hg (fun g hg=>by rw[hg];simp)) (fun g hg=>.inl hg));have HOW:=Hd (show w'.ownsRow base 119 3 v' (g.told++[Tl.mk k a n]).length (uS dQ (g.told++[Tl.mk k a n]))from by rw[uC,jI];exact ho);have HV:=Hd (show ∀b,v'.ownBlock=some b→q.vt.ownBlock=some b∨w.heap.size≤b from fun b hb=>(hv' b hb).imp id (fun h=>by omega));obtain⟨A',c',hvf⟩:=gU ho;have hPv:q.P∉q.vt.ownBlock.toList:=fun hb=>by
    obtain⟨cur,hc⟩:=uA H.o.told (jT.1 hb);exact uP H.o.blk hc qZ rfl
   have hx3:w.cell? ⟨q.P,3,none⟩=some q.vt∧w.frozen? ⟨q.P,3,none⟩=false:=⟨x3,x3f⟩;obtain⟨z3,z3f⟩:=HM.o.hold hPv hx3;clear hx3;clear ho hg hv' x3 x3f hW;subst hvf;obtain⟨A0,c0,hv0⟩:=gU H.o.told
   go_wp2
   go_end0
   exact⟨rfl,H.o.retold HOW.o HM.o HV.o⟩
end
theorem WS{α:Type}{enc:α→List Value}{K:Nat}(hl:∀x,(enc x).length=K){w:World}{base g cap:Nat}{e:TypeId}{l:List α}(h:w.ownsRow base e K (.slice (some ⟨g,0,none⟩) l.length cap) l.length (uS enc l))(off:Nat)(cs:List α)(hi:off+cs.length≤l.length):
 (w.setCells g (off*K) (uS enc cs)).ownsRow base e K (.slice (some ⟨g,0,none⟩) l.length cap) l.length (uS enc (l.take off++cs++l.drop (off+cs.length)))∧Mod [g] w (w.setCells g (off*K) (uS enc cs)):=by
 refine⟨?_,gM (.inl qV) _ _ _ (Mod.refl _ _)⟩;have h1:=fF (uS enc cs) (off*K) (uS enc l) w h (by rw[yP hl,yP hl,←Nat.add_mul];exact Nat.mul_le_mul_right _ hi);rw[iC hl,yP hl,←Nat.add_mul,iD hl,←uC,←uC,←uK]at h1;exact h1
theorem Jx{α:Type}{enc:α→List Value}{K:Nat}(hl:∀x,(enc x).length=K)(h1:∀x,∀v∈enc x,v.oneCell'=true)(st e:TypeId)(hu:jG.underlying st=some (.slice e))(hsz:(jG.info? e).map (·.size)=some K)
 {w:World} {base g cap:Nat} {l:List α} (h:w.ownsRow base e K (.slice (some ⟨g,0,none⟩) l.length cap) l.length (uS enc l)) (i k n oi ok dl sl dc sc:Nat) (hi:i+n≤l.length) (hk:k+n≤l.length) (hmin:Nat.min sl dl=n) (hoi:0<n→oi=i*K) (hok:0<n→ok=k*K):
 ∃w',(Builtin.copy_ #[st,st] 3 #[.slice (some ⟨g,oi,none⟩) dl dc,.slice (some ⟨g,ok,none⟩) sl sc]).run jG w=.ok (goInt n) w'∧w'.ownsRow base e K (.slice (some ⟨g,0,none⟩) l.length cap) l.length (uS enc (l.take i++(l.drop k).take n++l.drop (i+n)))∧Mod [g] w w':=by
 have hlen:((l.drop k).take n).length=n:=by simp;omega
 have hcl:(uS enc ((l.drop k).take n)).length=n*K:=by rw[yP hl,hlen]
 have bd:∀o j,0<n→j<n*K→o+n≤l.length→o*K+j<l.length*K:=fun o j hn hj ho=>by
  have :(o+n)*K≤l.length*K:=Nat.mul_le_mul_right _ ho;rw[Nat.add_mul]at this;omega
 have hn0:∀j,j<n*K→0<n:=fun j hj=>by
  rcases Nat.eq_zero_or_pos n with h|h
  · rw[h]at hj;simp at hj
  · exact h
 have key:(Builtin.copy_ #[st,st] 3 #[.slice (some ⟨g,oi,none⟩) dl dc,.slice (some ⟨g,ok,none⟩) sl sc]).run jG w=.ok (goInt n) (w.setCells g oi (uS enc ((l.drop k).take n))):=by
  have :=QX (P:=jG) w st st 3 e g oi dl dc ⟨g,ok,none⟩ sl sc K (uS enc ((l.drop k).take n)) hu hsz (by rw[hmin,hcl]) (fun j v hj=>?_) (fun j hj=>?_) (fun j hj=>?_) (mC h1 _)
  · rw[hmin]at this;exact this
  · have hj':=(jE.1 hj).1;rw[hcl]at hj';rw[vZ,hok (hn0 j hj')];rw[←iC hl,List.getElem?_take,if_pos hj',←iD hl,gV]at hj;exact(pC h hj).1
  · rw[hcl]at hj;have hb:=bd i j (hn0 j hj) hj hi;rw[hoi (hn0 j hj)];obtain⟨v,hv⟩:∃v,(uS enc l)[i*K+j]? =some v:=⟨_,jD (by rw[yP hl];exact hb)⟩;rw[(pC h hv).1];rfl
  · rw[hcl]at hj;have hb:=bd i j (hn0 j hj) hj hi;rw[hoi (hn0 j hj)];obtain⟨v,hv⟩:∃v,(uS enc l)[i*K+j]? =some v:=⟨_,jD (by rw[yP hl];exact hb)⟩;exact(pC h hv).2
 refine⟨_,key,?_⟩;rcases Nat.eq_zero_or_pos n with hn|hn
 · subst hn;simp only[jL,List.append_nil,vO,List.take_append_drop];exact⟨h,Mod.refl _ _⟩
 · rw[hoi hn];have :=WS hl h i ((l.drop k).take n) (by rw[hlen];exact hi)
   rwa[hlen]at this
theorem Z5{S:List Rh}{t b:Nat}(h:t≤b)(hb:b<S.length)(r:Rh):((S.take t++(S.drop (t+1)).take (b-t)++S.drop (t+(b-t))).set b r).map yA=pT (S.map yA) t b (yA r):=by
 rw[show t+(b-t)=b by omega,List.set_append_right _ _ qW];have e:b-(S.take t++(S.drop (t+1)).take (b-t)).length=0:=by simp;omega
 rw[e,List.drop_eq_getElem_cons hb,jX];unfold pT;simp[List.map_take,List.map_drop]
theorem Z6{S:List Rh}{t b:Nat}(h:t≤b)(hb:b<S.length)(r:Rh):((S.take (t+1)++(S.drop t).take (b-t)++S.drop (t+1+(b-t))).set t r).map yA=bA (S.map yA) t b (yA r):=by
 rw[show t+1+(b-t)=b+1 by omega,uK,List.set_append_left _ _ qW];have e:(S.take (t+1)).set t r=S.take t++[r]:=by
  rw[vJ qJ,List.set_append_right _ _ qW];have :t-(S.take t).length=0:=by simp;omega
  rw[this];rfl
 rw[e];unfold bA;simp[List.map_take,List.map_drop]
theorem ZE{S:List Rh}{i k n j:Nat}{r x:Rh}(h:x∈(S.take i++(S.drop k).take n++S.drop (i+n)).set j r):x∈S∨x=r:=by
 rcases List.mem_or_eq_of_mem_set h with h|h
 · refine .inl ?_;rcases kL.1 h with h|h
   · rcases kL.1 h with h|h
     · exact List.mem_of_mem_take h
     · exact List.mem_of_mem_drop (List.mem_of_mem_take h)
   · exact List.mem_of_mem_drop h
 · exact .inr h
section
variable {base:Nat}{w:World}{q:Pv}{g:Pg}
theorem Jz(h:PgO base w q g){gs c t:Nat}(hv:q.vs=.slice (some ⟨gs,0,none⟩) q.S.length c)(ht:t<q.S.length){S1:List Rh}{w1:World}(hl:S1.length=q.S.length)(ho:w1.ownsRow base 97 2 (.slice (some ⟨gs,0,none⟩) q.S.length c) q.S.length (uS yZ S1))(hm:Mod [gs] w w1)
 {w2:World} (hb:Below w1.heap.size w1 w2) {r:Rh} (hr:pX w2 r) (hrl:r.cs.length=g.cols) (hmem:∀x∈S1.set t r,x∈q.S∨x=r) {scr':List Ro} (hs:(S1.set t r).map yA=scr'):
 pN base w q {g with scr:=scr'} ((w2.setCell ⟨gs,t*2,none⟩ (.slice r.A r.cs.length r.cap)).setCell ⟨gs,t*2+1,none⟩ (.bool r.cont)):=by
 have hX:yD w q.vs.ownBlock.toList:=fun x hx cs f he=>h.nocel x (by simp[pgX,(jT.1 hx)]) cs f he;have hvs:q.vs.ownBlock.toList=[gs]:=by rw[hv];simp[Value.ownBlock]
 have hM:Mod q.vs.ownBlock.toList w ((w2.setCell ⟨gs,t*2,none⟩ (.slice r.A r.cs.length r.cap)).setCell ⟨gs,t*2+1,none⟩ (.bool r.cont)):=by
  rw[hvs];exact yB (hm.then_below hb) (.inl qV)
 rw[←hl]at ho;have ho2:=uL ho (Mod.of_below (X:=[]) hb) (fun _ _ h=>by cases h);have ho3:=lB ho2 (show t<S1.length by omega) r;have hgl:gs<w2.heap.size:=(ho2.lt gs rfl).2;refine h.screen (S':=S1.set t r) (by simpa using hl) ?_ hM hs (fun x hx=>?_)
 · rw[uG,hv,←hl];exact ho3
 · rcases hmem x hx with hx|rfl
   · exact qZl
   · refine⟨hr.mod (X:=[gs]) (yB (Mod.refl _ _) (.inl qV)) (fun b hb' cs f he=>?_),hrl⟩;rw[jR.1 hb']at he;obtain⟨cur,hc⟩:=uA ho2 (g:=gs) rfl;exact uP hc he qZ rfl
set_option maxHeartbeats 3200000 in
theorem pslideA(h:PgO base w q g)(f t:Nat)(b:Col)(hft:f<t)(ht:t<q.S.length):
 Calls jG 260 #[.pointer (some ⟨q.P,0,none⟩),.int .i64 f,.int .i64 t,.agg #[.int .i64 b.k,.int .i64 b.n]] w (gY base w q {g with scr:=pT g.scr f t (gZ g.cols b)}):=by
 obtain⟨gs,c,hv⟩:=gE h.own qJ;have hr1:=h.rows1000;have hc2:=h.cols2;have hc3:=h.cols1000;have H:=Hd h;have HV:=Hd hv;obtain⟨W,hW⟩:∃W,w.alloc (.cells #[.int .i64 b.k,.int .i64 b.n] 38)=W:=⟨_,rfl⟩;have hb0:Below w.heap.size w W:=by rw[←hW];exact jW (jU _ _) _
 have HN:=Hd (show W.heap[w.heap.size]? =some (.cells #[.int .i64 b.k,.int .i64 b.n] 38 (0,0))from by rw[←hW];exact kZ rfl);have HB:=Hd hb0;have hO:=h.below hb0;have HO:=Hd hO;obtain⟨-,⟨x1,-⟩,-,-⟩:=hO.cells;have hown:=hO.own;rw[hv]at x1 hown;have hcap:q.S.length≤c:=by
  rcases hown.2 with⟨e,-⟩|⟨g',c',cur,e,_,_,hc,_⟩
  · cases e
  · simp only[Value.slice.injEq]at e;omega
 have HOWN:=Hd hown;obtain⟨f1,hf1⟩:∃f1:Nat,f1=f+1:=⟨_,rfl⟩;obtain⟨t1,ht1⟩:∃t1:Nat,t1=t+1:=⟨_,rfl⟩;have hf1I:(f:Int)+1=(f1:Int):=by omega
 have ht1I:(t:Int)+1=(t1:Int):=by omega
 have hwf:jP.wrap (f1:Int)=(f1:Int):=jH _ qJ;have hwt:jP.wrap (t1:Int)=(t1:Int):=jH _ qJ;have hftI:(f:Int)<(t:Int):=by omega
 have c1:t≤c:=by omega
 have c2:f≤t:=by omega
 have c3:¬c=f:=by omega
 have c4:t1≤c:=by omega
 have c5:f1≤t1:=by omega
 have c6:¬c=f1:=by omega
 have HF:=Hd (kM hf1 ht1);have HFT:=Hd (kM hft ht);clear h hO hown hv hb0 hf1 ht1 hft ht
 go_enter Tryz.func260,Tryz.ntmps260
 go_upto_region 2 with fail
 clear hW;refine zW1 16 x1 fun w' hS=>?_;have HB1:=Hd hS.1;obtain⟨w2,hcp,hO2,hM2⟩:=Jx zJ fP 58 97 Tryz.underlying58 tH (uL HOWN.o (Mod.of_below (X:=[]) hS.1) (fun _ _ h=>by cases h)) f f1 (t-f) (f*2) (f1*2) (t-f) (t1-f1) (c-f) (c-f1) (by have :=HFT.o;omega) (by have :=HFT.o;have :=HF.o;omega) (by rw[show t1-f1=t-f by have :=HF.o;omega];exact Nat.min_self _) (fun _=>rfl) (fun _=>rfl);rw[HF.o.1]at hO2;have HO2:=Hd hO2;have HM2:=Hd (((Mod.of_below (X:=[gs]) HB.o).then_below HB1.o).trans hM2 (fun x hx=>.inl hx));have hP:=H.o.lt q.P qVg;have hgsw:=H.o.own.lt gs qVr;have hne:q.P≠gs:=by
  obtain⟨cur,hc⟩:=uA H.o.own (g:=gs) qVr;exact uP H.o.blk hc qZ
 have x1':=HM2.o.cell (by simpa using hne) (show w.cell? ⟨q.P,1,none⟩=some (.slice (some ⟨gs,0,none⟩) q.S.length c)from by rw[H.o.cells.2.1.1,HV.o]);have x2':=HM2.o.cell (by simpa using hne) H.o.cells.2.2.1.1;have HNB:=Hd ((hM2.block _ (Nat.lt_of_lt_of_le (kQ HN.o) HB1.o.size) qW).trans ((HB1.o.block _ (kQ HN.o)).trans HN.o));clear hS hO2 hM2 x1
 go_upto_region 4 with fail
 clear hcp;obtain⟨b0,-⟩:=at_ HNB.o 0 _ rfl;obtain⟨b1,-⟩:=at_ HNB.o 1 _ rfl;have HBK:=Hd (fun w' (x2:w'.cell? ⟨q.P,2,none⟩=some (.int .i64 g.cols))=>sV q.P g.cols b w' x2 hc2 hc3);refine gG 8 (fun w'=>Below w2.heap.size w2 w'∧w'.cell? ⟨q.P,1,none⟩=some (.slice (some ⟨gs,0,none⟩) q.S.length c)∧w'.cell? ⟨q.P,2,none⟩=some (.int .i64 g.cols)∧w'.cell? ⟨w.heap.size,0,none⟩=some (.int .i64 b.k)∧w'.cell? ⟨w.heap.size,1,none⟩=some (.int .i64 b.n)) qQ qQ (fun w1 w2 hS hb=>⟨jN hS.1 hb,jA hb hS.2.1,jA hb hS.2.2.1,jA hb hS.2.2.2.1,jA hb hS.2.2.2.2⟩) ⟨(jU _ _).drew,x1',x2',b0,b1⟩ ?_;refine AtN.go 0 ?_
 iterate 7 refine zA ?_
 refine AtC.back ?_;refine AtN.one 7 (o:=⟨_,_,_,_,_,_⟩) (fun v=>∃g1 cap,v=.agg #[.slice (some ⟨g1,0,none⟩) g.cols cap,.bool false]) (fun v w'=>∃g1 cap,v=.agg #[.slice (some ⟨g1,0,none⟩) g.cols cap,.bool false]∧pX w' ⟨some ⟨g1,0,none⟩,kJ g.cols (vD b),cap,false⟩) qV qQ rfl (fun v w1 w2 ⟨g1,cap,hv,hr⟩ hb=>⟨g1,cap,hv,hr.below hb⟩) (uY.call 217 #[.pointer (some ⟨q.P,0,none⟩),.agg #[.int .i64 b.k,.int .i64 b.n]] _ _ qK ?_ (fun w' hS=>?_)) ?_
 · intro w'
   go_simp
 · refine(HBK.o w' hS.2.2.1).mono ?_;rintro e w3 ⟨g1,cap,rfl,hr,hb⟩;exact⟨_,rfl,⟨⟨g1,cap,rfl⟩,g1,cap,rfl,hr⟩,hb⟩
 rintro v ⟨g1,cap,rfl⟩;refine zP ?_;refine AtN.done qQ (fun w' hS=>?_);obtain⟨⟨hb2,-,-,-,-⟩,g1',cap',hv',hrc'⟩:=hS;simp only[Value.agg.injEq,Array.mk.injEq,List.cons.injEq,Value.slice.injEq,Option.some.injEq,Addr.mk.injEq,and_true,true_and]at hv';obtain⟨rfl,rfl⟩:=hv';have HB2:=Hd hb2;have HRC:=Hd hrc';have hS1:(q.S.take f++(q.S.drop (f+1)).take (t-f)++q.S.drop (f+(t-f))).length=q.S.length:=by have :=HFT.o;simp;omega
 have htS:t<(q.S.take f++(q.S.drop (f+1)).take (t-f)++q.S.drop (f+(t-f))).length:=by rw[hS1];exact HFT.o.2
 have hO3:=uL HO2.o (Mod.of_below (X:=[]) hb2) (fun _ _ h=>by cases h);rw[←hS1]at hO3;obtain⟨rt,hrt⟩:∃rt,(q.S.take f++(q.S.drop (f+1)).take (t-f)++q.S.drop (f+(t-f)))[t]? =some rt:=⟨_,jD htS⟩;obtain⟨⟨q0,q0f⟩,q1,q1f⟩:=yL hO3 hrt;clear hrt;have htI:(t:Int)<(q.S.length:Int):=by have :=HFT.o;omega
 have HS1:=Hd hS1;have HFT2:=Hd (show f≤t∧t<q.S.length from⟨by have :=HFT.o;omega,HFT.o.2⟩);clear hb2 hrc' x1' x2' b0 b1 hO3 hS1 htS c1 c2 c3 c4 c5 c6
 go_wp2
 go_end0
 have key:=Jz (H.o) HV.o HFT.o.2 HS1.o HO2.o HM2.o HB2.o HRC.o qV (fun x hx=>ZE hx) (Z5 HFT2.o.1 HFT2.o.2 ⟨some ⟨g1,0,none⟩,kJ g.cols (vD b),cap,false⟩);rw[H.o.scr]at key;simp only[kS]at key;exact⟨rfl,key⟩
set_option maxHeartbeats 3200000 in
theorem UZ(h:PgO base w q g)(f t:Nat)(b:Col)(hft:t≤f)(ht:f<q.S.length):
 Calls jG 260 #[.pointer (some ⟨q.P,0,none⟩),.int .i64 f,.int .i64 t,.agg #[.int .i64 b.k,.int .i64 b.n]] w (gY base w q {g with scr:=bA g.scr t f (gZ g.cols b)}):=by
 obtain⟨gs,c,hv⟩:=gE h.own qJ;have hr1:=h.rows1000;have hc2:=h.cols2;have hc3:=h.cols1000;have H:=Hd h;have HV:=Hd hv;obtain⟨W,hW⟩:∃W,w.alloc (.cells #[.int .i64 b.k,.int .i64 b.n] 38)=W:=⟨_,rfl⟩;have hb0:Below w.heap.size w W:=by rw[←hW];exact jW (jU _ _) _
 have HN:=Hd (show W.heap[w.heap.size]? =some (.cells #[.int .i64 b.k,.int .i64 b.n] 38 (0,0))from by rw[←hW];exact kZ rfl);have HB:=Hd hb0;have hO:=h.below hb0;have HO:=Hd hO;obtain⟨-,⟨x1,-⟩,-,-⟩:=hO.cells;have hown:=hO.own;rw[hv]at x1 hown;have hcap:q.S.length≤c:=by
  rcases hown.2 with⟨e,-⟩|⟨g',c',cur,e,_,_,hc,_⟩
  · cases e
  · simp only[Value.slice.injEq]at e;omega
 have HOWN:=Hd hown;obtain⟨f1,hf1⟩:∃f1:Nat,f1=f+1:=⟨_,rfl⟩;obtain⟨t1,ht1⟩:∃t1:Nat,t1=t+1:=⟨_,rfl⟩;have hf1I:(f:Int)+1=(f1:Int):=by omega
 have ht1I:(t:Int)+1=(t1:Int):=by omega
 have hwf:jP.wrap (f1:Int)=(f1:Int):=jH _ qJ;have hwt:jP.wrap (t1:Int)=(t1:Int):=jH _ qJ;have hftI:¬(f:Int)<(t:Int):=by omega
 have c1:f1≤c:=by omega
 have c2:t1≤f1:=by omega
 have c4:f≤c:=by omega
 have c5:t≤f:=by omega
 have c6:¬c=t:=by omega
 obtain⟨off,hoff⟩:∃off,(if c=t1 then(some ⟨gs,0,none⟩:Option Addr)else some ⟨gs,t1*2,none⟩)=some ⟨gs,off,none⟩:=by
  by_cases h:c=t1
  · exact⟨0,if_pos h⟩
  · exact⟨t1*2,if_neg h⟩
 have HOFF:Hid (0<f-t→off=t1*2):=Hd (fun h=>by rw[if_neg qJ]at hoff;simp at hoff;omega);have HF:=Hd (kM hf1 ht1);have HFT:=Hd (kM hft ht);clear h hO hown hv hb0 hf1 ht1 hft ht
 go_enter Tryz.func260,Tryz.ntmps260
 go_upto_region 3 with fail
 clear hW;refine zW1 16 x1 fun w' hS=>?_;have HB1:=Hd hS.1;obtain⟨w2,hcp,hO2,hM2⟩:=Jx zJ fP 58 97 Tryz.underlying58 tH (uL HOWN.o (Mod.of_below (X:=[]) hS.1) (fun _ _ h=>by cases h)) t1 t (f-t) off (t*2) (f1-t1) (f-t) (c-t1) (c-t) (by have :=HFT.o;have :=HF.o;omega) (by have :=HFT.o;omega) (by rw[show f1-t1=f-t by have :=HF.o;omega];exact Nat.min_self _) HOFF.o (fun _=>rfl);rw[HF.o.2]at hO2;have HO2:=Hd hO2;have HM2:=Hd (((Mod.of_below (X:=[gs]) HB.o).then_below HB1.o).trans hM2 (fun x hx=>.inl hx));have hP:=H.o.lt q.P qVg;have hgsw:=H.o.own.lt gs qVr;have hne:q.P≠gs:=by
  obtain⟨cur,hc⟩:=uA H.o.own (g:=gs) qVr;exact uP H.o.blk hc qZ
 have x1':=HM2.o.cell (by simpa using hne) (show w.cell? ⟨q.P,1,none⟩=some (.slice (some ⟨gs,0,none⟩) q.S.length c)from by rw[H.o.cells.2.1.1,HV.o]);have x2':=HM2.o.cell (by simpa using hne) H.o.cells.2.2.1.1;have HNB:=Hd ((hM2.block _ (Nat.lt_of_lt_of_le (kQ HN.o) HB1.o.size) qW).trans ((HB1.o.block _ (kQ HN.o)).trans HN.o));clear hS hO2 hM2 x1
 go_upto_region 4 with fail
 clear hcp hoff;obtain⟨b0,-⟩:=at_ HNB.o 0 _ rfl;obtain⟨b1,-⟩:=at_ HNB.o 1 _ rfl;have HBK:=Hd (fun w' (x2:w'.cell? ⟨q.P,2,none⟩=some (.int .i64 g.cols))=>sV q.P g.cols b w' x2 hc2 hc3);refine gG 8 (fun w'=>Below w2.heap.size w2 w'∧w'.cell? ⟨q.P,1,none⟩=some (.slice (some ⟨gs,0,none⟩) q.S.length c)∧w'.cell? ⟨q.P,2,none⟩=some (.int .i64 g.cols)∧w'.cell? ⟨w.heap.size,0,none⟩=some (.int .i64 b.k)∧w'.cell? ⟨w.heap.size,1,none⟩=some (.int .i64 b.n)) qQ qQ (fun w1 w2 hS hb=>⟨jN hS.1 hb,jA hb hS.2.1,jA hb hS.2.2.1,jA hb hS.2.2.2.1,jA hb hS.2.2.2.2⟩) ⟨(jU _ _).drew,x1',x2',b0,b1⟩ ?_;refine AtN.go 0 ?_
 iterate 7 refine zA ?_
 refine AtC.back ?_;refine AtN.one 7 (o:=⟨_,_,_,_,_,_⟩) (fun v=>∃g1 cap,v=.agg #[.slice (some ⟨g1,0,none⟩) g.cols cap,.bool false]) (fun v w'=>∃g1 cap,v=.agg #[.slice (some ⟨g1,0,none⟩) g.cols cap,.bool false]∧pX w' ⟨some ⟨g1,0,none⟩,kJ g.cols (vD b),cap,false⟩) qV qQ rfl (fun v w1 w2 ⟨g1,cap,hv,hr⟩ hb=>⟨g1,cap,hv,hr.below hb⟩) (uY.call 217 #[.pointer (some ⟨q.P,0,none⟩),.agg #[.int .i64 b.k,.int .i64 b.n]] _ _ qK ?_ (fun w' hS=>?_)) ?_
 · intro w'
   go_simp
 · refine(HBK.o w' hS.2.2.1).mono ?_;rintro e w3 ⟨g1,cap,rfl,hr,hb⟩;exact⟨_,rfl,⟨⟨g1,cap,rfl⟩,g1,cap,rfl,hr⟩,hb⟩
 rintro v ⟨g1,cap,rfl⟩;refine zP ?_;refine AtN.done qQ (fun w' hS=>?_);obtain⟨⟨hb2,-,-,-,-⟩,g1',cap',hv',hrc'⟩:=hS;simp only[Value.agg.injEq,Array.mk.injEq,List.cons.injEq,Value.slice.injEq,Option.some.injEq,Addr.mk.injEq,and_true,true_and]at hv';obtain⟨rfl,rfl⟩:=hv';have HB2:=Hd hb2;have HRC:=Hd hrc';have hS1:(q.S.take (t+1)++(q.S.drop t).take (f-t)++q.S.drop (t+1+(f-t))).length=q.S.length:=by have :=HFT.o;simp;omega
 have htS:t<(q.S.take (t+1)++(q.S.drop t).take (f-t)++q.S.drop (t+1+(f-t))).length:=by rw[hS1];have :=HFT.o;omega
 have hO3:=uL HO2.o (Mod.of_below (X:=[]) hb2) (fun _ _ h=>by cases h);rw[←hS1]at hO3;obtain⟨rt,hrt⟩:∃rt,(q.S.take (t+1)++(q.S.drop t).take (f-t)++q.S.drop (t+1+(f-t)))[t]? =some rt:=⟨_,jD htS⟩;obtain⟨⟨q0,q0f⟩,q1,q1f⟩:=yL hO3 hrt;clear hrt;have htI:(t:Int)<(q.S.length:Int):=by have :=HFT.o;omega
 have HS1:=Hd hS1;have HFT2:=Hd (show t≤f∧f<q.S.length from HFT.o);clear hb2 hrc' x1' x2' b0 b1 hO3 hS1 htS c1 c2 c4 c5 c6
 go_wp2
 go_end0
 have key:=Jz (H.o) HV.o (by have :=HFT.o;omega) HS1.o HO2.o HM2.o HB2.o HRC.o qV (fun x hx=>ZE hx) (Z6 HFT2.o.1 HFT2.o.2 ⟨some ⟨g1,0,none⟩,kJ g.cols (vD b),cap,false⟩);rw[H.o.scr]at key;simp only[kS]at key;exact⟨rfl,key⟩
theorem XO(l:List Ro)(t:Nat)(b:Ro):pT l t t b=bA l t t b:=by
 unfold pT bA;simp
theorem WY(h:PgO base w q g)(f t:Nat)(b:Col)(hft:f≤t)(ht:t<q.S.length):
 Calls jG 260 #[.pointer (some ⟨q.P,0,none⟩),.int .i64 f,.int .i64 t,.agg #[.int .i64 b.k,.int .i64 b.n]] w (gY base w q {g with scr:=pT g.scr f t (gZ g.cols b)}):=by
 rcases Nat.lt_or_ge f t with h1|h1
 · exact pslideA h f t b h1 ht
 · obtain rfl:f=t:=by omega
   rw[XO];exact UZ h f f b (jS _) ht
end
section
variable {base:Nat}{w w1:World}{q:Pv}{g g1:Pg}
theorem tG{f:FuncId}{args:Array Value}{g2:Pg}(hs:pN base w q g1 w1)(hc:∀q1,q1.P=q.P→PgO base w1 q1 g1→Calls jG f args w1 (gY base w1 q1 g2)):Calls jG f args w1 (gY base w q g2):=by
 obtain⟨q1,e1,e2,h1,h2,h3⟩:=hs;exact(hc q1 e1 h1).mono fun e w2 ⟨he,hr⟩=>⟨he,pN.trans ⟨e1,e2,h2,h3⟩ hr⟩
theorem pN.hold(hs:pN base w q g1 w1){b o:Nat}{v:Value}(hb:b∉pgX q)(hc:w.cell? ⟨b,o,none⟩=some v):w1.cell? ⟨b,o,none⟩=some v:=by
 obtain⟨q1,-,-,-,h2,-⟩:=hs;exact h2.cell hb hc
theorem mR(hs:pN base w q g1 w1):Calls jG 79 #[.pointer (some ⟨q.P,0,none⟩)] w1 fun e w2=>e=.returned (.int .i64 g1.hist.length)∧w1=w2:=by
 obtain⟨q1,e1,e2,h1,-⟩:=hs;rw[←e1];exact mZ h1
theorem fG(hs:pN base w q g1 w1)(k a n:Int)(ht:g1.told.length≤1000000):Calls jG 161 #[.pointer (some ⟨q.P,0,none⟩),.int .i64 k,.int .i64 a,.int .i64 n] w1 (gY base w q (gW g1 k a n)):=
 tG hs fun q1 e h=>by
  rw[←e];exact WX h k a n ht (by have :=h.lt q1.P qVg;omega)
theorem mK(hs:pN base w q g1 w1)(y:Int):Calls jG 203 #[.pointer (some ⟨q.P,0,none⟩),.int .i64 y] w1 (gY base w q (vL g1 y false)):=
 tG hs fun q1 e h=>by rw[←e];exact WU h y
theorem wO(hs:pN base w q g1 w1)(f t:Nat)(b:Col)(hft:f≤t)(ht:t<g1.scr.length):Calls jG 260 #[.pointer (some ⟨q.P,0,none⟩),.int .i64 f,.int .i64 t,.agg #[.int .i64 b.k,.int .i64 b.n]] w1 (gY base w q {g1 with scr:=pT g1.scr f t (gZ g1.cols b)}):=
 tG hs fun q1 e h=>by rw[←e];exact WY h f t b hft (by rw[h.len];exact ht)
theorem Vk(hs:pN base w q g1 w1)(f t:Nat)(b:Col)(hft:t≤f)(ht:f<g1.scr.length):Calls jG 260 #[.pointer (some ⟨q.P,0,none⟩),.int .i64 f,.int .i64 t,.agg #[.int .i64 b.k,.int .i64 b.n]] w1 (gY base w q {g1 with scr:=bA g1.scr t f (gZ g1.cols b)}):=
 tG hs fun q1 e h=>by rw[←e];exact UZ h f t b hft (by rw[h.len];exact ht)
theorem PgO.hist100k(h:PgO base w q g):g.hist.length≤100000:=by have :=h.hlen;have :=h.ring.hn;have :=h.ring.hm;have :=h.ring.hroom;omega
set_option maxHeartbeats 3200000 in
theorem ZW(h:PgO base w q g)(top bottom:Nat)(b:Col)(h1:top≤bottom)(h2:bottom<g.scr.length)(ht:g.told.length≤999990):
 Calls jG 211 #[.pointer (some ⟨q.P,0,none⟩),.int .i64 top,.int .i64 bottom,.agg #[.int .i64 b.k,.int .i64 b.n]] w (gY base w q (lU g top bottom b)):=by
 have hrows:=h.rows1000;have hlen:=h.len;have hh:=h.hist100k;obtain⟨W,hW⟩:∃W,w.alloc (.cells #[.int .i64 b.k,.int .i64 b.n] 38)=W:=⟨_,rfl⟩;have hb0:Below w.heap.size w W:=by rw[←hW];exact jW (jU _ _) _
 have HN:=Hd (show W.heap[w.heap.size]? =some (.cells #[.int .i64 b.k,.int .i64 b.n] 38 (0,0))from by rw[←hW];exact kZ rfl);have HB:=Hd hb0;have HX:w.heap.size∉pgX q:=fun hx=>by have :=h.lt _ hx;omega
 have H0:=Hd (h.below hb0).res;have hwa:jP.wrap ((g.hist.length:Int)+(top:Int))=(g.hist.length:Int)+(top:Int):=jH _ qJ;have hwb:jP.wrap ((g.hist.length:Int)+(bottom:Int))=(g.hist.length:Int)+(bottom:Int):=jH _ qJ;have hwc:jP.wrap ((bottom:Int)+1)=(bottom:Int)+1:=jH _ qJ;have HBA:=Hd (mR H0.o);have HBA2:Hid (∀w1,pN base W q (gW g 1 ((g.hist.length:Int)+top) 1) w1→Calls jG 79 #[.pointer (some ⟨q.P,0,none⟩)] w1 fun e w2=>e=.returned (.int .i64 g.hist.length)∧w1=w2):=Hd (fun w1 hs=>by have :=mR hs;exact this);have HT1:=Hd (fG H0.o 1 ((g.hist.length:Int)+top) 1 qJ);have HT2:Hid (∀w1,pN base W q (gW g 1 ((g.hist.length:Int)+top) 1) w1→Calls jG 161 #[.pointer (some ⟨q.P,0,none⟩),.int .i64 0,.int .i64 ((g.hist.length:Int)+bottom),.int .i64 1] w1 (gY base W q (gW (gW g 1 ((g.hist.length:Int)+top) 1) 0 ((g.hist.length:Int)+bottom) 1))):=Hd (fun w1 hs=>fG hs _ _ _ (by simp[gW];omega))
 have HSL:Hid (∀w1,pN base W q (gW (gW g 1 ((g.hist.length:Int)+top) 1) 0 ((g.hist.length:Int)+bottom) 1) w1→Calls jG 260 #[.pointer (some ⟨q.P,0,none⟩),.int .i64 top,.int .i64 bottom,.agg #[.int .i64 b.k,.int .i64 b.n]] w1 (gY base W q {(gW (gW g 1 ((g.hist.length:Int)+top) 1) 0 ((g.hist.length:Int)+bottom) 1)with scr:=pT g.scr top bottom (gZ g.cols b)})):=Hd (fun w1 hs=>wO hs top bottom b h1 h2);have HPA:=Hd (fun(g1:Pg) (y:Int) (w1:World) (hs:pN base W q g1 w1)=>mK hs y);obtain⟨b0,-⟩:=at_ HN.o 0 _ rfl;obtain⟨b1,-⟩:=at_ HN.o 1 _ rfl;have HB0:=Hd b0;have HB1:=Hd b1;have HG:Hid (lU g top bottom b=vL (vL {(gW (gW g 1 ((g.hist.length:Int)+top) 1) 0 ((g.hist.length:Int)+bottom) 1)with scr:=pT g.scr top bottom (gZ g.cols b)} top false) ((bottom:Int)+1) false):=Hd rfl;rw[HG.o];clear hb0 h b0 b1
 go_enter Tryz.func211,Tryz.ntmps211
 go_wp2_with(first
  |(go_at_call 79;first
     |(have hpv:=HS1.o;clear hpv;(with_reducible refine(HBA2.o _ HS1.o).mono ?_);rintro e w9 ⟨rfl,rfl⟩)
     |((with_reducible refine HBA.o.mono ?_);rintro e w9 ⟨rfl,rfl⟩))
  |(go_at_call 161;first
     |(have hpv:=HS1.o;clear hpv;(with_reducible refine(HT2.o _ HS1.o).mono ?_);rintro e w2 ⟨rfl,hs⟩;have HS2:=Hd hs;have y0:=hs.hold HX HB0.o;have y1:=hs.hold HX HB1.o;clear hs)
     |((with_reducible refine HT1.o.mono ?_);rintro e w2 ⟨rfl,hs⟩;have HS1:=Hd hs;clear hs))
  |(go_at_call 260;(with_reducible refine(HSL.o _ HS2.o).mono ?_);rintro e w3 ⟨rfl,hs⟩;have HS3:=Hd hs;clear hs)
  |(go_at_call 203;first
     |(have hpv:=HS4.o;clear hpv;(with_reducible refine(HPA.o _ _ _ HS4.o).mono ?_);rintro e w4 ⟨rfl,hs⟩;have HS5:=Hd hs;clear hs)
     |((with_reducible refine(HPA.o _ _ _ HS3.o).mono ?_);rintro e w4 ⟨rfl,hs⟩;have HS4:=Hd hs;clear hs)))
 go_end0
 exact⟨rfl,HS5.o.pre HB.o⟩
end
end Go.Proofs.YtjcpdcncfjkejaaGreatDoor
