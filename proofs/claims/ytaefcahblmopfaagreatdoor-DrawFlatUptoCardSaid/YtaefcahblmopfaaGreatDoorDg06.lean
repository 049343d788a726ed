/- Joined by a tool of this claim out of smaller texts. Conditions: as stated. -/
import Derived.Test.YtaefcahblmopfaaGreatDoorDg05
set_option linter.unusedVariables false
set_option linter.unusedSimpArgs false
set_option maxRecDepth 100000
open Go.Lib renaming hid → Hd
open List renaming setIfInBounds_toArray → jZ, set_cons_zero → jX, set_cons_succ → jY, mem_singleton → jW, getElem?_eq_getElem → jN, getElem?_eq_some_iff → jP, length_append → jC, drop_succ_cons → jR, take_succ_cons → jS, drop_zero → jO, mem_cons → kJ, take_zero → kK, getD_eq_getElem?_getD → kV, take_succ_eq_append_getElem → kY, append_assoc → kG, replicate → kW, length_take → kS, getElem?_append_right → kT, length_set → kI, getElem?_map → uV, getElem?_eq_none → uZ, length_replicate → uX, getElem?_append_left → uM, take_of_length_le → vV, ext_getElem? → gU, getElem?_drop → gH
open Go.Proofs.Tryz renaming prog → jG
open Go.RowKit.Below renaming refl → jU
open Nat renaming le_refl → jD, le_trans → jI, zero_le → kB, zero_add → kP, add_zero → uS
open Go.IntWalk renaming i64_in → jF
open Option renaming mem_toList → jT
open Go.IntKind renaming i64 → jE
open And renaming intro → kX
open Array renaming getElem?_eq_some_iff → kN
open Go.World renaming ownsRow_nil → kD, setCell → uB
namespace Go.Proofs.YtaefcahblmopfaaGreatDoor
open Go.RowKit
structure Rh where
 A:Option Addr
 cs:List Cl
 cap:Nat
 cont:Bool
def gI(r:Rh):List Value:=[.slice r.A r.cs.length r.cap,.bool r.cont]
def yW(r:Rh):Ro:=⟨r.cs,r.cont⟩
def bE:Rh:=⟨none,[],0,false⟩
theorem zM:∀r,(gI r).length=2:=fun _=>rfl
theorem iN:∀r,∀v∈gI r,v.oneCell'=true:=fun r v hv=>by
 simp only[gI,kJ,List.not_mem_nil,or_false]at hv;rcases hv with rfl|rfl<;>rfl
def yO(w:World)(r:Rh):Prop:=
 r.cs.length≤10000∧yB r.cs∧pZ kQ 8 w r.A r.cs∧(0<r.cs.length→∃b off cs f,r.A=some ⟨b,off,none⟩∧w.heap[b]? =some (.cells cs 65 f))
def yH(w:World)(X:List Nat):Prop:=∀b∈X,∀cs f,w.heap[b]? ≠some (.cells cs 65 f)
theorem yO.mod{X:List Nat}{w w':World}{r:Rh}(h:yO w r)(hm:Mod X w w')(hX:yH w X):yO w' r:=by
 obtain⟨h1,h2,h3,h4⟩:=h
 by_cases h0:0<r.cs.length
 · obtain⟨b,off,cs,f,hA,hb⟩:=h4 h0;have hbX:b∉X:=fun hx=>hX b hx cs f hb;refine⟨h1,h2,?_,fun _=>⟨b,off,cs,f,hA,(hm.block b (kN.1 hb).1 hbX).trans hb⟩⟩;rw[hA]at h3 ⊢;exact oO h3 hm hbX
 · exact⟨h1,h2,fun h=>absurd h h0,fun h=>absurd h h0⟩
theorem yH.nil(w:World):yH w []:=fun _ h=>by cases h
theorem yO.below{w w':World}{r:Rh}(h:yO w r)(hb:Below w.heap.size w w'):yO w' r:=h.mod (Mod.of_below (X:=[]) hb) (yH.nil w)
theorem yO.of_own{w:World}{base g cap:Nat}{l:List Cl}(h:CrO w base g cap l)(hz:l.length≤10000)(hf:yB l)(cont:Bool):yO w ⟨some ⟨g,0,none⟩,l,cap,cont⟩:=by
 refine⟨hz,hf,fun h0=>⟨g,0,rfl,fun i x hx j v hv=>by rw[kP];exact h.range hx j v hv⟩,fun h0=>?_⟩;rcases h.2 with⟨e,-⟩|⟨g',c',cur,e,_,e3,_⟩
 · cases e
 · simp only[Value.slice.injEq,Option.some.injEq,Addr.mk.injEq,and_true,true_and]at e;obtain⟨rfl,-⟩:=e;exact⟨g,0,cur,(0,0),rfl,e3⟩
theorem yO.cont{w:World}{r:Rh}(h:yO w r)(b:Bool):yO w {r with cont:=b}:=h
def pK(m first i:Nat):Nat:=if m≤first + i then first + i-m else first + i
def pF(SL:List Rh)(first n:Nat):List Rh:=(List.range n).map (fun i=>SL.getD (pK SL.length first i) bE)
theorem yM(SL:List Rh)(first n:Nat):(pF SL first n).length=n:=by simp[pF]
theorem bP{m first i:Nat}(hf:first < m)(hi:i<m):pK m first i<m:=by unfold pK;split<;>omega
theorem XL{m first i j:Nat}(hf:first < m)(hi:i<m)(hj:j<m)(h:pK m first i=pK m first j):i=j:=by
 unfold pK at h
 split at h<;>split at h<;>omega
theorem eD{SL:List Rh}{first n i:Nat}(hf:first < SL.length)(hn:n≤SL.length)(hi:i<n):(pF SL first n)[i]? =SL[pK SL.length first i]? :=by
 have hs:=bP hf (show i<SL.length by omega);unfold pF;rw[uV,List.getElem?_range hi];simp[kV,jN hs]
theorem lJ{SL:List Rh}{first n:Nat}(hf:first < SL.length)(hn:n<SL.length)(r:Rh):pF (SL.set (pK SL.length first n) r) first (n+1)=pF SL first n++[r]:=by
 have hs:=bP hf hn;refine gU fun i=>?_;rcases Nat.lt_or_ge i (n+1)with hi|hi
 · rw[eD (by simpa using hf) qY hi,kI];rcases Nat.lt_or_ge i n with h|h
   · rw[uM (by rw[yM];exact h),eD hf qJ h,List.getElem?_set_ne (fun e=>by have :=XL hf qJ qJ e;omega)]
   · have :i=n:=by omega
     subst this;rw[kT (by rw[yM];exact jD _),yM,List.getElem?_set_self hs];simp
 · rw[uZ (by rw[yM];exact hi),uZ (by simp[yM];omega)]
theorem aD{SL:List Rh}{first n:Nat}(hf:first < SL.length)(hn:n≤SL.length)(h0:0<n)(r:Rh):pF (SL.set first r) (pK SL.length first 1) (n-1)=(pF SL first n).drop 1:=by
 refine gU fun i=>?_;rw[gH];rcases Nat.lt_or_ge i (n-1)with hi|hi
 · have h1:1<SL.length:=by omega
   have hs:=bP hf h1;rw[eD (by simpa using hs) qY hi,eD hf hn qJ,kI];have e:pK SL.length (pK SL.length first 1) i=pK SL.length first (1+i):=by
    unfold pK
    repeat' split
    all_goals omega
   rw[e,List.getElem?_set_ne];unfold pK
   split<;>omega
 · rw[uZ (by rw[yM];exact hi),uZ (by rw[yM];omega)]
theorem wZ{H Z:List Rh}:pF (H++Z) 0 H.length=H:=by
 refine gU fun i=>?_;rcases Nat.lt_or_ge i H.length with hi|hi
 · rw[eD qY qV hi];have e:pK (H++Z).length 0 i=i:=by unfold pK;rw[if_neg qY];omega
   rw[e,uM hi]
 · rw[uZ (by rw[yM];exact hi),uZ hi]
structure RgO(base:Nat)(w:World)(R:Nat)(vl:Value)(SL:List Rh)(room first n:Nat)(gone:Int):Prop where
 blk:w.heap[R]? =some (.cells #[vl,.int .i64 room,.int .i64 first,.int .i64 n,.int .u64 gone] 225 (0,0))
 own:w.ownsRow base 52 2 vl SL.length (uY gI SL)
 hb:base≤R
 hroom:room≤100000
 hn:n≤SL.length
 hm:SL.length≤room
 hf:first < SL.length∨(first =0∧SL.length=0)
 rows:∀r∈pF SL first n,yO w r∧0<r.cs.length
def gK(R:Nat)(vl:Value):List Nat:=R::vl.ownBlock.toList
theorem uD{w:World}{base n size:Nat}{e:TypeId}{v:Value}{xs:List Value}(h:w.ownsRow base e size v n xs){g:Nat}(hg:v.ownBlock=some g):∃cur:Array Value,w.heap[g]? =some (.cells cur e (0,0)):=by
 rcases h.2 with⟨rfl,-⟩|⟨g',c',cur,rfl,_,e3,_⟩
 · simp[Value.ownBlock]at hg
 · simp[Value.ownBlock]at hg;subst hg;exact⟨cur,e3⟩
theorem RgO.nocel{base:Nat}{w:World}{R:Nat}{vl:Value}{SL:List Rh}{room first n:Nat}{gone:Int}(h:RgO base w R vl SL room first n gone):yH w (gK R vl):=by
 intro b hb cs f he;rcases kJ.1 hb with rfl|hb
 · rw[h.blk]at he;injection he with he
   injection he with _ ht
   exact absurd ht qZ
 · obtain⟨cur,hc⟩:=uD h.own qVt;rw[hc]at he;injection he with he
   injection he with _ ht
   exact absurd ht qZ
theorem RgO.mod{X:List Nat}{base:Nat}{w w':World}{R:Nat}{vl:Value}{SL:List Rh}{room first n:Nat}{gone:Int}(h:RgO base w R vl SL room first n gone)(hm:Mod X w w')(hX:yH w X)(hR:∀g∈gK R vl,g∉X):RgO base w' R vl SL room first n gone:=
 ⟨(hm.block R (kN.1 h.blk).1 (hR R qI)).trans h.blk,kC h.own hm (fun g hg=>hR g (by simp[gK,hg])),h.hb,h.hroom,h.hn,h.hm,h.hf,fun r hr=>⟨(h.rows r hr).1.mod hm hX,(h.rows r hr).2⟩⟩
theorem RgO.below{base:Nat}{w w':World}{R:Nat}{vl:Value}{SL:List Rh}{room first n:Nat}{gone:Int}(h:RgO base w R vl SL room first n gone)(hb:Below w.heap.size w w'):RgO base w' R vl SL room first n gone:=
 h.mod (Mod.of_below (X:=[]) hb) (yH.nil w) (fun _ _ h=>by cases h)
theorem RgO.lt{base:Nat}{w:World}{R:Nat}{vl:Value}{SL:List Rh}{room first n:Nat}{gone:Int}(h:RgO base w R vl SL room first n gone):∀g∈gK R vl,base≤g∧g<w.heap.size:=fun g hg=>by
 rcases kJ.1 hg with rfl|hg
 · exact⟨h.hb,(kN.1 h.blk).1⟩
 · exact h.own.lt g (by simpa[jT]using hg)
theorem RgO.ne{base:Nat}{w:World}{R:Nat}{vl:Value}{SL:List Rh}{room first n:Nat}{gone:Int}(h:RgO base w R vl SL room first n gone){g:Nat}(hg:vl.ownBlock=some g):g≠R:=by
 rintro rfl;obtain⟨cur,hc⟩:=uD h.own hg;rw[h.blk]at hc;injection hc with hc
 injection hc with _ ht
 exact absurd ht qZ
theorem QG(r:Rh)(w:World)(h:yO w r)(h0:0<r.cs.length):
 ∃g cap w',(Builtin.append_ #[50,50] 50 #[.slice none 0 0,.slice r.A r.cs.length r.cap]).run jG w=.ok (.slice (some ⟨g,0,none⟩) r.cs.length cap) w'∧CrO w' w.heap.size g cap r.cs∧Below w.heap.size w w':=by
 obtain⟨j0,hj,gz0,gz1,gz2⟩:=info_parts eC;obtain⟨hz,hf,hg,hA⟩:=h;obtain⟨b,off,cs,f,hA,-⟩:=hA h0;rw[hA]at hg ⊢;obtain⟨v',w',hr,ho,hgr,-⟩:=run_append_own_at (P:=jG) w w.heap.size 50 50 65 j0 _ 8 72 Tryz.underlying50 hj gz0 gz1 gz2 rfl qZ _ 0 [] (kD _ _ _ _) ⟨b,off,none⟩ r.cs.length r.cap (uY kQ r.cs) (pW uF r.cs) (hg.news uF) (sG yJ _) qO qJ (jD _);rw[kP,List.nil_append]at ho;obtain⟨g,cap,hv⟩:=Go.Joins.ownsRow_form ho h0;subst hv;exact⟨g,cap,w',hr,ho,(jU _ _).grown hgr (jD _) (fun k hk=>by cases hk)⟩
def Ug(r:Rh)(w:World)(e:Ending)(w':World):Prop:=∃g cap,e=.returned (.agg #[.slice (some ⟨g,0,none⟩) r.cs.length cap,.bool r.cont])∧yO w' ⟨some ⟨g,0,none⟩,r.cs,cap,r.cont⟩∧Below w.heap.size w w'∧w.heap.size≤g
theorem sZ:(jG.info? 52).map (·.size)=some 2:=by kernel_rfl
theorem wI{fn:Func}{p:Tmp}(hr:fn.results=#[.cell p 52])(tmps:Array Value)(w:World)(b:Nat)(u v:Value)(hp:tmps.getD p undef=.pointer (some ⟨b,0,none⟩))(h0:w.cell? ⟨b,0,none⟩=some u)(h1:w.cell? ⟨b,1,none⟩=some v):
 (results fn tmps).run jG w=.ok (.agg #[u,v]) w:=by
 rw[fC hr,hp];have :=run_loadVar_mid (P:=jG) w b 0 52 [u,v] _ (fun j x hj=>by
  rw[kP]
  match j,hj with
  |0,hj=>simp at hj;subst hj;exact h0
  |1,hj=>simp at hj;subst hj;exact h1) Tryz.underlying52 rfl sZ
 simp only[asAddr,Sem.run_pure,Result.andThen_ok,this]
set_option maxHeartbeats 3200000 in
theorem VF(r:Rh)(w:World)(h:yO w r)(h0:0<r.cs.length):Calls jG 250 #[.agg #[.slice r.A r.cs.length r.cap,.bool r.cont]] w (Ug r w):=by
 have H:=Hd h;have H0:=Hd h0;clear h h0;obtain⟨A,cs,cap0,cont⟩:=r;simp only at H H0
 go_enter Tryz.func250,Tryz.ntmps250
 go_upto_region 1 with fail
 have HB:=Hd (jH (jH (jU w.heap.size w) (.cells #[.slice A cs.length cap0,.bool cont] 52)) (.cells #[.slice none 0 0,.bool false] 52));have x:=uA (o:=.cells #[.slice none 0 0,.bool false] 52) (jA (W:=w) (b:=w.heap.size) (o:=.cells #[.slice A cs.length cap0,.bool cont] 52) rfl);have y:=jA (W:=w.alloc (.cells #[.slice A cs.length cap0,.bool cont] 52)) (b:=w.heap.size+1) (o:=.cells #[.slice none 0 0,.bool false] 52) qV;generalize World.alloc _ _=W at HB x y ⊢;have x0:=(at_ x 0 _ rfl).1;have x1:=(at_ x 1 _ rfl).1;have Y:=Hd y;clear x y;refine pV 5 (fun w'=>Below W.heap.size W w'∧w'.cell? ⟨w.heap.size,0,none⟩=some (.slice A cs.length cap0)∧w'.cell? ⟨w.heap.size,1,none⟩=some (.bool cont)) qQ qQ (fun w1 w2 hS hb=>⟨jM hS.1 hb,kZ hb hS.2.1,kZ hb hS.2.2⟩) ⟨(jU _ _).drew,x0,x1⟩ ?_;refine AtN.go 0 ?_
 iterate 2 (refine AtC.take (o:=⟨_,_,_,_,_,_⟩) (v:=?_) qQ rfl qV qQ qQ ?_ ?_;rotate_left;(focus(first|exact uJ.skip qK|(refine uJ.val qK ?_;intro w' hS;obtain⟨_,_,_⟩:=hS;go_simp;first|done|with_reducible rfl)));simp only[Act.put,jZ,jX,jY])
 refine AtC.back ?_;refine AtN.go 3 ?_
 iterate 2 (refine AtC.take (o:=⟨_,_,_,_,_,_⟩) (v:=?_) qQ rfl qV qQ qQ ?_ ?_;rotate_left;(focus(first|exact uJ.skip qK|(refine uJ.val qK ?_;intro w' hS;obtain⟨_,_,_⟩:=hS;go_simp;first|done|with_reducible rfl)));simp only[Act.put,jZ,jX,jY])
 refine AtC.back ?_;refine AtN.one 2 (o:=⟨some 5,.call {callee:=.builtin .append,args:=#[.const (.slice none 0 0),.tmp 4],argTypes:=#[50,50]},50,_,_,none⟩) (fun v=>∃g cap,v=.slice (some ⟨g,0,none⟩) cs.length cap) (fun v w'=>∃g cap,v=.slice (some ⟨g,0,none⟩) cs.length cap∧yO w' ⟨some ⟨g,0,none⟩,cs,cap,cont⟩∧w.heap.size≤g) qV qQ rfl (fun v w1 w2 ⟨g,cap,hv,hr,hg⟩ hb=>⟨g,cap,hv,hr.below hb,hg⟩) (uJ.new _ _ qK (fun w' hS=>?_)) ?_
 · obtain⟨g,cap,w2,hr,hc,hb⟩:=QG ⟨A,cs,cap0,cont⟩ w' (H.o.below (jM HB.o hS.1)) H0.o;exact qZc
 rintro v ⟨g,cap,rfl⟩;simp only[Act.put,jZ,jX,jY];refine AtN.done qQ (fun w' hS=>?_);obtain⟨⟨hb1,-,-⟩,g',cap',hv,hrc,hg⟩:=hS;simp only[Value.slice.injEq,Option.some.injEq,Addr.mk.injEq,and_true,true_and]at hv;obtain⟨rfl,rfl⟩:=hv;have HR:=Hd hrc;have HG:=Hd hg;have HB2:=Hd (jM HB.o hb1);obtain⟨y0,y0f⟩:=lQ hb1 (at_ Y.o 0 _ rfl);obtain⟨y1,y1f⟩:=lQ hb1 (at_ Y.o 1 _ rfl);have HB1:=Hd hb1;clear hb1 hrc hg x0 x1
 go_wp2
 have HB3:=uK (uK HB2.o (show w.heap.size≤w.heap.size+1 by omega) (o:=0) (.slice (some ⟨g,0,none⟩) cs.length cap)) (show w.heap.size≤w.heap.size+1 by omega) (o:=1) (.bool cont);have hset:=fJ (u':=.slice (some ⟨g,0,none⟩) cs.length cap) (v':=.bool cont) ⟨y0,y0f⟩ ⟨y1,y1f⟩;refine bodyPost_ret (wI rfl _ _ (w.heap.size+1) _ _ rfl hset.1.1 hset.2.1) rfl ⟨g,cap,rfl,HR.o.mod (X:=[w.heap.size+1]) (((Mod.refl _ _).setCell (a:=⟨w.heap.size+1,0,none⟩) (.inl qV) _).setCell (a:=⟨w.heap.size+1,1,none⟩) (.inl qV) _) ?_,HB3,HG.o⟩;intro b hb cs' f he;rw[jW.1 hb,HB1.o.block _ (jL Y.o),Y.o]at he;injection he with he
 injection he with _ ht
 exact absurd ht qZ
set_option maxHeartbeats 3200000 in
theorem qJh(r:Rh)(w:World)(h:yO w r)(h0:0<r.cs.length):Calls jG 160 #[.agg #[.slice r.A r.cs.length r.cap,.bool r.cont]] w (Ug r w):=by
 have H:=Hd h;have H0:=Hd h0;clear h h0;obtain⟨A,cs,cap0,cont⟩:=r;simp only at H H0
 go_enter Tryz.func160,Tryz.ntmps160
 go_upto_region 1 with fail
 have HB:=Hd (jH (jH (jU w.heap.size w) (.cells #[.slice A cs.length cap0,.bool cont] 52)) (.cells #[.slice none 0 0,.bool false] 52));have x:=uA (o:=.cells #[.slice none 0 0,.bool false] 52) (jA (W:=w) (b:=w.heap.size) (o:=.cells #[.slice A cs.length cap0,.bool cont] 52) rfl);have y:=jA (W:=w.alloc (.cells #[.slice A cs.length cap0,.bool cont] 52)) (b:=w.heap.size+1) (o:=.cells #[.slice none 0 0,.bool false] 52) qV;generalize World.alloc _ _=W at HB x y ⊢;have x0:=(at_ x 0 _ rfl).1;have x1:=(at_ x 1 _ rfl).1;have Y:=Hd y;clear x y;refine pV 5 (fun w'=>Below W.heap.size W w'∧w'.cell? ⟨w.heap.size,0,none⟩=some (.slice A cs.length cap0)∧w'.cell? ⟨w.heap.size,1,none⟩=some (.bool cont)) qQ qQ (fun w1 w2 hS hb=>⟨jM hS.1 hb,kZ hb hS.2.1,kZ hb hS.2.2⟩) ⟨(jU _ _).drew,x0,x1⟩ ?_;refine AtN.go 0 ?_
 iterate 2 (refine AtC.take (o:=⟨_,_,_,_,_,_⟩) (v:=?_) qQ rfl qV qQ qQ ?_ ?_;rotate_left;(focus(first|exact uJ.skip qK|(refine uJ.val qK ?_;intro w' hS;obtain⟨_,_,_⟩:=hS;go_simp;first|done|with_reducible rfl)));simp only[Act.put,jZ,jX,jY])
 refine AtC.back ?_;refine AtN.go 3 ?_
 iterate 2 (refine AtC.take (o:=⟨_,_,_,_,_,_⟩) (v:=?_) qQ rfl qV qQ qQ ?_ ?_;rotate_left;(focus(first|exact uJ.skip qK|(refine uJ.val qK ?_;intro w' hS;obtain⟨_,_,_⟩:=hS;go_simp;first|done|with_reducible rfl)));simp only[Act.put,jZ,jX,jY])
 refine AtC.back ?_;refine AtN.one 2 (o:=⟨some 5,.call {callee:=.builtin .append,args:=#[.const (.slice none 0 0),.tmp 4],argTypes:=#[50,50]},50,_,_,none⟩) (fun v=>∃g cap,v=.slice (some ⟨g,0,none⟩) cs.length cap) (fun v w'=>∃g cap,v=.slice (some ⟨g,0,none⟩) cs.length cap∧yO w' ⟨some ⟨g,0,none⟩,cs,cap,cont⟩∧w.heap.size≤g) qV qQ rfl (fun v w1 w2 ⟨g,cap,hv,hr,hg⟩ hb=>⟨g,cap,hv,hr.below hb,hg⟩) (uJ.new _ _ qK (fun w' hS=>?_)) ?_
 · obtain⟨g,cap,w2,hr,hc,hb⟩:=QG ⟨A,cs,cap0,cont⟩ w' (H.o.below (jM HB.o hS.1)) H0.o;exact qZc
 rintro v ⟨g,cap,rfl⟩;simp only[Act.put,jZ,jX,jY];refine AtN.done qQ (fun w' hS=>?_);obtain⟨⟨hb1,-,-⟩,g',cap',hv,hrc,hg⟩:=hS;simp only[Value.slice.injEq,Option.some.injEq,Addr.mk.injEq,and_true,true_and]at hv;obtain⟨rfl,rfl⟩:=hv;have HR:=Hd hrc;have HG:=Hd hg;have HB2:=Hd (jM HB.o hb1);obtain⟨y0,y0f⟩:=lQ hb1 (at_ Y.o 0 _ rfl);obtain⟨y1,y1f⟩:=lQ hb1 (at_ Y.o 1 _ rfl);have HB1:=Hd hb1;clear hb1 hrc hg x0 x1
 go_wp2
 have HB3:=uK (uK HB2.o (show w.heap.size≤w.heap.size+1 by omega) (o:=0) (.slice (some ⟨g,0,none⟩) cs.length cap)) (show w.heap.size≤w.heap.size+1 by omega) (o:=1) (.bool cont);have hset:=fJ (u':=.slice (some ⟨g,0,none⟩) cs.length cap) (v':=.bool cont) ⟨y0,y0f⟩ ⟨y1,y1f⟩;refine bodyPost_ret (wI rfl _ _ (w.heap.size+1) _ _ rfl hset.1.1 hset.2.1) rfl ⟨g,cap,rfl,HR.o.mod (X:=[w.heap.size+1]) (((Mod.refl _ _).setCell (a:=⟨w.heap.size+1,0,none⟩) (.inl qV) _).setCell (a:=⟨w.heap.size+1,1,none⟩) (.inl qV) _) ?_,HB3,HG.o⟩;intro b hb cs' f he;rw[jW.1 hb,HB1.o.block _ (jL Y.o),Y.o]at he;injection he with he
 injection he with _ ht
 exact absurd ht qZ
theorem gV{w:World}{base n size:Nat}{e:TypeId}{v:Value}{xs:List Value}(h:w.ownsRow base e size v n xs)(hn:0<n):∃g c,v=.slice (some ⟨g,0,none⟩) n c:=by
 rcases h.2 with⟨-,h0⟩|⟨g,cap,cur,rfl,-⟩
 · omega
 · exact⟨g,cap,rfl⟩
theorem iQ{R m first c:Nat}{A:Option Addr}{w:World}(x0:w.cell? ⟨R,0,none⟩=some (.slice A m c))(x2:w.cell? ⟨R,2,none⟩=some (.int .i64 first))(hm:m≤100000)(hf:first ≤100000)(i:Nat)(hi:i≤100000):
 Calls jG 251 #[.pointer (some ⟨R,0,none⟩),.int .i64 i] w fun e w'=>e=.returned (.int .i64 (pK m first i))∧w=w':=by
 obtain⟨s,hs⟩:∃s:Nat,s=first + i:=⟨_,rfl⟩
 have hsI:(i:Int)+(first :Int)=(s:Int):=by omega
 have hws:jE.wrap (s:Int)=(s:Int):=jF _ qJ
 by_cases hc:m≤s
 · have hv2:pK m first i=s-m:=by unfold pK;rw[if_pos qJ];omega
   rw[hv2];have hcI:(m:Int)≤(s:Int):=by omega
   have hd:(s:Int)-(m:Int)=((s-m:Nat):Int):=by omega
   have hwd:jE.wrap ((s-m:Nat):Int)=((s-m:Nat):Int):=jF _ qJ;clear hs hf hm
   go_enter Tryz.func251,Tryz.ntmps251
   go_wp2
   go_ret
   exact⟨rfl,rfl⟩
 · have hv2:pK m first i=s:=by unfold pK;rw[if_neg qJ];omega
   rw[hv2];have hcI:¬(m:Int)≤(s:Int):=by omega
   clear hs hf hm
   go_enter Tryz.func251,Tryz.ntmps251
   go_wp2
   go_ret
   exact⟨rfl,rfl⟩
section
variable {base:Nat}{w:World}{R:Nat}{vl:Value}{SL:List Rh}{room first n:Nat}{gone:Int}
theorem VT(h:RgO base w R vl SL room first n gone):Calls jG 161 #[.pointer (some ⟨R,0,none⟩)] w fun e w'=>e=.returned (.int .i64 n)∧w=w':=by
 have x3:=(at_ h.blk 3 _ rfl).1;clear h
 go_enter Tryz.func161,Tryz.ntmps161
 go_wp2
 go_ret
 exact⟨rfl,rfl⟩
end
theorem rnew_ok(room:Nat)(w:World)(hr:room≤100000):Calls jG 110 #[.int .i64 room] w fun e w'=>e=.returned (.tuple #[.pointer (some ⟨w.heap.size,0,none⟩),.int .i64 0])∧RgO w.heap.size w' w.heap.size (.slice none 0 0) [] room 0 0 0∧Below w.heap.size w w':=by
 have hrI:¬(100000:Int)<(room:Int):=by omega
 have hrI0:¬(room:Int)<0:=by omega
 go_enter Tryz.func110,Tryz.ntmps110
 go_wp2
 go_ret2
 exact⟨rfl,⟨jA rfl,kD _ _ _ _,jD _,hr,jD _,kB _,.inr ⟨rfl,rfl⟩,fun r hr=>by cases hr⟩,jH (jU _ _) _⟩
def fI(base:Nat)(w:World)(R:Nat)(vl:Value)(room:Nat)(gone':Int)(H':List Ro)(w':World):Prop:=
 ∃vl' SL' first' n',RgO base w' R vl' SL' room first' n' gone'∧(pF SL' first' n').map yW=H'∧Mod (gK R vl) w w'∧∀g,vl'.ownBlock=some g→vl.ownBlock=some g∨w.heap.size≤g
theorem RgO.reblk{base:Nat}{w w':World}{R:Nat}{vl vl':Value}{SL SL':List Rh}{room first n first' n':Nat}{gone gone':Int}(h:RgO base w R vl SL room first n gone)
 (hb:w'.heap[R]? =some (.cells #[vl',.int .i64 room,.int .i64 first',.int .i64 n',.int .u64 gone'] 225 (0,0))) (ho:w'.ownsRow base 52 2 vl' SL'.length (uY gI SL')) (hn:n'≤SL'.length) (hm:SL'.length≤room)
 (hf:first'<SL'.length∨(first'=0∧SL'.length=0)) (hr:∀r∈pF SL' first' n',yO w' r∧0<r.cs.length):RgO base w' R vl' SL' room first' n' gone':=⟨hb,ho,h.hb,h.hroom,hn,hm,hf,hr⟩
section
variable {base:Nat}{w:World}{R:Nat}{vl:Value}{SL:List Rh}{room first n:Nat}{gone:Int}
end
theorem fZ{w:World}{base g n cap:Nat}{SL:List Rh}(h:w.ownsRow base 52 2 (.slice (some ⟨g,0,none⟩) n cap) n (uY gI SL)){i:Nat}(hi:i<SL.length)(r:Rh):
 ((w.setCell ⟨g,i*2,none⟩ (.slice r.A r.cs.length r.cap)).setCell ⟨g,i*2+1,none⟩ (.bool r.cont)).ownsRow base 52 2 (.slice (some ⟨g,0,none⟩) n cap) n (uY gI (SL.set i r)):=by
 have hx:SL[i]? =some SL[i]:=jN hi;have h1:=cD h (i*2) (.slice r.A r.cs.length r.cap);have h2:=cD h1 (i*2+1) (.bool r.cont);have e1:((uY gI SL).set (i*2) (.slice r.A r.cs.length r.cap)).set (i*2+1) (.bool r.cont)=uY gI (SL.set i r):=by
  have a1:=cR zM SL i SL[i] {r with cont:=SL[i].cont} 0 (.slice r.A r.cs.length r.cap) hx qZ rfl;rw[uS]at a1;rw[a1];have a2:=cR zM (SL.set i {r with cont:=SL[i].cont}) i {r with cont:=SL[i].cont} r 1 (.bool r.cont) (by simp[List.getElem?_set_self hi]) qZ rfl;rw[a2,List.set_set]
 rw[e1]at h2;exact h2
theorem yI{w:World}{base g n cap:Nat}{SL:List Rh}(h:w.ownsRow base 52 2 (.slice (some ⟨g,0,none⟩) n cap) n (uY gI SL)){i:Nat}{r:Rh}(hr:SL[i]? =some r):
 (w.cell? ⟨g,i*2,none⟩=some (.slice r.A r.cs.length r.cap)∧w.frozen? ⟨g,i*2,none⟩=false)∧w.cell? ⟨g,i*2+1,none⟩=some (.bool r.cont)∧w.frozen? ⟨g,i*2+1,none⟩=false:=by
 have h0:=gR h (i:=i*2+0) (by rw[yQ zM SL i r 0 hr qZ];rfl);have h1:=gR h (i:=i*2+1) (by rw[yQ zM SL i r 1 hr qZ];rfl);rw[uS]at h0;exact⟨h0,h1⟩
theorem pO{X:List Nat}{w w1:World}{b o:Nat}{u v:Value}(h:Mod X w w1)(hb:b∈X∨w.heap.size≤b):Mod X w ((w1.setCell ⟨b,o,none⟩ u).setCell ⟨b,o+1,none⟩ v):=(h.setCell (a:=⟨b,o,none⟩) hb u).setCell (a:=⟨b,o+1,none⟩) hb v
section
variable {base:Nat}{w:World}{R:Nat}{vl:Value}{SL:List Rh}{room first n:Nat}{gone:Int}
theorem RgO.slots(h:RgO base w R vl SL room first n gone)(hf:first < SL.length):∃g c,vl=.slice (some ⟨g,0,none⟩) SL.length c∧g≠R∧g<w.heap.size∧R<w.heap.size:=by
 obtain⟨g,c,rfl⟩:=gV h.own qJ;exact⟨g,c,rfl,h.ne rfl,(h.own.lt g rfl).2,(kN.1 h.blk).1⟩
def qK5(base:Nat)(w:World)(R:Nat)(vl:Value)(SL:List Rh)(room first n:Nat)(gone:Int)(e:Ending)(w':World):Prop:=
 (∃r:Rh,e=.returned (.agg #[.slice r.A r.cs.length r.cap,.bool r.cont]))∧RgO base w' R vl (SL.set first bE) room (pK SL.length first 1) (n-1) ((gone+1)%18446744073709551616)∧Mod (gK R vl) w w'
set_option maxHeartbeats 3200000 in
theorem WT(h:RgO base w R vl SL room first n gone)(hn0:0<n)(hg0:0≤gone):Calls jG 324 #[.pointer (some ⟨R,0,none⟩)] w (qK5 base w R vl SL room first n gone):=by
 have hf:first < SL.length:=by
  rcases h.hf with hf|⟨-,hf⟩
  · exact hf
  · have :=h.hn;omega
 obtain⟨g,c,hv,hgR,hgl,hRl⟩:=h.slots hf;subst hv;have H:=Hd h;obtain⟨r,hr⟩:∃r,SL[first]? =some r:=⟨SL[first],jN hf⟩;have hnr:n≤100000:=by have :=h.hn;have :=h.hm;have :=h.hroom;omega
 have hmr:SL.length≤100000:=by have :=h.hm;have :=h.hroom;omega
 have hfI:(first :Int)<(SL.length:Int):=by omega
 have hw1:jE.wrap ((n:Int)-1)=((n-1:Nat):Int):=by rw[jF _ qJ];omega
 have hwn:jE.wrap ((n-1:Nat):Int)=((n-1:Nat):Int):=jF _ qJ;have hsub:(n:Int)-1=((n-1:Nat):Int):=by omega
 have hwg:IntKind.u64.wrap (gone+1)=(gone+1)%18446744073709551616:=IntKind.wrap_u64 _;obtain⟨W,hW⟩:∃W,w.alloc (.cells #[.slice none 0 0,.bool false] 52)=W:=⟨_,rfl⟩;have HB:=Hd (show Below w.heap.size w W from by rw[←hW];exact jH (jU _ _) _);have HN:=Hd (show W.heap[w.heap.size]? =some (.cells #[.slice none 0 0,.bool false] 52 (0,0))from by rw[←hW];exact jA rfl);have hO:=h.below HB.o;have HO:=Hd hO;have x0:=(at_ hO.blk 0 _ rfl).1;have x2:=(at_ hO.blk 2 _ rfl).1;obtain⟨⟨r0,-⟩,r1,-⟩:=yI hO.own hr;clear h hO
 go_enter Tryz.func324,Tryz.ntmps324
 go_upto_region 1 with fail
 clear hW;refine pV 11 (fun w'=>Below W.heap.size W w'∧w'.cell? ⟨R,0,none⟩=some (.slice (some ⟨g,0,none⟩) SL.length c)∧w'.cell? ⟨R,2,none⟩=some (.int .i64 first)∧w'.cell? ⟨g,first * 2,none⟩=some (.slice r.A r.cs.length r.cap)∧w'.cell? ⟨g,first * 2+1,none⟩=some (.bool r.cont)) qQ qQ (fun w1 w2 hS hb=>⟨jM hS.1 hb,kZ hb hS.2.1,kZ hb hS.2.2.1,kZ hb hS.2.2.2.1,kZ hb hS.2.2.2.2⟩) ⟨(jU _ _).drew,x0,x2,r0,r1⟩ ?_;refine AtN.go 0 ?_
 iterate 10 (refine AtC.take (o:=⟨_,_,_,_,_,_⟩) (v:=?_) qQ rfl qV qQ qQ ?_ ?_;rotate_left;(focus(first|exact uJ.skip qK|(refine uJ.val qK ?_;intro w' hS;obtain⟨_,_,_,_,_⟩:=hS;go_simp;first|done|with_reducible rfl)));simp only[Act.put,jZ,jX,jY])
 refine AtC.back ?_;refine AtN.one 10 (o:=⟨_,_,_,_,_,_⟩) _ _ qV qQ rfl (Ya.pers 52 #[.slice none 0 0,.bool false]) (uJ.alloc W.heap.size 52 #[.slice none 0 0,.bool false] [] qK (fun w' hS=>by go_simp) (fun w' hS=>hS.1.size) (fun _ _ _ hx=>by cases hx)) ?_;rintro v ⟨k,rfl,hk,-⟩;simp only[Act.put,jZ,jX,jY];refine AtN.done qQ (fun w' hS=>?_);have HB1:=Hd hS.1.1;have HK:=Hd hS.2.at_;clear hS x0 x2 r0 r1;have hkW:w.heap.size<k:=by have :=HN.o;have :=jL this;omega
 obtain⟨y0,y0f⟩:=at_ HK.o 0 _ rfl;obtain⟨y1,y1f⟩:=at_ HK.o 1 _ rfl
 go_upto_region 2 with fail
 have HM2:=Hd (pO (o:=0) (u:=.slice r.A r.cs.length r.cap) (v:=.bool r.cont) (Mod.of_below (X:=[]) (jM HB.o HB1.o)) (.inr (Nat.le_of_lt hkW)));have HN2:Hid (((w'.setCell ⟨k,0,none⟩ (.slice r.A r.cs.length r.cap)).setCell ⟨k,1,none⟩ (.bool r.cont)).heap[w.heap.size]? =some (.cells #[.slice none 0 0,.bool false] 52 (0,0))):=Hd (by
  rw[vR qJ,vR qJ];exact(HB1.o.block _ (jL HN.o)).trans HN.o)
 have HK2:=Hd (kA (kA (cs:=[.slice none 0 0,.bool false]) HK.o 0 (.slice r.A r.cs.length r.cap) (cs':=[.slice r.A r.cs.length r.cap,.bool false]) rfl) 1 (.bool r.cont) (cs':=[.slice r.A r.cs.length r.cap,.bool r.cont]) rfl);generalize uB _ _ _=W2 at HM2 HN2 HK2 ⊢;have HO2:=Hd (H.o.mod HM2.o (yH.nil w) (fun _ _ h=>by cases h));have x0:=(at_ HO2.o.blk 0 _ rfl).1;have x2:=(at_ HO2.o.blk 2 _ rfl).1;clear y0 y0f y1 y1f;refine kH 10 (fun w'=>Below W2.heap.size W2 w'∧w'.cell? ⟨R,0,none⟩=some (.slice (some ⟨g,0,none⟩) SL.length c)∧w'.cell? ⟨R,2,none⟩=some (.int .i64 first)) qQ qQ ?_ ?_
 · exact⟨(jU _ _).drew,x0,x2⟩
 simp only[jS,kK,jR,jO]
 repeat(
  (first
   |refine kF qK ?_
   |(refine kE ?_ qK ?_ ?_;rotate_left;(focus(intro w' hS;obtain⟨_,_,_⟩:=hS;go_simp;first|done|with_reducible rfl))))
  simp only[Act.put,jZ,jX,jY])
 refine kO (fun w' hS=>?_);have HB3:=Hd hS.1;have hO3:=HO2.o.below hS.1;obtain⟨⟨q0,q0f⟩,q1,q1f⟩:=yI hO3.own hr;have HK3:=Hd ((hS.1.block _ (jL HK2.o)).trans HK2.o);have HN3:=Hd ((hS.1.block _ (jL HN2.o)).trans HN2.o);have HO3:=Hd hO3;clear hS x0 x2 hO3
 go_upto_region 3 with fail
 have HOW:=Hd (fZ HO3.o.own hf bE);have HM4:=Hd (pO (X:=gK R (.slice (some ⟨g,0,none⟩) SL.length c)) (b:=g) (o:=first * 2) (u:=.slice none 0 0) (v:=.bool false) ((HM2.o.mono (fun _ h=>by cases h)).then_below HB3.o) (.inl (by simp[gK,Value.ownBlock])));have HKg:k≠g:=by have :=HB1.o.size;have :=HB.o.size;omega
 have HBLK:Hid (((w'.setCell ⟨g,first * 2,none⟩ (.slice none 0 0)).setCell ⟨g,first * 2+1,none⟩ (.bool false)).heap[R]? =some (.cells [.slice (some ⟨g,0,none⟩) SL.length c,.int .i64 room,.int .i64 first,.int .i64 n,.int .u64 gone].toArray 225 (0,0))):=Hd ((vR (Ne.symm hgR)).trans ((vR (Ne.symm hgR)).trans HO3.o.blk));have HK4:=Hd ((vR (i:=first * 2+1) (v:=.bool false) HKg).trans ((vR (i:=first * 2) (v:=.slice none 0 0) HKg).trans HK3.o));have hNg:w.heap.size≠g:=by omega
 have HN4:=Hd ((vR (i:=first * 2+1) (v:=.bool false) hNg).trans ((vR (i:=first * 2) (v:=.slice none 0 0) hNg).trans HN3.o));clear q0 q0f q1 q1f;change Hid ((((w'.setCell ⟨g,first * 2,none⟩ (.slice none 0 0)).setCell ⟨g,first * 2+1,none⟩ (.bool false))).ownsRow _ _ _ _ _ _)at HOW;generalize uB _ _ _=W4 at HOW HM4 HBLK HK4 HN4 ⊢;have HSL:=Hd (iQ (vY HBLK.o 0 _ rfl) (vY HBLK.o 2 _ rfl) hmr qJ 1 qJ);obtain⟨z2,z2f⟩:=uL HBLK.o 2 _ rfl;obtain⟨z3,z3f⟩:=uL HBLK.o 3 _ rfl;obtain⟨z4,z4f⟩:=uL HBLK.o 4 _ rfl
 go_upto_region 6 with(go_at_call 251;refine HSL.o.mono ?_;rintro e w1 ⟨rfl,rfl⟩)
 have c2:=kA HBLK.o 2 (.int .i64 (pK SL.length first 1)) rfl;have c3:=kA c2 3 (.int .i64 ((n-1:Nat):Int)) rfl;have C4:=Hd (kA c3 4 (.int .u64 ((gone+1)%18446744073709551616)) rfl);have hkR:k≠R:=by have :=HB1.o.size;have :=HB.o.size;omega
 have hNR:w.heap.size≠R:=by omega
 have HK5:=Hd ((vR (i:=4) (v:=.int .u64 ((gone+1)%18446744073709551616)) hkR).trans ((vR (i:=3) (v:=.int .i64 ((n-1:Nat):Int)) hkR).trans ((vR (i:=2) (v:=.int .i64 (pK SL.length first 1)) hkR).trans HK4.o)));have HN5:=Hd ((vR (i:=4) (v:=.int .u64 ((gone+1)%18446744073709551616)) hNR).trans ((vR (i:=3) (v:=.int .i64 ((n-1:Nat):Int)) hNR).trans ((vR (i:=2) (v:=.int .i64 (pK SL.length first 1)) hNR).trans HN4.o)));have HM5:=Hd ((((Mod.refl [R] W4).setCell (a:=⟨R,2,none⟩) (.inl qV) (.int .i64 (pK SL.length first 1))).setCell (a:=⟨R,3,none⟩) (.inl qV) (.int .i64 ((n-1:Nat):Int))).setCell (a:=⟨R,4,none⟩) (.inl qV) (.int .u64 ((gone+1)%18446744073709551616)));clear c2 c3 z2 z2f z3 z3f z4 z4f;generalize uB _ _ _=W5 at C4 HK5 HN5 HM5 ⊢;obtain⟨a0,-⟩:=at_ HK5.o 0 _ rfl;obtain⟨a1,-⟩:=at_ HK5.o 1 _ rfl;obtain⟨b0,b0f⟩:=at_ HN5.o 0 _ rfl;obtain⟨b1,b1f⟩:=at_ HN5.o 1 _ rfl;have HM6:=Hd (pO (b:=w.heap.size) (o:=0) (u:=.slice r.A r.cs.length r.cap) (v:=.bool r.cont) (HM4.o.trans HM5.o (fun x hx=>.inl (by rw[jW.1 hx];simp[gK]))) (.inr (jD _)))
 have HM7:=Hd (pO (b:=w.heap.size) (o:=0) (u:=.slice r.A r.cs.length r.cap) (v:=.bool r.cont) (HM5.o.mono (Y:=[R,w.heap.size]) (fun x hx=>by rw[jW.1 hx];simp)) (.inl qV));have HBLK7:=Hd ((vR (i:=1) (v:=.bool r.cont) (Ne.symm hNR)).trans ((vR (i:=0) (v:=.slice r.A r.cs.length r.cap) (Ne.symm hNR)).trans C4.o))
 go_wp2
 have hset:=fJ (u':=.slice r.A r.cs.length r.cap) (v':=.bool r.cont) ⟨b0,b0f⟩ ⟨b1,b1f⟩;refine bodyPost_ret (wI rfl _ _ w.heap.size _ _ rfl hset.1.1 hset.2.1) rfl ⟨⟨r,rfl⟩,H.o.reblk HBLK7.o ?_ ?_ ?_ ?_ ?_,HM6.o⟩
 · have :=kC HOW.o HM7.o (fun x hx=>by simp[Value.ownBlock]at hx;subst hx;simp;omega)
   rwa[kI]
 · rw[kI];have :=H.o.hn;omega
 · rw[kI];exact H.o.hm
 · rw[kI];exact .inl (by unfold pK;split<;>omega)
 · intro x hx;rw[aD hf H.o.hn hn0]at hx;have hx2:=H.o.rows x (List.mem_of_mem_drop hx);exact⟨hx2.1.mod HM6.o H.o.nocel,hx2.2⟩
end
theorem Xs{α:Type}{enc:α→List Value}{K:Nat}(hl:∀x,(enc x).length=K)(hK:0<K)(z:α)(n:Nat):(madeCells (enc z).toArray (n*K)).toList=uY enc (kW n z):=by
 refine gU fun m=>?_
 by_cases hm:m<n*K
 · have hd:m/K<n:=(Nat.div_lt_iff_lt_mul hK).2 hm;have h1:(kW n z)[m/K]? =some z:=by rw[List.getElem?_replicate];rw[if_pos hd]
   have h2:=yQ hl (kW n z) (m/K) z (m%K) h1 (Nat.mod_lt _ hK);rw[show m/K*K+m%K=m by rw[Nat.mul_comm];exact Nat.div_add_mod m K]at h2;rw[h2];have hj:m%K<(enc z).length:=by rw[hl];exact Nat.mod_lt _ hK
   unfold madeCells;simp only[Array.toList_map,Array.toList_range,uV,List.getElem?_range hm,Option.map_some];rw[jN hj]
   congr 1
   have hs:(enc z).toArray.size=K:=by rw[List.size_toArray,hl]
   rw[hs,getElem!_pos _ _ (by rw[hs];exact Nat.mod_lt _ hK)];simp
 · rw[uZ qV0,uZ (by rw[pW hl,uX];omega)]
theorem nG:(jG.info? 52).map (fun i=>(i.zero,i.size,i.bytes))=some (some (.agg #[.slice none 0 0,.bool false]),2,32):=by kernel_rfl
theorem qQk{α:Type}{H:List α}{z:α}{m i:Nat}(hi:i<H.length)(hm:i<m):(H.take i++kW (m-i) z).set i H[i]=H.take (i+1)++kW (m-(i+1)) z:=by
 rw[List.set_append_right _ _ qR,kS,show i-min i H.length=0 by omega,show m-i=(m-(i+1))+1 by omega,List.replicate_succ,jX,kY hi,kG];rfl
section
variable {base:Nat}{w:World}{R:Nat}{vl:Value}{SL:List Rh}{room first n:Nat}{gone:Int}
def qK2(base:Nat)(w:World)(R:Nat)(H:List Rh)(room n:Nat)(gone:Int)(e:Ending)(w':World):Prop:=
 e=.returned (.tuple #[])∧∃vl' m,n<m∧RgO base w' R vl' (H++kW (m-n) bE) room 0 n gone∧Mod [R] w w'∧∀g,vl'.ownBlock=some g→w.heap.size≤g
set_option maxHeartbeats 3200000 in
theorem WR(h:RgO base w R vl SL room first n gone)(hfull:n=SL.length)(hlt:SL.length<room)(hbw:base≤w.heap.size):Calls jG 325 #[.pointer (some ⟨R,0,none⟩)] w (qK2 base w R (pF SL first n) room n gone):=by
 obtain⟨j0,hj,gz0,gz1,gz2⟩:=info_parts nG;obtain⟨A,c,hv⟩:=uI h.own;have hroom:=h.hroom;obtain⟨q,hq⟩:∃q:Nat,q=2*SL.length:=⟨_,rfl⟩;have hqI:(2:Int)*(SL.length:Int)=(q:Int):=by omega
 have hwq:jE.wrap (q:Int)=(q:Int):=jF _ qJ;obtain⟨s1,hs1⟩:∃s1:Nat,(if(4:Int)<(q:Int)then(q:Int)else 4)=(s1:Int):=⟨max 4 q,by omega⟩;obtain⟨m,hm⟩:∃m:Nat,(if s1<room then(s1:Int)else(room:Int))=(m:Int):=⟨min s1 room,by omega⟩;have hmn:n<m:=by omega
 have hmr:m≤room:=by omega
 have hmr2:m≤100000:=by omega
 have H:=Hd h;have x0:=(at_ h.blk 0 _ rfl).1;have x1:=(at_ h.blk 1 _ rfl).1;rw[hv]at x0;have HV:=Hd hv;have HQ:=Hd (kX hmn (kX hmr (kX hfull hlt)));clear hq h hv hfull
 go_enter Tryz.func325,Tryz.ntmps325
 go_upto_region 0 with fail
 refine kH 12 (fun w'=>Below w.heap.size w w'∧w'.cell? ⟨R,0,none⟩=some (.slice A SL.length c)∧w'.cell? ⟨R,1,none⟩=some (.int .i64 room)) qQ qQ ?_ ?_
 · exact⟨(jU _ _).drew,x0,x1⟩
 simp only[jS,kK,jR,jO]
 repeat(
  (first
   |refine kF qK ?_
   |(refine kE ?_ qK ?_ ?_;rotate_left;(focus(intro w' hS;obtain⟨_,_,_⟩:=hS;go_simp;first|done|with_reducible rfl))))
  simp only[Act.put,jZ,jX,jY])
 refine kO (fun w' hS=>?_);have HB1:=Hd hS.1;clear hS x0 x1;clear hs1 hqI hwq;have hb1:=HB1.o.size
 go_wp2_with(refine wpList_make_full _ rfl (.tmp 17) (.tmp 17) _ rfl w.heap.size 52 j0 _ 2 Tryz.underlying46 hj gz0 gz1 .i64 .i64 _ _ m rfl rfl ?_ ?_ ?_ ?_ ?_ ?_)
 all_goals first
  |rfl
  |omega
  |(simp only[maxLen];omega)
  |(rw[gz2];omega)
  |(simp;done)
  |skip
 intro w1 hown hg;have HG:=Hd hg;have e:=Xs zM qZ bE m;have HO0:Hid (w1.ownsRow w.heap.size 52 2 (.slice (some ⟨w'.heap.size,0,none⟩) m m) m (uY gI (kW m bE))):=Hd (by rw[←e];exact hown);clear hown hg e;have HB2:=Hd (show Below w.heap.size w w1 from HB1.o.grown HG.o hb1 (fun k hk=>by cases hk));have hO1:=H.o.below HB2.o;have x3:=(at_ hO1.blk 3 _ rfl).1;clear HG hO1;have hg1:w.heap.size≤w'.heap.size:=hb1;have hg2:=(HO0.o.lt w'.heap.size rfl).2;generalize w'.heap.size=g1 at HO0 hg1 hg2 ⊢;clear hm HB1 hb1;have HH:=Hd (yM SL first n);have hnN:n≤100000:=by omega
 go_wp2_with fail
 go_loopw [23] (fun s23 wr=>∃i:Nat,s23=.int .i64 i∧i≤n∧wr.ownsRow w.heap.size 52 2 (.slice (some ⟨g1,0,none⟩) m m) m (uY gI ((pF SL first n).take i++kW (m-i) bE))∧Mod [g1] w1 wr) (fun s23 _=>n-(intOf s23).toNat)
 case atStart=>exact⟨0,rfl,kB _,by simpa using HO0.o,Mod.refl _ _⟩
 case round=>
  obtain⟨i,rfl,hi,hO,hM⟩:=hrel;have HOi:=Hd hO;have HMi:=Hd hM;have HMw:=Hd ((Mod.of_below (X:=[g1]) HB2.o).trans hM (fun x hx=>.inl hx));have hNC:yH w1 [g1]:=fun b hb cs f he=>by
   rw[jW.1 hb]at he;obtain⟨cur,hc⟩:=uD HO0.o (g:=g1) rfl;rw[hc]at he;injection he with he
   injection he with _ ht
   exact absurd ht qZ
  have HRi:=Hd ((H.o.below HB2.o).mod hM hNC (fun x hx hX=>by rw[jW.1 hX]at hx;have :=H.o.lt g1 hx;omega));clear hO hM hNC
  by_cases hlt2:i<n
  rotate_left
  · obtain rfl:i=n:=by omega
    obtain⟨y0,y0f⟩:=at_ HRi.o.blk 0 _ rfl;obtain⟨y2,y2f⟩:=at_ HRi.o.blk 2 _ rfl;have HK:=Hd (kA (kA (cs:=[vl,.int .i64 room,.int .i64 first,.int .i64 i,.int .u64 gone]) HRi.o.blk 0 (.slice (some ⟨g1,0,none⟩) m m) (cs':=[.slice (some ⟨g1,0,none⟩) m m,.int .i64 room,.int .i64 first,.int .i64 i,.int .u64 gone]) rfl) 2 (.int .i64 0) (cs':=[.slice (some ⟨g1,0,none⟩) m m,.int .i64 room,.int .i64 0,.int .i64 i,.int .u64 gone]) rfl);have hRl:=(H.o.lt R qI).2;have HMf:=Hd (((HMw.o.mono (Y:=[R,g1]) (fun x hx=>by rw[jW.1 hx];simp)).setCell (a:=⟨R,0,none⟩) (.inl qV) (.slice (some ⟨g1,0,none⟩) m m)).setCell (a:=⟨R,2,none⟩) (.inl qV) (.int .i64 0))
    go_wp2
    go_end0
    have hl:(pF SL first i++kW (m-i) bE).length=m:=by rw[jC,HH.o,uX];omega
    have hMR:Mod [R] w ((wr.setCell ⟨R,0,none⟩ (.slice (some ⟨g1,0,none⟩) m m)).setCell ⟨R,2,none⟩ (.int .i64 0)):=(Mod.trans (X:=[R]) (Y:=[R,g1]) (Mod.refl [R] w) HMf.o (fun x hx=>by
     rcases kJ.1 hx with rfl|hx
     · exact .inl qV
     · rw[jW.1 hx];exact .inr hg1))
    refine⟨rfl,.slice (some ⟨g1,0,none⟩) m m,m,HQ.o.1,⟨HK.o,?_,H.o.hb,H.o.hroom,by rw[hl];omega,by rw[hl];exact hmr,.inl (by rw[hl];omega),?_⟩,hMR,fun g hg=>by simp[Value.ownBlock]at hg;omega⟩
    · rw[hl];have h1:=HOi.o;rw[show(pF SL first i).take i=pF SL first i from vV (by rw[HH.o];exact jD _)]at h1;have h2:=kC h1 ((Mod.refl [R] wr).setCell (a:=⟨R,0,none⟩) (.inl qV) (.slice (some ⟨g1,0,none⟩) m m) |>.setCell (a:=⟨R,2,none⟩) (.inl qV) (.int .i64 0)) (fun x hx=>by simp[Value.ownBlock]at hx;simp;omega);exact pS h2 hbw
    · intro x hx;have e:pF (pF SL first i++kW (m-i) bE) 0 i=pF SL first i:=by
       have :=wZ (H:=pF SL first i) (Z:=kW (m-i) bE)
       rwa[HH.o]at this
      rw[e]at hx;have :=H.o.rows x hx;exact⟨this.1.mod hMR (fun b hb cs f he=>by
       rw[jW.1 hb,H.o.blk]at he;injection he with he
       injection he with _ ht
       exact absurd ht qZ),this.2⟩
  · have hf:first < SL.length:=by
     rcases H.o.hf with hf|⟨-,hf⟩
     · exact hf
     · have :=H.o.hn;omega
    obtain⟨k,hk⟩:∃k,pK SL.length first i=k:=⟨_,rfl⟩
    have hkl:k<SL.length:=by rw[←hk];exact bP hf (by have :=H.o.hn;omega)
    obtain⟨r,hr⟩:∃r,SL[k]? =some r:=⟨SL[k],jN hkl⟩;have hHi:(pF SL first n)[i]? =some r:=by rw[eD hf H.o.hn hlt2,hk,hr]
    obtain⟨gs,cs,hvs⟩:=gV H.o.own qJ;have hownS:=HRi.o.own;have x0:=(at_ HRi.o.blk 0 _ rfl).1;rw[hvs]at hownS x0;obtain⟨⟨r0,-⟩,r1,-⟩:=yI hownS hr;have x2:wr.cell? ⟨R,2,none⟩=some (.int .i64 first):=(at_ HRi.o.blk 2 _ rfl).1;have hfr:first ≤100000:=by have :=HQ.o;omega
    have hkI:(k:Int)<(SL.length:Int):=by omega
    have hiI:(i:Int)<(n:Int):=by omega
    have him:i<m:=by omega
    have himI:(i:Int)<(m:Int):=by omega
    have HHI:=Hd hHi;clear hHi hr hownS hvs hf
    go_upto_region 5 with fail
    refine kH 12 (fun w2=>Below wr.heap.size wr w2∧w2.cell? ⟨R,0,none⟩=some (.slice (some ⟨gs,0,none⟩) SL.length cs)∧w2.cell? ⟨gs,k*2,none⟩=some (.slice r.A r.cs.length r.cap)∧w2.cell? ⟨gs,k*2+1,none⟩=some (.bool r.cont)) qQ qQ ?_ ?_
    · exact⟨(jU _ _).drew,x0,r0,r1⟩
    simp only[jS,kK,jR,jO]
    repeat(
     (first
      |refine kF qK ?_
      |(refine uT 251 #[.pointer (some ⟨R,0,none⟩),.int .i64 i] (.int .i64 k) qK ?_ (fun w2 hS=>(iQ hS.2.1 ((Mod.of_below (X:=[]) hS.1).cell qV x2) qJ qJ i qJ).mono (fun e w3 h=>⟨by rw[←hk];exact h.1,h.2▸hS⟩)) ?_;(focus(intro w2;go_simp;done)))
      |(refine kE ?_ qK ?_ ?_;rotate_left;(focus(intro w' hS;obtain⟨_,_,_,_⟩:=hS;go_simp;first|done|with_reducible rfl))))
     simp only[Act.put,jZ,jX,jY])
    refine kO (fun w' hS=>?_);have HB5:=Hd hS.1;have hO5:=kC HOi.o (Mod.of_below (X:=[]) hS.1) (fun _ _ h=>by cases h);have hil:i<((pF SL first n).take i++kW (m-i) bE).length:=by rw[jC,kS,uX];have :=HH.o;omega
    obtain⟨zr,hzr⟩:∃zr,((pF SL first n).take i++kW (m-i) bE)[i]? =some zr:=⟨_,jN hil⟩;obtain⟨⟨q0,q0f⟩,q1,q1f⟩:=yI hO5 hzr;have HO5:=Hd hO5;clear hS x0 r0 r1 hO5 x2
    go_wp2
    have hset:=fZ HO5.o hil r;have hHe:r=(pF SL first n)[i]'(by rw[HH.o];exact hlt2):=by have :=(jP.1 HHI.o).2;exact this.symm
    rw[hHe,qQk (by rw[HH.o];exact hlt2) him,←hHe]at hset;have HSET:=Hd hset;have HM6:=Hd (pO (b:=g1) (o:=i*2) (u:=.slice r.A r.cs.length r.cap) (v:=.bool r.cont) (HMi.o.then_below HB5.o) (.inl qV));clear hset hHe
    go_roundw
    case rel=>exact⟨i+1,by go_num,by omega,HSET.o,HM6.o⟩
    case measure=>simp[intOf];omega
end
end Go.Proofs.YtaefcahblmopfaaGreatDoor
