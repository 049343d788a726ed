/- Joined by a tool of this claim out of smaller texts. Conditions: as stated. -/
import Derived.Test.YtaefcahblmopfaaGreatDoorDj05
import Derived.Laws.OwnMore
set_option linter.unusedVariables false
set_option linter.unusedSimpArgs false
set_option maxRecDepth 100000
open Go.Lib renaming hid → Hd
open List renaming setIfInBounds_toArray → jZ, set_cons_zero → jX, set_cons_succ → jY, mem_singleton → jM, getElem?_eq_getElem → jN, mem_cons → kJ, getD_eq_getElem?_getD → kX, mem_append → kU, getElem?_append_right → kI, length_set → uV, getElem?_eq_none → uZ, getElem?_map → uX, getElem?_append_left → uD, ext_getElem? → gM, getElem?_drop → gN
open Go.Proofs.Tryz renaming prog → jG
open Go.RowKit.Below renaming refl → jU
open Nat renaming le_refl → jD, le_trans → jI, zero_le → kM, zero_add → kP
open Go.IntWalk renaming i64_in → jF
open Option renaming mem_toList → jA
open Go.IntKind renaming i64 → jE
open Array renaming getElem?_eq_some_iff → kB
open Go.World renaming ownsRow_nil → kS, setCell → uN
namespace Go.Proofs.YtaefcahblmopfaaGreatDoor
open Go.RowKit
structure Rh where
 A:Option Addr
 cs:List Cl
 cap:Nat
 cont:Bool
def yG(r:Rh):List Value:=[.slice r.A r.cs.length r.cap,.bool r.cont]
def zU(r:Rh):Ro:=⟨r.cs,r.cont⟩
def cK:Rh:=⟨none,[],0,false⟩
theorem bH:∀r,(yG r).length=2:=fun _=>rfl
theorem iD:∀r,∀v∈yG r,v.oneCell'=true:=fun r v hv=>by
 simp only[yG,kJ,List.not_mem_nil,or_false]at hv;rcases hv with rfl|rfl<;>rfl
def zZ(w:World)(r:Rh):Prop:=
 r.cs.length≤10000∧yL r.cs∧pT kV 8 w r.A r.cs∧(0<r.cs.length→∃b off cs f,r.A=some ⟨b,off,none⟩∧w.heap[b]? =some (.cells cs 65 f))
def yI(w:World)(X:List Nat):Prop:=∀b∈X,∀cs f,w.heap[b]? ≠some (.cells cs 65 f)
theorem zZ.mod{X:List Nat}{w w':World}{r:Rh}(h:zZ w r)(hm:Mod X w w')(hX:yI w X):zZ w' r:=by
 obtain⟨h1,h2,h3,h4⟩:=h
 by_cases h0:0<r.cs.length
 · obtain⟨b,off,cs,f,hA,hb⟩:=h4 h0;have hbX:b∉X:=fun hx=>hX b hx cs f hb;refine⟨h1,h2,?_,fun _=>⟨b,off,cs,f,hA,(hm.block b (kB.1 hb).1 hbX).trans hb⟩⟩;rw[hA]at h3 ⊢;exact tR h3 hm hbX
 · exact⟨h1,h2,fun h=>absurd h h0,fun h=>absurd h h0⟩
theorem yI.nil(w:World):yI w []:=fun _ h=>by cases h
theorem zZ.below{w w':World}{r:Rh}(h:zZ w r)(hb:Below w.heap.size w w'):zZ w' r:=h.mod (Mod.of_below (X:=[]) hb) (yI.nil w)
theorem zZ.of_own{w:World}{base g cap:Nat}{l:List Cl}(h:CrO w base g cap l)(hz:l.length≤10000)(hf:yL l)(cont:Bool):zZ w ⟨some ⟨g,0,none⟩,l,cap,cont⟩:=by
 refine⟨hz,hf,fun h0=>⟨g,0,rfl,fun i x hx j v hv=>by rw[kP];exact h.range hx j v hv⟩,fun h0=>?_⟩;rcases h.2 with⟨e,-⟩|⟨g',c',cur,e,_,e3,_⟩
 · cases e
 · simp only[Value.slice.injEq,Option.some.injEq,Addr.mk.injEq,and_true,true_and]at e;obtain⟨rfl,-⟩:=e;exact⟨g,0,cur,(0,0),rfl,e3⟩
theorem zZ.cont{w:World}{r:Rh}(h:zZ w r)(b:Bool):zZ w {r with cont:=b}:=h
def pZ(m first i:Nat):Nat:=if m≤first + i then first + i-m else first + i
def pS(SL:List Rh)(first n:Nat):List Rh:=(List.range n).map (fun i=>SL.getD (pZ SL.length first i) cK)
theorem yC(SL:List Rh)(first n:Nat):(pS SL first n).length=n:=by simp[pS]
theorem bF{m first i:Nat}(hf:first < m)(hi:i<m):pZ m first i<m:=by unfold pZ;split<;>omega
theorem Xh{m first i j:Nat}(hf:first < m)(hi:i<m)(hj:j<m)(h:pZ m first i=pZ m first j):i=j:=by
 unfold pZ at h
 split at h<;>split at h<;>omega
theorem eA{SL:List Rh}{first n i:Nat}(hf:first < SL.length)(hn:n≤SL.length)(hi:i<n):(pS SL first n)[i]? =SL[pZ SL.length first i]? :=by
 have hs:=bF hf (show i<SL.length by omega);unfold pS;rw[uX,List.getElem?_range hi];simp[kX,jN hs]
theorem lZ{SL:List Rh}{first n:Nat}(hf:first < SL.length)(hn:n<SL.length)(r:Rh):pS (SL.set (pZ SL.length first n) r) first (n+1)=pS SL first n++[r]:=by
 have hs:=bF hf hn;refine gM fun i=>?_;rcases Nat.lt_or_ge i (n+1)with hi|hi
 · rw[eA (by simpa using hf) qY hi,uV];rcases Nat.lt_or_ge i n with h|h
   · rw[uD (by rw[yC];exact h),eA hf qJ h,List.getElem?_set_ne (fun e=>by have :=Xh hf qJ qJ e;omega)]
   · have :i=n:=by omega
     subst this;rw[kI (by rw[yC];exact jD _),yC,List.getElem?_set_self hs];simp
 · rw[uZ (by rw[yC];exact hi),uZ (by simp[yC];omega)]
theorem QM{SL:List Rh}{first n:Nat}(hf:first < SL.length)(hn:n≤SL.length)(h0:0<n)(r:Rh):pS (SL.set first r) (pZ SL.length first 1) (n-1)=(pS SL first n).drop 1:=by
 refine gM fun i=>?_;rw[gN];rcases Nat.lt_or_ge i (n-1)with hi|hi
 · have h1:1<SL.length:=by omega
   have hs:=bF hf h1;rw[eA (by simpa using hs) qY hi,eA hf hn qJ,uV];have e:pZ SL.length (pZ SL.length first 1) i=pZ SL.length first (1+i):=by
    unfold pZ
    repeat' split
    all_goals omega
   rw[e,List.getElem?_set_ne];unfold pZ
   split<;>omega
 · rw[uZ (by rw[yC];exact hi),uZ (by rw[yC];omega)]
theorem wC{H Z:List Rh}:pS (H++Z) 0 H.length=H:=by
 refine gM fun i=>?_;rcases Nat.lt_or_ge i H.length with hi|hi
 · rw[eA qY qV hi];have e:pZ (H++Z).length 0 i=i:=by unfold pZ;rw[if_neg qY];omega
   rw[e,uD hi]
 · rw[uZ (by rw[yC];exact hi),uZ hi]
structure RgO(base:Nat)(w:World)(R:Nat)(vl:Value)(SL:List Rh)(room first n:Nat)(gone:Int):Prop where
 blk:w.heap[R]? =some (.cells #[vl,.int .i64 room,.int .i64 first,.int .i64 n,.int .u64 gone] 225 (0,0))
 own:w.ownsRow base 52 2 vl SL.length (uM yG SL)
 hb:base≤R
 hroom:room≤100000
 hn:n≤SL.length
 hm:SL.length≤room
 hf:first < SL.length∨(first =0∧SL.length=0)
 rows:∀r∈pS SL first n,zZ w r∧0<r.cs.length
def gK(R:Nat)(vl:Value):List Nat:=R::vl.ownBlock.toList
theorem uR{w:World}{base n size:Nat}{e:TypeId}{v:Value}{xs:List Value}(h:w.ownsRow base e size v n xs){g:Nat}(hg:v.ownBlock=some g):∃cur:Array Value,w.heap[g]? =some (.cells cur e (0,0)):=by
 rcases h.2 with⟨rfl,-⟩|⟨g',c',cur,rfl,_,e3,_⟩
 · simp[Value.ownBlock]at hg
 · simp[Value.ownBlock]at hg;subst hg;exact⟨cur,e3⟩
theorem RgO.nocel{base:Nat}{w:World}{R:Nat}{vl:Value}{SL:List Rh}{room first n:Nat}{gone:Int}(h:RgO base w R vl SL room first n gone):yI w (gK R vl):=by
 intro b hb cs f he;rcases kJ.1 hb with rfl|hb
 · rw[h.blk]at he;injection he with he
   injection he with _ ht
   exact absurd ht qZ
 · obtain⟨cur,hc⟩:=uR h.own qZ1;rw[hc]at he;injection he with he
   injection he with _ ht
   exact absurd ht qZ
theorem RgO.mod{X:List Nat}{base:Nat}{w w':World}{R:Nat}{vl:Value}{SL:List Rh}{room first n:Nat}{gone:Int}(h:RgO base w R vl SL room first n gone)(hm:Mod X w w')(hX:yI w X)(hR:∀g∈gK R vl,g∉X):RgO base w' R vl SL room first n gone:=
 ⟨(hm.block R (kB.1 h.blk).1 (hR R qO)).trans h.blk,kD h.own hm (fun g hg=>hR g (by simp[gK,hg])),h.hb,h.hroom,h.hn,h.hm,h.hf,fun r hr=>⟨(h.rows r hr).1.mod hm hX,(h.rows r hr).2⟩⟩
theorem RgO.below{base:Nat}{w w':World}{R:Nat}{vl:Value}{SL:List Rh}{room first n:Nat}{gone:Int}(h:RgO base w R vl SL room first n gone)(hb:Below w.heap.size w w'):RgO base w' R vl SL room first n gone:=
 h.mod (Mod.of_below (X:=[]) hb) (yI.nil w) (fun _ _ h=>by cases h)
theorem RgO.lt{base:Nat}{w:World}{R:Nat}{vl:Value}{SL:List Rh}{room first n:Nat}{gone:Int}(h:RgO base w R vl SL room first n gone):∀g∈gK R vl,base≤g∧g<w.heap.size:=fun g hg=>by
 rcases kJ.1 hg with rfl|hg
 · exact⟨h.hb,(kB.1 h.blk).1⟩
 · exact h.own.lt g (by simpa[jA]using hg)
theorem RgO.ne{base:Nat}{w:World}{R:Nat}{vl:Value}{SL:List Rh}{room first n:Nat}{gone:Int}(h:RgO base w R vl SL room first n gone){g:Nat}(hg:vl.ownBlock=some g):g≠R:=by
 rintro rfl;obtain⟨cur,hc⟩:=uR h.own hg;rw[h.blk]at hc;injection hc with hc
 injection hc with _ ht
 exact absurd ht qZ
theorem Qk(r:Rh)(w:World)(h:zZ w r)(h0:0<r.cs.length):
 ∃g cap w',(Builtin.append_ #[50,50] 50 #[.slice none 0 0,.slice r.A r.cs.length r.cap]).run jG w=.ok (.slice (some ⟨g,0,none⟩) r.cs.length cap) w'∧CrO w' w.heap.size g cap r.cs∧Below w.heap.size w w':=by
 obtain⟨j0,hj,gz0,gz1,gz2⟩:=info_parts lK;obtain⟨hz,hf,hg,hA⟩:=h;obtain⟨b,off,cs,f,hA,-⟩:=hA h0;rw[hA]at hg ⊢;obtain⟨v',w',hr,ho,hgr,-⟩:=run_append_own_at (P:=jG) w w.heap.size 50 50 65 j0 _ 8 72 Tryz.underlying50 hj gz0 gz1 gz2 rfl qZ _ 0 [] (kS _ _ _ _) ⟨b,off,none⟩ r.cs.length r.cap (uM kV r.cs) (pM vQ r.cs) (hg.news vQ) (sD yZ _) jQ qJ (jD _);rw[kP,List.nil_append]at ho;obtain⟨g,cap,hv⟩:=Go.Joins.ownsRow_form ho h0;subst hv;exact⟨g,cap,w',hr,ho,(jU _ _).grown hgr (jD _) (fun k hk=>by cases hk)⟩
def WK(r:Rh)(w:World)(e:Ending)(w':World):Prop:=∃g cap,e=.returned (.agg #[.slice (some ⟨g,0,none⟩) r.cs.length cap,.bool r.cont])∧zZ w' ⟨some ⟨g,0,none⟩,r.cs,cap,r.cont⟩∧Below w.heap.size w w'∧w.heap.size≤g
theorem sN:(jG.info? 52).map (·.size)=some 2:=by kernel_rfl
theorem xW{fn:Func}{p:Tmp}(hr:fn.results=#[.cell p 52])(tmps:Array Value)(w:World)(b:Nat)(u v:Value)(hp:tmps.getD p undef=.pointer (some ⟨b,0,none⟩))(h0:w.cell? ⟨b,0,none⟩=some u)(h1:w.cell? ⟨b,1,none⟩=some v):
 (results fn tmps).run jG w=.ok (.agg #[u,v]) w:=by
 rw[fL hr,hp];have :=run_loadVar_mid (P:=jG) w b 0 52 [u,v] _ (fun j x hj=>by
  rw[kP]
  match j,hj with
  |0,hj=>simp at hj;subst hj;exact h0
  |1,hj=>simp at hj;subst hj;exact h1) Tryz.underlying52 rfl sN
 simp only[asAddr,Sem.run_pure,Result.andThen_ok,this]
set_option maxHeartbeats 3200000 in
theorem Vf(r:Rh)(w:World)(h:zZ w r)(h0:0<r.cs.length):Calls jG 250 #[.agg #[.slice r.A r.cs.length r.cap,.bool r.cont]] w (WK r w):=by
 have H:=Hd h;have H0:=Hd h0;clear h h0;obtain⟨A,cs,cap0,cont⟩:=r;simp only at H H0
 go_enter Tryz.func250,Tryz.ntmps250
 go_upto_region 1 with fail
 have HB:=Hd (jH (jH (jU w.heap.size w) (.cells #[.slice A cs.length cap0,.bool cont] 52)) (.cells #[.slice none 0 0,.bool false] 52));have x:=vJ (o:=.cells #[.slice none 0 0,.bool false] 52) (jT (W:=w) (b:=w.heap.size) (o:=.cells #[.slice A cs.length cap0,.bool cont] 52) rfl);have y:=jT (W:=w.alloc (.cells #[.slice A cs.length cap0,.bool cont] 52)) (b:=w.heap.size+1) (o:=.cells #[.slice none 0 0,.bool false] 52) qV;generalize World.alloc _ _=W at HB x y ⊢;have x0:=(at_ x 0 _ rfl).1;have x1:=(at_ x 1 _ rfl).1;have Y:=Hd y;clear x y;refine gI 5 (fun w'=>Below W.heap.size W w'∧w'.cell? ⟨w.heap.size,0,none⟩=some (.slice A cs.length cap0)∧w'.cell? ⟨w.heap.size,1,none⟩=some (.bool cont)) qQ qQ (fun w1 w2 hS hb=>⟨jW hS.1 hb,kZ hb hS.2.1,kZ hb hS.2.2⟩) ⟨(jU _ _).drew,x0,x1⟩ ?_;refine AtN.go 0 ?_
 iterate 2 (refine AtC.take (o:=⟨_,_,_,_,_,_⟩) (v:=?_) qQ rfl qV qQ qQ ?_ ?_;rotate_left;(focus(first|exact uQ.skip qK|(refine uQ.val qK ?_;intro w' hS;obtain⟨_,_,_⟩:=hS;go_simp;first|done|with_reducible rfl)));simp only[Act.put,jZ,jX,jY])
 refine AtC.back ?_;refine AtN.go 3 ?_
 iterate 2 (refine AtC.take (o:=⟨_,_,_,_,_,_⟩) (v:=?_) qQ rfl qV qQ qQ ?_ ?_;rotate_left;(focus(first|exact uQ.skip qK|(refine uQ.val qK ?_;intro w' hS;obtain⟨_,_,_⟩:=hS;go_simp;first|done|with_reducible rfl)));simp only[Act.put,jZ,jX,jY])
 refine AtC.back ?_;refine AtN.one 2 (o:=⟨some 5,.call {callee:=.builtin .append,args:=#[.const (.slice none 0 0),.tmp 4],argTypes:=#[50,50]},50,_,_,none⟩) (fun v=>∃g cap,v=.slice (some ⟨g,0,none⟩) cs.length cap) (fun v w'=>∃g cap,v=.slice (some ⟨g,0,none⟩) cs.length cap∧zZ w' ⟨some ⟨g,0,none⟩,cs,cap,cont⟩∧w.heap.size≤g) qV qQ rfl (fun v w1 w2 ⟨g,cap,hv,hr,hg⟩ hb=>⟨g,cap,hv,hr.below hb,hg⟩) (uQ.new _ _ qK (fun w' hS=>?_)) ?_
 · obtain⟨g,cap,w2,hr,hc,hb⟩:=Qk ⟨A,cs,cap0,cont⟩ w' (H.o.below (jW HB.o hS.1)) H0.o;exact qXi
 rintro v ⟨g,cap,rfl⟩;simp only[Act.put,jZ,jX,jY];refine AtN.done qQ (fun w' hS=>?_);obtain⟨⟨hb1,-,-⟩,g',cap',hv,hrc,hg⟩:=hS;simp only[Value.slice.injEq,Option.some.injEq,Addr.mk.injEq,and_true,true_and]at hv;obtain⟨rfl,rfl⟩:=hv;have HR:=Hd hrc;have HG:=Hd hg;have HB2:=Hd (jW HB.o hb1);obtain⟨y0,y0f⟩:=iH hb1 (at_ Y.o 0 _ rfl);obtain⟨y1,y1f⟩:=iH hb1 (at_ Y.o 1 _ rfl);have HB1:=Hd hb1;clear hb1 hrc hg x0 x1
 go_wp2
 have HB3:=uK (uK HB2.o (show w.heap.size≤w.heap.size+1 by omega) (o:=0) (.slice (some ⟨g,0,none⟩) cs.length cap)) (show w.heap.size≤w.heap.size+1 by omega) (o:=1) (.bool cont);have hset:=fY (u':=.slice (some ⟨g,0,none⟩) cs.length cap) (v':=.bool cont) ⟨y0,y0f⟩ ⟨y1,y1f⟩;refine bodyPost_ret (xW rfl _ _ (w.heap.size+1) _ _ rfl hset.1.1 hset.2.1) rfl ⟨g,cap,rfl,HR.o.mod (X:=[w.heap.size+1]) (((Mod.refl _ _).setCell (a:=⟨w.heap.size+1,0,none⟩) (.inl qV) _).setCell (a:=⟨w.heap.size+1,1,none⟩) (.inl qV) _) ?_,HB3,HG.o⟩;intro b hb cs' f he;rw[jM.1 hb,HB1.o.block _ (jR Y.o),Y.o]at he;injection he with he
 injection he with _ ht
 exact absurd ht qZ
set_option maxHeartbeats 3200000 in
theorem qJ6(r:Rh)(w:World)(h:zZ w r)(h0:0<r.cs.length):Calls jG 160 #[.agg #[.slice r.A r.cs.length r.cap,.bool r.cont]] w (WK r w):=by
 have H:=Hd h;have H0:=Hd h0;clear h h0;obtain⟨A,cs,cap0,cont⟩:=r;simp only at H H0
 go_enter Tryz.func160,Tryz.ntmps160
 go_upto_region 1 with fail
 have HB:=Hd (jH (jH (jU w.heap.size w) (.cells #[.slice A cs.length cap0,.bool cont] 52)) (.cells #[.slice none 0 0,.bool false] 52));have x:=vJ (o:=.cells #[.slice none 0 0,.bool false] 52) (jT (W:=w) (b:=w.heap.size) (o:=.cells #[.slice A cs.length cap0,.bool cont] 52) rfl);have y:=jT (W:=w.alloc (.cells #[.slice A cs.length cap0,.bool cont] 52)) (b:=w.heap.size+1) (o:=.cells #[.slice none 0 0,.bool false] 52) qV;generalize World.alloc _ _=W at HB x y ⊢;have x0:=(at_ x 0 _ rfl).1;have x1:=(at_ x 1 _ rfl).1;have Y:=Hd y;clear x y;refine gI 5 (fun w'=>Below W.heap.size W w'∧w'.cell? ⟨w.heap.size,0,none⟩=some (.slice A cs.length cap0)∧w'.cell? ⟨w.heap.size,1,none⟩=some (.bool cont)) qQ qQ (fun w1 w2 hS hb=>⟨jW hS.1 hb,kZ hb hS.2.1,kZ hb hS.2.2⟩) ⟨(jU _ _).drew,x0,x1⟩ ?_;refine AtN.go 0 ?_
 iterate 2 (refine AtC.take (o:=⟨_,_,_,_,_,_⟩) (v:=?_) qQ rfl qV qQ qQ ?_ ?_;rotate_left;(focus(first|exact uQ.skip qK|(refine uQ.val qK ?_;intro w' hS;obtain⟨_,_,_⟩:=hS;go_simp;first|done|with_reducible rfl)));simp only[Act.put,jZ,jX,jY])
 refine AtC.back ?_;refine AtN.go 3 ?_
 iterate 2 (refine AtC.take (o:=⟨_,_,_,_,_,_⟩) (v:=?_) qQ rfl qV qQ qQ ?_ ?_;rotate_left;(focus(first|exact uQ.skip qK|(refine uQ.val qK ?_;intro w' hS;obtain⟨_,_,_⟩:=hS;go_simp;first|done|with_reducible rfl)));simp only[Act.put,jZ,jX,jY])
 refine AtC.back ?_;refine AtN.one 2 (o:=⟨some 5,.call {callee:=.builtin .append,args:=#[.const (.slice none 0 0),.tmp 4],argTypes:=#[50,50]},50,_,_,none⟩) (fun v=>∃g cap,v=.slice (some ⟨g,0,none⟩) cs.length cap) (fun v w'=>∃g cap,v=.slice (some ⟨g,0,none⟩) cs.length cap∧zZ w' ⟨some ⟨g,0,none⟩,cs,cap,cont⟩∧w.heap.size≤g) qV qQ rfl (fun v w1 w2 ⟨g,cap,hv,hr,hg⟩ hb=>⟨g,cap,hv,hr.below hb,hg⟩) (uQ.new _ _ qK (fun w' hS=>?_)) ?_
 · obtain⟨g,cap,w2,hr,hc,hb⟩:=Qk ⟨A,cs,cap0,cont⟩ w' (H.o.below (jW HB.o hS.1)) H0.o;exact qXi
 rintro v ⟨g,cap,rfl⟩;simp only[Act.put,jZ,jX,jY];refine AtN.done qQ (fun w' hS=>?_);obtain⟨⟨hb1,-,-⟩,g',cap',hv,hrc,hg⟩:=hS;simp only[Value.slice.injEq,Option.some.injEq,Addr.mk.injEq,and_true,true_and]at hv;obtain⟨rfl,rfl⟩:=hv;have HR:=Hd hrc;have HG:=Hd hg;have HB2:=Hd (jW HB.o hb1);obtain⟨y0,y0f⟩:=iH hb1 (at_ Y.o 0 _ rfl);obtain⟨y1,y1f⟩:=iH hb1 (at_ Y.o 1 _ rfl);have HB1:=Hd hb1;clear hb1 hrc hg x0 x1
 go_wp2
 have HB3:=uK (uK HB2.o (show w.heap.size≤w.heap.size+1 by omega) (o:=0) (.slice (some ⟨g,0,none⟩) cs.length cap)) (show w.heap.size≤w.heap.size+1 by omega) (o:=1) (.bool cont);have hset:=fY (u':=.slice (some ⟨g,0,none⟩) cs.length cap) (v':=.bool cont) ⟨y0,y0f⟩ ⟨y1,y1f⟩;refine bodyPost_ret (xW rfl _ _ (w.heap.size+1) _ _ rfl hset.1.1 hset.2.1) rfl ⟨g,cap,rfl,HR.o.mod (X:=[w.heap.size+1]) (((Mod.refl _ _).setCell (a:=⟨w.heap.size+1,0,none⟩) (.inl qV) _).setCell (a:=⟨w.heap.size+1,1,none⟩) (.inl qV) _) ?_,HB3,HG.o⟩;intro b hb cs' f he;rw[jM.1 hb,HB1.o.block _ (jR Y.o),Y.o]at he;injection he with he
 injection he with _ ht
 exact absurd ht qZ
theorem gH{w:World}{base n size:Nat}{e:TypeId}{v:Value}{xs:List Value}(h:w.ownsRow base e size v n xs)(hn:0<n):∃g c,v=.slice (some ⟨g,0,none⟩) n c:=by
 rcases h.2 with⟨-,h0⟩|⟨g,cap,cur,rfl,-⟩
 · omega
 · exact⟨g,cap,rfl⟩
theorem iV{R m first c:Nat}{A:Option Addr}{w:World}(x0:w.cell? ⟨R,0,none⟩=some (.slice A m c))(x2:w.cell? ⟨R,2,none⟩=some (.int .i64 first))(hm:m≤100000)(hf:first ≤100000)(i:Nat)(hi:i≤100000):
 Calls jG 251 #[.pointer (some ⟨R,0,none⟩),.int .i64 i] w fun e w'=>e=.returned (.int .i64 (pZ m first i))∧w=w':=by
 obtain⟨s,hs⟩:∃s:Nat,s=first + i:=⟨_,rfl⟩
 have hsI:(i:Int)+(first :Int)=(s:Int):=by omega
 have hws:jE.wrap (s:Int)=(s:Int):=jF _ qJ
 by_cases hc:m≤s
 · have hv2:pZ m first i=s-m:=by unfold pZ;rw[if_pos qJ];omega
   rw[hv2];have hcI:(m:Int)≤(s:Int):=by omega
   have hd:(s:Int)-(m:Int)=((s-m:Nat):Int):=by omega
   have hwd:jE.wrap ((s-m:Nat):Int)=((s-m:Nat):Int):=jF _ qJ;clear hs hf hm
   go_enter Tryz.func251,Tryz.ntmps251
   go_wp2
   go_ret
   exact⟨rfl,rfl⟩
 · have hv2:pZ m first i=s:=by unfold pZ;rw[if_neg qJ];omega
   rw[hv2];have hcI:¬(m:Int)≤(s:Int):=by omega
   clear hs hf hm
   go_enter Tryz.func251,Tryz.ntmps251
   go_wp2
   go_ret
   exact⟨rfl,rfl⟩
section
variable {base:Nat}{w:World}{R:Nat}{vl:Value}{SL:List Rh}{room first n:Nat}{gone:Int}
theorem Vm(h:RgO base w R vl SL room first n gone):Calls jG 161 #[.pointer (some ⟨R,0,none⟩)] w fun e w'=>e=.returned (.int .i64 n)∧w=w':=by
 have x3:=(at_ h.blk 3 _ rfl).1;clear h
 go_enter Tryz.func161,Tryz.ntmps161
 go_wp2
 go_ret
 exact⟨rfl,rfl⟩
end
theorem rnew_ok(room:Nat)(w:World)(hr:room≤100000):Calls jG 110 #[.int .i64 room] w fun e w'=>e=.returned (.tuple #[.pointer (some ⟨w.heap.size,0,none⟩),.int .i64 0])∧RgO w.heap.size w' w.heap.size (.slice none 0 0) [] room 0 0 0∧Below w.heap.size w w':=by
 have hrI:¬(100000:Int)<(room:Int):=by omega
 have hrI0:¬(room:Int)<0:=by omega
 go_enter Tryz.func110,Tryz.ntmps110
 go_wp2
 go_ret2
 exact⟨rfl,⟨jT rfl,kS _ _ _ _,jD _,hr,jD _,kM _,.inr ⟨rfl,rfl⟩,fun r hr=>by cases hr⟩,jH (jU _ _) _⟩
def iQ(base:Nat)(w:World)(R:Nat)(vl:Value)(room:Nat)(gone':Int)(H':List Ro)(w':World):Prop:=
 ∃vl' SL' first' n',RgO base w' R vl' SL' room first' n' gone'∧(pS SL' first' n').map zU=H'∧Mod (gK R vl) w w'∧∀g,vl'.ownBlock=some g→vl.ownBlock=some g∨w.heap.size≤g
theorem RgO.reblk{base:Nat}{w w':World}{R:Nat}{vl vl':Value}{SL SL':List Rh}{room first n first' n':Nat}{gone gone':Int}(h:RgO base w R vl SL room first n gone)
 (hb:w'.heap[R]? =some (.cells #[vl',.int .i64 room,.int .i64 first',.int .i64 n',.int .u64 gone'] 225 (0,0))) (ho:w'.ownsRow base 52 2 vl' SL'.length (uM yG SL')) (hn:n'≤SL'.length) (hm:SL'.length≤room)
 (hf:first'<SL'.length∨(first'=0∧SL'.length=0)) (hr:∀r∈pS SL' first' n',zZ w' r∧0<r.cs.length):RgO base w' R vl' SL' room first' n' gone':=⟨hb,ho,h.hb,h.hroom,hn,hm,hf,hr⟩
section
variable {base:Nat}{w:World}{R:Nat}{vl:Value}{SL:List Rh}{room first n:Nat}{gone:Int}
end
def bV(xs:List Int):List Value:=xs.map (fun x=>.int .u8 x)
theorem bV_snoc(xs:List Int)(c:Int):bV xs++[.int .u8 c]=bV (xs++[c]):=by simp[bV]
structure Zv where
 P:Nat
 r:Nat→Value
def Pz.r(p:Pz):Nat→List Int
 |0=>p.head
 |1=>p.inter
 |_=>p.text
def Pz.sr(p:Pz)(xs:List Int):Nat→Pz
 |0=>{p with head:=xs}
 |1=>{p with inter:=xs}
 |_=>{p with text:=xs}
def Zv.sr(v:Zv)(k:Nat)(x:Value):Zv:={v with r:=fun i=>if i=k then x else v.r i}
def wI(p:Pz)(v:Zv):List Value:=
 [.int .u8 p.pre,v.r 0,v.r 1,v.r 2,.int .u8 p.last,.bool p.wrong,.bool p.cut,.int .i64 p.most,.int .i64 p.state,.int .i32 p.dec.n,.int .i64 p.dec.need,.int .i64 p.dec.hv,.int .u8 p.dec.lo,.int .u8 p.dec.hi]
def zX(w:World)(v:Zv)(p:Pz):Prop:=w.heap[v.P]? =some (.cells (wI p v).toArray 134 (0,0))
theorem zX.lt{w:World}{v:Zv}{p:Pz}(h:zX w v p):v.P<w.heap.size:=(kB.1 h).1
theorem zX.put{w:World}{v v':Zv}{p p':Pz}(h:zX w v p)(i:Nat)(x:Value)(hP:v'.P=v.P)(he:(wI p v).set i x=wI p' v'):zX (w.setCell ⟨v.P,i,none⟩ x) v' p':=by
 have :=vR (o:=i) (v:=x) h;rw[jZ,he]at this;unfold zX;rw[hP];exact this
theorem zX.keep{w w':World}{v:Zv}{p:Pz}{r:Option Nat}(h:zX w v p)(hg:w.grownBy w' r)(hr:r≠some v.P):zX w' v p:=(hg.block v.P h.lt (fun e=>hr e.symm)).trans h
theorem zX.below{w w':World}{v:Zv}{p:Pz}(h:zX w v p)(hb:Below w.heap.size w w'):zX w' v p:=(hb.block v.P h.lt).trans h
def Zin(v:Zv)(b:Nat):Prop:=∃k,k<3∧(v.r k).ownBlock=some b
def zvX(v:Zv):List Nat:=v.P::([0,1,2].flatMap fun k=>(v.r k).ownBlock.toList)
theorem bQ{v:Zv}{b:Nat}:b∈zvX v↔b=v.P∨Zin v b:=by
 unfold zvX Zin;simp only[kJ,List.flatMap_cons,List.flatMap_nil,List.append_nil,kU,jA]
 constructor
 · rintro(h|h|h|h)
   · exact .inl h
   · exact .inr ⟨0,by omega,h⟩
   · exact .inr ⟨1,by omega,h⟩
   · exact .inr ⟨2,by omega,h⟩
 · rintro(h|⟨k,hk,h⟩)
   · exact .inl h
   · match k,hk,h with
     |0,_,h=>exact .inr (.inl h)
     |1,_,h=>exact .inr (.inr (.inl h))
     |2,_,h=>exact .inr (.inr (.inr h))
structure PzO(base:Nat)(w:World)(v:Zv)(p:Pz):Prop where
 blk:zX w v p
 hb:base≤v.P
 row:∀k,k<3→w.ownsRow base 5 1 (v.r k) (p.r k).length (bV (p.r k))
 nd:∀i j g,i<3→j<3→i≠j→(v.r i).ownBlock=some g→(v.r j).ownBlock≠some g
section
variable {base:Nat}{w:World}{v:Zv}{p:Pz}
theorem PzO.types(h:PzO base w v p):∀b∈zvX v,∃cur ty,w.heap[b]? =some (.cells cur ty (0,0))∧(ty=134∨ty=5):=by
 intro b hb;rcases bQ.1 hb with rfl|⟨k,hk,hg⟩
 · exact⟨_,_,h.blk,.inl rfl⟩
 · obtain⟨cur,hc⟩:=uR (h.row k hk) hg;exact⟨_,_,hc,.inr rfl⟩
theorem PzO.np(h:PzO base w v p):¬Zin v v.P:=fun⟨k,hk,hg⟩=>by
 obtain⟨cur,hc⟩:=uR (h.row k hk) hg;have hb:w.heap[v.P]? =_:=h.blk;rw[hb,Option.some.injEq,Obj.cells.injEq]at hc;exact absurd hc.2.1 qZ
theorem PzO.lt(h:PzO base w v p):∀b∈zvX v,base≤b∧b<w.heap.size:=by
 intro b hb;rcases bQ.1 hb with rfl|⟨k,hk,hg⟩
 · exact⟨h.hb,h.blk.lt⟩
 · exact(h.row k hk).lt b hg
theorem PzO.nocel(h:PzO base w v p):yI w (zvX v):=fun b hb cs f he=>by
 obtain⟨cur,ty,h1,h2⟩:=h.types b hb;rw[he,Option.some.injEq,Obj.cells.injEq]at h1;obtain⟨-,rfl,-⟩:=h1;rcases h2 with h2|h2<;>exact absurd h2 qZ
theorem PzO.mod{X:List Nat}{w':World}(h:PzO base w v p)(hm:Mod X w w')(hd:∀b∈zvX v,b∉X):PzO base w' v p:=
 ⟨(hm.block v.P h.blk.lt (hd _ (bQ.2 (.inl rfl)))).trans h.blk,h.hb,fun k hk=>kD (h.row k hk) hm (fun g hg=>hd g (bQ.2 (.inr ⟨k,hk,hg⟩))),h.nd⟩
theorem PzO.below{w':World}(h:PzO base w v p)(hb:Below w.heap.size w w'):PzO base w' v p:=h.mod (Mod.of_below (X:=[]) hb) (fun _ _ h=>by cases h)
def yS(base:Nat)(w:World)(v:Zv)(p':Pz)(w':World):Prop:=
 ∃v',v'.P=v.P∧PzO base w' v' p'∧Mod (zvX v) w w'∧∀b∈zvX v',b∈zvX v∨w.heap.size≤b
theorem PzO.res(h:PzO base w v p):yS base w v p w:=⟨v,rfl,h,Mod.refl _ _,fun _ hb=>.inl hb⟩
theorem PzO.res_below{w':World}(h:PzO base w v p)(hb:Below w.heap.size w w'):yS base w v p w':=⟨v,rfl,h.below hb,Mod.of_below hb,fun _ hb=>.inl hb⟩
theorem yS.trans{w1 w2:World}{v1:Zv}{p2:Pz}(h1:v1.P=v.P∧Mod (zvX v) w w1∧∀b∈zvX v1,b∈zvX v∨w.heap.size≤b)(h2:yS base w1 v1 p2 w2):yS base w v p2 w2:=by
 obtain⟨e1,hm,hx⟩:=h1;obtain⟨v2,a1,a4,a5,a6⟩:=h2;refine⟨v2,a1.trans e1,a4,hm.trans a5 hx,fun b hb=>?_⟩;rcases a6 b hb with h|h
 · exact hx b h
 · exact qXj
theorem yS.pre{w1 w2:World}{p2:Pz}(hb:Below w.heap.size w w1)(h2:yS base w1 v p2 w2):yS base w v p2 w2:=yS.trans ⟨rfl,Mod.of_below hb,fun _ hb=>.inl hb⟩ h2
theorem PzO.reblk{v':Zv}{p':Pz}{w':World}(h:PzO base w v p)(hm:Mod [v.P] w w')(hP:v'.P=v.P)(hb:zX w' v' p')(hr:∀k,k<3→(v'.r k=v.r k∧p'.r k=p.r k)∨(v'.r k=.slice none 0 0∧p'.r k=[])):yS base w v p' w':=by
 have hn:∀k,k<3→∀g,(v'.r k).ownBlock=some g→(v.r k).ownBlock=some g:=fun k hk g hg=>by
  rcases hr k hk with⟨e,-⟩|⟨e,-⟩
  · rw[←e];exact hg
  · rw[e]at hg;cases hg
 refine⟨v',hP,⟨hb,by rw[hP];exact h.hb,fun k hk=>?_,fun i j g hi hj hne h1 h2=>h.nd i j g hi hj hne (hn i hi g h1) (hn j hj g h2)⟩,hm.mono (fun b hb=>bQ.2 (.inl (jM.1 hb))),fun b hb=>.inl ?_⟩
 · rcases hr k hk with⟨e1,e2⟩|⟨e1,e2⟩
   · rw[e1,e2];exact kD (h.row k hk) hm (fun g hg hx=>h.np ⟨k,hk,by rw[←jM.1 hx];exact hg⟩)
   · rw[e1,e2];exact kS w' base 5 1
 · rcases bQ.1 hb with rfl|⟨k,hk,hg⟩
   · exact bQ.2 (.inl hP)
   · exact bQ.2 (.inr ⟨k,hk,hn k hk b hg⟩)
theorem PzO.one{p':Pz}(h:PzO base w v p)(i:Nat)(x:Value)(he:(wI p v).set i x=wI p' v)(hr:∀k,k<3→p'.r k=p.r k):yS base w v p' (w.setCell ⟨v.P,i,none⟩ x):=
 h.reblk ((Mod.refl _ _).setCell (a:=⟨v.P,i,none⟩) (.inl qV) _) rfl (h.blk.put i x rfl he) (fun k hk=>.inl ⟨rfl,hr k hk⟩)
theorem PzO.grow(h:PzO base w v p){k:Nat}(hk:k<3){w2:World}{xs:List Int}{v':Value}(hg:w.grownBy w2 (v.r k).ownBlock)(ho:w2.ownsRow base 5 1 v' xs.length (bV xs))(hn:∀g,v'.ownBlock=some g→(v.r k).ownBlock=some g∨w.heap.size≤g):
 yS base w v (p.sr xs k) (w2.setCell ⟨v.P,k+1,none⟩ v'):=by
 have hm:Mod ((v.r k).ownBlock.toList) w w2:=Mod.of_grown hg (fun g e=>by simp[e]);have hnp:(v.r k).ownBlock≠some v.P:=fun hx=>h.np ⟨k,hk,hx⟩;have hM:Mod [v.P] w2 (w2.setCell ⟨v.P,k+1,none⟩ v'):=(Mod.refl _ _).setCell (a:=⟨v.P,k+1,none⟩) (.inl qV) _;have hP:v.P<w.heap.size:=h.blk.lt;have hb2:zX w2 v p:=h.blk.keep hg hnp;have hv':∀g,v'.ownBlock=some g→g∉[v.P]:=fun g hg' hx=>by
  rw[jM.1 hx]at hg';rcases hn _ hg' with h1|h1
  · exact hnp h1
  · omega
 have hnew:∀j g,j<3→j≠k→(v.r j).ownBlock=some g→v'.ownBlock≠some g:=fun j g hj hjk h1 h2=>by
  rcases hn g h2 with h3|h3
  · exact h.nd j k g hj hk hjk h1 h3
  · have :=((h.row j hj).lt g h1).2;omega
 have e1:∀j,(v.sr k v').r j=if j=k then v' else v.r j:=fun _=>rfl;have e2:∀j,j<3→(p.sr xs k).r j=if j=k then xs else p.r j:=fun j hj=>by
  match k,j,hk,hj with
  |0,0,_,_=>rfl
  |0,1,_,_=>rfl
  |0,2,_,_=>rfl
  |1,0,_,_=>rfl
  |1,1,_,_=>rfl
  |1,2,_,_=>rfl
  |2,0,_,_=>rfl
  |2,1,_,_=>rfl
  |2,2,_,_=>rfl
 refine⟨v.sr k v',rfl,⟨hb2.put (v':=v.sr k v') (k+1) v' rfl ?_,h.hb,fun j hj=>?_,fun i j g hi hj hne h1 h2=>?_⟩,(hm.mono (fun b hb=>bQ.2 (.inr ⟨k,hk,jA.1 hb⟩))).trans hM (fun g hg'=>.inl (bQ.2 (.inl (jM.1 hg')))),fun b hb=>?_⟩
 · match k,hk with
   |0,_=>rfl
   |1,_=>rfl
   |2,_=>rfl
 · rw[e1,e2 j hj]
   by_cases hjk:j=k
   · rw[if_pos hjk,if_pos hjk];exact kD ho hM hv'
   · rw[if_neg hjk,if_neg hjk];exact kD (kD (h.row j hj) hm (fun g hg' hx=>h.nd j k g hj hk hjk hg' (jA.1 hx))) hM (fun g hg' hx=>h.np ⟨j,hj,by rw[←jM.1 hx];exact hg'⟩)
 · rw[e1]at h1 h2
   by_cases hik:i=k
   · rw[if_pos hik]at h1;rw[if_neg (fun e=>hne (hik.trans e.symm))]at h2;exact hnew j g hj (fun e=>hne (hik.trans e.symm)) h2 h1
   · rw[if_neg hik]at h1
     by_cases hjk:j=k
     · rw[if_pos hjk]at h2;exact hnew i g hi hik h1 h2
     · rw[if_neg hjk]at h2;exact h.nd i j g hi hj hne h1 h2
 · rcases bQ.1 hb with rfl|⟨j,hj,hg'⟩
   · exact .inl (bQ.2 (.inl rfl))
   · rw[e1]at hg'
     by_cases hjk:j=k
     · rw[if_pos hjk]at hg';rcases hn b hg' with h1|h1
       · exact .inl (bQ.2 (.inr ⟨k,hk,h1⟩))
       · exact .inr h1
     · rw[if_neg hjk]at hg';exact .inl (bQ.2 (.inr ⟨j,hj,hg'⟩))
end
def rO(c:Int):Int:=if c<128 then 1 else if c<224 then 2 else if c<240 then 3 else 4
def loC(c:Int):Int:=if c=224 then 160 else if c=240 then 144 else 128
def hiC(c:Int):Int:=if c=237 then 159 else if c=244 then 143 else 191
theorem WS(c:Int)(h:0≤c∧c<128∨194≤c∧c≤244)(w:World):Calls jG 176 #[.int .u8 c] w fun e w'=>e=.returned (.int .i64 (rO c))∧w=w':=by
 unfold rO
 by_cases h1:c<128
 · rw[if_pos h1]
   go_enter Tryz.func176,Tryz.ntmps176
   go_wp2
   go_ret
   exact⟨rfl,rfl⟩
 rw[if_neg h1];have h1':128≤c:=by omega
 have h2':¬c<194:=by omega
 have h3':¬244<c:=by omega
 by_cases h2:c<224
 · rw[if_pos h2]
   go_enter Tryz.func176,Tryz.ntmps176
   go_wp2
   go_ret
   exact⟨rfl,rfl⟩
 rw[if_neg h2];have h2b:224≤c:=by omega
 by_cases h3:c<240
 · rw[if_pos h3]
   go_enter Tryz.func176,Tryz.ntmps176
   go_wp2
   go_ret
   exact⟨rfl,rfl⟩
 rw[if_neg h3];have h3b:240≤c:=by omega
 go_enter Tryz.func176,Tryz.ntmps176
 go_wp2
 go_ret
 exact⟨rfl,rfl⟩
theorem mQ(c:Int)(w:World):Calls jG 177 #[.int .u8 c] w fun e w'=>e=.returned (.tuple #[.int .u8 (loC c),.int .u8 (hiC c)])∧w=w':=by
 unfold loC hiC
 by_cases h1:c=224
 · subst h1
   go_enter Tryz.func177,Tryz.ntmps177
   go_wp2
   go_ret2
   exact⟨rfl,rfl⟩
 by_cases h2:c=237
 · subst h2
   go_enter Tryz.func177,Tryz.ntmps177
   go_wp2
   go_ret2
   exact⟨rfl,rfl⟩
 by_cases h3:c=240
 · subst h3
   go_enter Tryz.func177,Tryz.ntmps177
   go_wp2
   go_ret2
   exact⟨rfl,rfl⟩
 by_cases h4:c=244
 · subst h4
   go_enter Tryz.func177,Tryz.ntmps177
   go_wp2
   go_ret2
   exact⟨rfl,rfl⟩
 rw[if_neg h1,if_neg h3,if_neg h2,if_neg h4]
 go_enter Tryz.func177,Tryz.ntmps177
 go_wp2
 go_ret2
 exact⟨rfl,rfl⟩
theorem gA(w:World)(r:Option Nat):w.grownBy w r:=⟨rfl,rfl,rfl,jD _,fun _ _ _=>rfl⟩
theorem uU{w w':World}{b i:Nat}(h:w.grownBy w' (some b))(v:Value):w.grownBy (w'.setCell ⟨b,i,none⟩ v) (some b):=
 ⟨h.os,h.tape,h.output,by rw[show(w'.setCell ⟨b,i,none⟩ v).heap.size=w'.heap.size from by simp[uN]];exact h.size,fun k hk hne=>(Below.heap_setCell w' _ v k (by intro e;exact hne (by simp[e]))).trans (h.block k hk hne)⟩
theorem zN{w w':World}{r:Option Nat}(h:w.grownBy w' r)(o:Obj):w.grownBy (w'.alloc o) r:=
 ⟨h.os,h.tape,h.output,by simp;have :=h.size;omega,fun k hk hne=>(Below.heap_alloc w' o k (by have :=h.size;omega)).trans (h.block k hk hne)⟩
theorem sP{a b c:World}{r:Option Nat}(h:a.grownBy b r)(k:b.grownBy c r):a.grownBy c r:=
 ⟨k.os.trans h.os,k.tape.trans h.tape,k.output.trans h.output,jI h.size k.size,fun i hi hne=>(k.block i (by have :=h.size;omega) hne).trans (h.block i hi hne)⟩
def gL(w:World)(b:Nat)(d:Dk):Prop:=
 ((w.cell? ⟨b,0,none⟩=some (.int .i32 d.n)∧w.frozen? ⟨b,0,none⟩=false)∧(w.cell? ⟨b,1,none⟩=some (.int .i64 d.need)∧w.frozen? ⟨b,1,none⟩=false)∧(w.cell? ⟨b,2,none⟩=some (.int .i64 d.hv)∧w.frozen? ⟨b,2,none⟩=false)∧(w.cell? ⟨b,3,none⟩=some (.int .u8 d.lo)∧w.frozen? ⟨b,3,none⟩=false)∧(w.cell? ⟨b,4,none⟩=some (.int .u8 d.hi)∧w.frozen? ⟨b,4,none⟩=false))
def OneAt(w':World)(lo:Nat)(v:Value):Option Int→Prop
 |none=>v=.slice none 0 0
 |some r=>∃g,v=.slice (some ⟨g,0,none⟩) 1 1∧lo≤g∧w'.heap[g]? =some (.cells #[.int .i32 r] 21 (0,0))
def XD(b:Nat)(x:Option Int×Dk)(w:World)(e:Ending)(w':World):Prop:=∃v,e=.returned v∧OneAt w' w.heap.size v x.1∧gL w' b x.2∧w.grownBy w' (some b)
theorem gL.lt{w:World}{b:Nat}{d:Dk}(h:gL w b d):b<w.heap.size:=uE h.1.1
theorem gL.grown{w w':World}{b:Nat}{d:Dk}(h:gL w b d)(hb:Below w.heap.size w w'):gL w' b d:=by
 obtain⟨h0,h1,h2,h3,h4⟩:=h;exact⟨iH hb h0,iH hb h1,iH hb h2,iH hb h3,iH hb h4⟩
theorem gL.set0{w:World}{b:Nat}{d:Dk}(h:gL w b d)(x:Int):gL (w.setCell ⟨b,0,none⟩ (.int .i32 x)) b {d with n:=x}:=by
 obtain⟨h0,h1,h2,h3,h4⟩:=h;exact⟨dZ h0,pK h1 (.inr qZ),pK h2 (.inr qZ),pK h3 (.inr qZ),pK h4 (.inr qZ)⟩
theorem gL.set1{w:World}{b:Nat}{d:Dk}(h:gL w b d)(x:Int):gL (w.setCell ⟨b,1,none⟩ (.int .i64 x)) b {d with need:=x}:=by
 obtain⟨h0,h1,h2,h3,h4⟩:=h;exact⟨pK h0 (.inr qZ),dZ h1,pK h2 (.inr qZ),pK h3 (.inr qZ),pK h4 (.inr qZ)⟩
theorem gL.set2{w:World}{b:Nat}{d:Dk}(h:gL w b d)(x:Int):gL (w.setCell ⟨b,2,none⟩ (.int .i64 x)) b {d with hv:=x}:=by
 obtain⟨h0,h1,h2,h3,h4⟩:=h;exact⟨pK h0 (.inr qZ),pK h1 (.inr qZ),dZ h2,pK h3 (.inr qZ),pK h4 (.inr qZ)⟩
theorem gL.set3{w:World}{b:Nat}{d:Dk}(h:gL w b d)(x:Int):gL (w.setCell ⟨b,3,none⟩ (.int .u8 x)) b {d with lo:=x}:=by
 obtain⟨h0,h1,h2,h3,h4⟩:=h;exact⟨pK h0 (.inr qZ),pK h1 (.inr qZ),pK h2 (.inr qZ),dZ h3,pK h4 (.inr qZ)⟩
theorem gL.set4{w:World}{b:Nat}{d:Dk}(h:gL w b d)(x:Int):gL (w.setCell ⟨b,4,none⟩ (.int .u8 x)) b {d with hi:=x}:=by
 obtain⟨h0,h1,h2,h3,h4⟩:=h;exact⟨pK h0 (.inr qZ),pK h1 (.inr qZ),pK h2 (.inr qZ),pK h3 (.inr qZ),dZ h4⟩
theorem qQm:∀f:Fin 256,bits .and .i32 (f.val:Int) 31=(f.val:Int)%32∧bits .and .i32 (f.val:Int) 15=(f.val:Int)%16∧bits .and .i32 (f.val:Int) 7=(f.val:Int)%8:=by decide +kernel
theorem Qh(c:Int)(h0:0≤c)(h1:c<256):bits .and .i32 c 31=c%32∧bits .and .i32 c 15=c%16∧bits .and .i32 c 7=c%8:=by
 have :=qQm ⟨c.toNat,by omega⟩
 rwa[show(((⟨c.toNat,by omega⟩:Fin 256).val:Nat):Int)=c from by show((c.toNat:Nat):Int)=c;omega]at this
set_option maxHeartbeats 1600000 in
theorem Xp(b:Nat)(d:Dk)(c:Int)(w:World)(hd:gL w b d)(h:0≤c∧c<128∨194≤c∧c≤244):
 Calls jG 117 #[.pointer (some ⟨b,0,none⟩),.int .u8 c] w (XD b (if c<128 then(some c,d)else(none,pI c)) w):=by
 have HS:=Hd (fun w=>WS c h w);have HB:=Hd (fun w=>mQ c w);have HD:=Hd hd;obtain⟨h0,h1,h2,h3,h4⟩:=hd;have c0:=h0.1;have c1:=h1.1;have c2:=h2.1;have c3:=h3.1;have c4:=h4.1;have f0:=h0.2;have f1:=h1.2;have f2:=h2.2;have f3:=h3.2;have f4:=h4.2;have hw:IntKind.i32.wrap c=c:=IntWalk.i32_in _ qJ
 by_cases hA:c<128
 · rw[if_pos hA];rw[show rO c=1 from if_pos hA]at HS;clear hw h0 h1 h2 h3 h4
   go_enter Tryz.func117,Tryz.ntmps117
   go_wp2_with(go_at_call 176;(with_reducible refine(HS.o _).mono ?_);rintro e w1 ⟨rfl,rfl⟩)
   go_ret
   exact⟨_,rfl,⟨w.heap.size,rfl,jD _,jT rfl⟩,HD.o.grown ((jU _ w).alloc (jD _) _),zN (gA _ _) _⟩
 · rw[if_neg hA];have hc0:¬c<0:=by omega
   have hcc:194≤c∧c≤244:=by omega
   have hM:=Qh c qJ qJ
   by_cases hB:c<224
   · rw[show rO c=2 from by unfold rO;rw[if_neg hA,if_pos hB]]at HS;have HL:=Hd (show pI c=⟨bits .and .i32 c 31,1,1,loC c,hiC c⟩from by unfold pI loC hiC;rw[if_pos hB,hM.1];rw[if_neg qJ,if_neg qJ,if_neg qJ,if_neg qJ]);generalize pI c=L at HL ⊢;generalize loC c=lc at HL HB;generalize hiC c=hc at HL HB;clear hM
     go_enter Tryz.func117,Tryz.ntmps117
     go_wp2_with(first|(go_at_call 176;(with_reducible refine(HS.o _).mono ?_);rintro e w1 ⟨rfl,rfl⟩)|(go_at_call 177;(with_reducible refine(HB.o _).mono ?_);rintro e w1 ⟨rfl,rfl⟩))
     go_ret
     rw[HL.o];exact qXk
   by_cases hC:c<240
   · rw[show rO c=3 from by unfold rO;rw[if_neg hA,if_neg hB,if_pos hC]]at HS;have HL:=Hd (show pI c=⟨bits .and .i32 c 15,2,1,loC c,hiC c⟩from by unfold pI loC hiC;rw[if_neg hB,if_pos hC,hM.2.1];rw[if_neg (show ¬c=240 by omega),if_neg (show ¬c=244 by omega)]);generalize pI c=L at HL ⊢;generalize loC c=lc at HL HB;generalize hiC c=hc at HL HB;clear hM
     go_enter Tryz.func117,Tryz.ntmps117
     go_wp2_with(first|(go_at_call 176;(with_reducible refine(HS.o _).mono ?_);rintro e w1 ⟨rfl,rfl⟩)|(go_at_call 177;(with_reducible refine(HB.o _).mono ?_);rintro e w1 ⟨rfl,rfl⟩))
     go_ret
     rw[HL.o];exact qXk
   rw[show rO c=4 from by unfold rO;rw[if_neg hA,if_neg hB,if_neg hC]]at HS;have HL:=Hd (show pI c=⟨bits .and .i32 c 7,3,1,loC c,hiC c⟩from by unfold pI loC hiC;rw[if_neg hB,if_neg hC,hM.2.2];rw[if_neg (show ¬c=224 by omega),if_neg (show ¬c=237 by omega)]);generalize pI c=L at HL ⊢;generalize loC c=lc at HL HB;generalize hiC c=hc at HL HB;clear hM
   go_enter Tryz.func117,Tryz.ntmps117
   go_wp2_with(first|(go_at_call 176;(with_reducible refine(HS.o _).mono ?_);rintro e w1 ⟨rfl,rfl⟩)|(go_at_call 177;(with_reducible refine(HB.o _).mono ?_);rintro e w1 ⟨rfl,rfl⟩))
   go_ret
   rw[HL.o];exact qXk
theorem aQ(c:Int)(w:World):Calls jG 176 #[.int .u8 c] w fun e w'=>e=.returned (.int .i64 (yW c))∧w=w':=by
 unfold yW
 by_cases h1:c<128
 · rw[if_pos h1]
   go_enter Tryz.func176,Tryz.ntmps176
   go_wp2
   go_ret
   exact⟨rfl,rfl⟩
 rw[if_neg h1];have h1':128≤c:=by omega
 by_cases h2:c<194
 · rw[if_pos (.inl h2)]
   go_enter Tryz.func176,Tryz.ntmps176
   go_wp2
   go_ret
   exact⟨rfl,rfl⟩
 by_cases h3:244<c
 · rw[if_pos (.inr h3)]
   go_enter Tryz.func176,Tryz.ntmps176
   go_wp2
   go_ret
   exact⟨rfl,rfl⟩
 rw[if_neg qJ]
 by_cases h4:c<224
 · rw[if_pos h4]
   go_enter Tryz.func176,Tryz.ntmps176
   go_wp2
   go_ret
   exact⟨rfl,rfl⟩
 rw[if_neg h4];have h4':224≤c:=by omega
 by_cases h5:c<240
 · rw[if_pos h5]
   go_enter Tryz.func176,Tryz.ntmps176
   go_wp2
   go_ret
   exact⟨rfl,rfl⟩
 rw[if_neg h5];have h5':240≤c:=by omega
 go_enter Tryz.func176,Tryz.ntmps176
 go_wp2
 go_ret
 exact⟨rfl,rfl⟩
section
variable {w:World}{v:Zv}{p:Pz}
theorem zX.d0(h:zX w v p)(x:Int):zX (w.setCell ⟨v.P,9,none⟩ (.int .i32 x)) v {p with dec:={p.dec with n:=x}}:=h.put 9 _ rfl rfl
theorem zX.d1(h:zX w v p)(x:Int):zX (w.setCell ⟨v.P,10,none⟩ (.int .i64 x)) v {p with dec:={p.dec with need:=x}}:=h.put 10 _ rfl rfl
theorem zX.d2(h:zX w v p)(x:Int):zX (w.setCell ⟨v.P,11,none⟩ (.int .i64 x)) v {p with dec:={p.dec with hv:=x}}:=h.put 11 _ rfl rfl
theorem zX.d3(h:zX w v p)(x:Int):zX (w.setCell ⟨v.P,12,none⟩ (.int .u8 x)) v {p with dec:={p.dec with lo:=x}}:=h.put 12 _ rfl rfl
theorem zX.d4(h:zX w v p)(x:Int):zX (w.setCell ⟨v.P,13,none⟩ (.int .u8 x)) v {p with dec:={p.dec with hi:=x}}:=h.put 13 _ rfl rfl
theorem sY{w:World}{lo n size:Nat}{ty:TypeId}{cs:List Value}(hl:cs.length=n*size)(hlo:lo≤w.heap.size)(hn:n≤maxLen):(w.alloc (.cells cs.toArray ty)).ownsRow lo ty size (.slice (some ⟨w.heap.size,0,none⟩) n n) n cs:=
 ⟨hl,.inr ⟨w.heap.size,n,_,rfl,hlo,jT rfl,jD _,hn,by simp[hl],by rw[←hl];exact List.take_length⟩⟩
def Qn(w':World)(lo:Nat)(u:Value)(rs:List Int):Prop:=w'.ownsRow lo 21 1 u rs.length (rs.map (.int .i32))
def tK(v:Zv)(p:Pz)(x:List Int×Dk)(w:World)(e:Ending)(w':World):Prop:=∃u,e=.returned u∧Qn w' w.heap.size u x.1∧zX w' v {p with dec:=x.2}∧w.grownBy w' (some v.P)
theorem oL{w:World}{r:Int}{lo:Nat}(h:lo≤w.heap.size):Qn (w.alloc (.cells #[.int .i32 r] 21)) lo (.slice (some ⟨w.heap.size,0,none⟩) 1 1) [r]:=sY (n:=1) (cs:=[.int .i32 r]) rfl h qG
theorem fF(w:World)(lo:Nat):Qn w lo (.slice none 0 0) []:=kS w lo 21 1
set_option maxHeartbeats 1600000 in
theorem xR(h:zX w v p)(c:Int)(hc:0≤c∧c≤255):
 Calls jG 117 #[.pointer (some ⟨v.P,9,none⟩),.int .u8 c] w (tK v p (pB p.dec c) w):=by
 have HS:=Hd (fun w=>aQ c w);have HB:=Hd (fun w=>mQ c w);have HD:=Hd h;obtain⟨c0,f0⟩:=at_ h 9 (.int .i32 p.dec.n) rfl;obtain⟨c1,f1⟩:=at_ h 10 (.int .i64 p.dec.need) rfl;obtain⟨c2,f2⟩:=at_ h 11 (.int .i64 p.dec.hv) rfl;obtain⟨c3,f3⟩:=at_ h 12 (.int .u8 p.dec.lo) rfl;obtain⟨c4,f4⟩:=at_ h 13 (.int .u8 p.dec.hi) rfl;have hw:IntKind.i32.wrap c=c:=IntWalk.i32_in _ qJ;clear h;unfold pB
 by_cases hz:yW c=0
 · rw[if_pos hz];rw[hz]at HS;clear hz
   go_enter Tryz.func117,Tryz.ntmps117
   go_wp2_with(go_at_call 176;(with_reducible refine(HS.o _).mono ?_);rintro e w1 ⟨rfl,rfl⟩)
   go_ret
   exact qXl
 rw[if_neg hz]
 by_cases ho:yW c=1
 · rw[if_pos ho];rw[ho]at HS;clear hz ho
   go_enter Tryz.func117,Tryz.ntmps117
   go_wp2_with(go_at_call 176;(with_reducible refine(HS.o _).mono ?_);rintro e w1 ⟨rfl,rfl⟩)
   go_ret
   exact qXl
 rw[if_neg ho];have hM:=Qh c qJ qJ;have hc1:194≤c∧c≤244:=by
  unfold yW at hz ho
  constructor
  · rcases Int.lt_or_le c 128 with h|h
    · exact absurd (if_pos h) ho
    · rcases Int.lt_or_le c 194 with h2|h2
      · exact absurd qZq hz
      · exact h2
  · rcases Int.lt_or_le 244 c with h2|h2
    · exact absurd qZr hz
    · exact h2
 have hA:¬c<128:=by omega
 have hA2:¬(c<194∨244<c):=by omega
 clear hz ho
 by_cases hB:c<224
 · rw[show yW c=2 from by unfold yW;rw[if_neg hA,if_neg hA2,if_pos hB]]at HS;have HL:=Hd (show pI c=⟨bits .and .i32 c 31,1,1,loC c,hiC c⟩from by unfold pI loC hiC;rw[if_pos hB,hM.1];rw[if_neg qJ,if_neg qJ,if_neg qJ,if_neg qJ]);generalize pI c=L at HL ⊢;generalize loC c=lc at HL HB;generalize hiC c=hc at HL HB;clear hM hA2
   go_enter Tryz.func117,Tryz.ntmps117
   go_wp2_with(first|(go_at_call 176;(with_reducible refine(HS.o _).mono ?_);rintro e w1 ⟨rfl,rfl⟩)|(go_at_call 177;(with_reducible refine(HB.o _).mono ?_);rintro e w1 ⟨rfl,rfl⟩))
   go_ret
   rw[HL.o];exact qXm
 by_cases hC:c<240
 · rw[show yW c=3 from by unfold yW;rw[if_neg hA,if_neg hA2,if_neg hB,if_pos hC]]at HS;have HL:=Hd (show pI c=⟨bits .and .i32 c 15,2,1,loC c,hiC c⟩from by unfold pI loC hiC;rw[if_neg hB,if_pos hC,hM.2.1];rw[if_neg (show ¬c=240 by omega),if_neg (show ¬c=244 by omega)]);generalize pI c=L at HL ⊢;generalize loC c=lc at HL HB;generalize hiC c=hc at HL HB;clear hM hA2
   go_enter Tryz.func117,Tryz.ntmps117
   go_wp2_with(first|(go_at_call 176;(with_reducible refine(HS.o _).mono ?_);rintro e w1 ⟨rfl,rfl⟩)|(go_at_call 177;(with_reducible refine(HB.o _).mono ?_);rintro e w1 ⟨rfl,rfl⟩))
   go_ret
   rw[HL.o];exact qXm
 rw[show yW c=4 from by unfold yW;rw[if_neg hA,if_neg hA2,if_neg hB,if_neg hC]]at HS;have HL:=Hd (show pI c=⟨bits .and .i32 c 7,3,1,loC c,hiC c⟩from by unfold pI loC hiC;rw[if_neg hB,if_neg hC,hM.2.2];rw[if_neg (show ¬c=224 by omega),if_neg (show ¬c=237 by omega)]);generalize pI c=L at HL ⊢;generalize loC c=lc at HL HB;generalize hiC c=hc at HL HB;clear hM hA2
 go_enter Tryz.func117,Tryz.ntmps117
 go_wp2_with(first|(go_at_call 176;(with_reducible refine(HS.o _).mono ?_);rintro e w1 ⟨rfl,rfl⟩)|(go_at_call 177;(with_reducible refine(HB.o _).mono ?_);rintro e w1 ⟨rfl,rfl⟩))
 go_ret
 rw[HL.o];exact qXm
end
end Go.Proofs.YtaefcahblmopfaaGreatDoor
