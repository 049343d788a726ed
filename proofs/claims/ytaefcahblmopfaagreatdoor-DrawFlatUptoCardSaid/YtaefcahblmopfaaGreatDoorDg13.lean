/- Joined by a tool of this claim out of smaller texts. Conditions: as stated. -/
import Derived.Test.YtaefcahblmopfaaGreatDoorDg12
import Derived.Laws.OwnMore
import Derived.Lib.AppendStr
set_option linter.unusedVariables false
set_option linter.unusedSimpArgs false
set_option maxRecDepth 100000
open Go.Lib renaming hid → Hd
open List renaming setIfInBounds_toArray → jZ, set_cons_zero → jX, set_cons_succ → jY, mem_singleton → jW, length_append → jC, drop_succ_cons → jR, take_succ_cons → jS, drop_zero → jO, mem_cons → kJ, take_zero → kK, mem_append → kM
open Go.Proofs.Tryz renaming prog → jG
open Go.RowKit.Below renaming refl → jU
open Nat renaming le_refl → jD, le_trans → jI
open Option renaming mem_toList → jT
open Array renaming getElem?_eq_some_iff → kN
open Go.World renaming ownsRow_nil → kD, setCell → uB
namespace Go.Proofs.YtaefcahblmopfaaGreatDoor
open Go.RowKit
def bV(xs:List Int):List Value:=xs.map (fun x=>.int .u8 x)
theorem bV_snoc(xs:List Int)(c:Int):bV xs++[.int .u8 c]=bV (xs++[c]):=by simp[bV]
structure Zv where
 P:Nat
 r:Nat→Value
def Pz.r(p:Pz):Nat→List Int
 |0=>p.head
 |1=>p.inter
 |_=>p.text
def Pz.sr(p:Pz)(xs:List Int):Nat→Pz
 |0=>{p with head:=xs}
 |1=>{p with inter:=xs}
 |_=>{p with text:=xs}
def Zv.sr(v:Zv)(k:Nat)(x:Value):Zv:={v with r:=fun i=>if i=k then x else v.r i}
def wN(p:Pz)(v:Zv):List Value:=
 [.int .u8 p.pre,v.r 0,v.r 1,v.r 2,.int .u8 p.last,.bool p.wrong,.bool p.cut,.int .i64 p.most,.int .i64 p.state,.int .i32 p.dec.n,.int .i64 p.dec.need,.int .i64 p.dec.hv,.int .u8 p.dec.lo,.int .u8 p.dec.hi]
def zQ(w:World)(v:Zv)(p:Pz):Prop:=w.heap[v.P]? =some (.cells (wN p v).toArray 134 (0,0))
theorem zQ.lt{w:World}{v:Zv}{p:Pz}(h:zQ w v p):v.P<w.heap.size:=(kN.1 h).1
theorem zQ.put{w:World}{v v':Zv}{p p':Pz}(h:zQ w v p)(i:Nat)(x:Value)(hP:v'.P=v.P)(he:(wN p v).set i x=wN p' v'):zQ (w.setCell ⟨v.P,i,none⟩ x) v' p':=by
 have :=vL (o:=i) (v:=x) h;rw[jZ,he]at this;unfold zQ;rw[hP];exact this
theorem zQ.keep{w w':World}{v:Zv}{p:Pz}{r:Option Nat}(h:zQ w v p)(hg:w.grownBy w' r)(hr:r≠some v.P):zQ w' v p:=(hg.block v.P h.lt (fun e=>hr e.symm)).trans h
theorem zQ.below{w w':World}{v:Zv}{p:Pz}(h:zQ w v p)(hb:Below w.heap.size w w'):zQ w' v p:=(hb.block v.P h.lt).trans h
def Zin(v:Zv)(b:Nat):Prop:=∃k,k<3∧(v.r k).ownBlock=some b
def zvX(v:Zv):List Nat:=v.P::([0,1,2].flatMap fun k=>(v.r k).ownBlock.toList)
theorem zA{v:Zv}{b:Nat}:b∈zvX v↔b=v.P∨Zin v b:=by
 unfold zvX Zin;simp only[kJ,List.flatMap_cons,List.flatMap_nil,List.append_nil,kM,jT]
 constructor
 · rintro(h|h|h|h)
   · exact .inl h
   · exact .inr ⟨0,by omega,h⟩
   · exact .inr ⟨1,by omega,h⟩
   · exact .inr ⟨2,by omega,h⟩
 · rintro(h|⟨k,hk,h⟩)
   · exact .inl h
   · match k,hk,h with
     |0,_,h=>exact .inr (.inl h)
     |1,_,h=>exact .inr (.inr (.inl h))
     |2,_,h=>exact .inr (.inr (.inr h))
structure PzO(base:Nat)(w:World)(v:Zv)(p:Pz):Prop where
 blk:zQ w v p
 hb:base≤v.P
 row:∀k,k<3→w.ownsRow base 5 1 (v.r k) (p.r k).length (bV (p.r k))
 nd:∀i j g,i<3→j<3→i≠j→(v.r i).ownBlock=some g→(v.r j).ownBlock≠some g
section
variable {base:Nat}{w:World}{v:Zv}{p:Pz}
theorem PzO.types(h:PzO base w v p):∀b∈zvX v,∃cur ty,w.heap[b]? =some (.cells cur ty (0,0))∧(ty=134∨ty=5):=by
 intro b hb;rcases zA.1 hb with rfl|⟨k,hk,hg⟩
 · exact⟨_,_,h.blk,.inl rfl⟩
 · obtain⟨cur,hc⟩:=uD (h.row k hk) hg;exact⟨_,_,hc,.inr rfl⟩
theorem PzO.np(h:PzO base w v p):¬Zin v v.P:=fun⟨k,hk,hg⟩=>by
 obtain⟨cur,hc⟩:=uD (h.row k hk) hg;have hb:w.heap[v.P]? =_:=h.blk;rw[hb,Option.some.injEq,Obj.cells.injEq]at hc;exact absurd hc.2.1 qZ
theorem PzO.lt(h:PzO base w v p):∀b∈zvX v,base≤b∧b<w.heap.size:=by
 intro b hb;rcases zA.1 hb with rfl|⟨k,hk,hg⟩
 · exact⟨h.hb,h.blk.lt⟩
 · exact(h.row k hk).lt b hg
theorem PzO.nocel(h:PzO base w v p):yH w (zvX v):=fun b hb cs f he=>by
 obtain⟨cur,ty,h1,h2⟩:=h.types b hb;rw[he,Option.some.injEq,Obj.cells.injEq]at h1;obtain⟨-,rfl,-⟩:=h1;rcases h2 with h2|h2<;>exact absurd h2 qZ
theorem PzO.mod{X:List Nat}{w':World}(h:PzO base w v p)(hm:Mod X w w')(hd:∀b∈zvX v,b∉X):PzO base w' v p:=
 ⟨(hm.block v.P h.blk.lt (hd _ (zA.2 (.inl rfl)))).trans h.blk,h.hb,fun k hk=>kC (h.row k hk) hm (fun g hg=>hd g (zA.2 (.inr ⟨k,hk,hg⟩))),h.nd⟩
theorem PzO.below{w':World}(h:PzO base w v p)(hb:Below w.heap.size w w'):PzO base w' v p:=h.mod (Mod.of_below (X:=[]) hb) (fun _ _ h=>by cases h)
def yC(base:Nat)(w:World)(v:Zv)(p':Pz)(w':World):Prop:=
 ∃v',v'.P=v.P∧PzO base w' v' p'∧Mod (zvX v) w w'∧∀b∈zvX v',b∈zvX v∨w.heap.size≤b
theorem PzO.res(h:PzO base w v p):yC base w v p w:=⟨v,rfl,h,Mod.refl _ _,fun _ hb=>.inl hb⟩
theorem PzO.res_below{w':World}(h:PzO base w v p)(hb:Below w.heap.size w w'):yC base w v p w':=⟨v,rfl,h.below hb,Mod.of_below hb,fun _ hb=>.inl hb⟩
theorem yC.trans{w1 w2:World}{v1:Zv}{p2:Pz}(h1:v1.P=v.P∧Mod (zvX v) w w1∧∀b∈zvX v1,b∈zvX v∨w.heap.size≤b)(h2:yC base w1 v1 p2 w2):yC base w v p2 w2:=by
 obtain⟨e1,hm,hx⟩:=h1;obtain⟨v2,a1,a4,a5,a6⟩:=h2;refine⟨v2,a1.trans e1,a4,hm.trans a5 hx,fun b hb=>?_⟩;rcases a6 b hb with h|h
 · exact hx b h
 · exact qZd
theorem yC.pre{w1 w2:World}{p2:Pz}(hb:Below w.heap.size w w1)(h2:yC base w1 v p2 w2):yC base w v p2 w2:=yC.trans ⟨rfl,Mod.of_below hb,fun _ hb=>.inl hb⟩ h2
theorem PzO.reblk{v':Zv}{p':Pz}{w':World}(h:PzO base w v p)(hm:Mod [v.P] w w')(hP:v'.P=v.P)(hb:zQ w' v' p')(hr:∀k,k<3→(v'.r k=v.r k∧p'.r k=p.r k)∨(v'.r k=.slice none 0 0∧p'.r k=[])):yC base w v p' w':=by
 have hn:∀k,k<3→∀g,(v'.r k).ownBlock=some g→(v.r k).ownBlock=some g:=fun k hk g hg=>by
  rcases hr k hk with⟨e,-⟩|⟨e,-⟩
  · rw[←e];exact hg
  · rw[e]at hg;cases hg
 refine⟨v',hP,⟨hb,by rw[hP];exact h.hb,fun k hk=>?_,fun i j g hi hj hne h1 h2=>h.nd i j g hi hj hne (hn i hi g h1) (hn j hj g h2)⟩,hm.mono (fun b hb=>zA.2 (.inl (jW.1 hb))),fun b hb=>.inl ?_⟩
 · rcases hr k hk with⟨e1,e2⟩|⟨e1,e2⟩
   · rw[e1,e2];exact kC (h.row k hk) hm (fun g hg hx=>h.np ⟨k,hk,by rw[←jW.1 hx];exact hg⟩)
   · rw[e1,e2];exact kD w' base 5 1
 · rcases zA.1 hb with rfl|⟨k,hk,hg⟩
   · exact zA.2 (.inl hP)
   · exact zA.2 (.inr ⟨k,hk,hn k hk b hg⟩)
theorem PzO.one{p':Pz}(h:PzO base w v p)(i:Nat)(x:Value)(he:(wN p v).set i x=wN p' v)(hr:∀k,k<3→p'.r k=p.r k):yC base w v p' (w.setCell ⟨v.P,i,none⟩ x):=
 h.reblk ((Mod.refl _ _).setCell (a:=⟨v.P,i,none⟩) (.inl qV) _) rfl (h.blk.put i x rfl he) (fun k hk=>.inl ⟨rfl,hr k hk⟩)
theorem PzO.grow(h:PzO base w v p){k:Nat}(hk:k<3){w2:World}{xs:List Int}{v':Value}(hg:w.grownBy w2 (v.r k).ownBlock)(ho:w2.ownsRow base 5 1 v' xs.length (bV xs))(hn:∀g,v'.ownBlock=some g→(v.r k).ownBlock=some g∨w.heap.size≤g):
 yC base w v (p.sr xs k) (w2.setCell ⟨v.P,k+1,none⟩ v'):=by
 have hm:Mod ((v.r k).ownBlock.toList) w w2:=Mod.of_grown hg (fun g e=>by simp[e]);have hnp:(v.r k).ownBlock≠some v.P:=fun hx=>h.np ⟨k,hk,hx⟩;have hM:Mod [v.P] w2 (w2.setCell ⟨v.P,k+1,none⟩ v'):=(Mod.refl _ _).setCell (a:=⟨v.P,k+1,none⟩) (.inl qV) _;have hP:v.P<w.heap.size:=h.blk.lt;have hb2:zQ w2 v p:=h.blk.keep hg hnp;have hv':∀g,v'.ownBlock=some g→g∉[v.P]:=fun g hg' hx=>by
  rw[jW.1 hx]at hg';rcases hn _ hg' with h1|h1
  · exact hnp h1
  · omega
 have hnew:∀j g,j<3→j≠k→(v.r j).ownBlock=some g→v'.ownBlock≠some g:=fun j g hj hjk h1 h2=>by
  rcases hn g h2 with h3|h3
  · exact h.nd j k g hj hk hjk h1 h3
  · have :=((h.row j hj).lt g h1).2;omega
 have e1:∀j,(v.sr k v').r j=if j=k then v' else v.r j:=fun _=>rfl;have e2:∀j,j<3→(p.sr xs k).r j=if j=k then xs else p.r j:=fun j hj=>by
  match k,j,hk,hj with
  |0,0,_,_=>rfl
  |0,1,_,_=>rfl
  |0,2,_,_=>rfl
  |1,0,_,_=>rfl
  |1,1,_,_=>rfl
  |1,2,_,_=>rfl
  |2,0,_,_=>rfl
  |2,1,_,_=>rfl
  |2,2,_,_=>rfl
 refine⟨v.sr k v',rfl,⟨hb2.put (v':=v.sr k v') (k+1) v' rfl ?_,h.hb,fun j hj=>?_,fun i j g hi hj hne h1 h2=>?_⟩,(hm.mono (fun b hb=>zA.2 (.inr ⟨k,hk,jT.1 hb⟩))).trans hM (fun g hg'=>.inl (zA.2 (.inl (jW.1 hg')))),fun b hb=>?_⟩
 · match k,hk with
   |0,_=>rfl
   |1,_=>rfl
   |2,_=>rfl
 · rw[e1,e2 j hj]
   by_cases hjk:j=k
   · rw[if_pos hjk,if_pos hjk];exact kC ho hM hv'
   · rw[if_neg hjk,if_neg hjk];exact kC (kC (h.row j hj) hm (fun g hg' hx=>h.nd j k g hj hk hjk hg' (jT.1 hx))) hM (fun g hg' hx=>h.np ⟨j,hj,by rw[←jW.1 hx];exact hg'⟩)
 · rw[e1]at h1 h2
   by_cases hik:i=k
   · rw[if_pos hik]at h1;rw[if_neg (fun e=>hne (hik.trans e.symm))]at h2;exact hnew j g hj (fun e=>hne (hik.trans e.symm)) h2 h1
   · rw[if_neg hik]at h1
     by_cases hjk:j=k
     · rw[if_pos hjk]at h2;exact hnew i g hi hik h1 h2
     · rw[if_neg hjk]at h2;exact h.nd i j g hi hj hne h1 h2
 · rcases zA.1 hb with rfl|⟨j,hj,hg'⟩
   · exact .inl (zA.2 (.inl rfl))
   · rw[e1]at hg'
     by_cases hjk:j=k
     · rw[if_pos hjk]at hg';rcases hn b hg' with h1|h1
       · exact .inl (zA.2 (.inr ⟨k,hk,h1⟩))
       · exact .inr h1
     · rw[if_neg hjk]at hg';exact .inl (zA.2 (.inr ⟨j,hj,hg'⟩))
end
def Uj(c:Cg):List Value:=[.bool c.told,.int .i64 c.sg.kind,.int .i64 c.sg.code,.bool c.sg.has,.string c.sg.text,.int .i64 c.row,.int .i64 c.col,.int .i64 c.sh.k,.int .i64 c.sh.a,.int .i64 c.sh.n]
structure Tv where
 M:Nat
 z:Zv
 a:Sv
 b:Sv
 ba:Value
 bf:Value
 vc:Value
def Jv(t:Tm)(v:Tv):List Value:=[.pointer (some ⟨v.z.P,0,none⟩),.pointer (some ⟨v.a.S,0,none⟩),.pointer (some ⟨v.b.S,0,none⟩),.int .i64 (if t.use then 1 else 0),.int .u32 t.modes,.string t.title,v.ba,v.bf,v.vc]
structure TmO(base:Nat)(w:World)(v:Tv)(t:Tm):Prop where
 blk:w.heap[v.M]? =some (.cells (Jv t v).toArray 78 (0,0))
 hb:base≤v.M
 z:PzO base w v.z t.pz
 a:ScO base w v.a t.s0
 b:ScO base w v.b t.s1
 ad:v.ba=.pointer none∨v.ba=.pointer (some ⟨v.M,6,none⟩)
 bu:w.ownsRow base 5 1 v.bf t.rep.length (Lib.byteCells t.rep)
 ch:w.ownsRow base 96 10 v.vc t.ch.length (uY Uj t.ch)
 ab:∀x∈scX v.a,x∉scX v.b
 bz:∀x,v.bf.ownBlock=some x→x∉zvX v.z
def tmX(v:Tv):List Nat:=v.M::(zvX v.z++(scX v.a++(scX v.b++(v.bf.ownBlock.toList++v.vc.ownBlock.toList))))
def eO(w:World)(b:Nat)(l:List TypeId):Prop:=∃cur ty,w.heap[b]? =some (.cells cur ty (0,0))∧ty∈l
theorem eO.apart{w:World}{b:Nat}{l1 l2:List TypeId}(h1:eO w b l1)(h2:eO w b l2)(hd:∀t∈l1,t∉l2):False:=by
 obtain⟨c1,t1,e1,m1⟩:=h1;obtain⟨c2,t2,e2,m2⟩:=h2;rw[e1,Option.some.injEq,Obj.cells.injEq]at e2;exact hd t1 m1 (by rw[e2.2.1];exact m2)
theorem eO.own{w:World}{base n size:Nat}{e:TypeId}{v:Value}{xs:List Value}(h:w.ownsRow base e size v n xs){g:Nat}(hg:v.ownBlock=some g):eO w g [e]:=by
 obtain⟨cur,hc⟩:=uD h hg;exact⟨_,_,hc,by simp⟩
def qQx:List TypeId:=[128,179,206,175,52,94,225]
theorem ScO.ty{base:Nat}{w:World}{v:Sv}{s:Sc}(h:ScO base w v s):∀b∈scX v,eO w b qQx:=fun b hb=>by
 unfold qQx;rcases kJ.1 hb with rfl|hb
 · exact⟨_,_,h.blk,by simp⟩
 rcases kM.1 hb with hb|hb
 · obtain⟨cur,ty,h1,h2⟩:=h.tabs.types b hb;exact⟨_,_,h1,by rcases h2 with rfl|rfl<;>simp⟩
 · obtain⟨cur,ty,h1,h2⟩:=h.page.types b hb;exact⟨_,_,h1,by rcases h2 with rfl|rfl|rfl|rfl<;>simp⟩
theorem PzO.ty{base:Nat}{w:World}{v:Zv}{p:Pz}(h:PzO base w v p):∀b∈zvX v,eO w b [134,5]:=fun b hb=>by
 obtain⟨cur,ty,h1,h2⟩:=h.types b hb;exact⟨_,_,h1,by rcases h2 with rfl|rfl<;>simp⟩
theorem sQ{w:World}{X:List Nat}{l:List TypeId}(h:∀b∈X,eO w b l)(hl:65∉l):yH w X:=fun b hb cs f he=>by
 obtain⟨cur,ty,h1,h2⟩:=h b hb;rw[he,Option.some.injEq,Obj.cells.injEq]at h1;exact hl (by rw[h1.2.1];exact h2)
section
variable {base:Nat}{w:World}{v:Tv}{t:Tm}
theorem TmO.tyM(h:TmO base w v t):eO w v.M [78]:=⟨_,_,h.blk,by simp⟩
theorem TmO.tyX(h:TmO base w v t):∀b∈tmX v,eO w b (78::134::5::96::qQx):=fun b hb=>by
 have up:∀{l:List TypeId},eO w b l→(∀t∈l,t∈78::134::5::96::qQx)→eO w b (78::134::5::96::qQx):=fun⟨c,t,h1,h2⟩ hl=>⟨c,t,h1,hl t h2⟩;unfold tmX at hb;rcases kJ.1 hb with rfl|hb
 · exact up h.tyM qZ
 rcases kM.1 hb with hb|hb
 · exact up (h.z.ty b hb) qZ
 rcases kM.1 hb with hb|hb
 · exact up (h.a.ty b hb) qZ
 rcases kM.1 hb with hb|hb
 · exact up (h.b.ty b hb) qZ
 rcases kM.1 hb with hb|hb
 · exact up (eO.own h.bu (jT.1 hb)) qZ
 · exact up (eO.own h.ch (jT.1 hb)) qZ
theorem TmO.lt(h:TmO base w v t):∀b∈tmX v,base≤b∧b<w.heap.size:=fun b hb=>by
 unfold tmX at hb;rcases kJ.1 hb with rfl|hb
 · exact⟨h.hb,(kN.1 h.blk).1⟩
 rcases kM.1 hb with hb|hb
 · exact h.z.lt b hb
 rcases kM.1 hb with hb|hb
 · exact h.a.lt b hb
 rcases kM.1 hb with hb|hb
 · exact h.b.lt b hb
 rcases kM.1 hb with hb|hb
 · exact h.bu.lt b (jT.1 hb)
 · exact h.ch.lt b (jT.1 hb)
theorem gJ{x:Nat}:x∈tmX v↔x=v.M∨x∈zvX v.z∨x∈scX v.a∨x∈scX v.b∨v.bf.ownBlock=some x∨v.vc.ownBlock=some x:=by
 unfold tmX;simp only[kJ,kM,jT]
theorem TmO.mod{X:List Nat}{w':World}(h:TmO base w v t)(hm:Mod X w w')(hX:yH w X)(hd:∀b∈tmX v,b∉X):TmO base w' v t:=
 ⟨(hm.block v.M (kN.1 h.blk).1 (hd _ (gJ.2 (.inl rfl)))).trans h.blk,h.hb,h.z.mod hm (fun b hb=>hd b (gJ.2 (.inr (.inl hb)))),h.a.mod hm hX (fun b hb=>hd b (gJ.2 (.inr (.inr (.inl hb))))),h.b.mod hm hX (fun b hb=>hd b (gJ.2 (.inr (.inr (.inr (.inl hb)))))),h.ad,
  kC h.bu hm (fun g hg=>hd g (gJ.2 (.inr (.inr (.inr (.inr (.inl hg))))))),kC h.ch hm (fun g hg=>hd g (gJ.2 (.inr (.inr (.inr (.inr (.inr hg))))))),h.ab,h.bz⟩
theorem TmO.below{w':World}(h:TmO base w v t)(hb:Below w.heap.size w w'):TmO base w' v t:=h.mod (Mod.of_below (X:=[]) hb) (yH.nil w) (fun _ _ h=>by cases h)
structure TmV(w:World)(v v':Tv):Prop where
 M:v'.M=v.M
 z:v'.z.P=v.z.P
 a:v'.a.S=v.a.S
 b:v'.b.S=v.b.S
 x:∀x∈tmX v',x∈tmX v∨w.heap.size≤x
def zB(base:Nat)(w:World)(v:Tv)(t':Tm)(w':World):Prop:=∃v',TmV w v v'∧TmO base w' v' t'∧Mod (tmX v) w w'
theorem TmO.res(h:TmO base w v t):zB base w v t w:=⟨v,⟨rfl,rfl,rfl,rfl,fun _ hb=>.inl hb⟩,h,Mod.refl _ _⟩
theorem zB.trans{w1 w2:World}{v1:Tv}{t2:Tm}(h1:TmV w v v1)(hm:Mod (tmX v) w w1)(h2:zB base w1 v1 t2 w2):zB base w v t2 w2:=by
 obtain⟨v2,k,a4,a5⟩:=h2;refine⟨v2,⟨k.M.trans h1.M,k.z.trans h1.z,k.a.trans h1.a,k.b.trans h1.b,fun x hx=>?_⟩,a4,hm.trans a5 h1.x⟩;rcases k.x x hx with h|h
 · exact h1.x x h
 · exact qZd
theorem zB.pre{w1 w2:World}{t2:Tm}(hb:Below w.heap.size w w1)(h2:zB base w1 v t2 w2):zB base w v t2 w2:=zB.trans ⟨rfl,rfl,rfl,rfl,fun _ hb=>.inl hb⟩ (Mod.of_below hb) h2
theorem TmO.za(h:TmO base w v t):∀x∈zvX v.z,x∉scX v.a:=fun x h1 h2=>(h.z.ty x h1).apart (h.a.ty x h2) qZ
theorem TmO.zb(h:TmO base w v t):∀x∈zvX v.z,x∉scX v.b:=fun x h1 h2=>(h.z.ty x h1).apart (h.b.ty x h2) qZ
theorem TmO.fa(h:TmO base w v t):∀x,v.bf.ownBlock=some x→x∉scX v.a:=fun x h1 h2=>(eO.own h.bu h1).apart (h.a.ty x h2) qZ
theorem TmO.fb(h:TmO base w v t):∀x,v.bf.ownBlock=some x→x∉scX v.b:=fun x h1 h2=>(eO.own h.bu h1).apart (h.b.ty x h2) qZ
theorem TmO.ca(h:TmO base w v t):∀x,v.vc.ownBlock=some x→x∉scX v.a:=fun x h1 h2=>(eO.own h.ch h1).apart (h.a.ty x h2) qZ
theorem TmO.cb(h:TmO base w v t):∀x,v.vc.ownBlock=some x→x∉scX v.b:=fun x h1 h2=>(eO.own h.ch h1).apart (h.b.ty x h2) qZ
theorem TmO.cz(h:TmO base w v t):∀x,v.vc.ownBlock=some x→x∉zvX v.z:=fun x h1 h2=>(eO.own h.ch h1).apart (h.z.ty x h2) qZ
theorem TmO.mz(h:TmO base w v t):v.M∉zvX v.z:=fun h2=>h.tyM.apart (h.z.ty _ h2) qZ
theorem TmO.ma(h:TmO base w v t):v.M∉scX v.a:=fun h2=>h.tyM.apart (h.a.ty _ h2) qZ
theorem TmO.mb(h:TmO base w v t):v.M∉scX v.b:=fun h2=>h.tyM.apart (h.b.ty _ h2) qZ
theorem TmO.mf(h:TmO base w v t):v.bf.ownBlock≠some v.M:=fun h2=>h.tyM.apart (eO.own h.bu h2) qZ
theorem TmO.mc(h:TmO base w v t):v.vc.ownBlock≠some v.M:=fun h2=>h.tyM.apart (eO.own h.ch h2) qZ
theorem TmO.ltM(h:TmO base w v t):v.M<w.heap.size:=(kN.1 h.blk).1
theorem TmO.withZ{p':Pz}{w':World}(h:TmO base w v t)(hp:yC base w v.z p' w'):zB base w v {t with pz:=p'} w':=by
 obtain⟨z',e1,hO,hm,hx⟩:=hp;refine⟨{v with z:=z'},⟨rfl,e1,rfl,rfl,fun x hx2=>?_⟩,⟨?_,h.hb,hO,h.a.mod hm h.z.nocel (fun b hb hz=>h.za b hz hb),h.b.mod hm h.z.nocel (fun b hb hz=>h.zb b hz hb),h.ad,kC h.bu hm h.bz,kC h.ch hm h.cz,h.ab,fun x h1 h2=>?_⟩,hm.mono (fun b hb=>gJ.2 (.inr (.inl hb)))⟩
 · rcases gJ.1 hx2 with h1|h1|h1
   · exact .inl (gJ.2 (.inl h1))
   · exact(hx x h1).imp (fun h=>gJ.2 (.inr (.inl h))) id
   · exact .inl (gJ.2 (.inr (.inr h1)))
 · have :=(hm.block v.M h.ltM h.mz).trans h.blk;rw[this];unfold Jv;rw[e1]
 · rcases hx x h2 with h3|h3
   · exact h.bz x h1 h3
   · have :=(h.bu.lt x h1).2;omega
theorem TmO.withA{s':Sc}{w':World}(h:TmO base w v t)(hp:pU base w v.a s' w'):zB base w v {t with s0:=s'} w':=by
 obtain⟨a',e1,e2,e3,hO,hm,hx⟩:=hp;have hc:yH w (scX v.a):=sQ h.a.ty qZ;refine⟨{v with a:=a'},⟨rfl,rfl,e1,rfl,fun x hx2=>?_⟩,⟨?_,h.hb,h.z.mod hm h.za,hO,h.b.mod hm hc (fun b hb hz=>h.ab b hz hb),h.ad,kC h.bu hm h.fa,kC h.ch hm h.ca,fun x h1 h2=>?_,h.bz⟩,hm.mono (fun b hb=>gJ.2 (.inr (.inr (.inl hb))))⟩
 · rcases gJ.1 hx2 with h1|h1|h1|h1
   · exact .inl (gJ.2 (.inl h1))
   · exact .inl (gJ.2 (.inr (.inl h1)))
   · exact(hx x h1).imp (fun h=>gJ.2 (.inr (.inr (.inl h)))) id
   · exact .inl (gJ.2 (.inr (.inr (.inr h1))))
 · have :=(hm.block v.M h.ltM h.ma).trans h.blk;rw[this];unfold Jv;rw[e1]
 · rcases hx x h1 with h3|h3
   · exact h.ab x h3 h2
   · have :=(h.b.lt x h2).2;omega
theorem TmO.withB{s':Sc}{w':World}(h:TmO base w v t)(hp:pU base w v.b s' w'):zB base w v {t with s1:=s'} w':=by
 obtain⟨a',e1,e2,e3,hO,hm,hx⟩:=hp;have hc:yH w (scX v.b):=sQ h.b.ty qZ;refine⟨{v with b:=a'},⟨rfl,rfl,rfl,e1,fun x hx2=>?_⟩,⟨?_,h.hb,h.z.mod hm h.zb,h.a.mod hm hc h.ab,hO,h.ad,kC h.bu hm h.fb,kC h.ch hm h.cb,fun x h1 h2=>?_,h.bz⟩,hm.mono (fun b hb=>gJ.2 (.inr (.inr (.inr (.inl hb)))))⟩
 · rcases gJ.1 hx2 with h1|h1|h1|h1|h1
   · exact .inl (gJ.2 (.inl h1))
   · exact .inl (gJ.2 (.inr (.inl h1)))
   · exact .inl (gJ.2 (.inr (.inr (.inl h1))))
   · exact(hx x h1).imp (fun h=>gJ.2 (.inr (.inr (.inr (.inl h))))) id
   · exact .inl (gJ.2 (.inr (.inr (.inr (.inr h1)))))
 · have :=(hm.block v.M h.ltM h.mb).trans h.blk;rw[this];unfold Jv;rw[e1]
 · rcases hx x h2 with h3|h3
   · exact h.ab x h1 h3
   · have :=(h.a.lt x h1).2;omega
def eT(v:Tv)(t:Tm):Sv:=if t.use then v.b else v.a
theorem TmO.cur(h:TmO base w v t):ScO base w (eT v t) (iC t):=by
 unfold eT iC
 by_cases hu:t.use=true
 · rw[if_pos hu,if_pos hu];exact h.b
 · rw[if_neg hu,if_neg hu];exact h.a
theorem TmO.did{s':Sc}{w':World}(h:TmO base w v t)(hp:pU base w (eT v t) s' w'):zB base w v (Xp t s') w':=by
 unfold eT at hp;unfold Xp
 by_cases hu:t.use=true
 · rw[if_pos hu]at hp ⊢;exact h.withB hp
 · rw[if_neg hu]at hp ⊢;exact h.withA hp
end
def rR(c:Int):Int:=if c<128 then 1 else if c<224 then 2 else if c<240 then 3 else 4
def loC(c:Int):Int:=if c=224 then 160 else if c=240 then 144 else 128
def hiC(c:Int):Int:=if c=237 then 159 else if c=244 then 143 else 191
theorem Ut(c:Int)(h:0≤c∧c<128∨194≤c∧c≤244)(w:World):Calls jG 176 #[.int .u8 c] w fun e w'=>e=.returned (.int .i64 (rR c))∧w=w':=by
 unfold rR
 by_cases h1:c<128
 · rw[if_pos h1]
   go_enter Tryz.func176,Tryz.ntmps176
   go_wp2
   go_ret
   exact⟨rfl,rfl⟩
 rw[if_neg h1];have h1':128≤c:=by omega
 have h2':¬c<194:=by omega
 have h3':¬244<c:=by omega
 by_cases h2:c<224
 · rw[if_pos h2]
   go_enter Tryz.func176,Tryz.ntmps176
   go_wp2
   go_ret
   exact⟨rfl,rfl⟩
 rw[if_neg h2];have h2b:224≤c:=by omega
 by_cases h3:c<240
 · rw[if_pos h3]
   go_enter Tryz.func176,Tryz.ntmps176
   go_wp2
   go_ret
   exact⟨rfl,rfl⟩
 rw[if_neg h3];have h3b:240≤c:=by omega
 go_enter Tryz.func176,Tryz.ntmps176
 go_wp2
 go_ret
 exact⟨rfl,rfl⟩
theorem tL(c:Int)(w:World):Calls jG 177 #[.int .u8 c] w fun e w'=>e=.returned (.tuple #[.int .u8 (loC c),.int .u8 (hiC c)])∧w=w':=by
 unfold loC hiC
 by_cases h1:c=224
 · subst h1
   go_enter Tryz.func177,Tryz.ntmps177
   go_wp2
   go_ret2
   exact⟨rfl,rfl⟩
 by_cases h2:c=237
 · subst h2
   go_enter Tryz.func177,Tryz.ntmps177
   go_wp2
   go_ret2
   exact⟨rfl,rfl⟩
 by_cases h3:c=240
 · subst h3
   go_enter Tryz.func177,Tryz.ntmps177
   go_wp2
   go_ret2
   exact⟨rfl,rfl⟩
 by_cases h4:c=244
 · subst h4
   go_enter Tryz.func177,Tryz.ntmps177
   go_wp2
   go_ret2
   exact⟨rfl,rfl⟩
 rw[if_neg h1,if_neg h3,if_neg h2,if_neg h4]
 go_enter Tryz.func177,Tryz.ntmps177
 go_wp2
 go_ret2
 exact⟨rfl,rfl⟩
theorem zY(w:World)(r:Option Nat):w.grownBy w r:=⟨rfl,rfl,rfl,jD _,fun _ _ _=>rfl⟩
theorem vU{w w':World}{b i:Nat}(h:w.grownBy w' (some b))(v:Value):w.grownBy (w'.setCell ⟨b,i,none⟩ v) (some b):=
 ⟨h.os,h.tape,h.output,by rw[show(w'.setCell ⟨b,i,none⟩ v).heap.size=w'.heap.size from by simp[uB]];exact h.size,fun k hk hne=>(Below.heap_setCell w' _ v k (by intro e;exact hne (by simp[e]))).trans (h.block k hk hne)⟩
theorem dK{w w':World}{r:Option Nat}(h:w.grownBy w' r)(o:Obj):w.grownBy (w'.alloc o) r:=
 ⟨h.os,h.tape,h.output,by simp;have :=h.size;omega,fun k hk hne=>(Below.heap_alloc w' o k (by have :=h.size;omega)).trans (h.block k hk hne)⟩
theorem ZN{a b c:World}{r:Option Nat}(h:a.grownBy b r)(k:b.grownBy c r):a.grownBy c r:=
 ⟨k.os.trans h.os,k.tape.trans h.tape,k.output.trans h.output,jI h.size k.size,fun i hi hne=>(k.block i (by have :=h.size;omega) hne).trans (h.block i hi hne)⟩
def zV(w:World)(b:Nat)(d:Dk):Prop:=
 ((w.cell? ⟨b,0,none⟩=some (.int .i32 d.n)∧w.frozen? ⟨b,0,none⟩=false)∧(w.cell? ⟨b,1,none⟩=some (.int .i64 d.need)∧w.frozen? ⟨b,1,none⟩=false)∧(w.cell? ⟨b,2,none⟩=some (.int .i64 d.hv)∧w.frozen? ⟨b,2,none⟩=false)∧(w.cell? ⟨b,3,none⟩=some (.int .u8 d.lo)∧w.frozen? ⟨b,3,none⟩=false)∧(w.cell? ⟨b,4,none⟩=some (.int .u8 d.hi)∧w.frozen? ⟨b,4,none⟩=false))
def OneAt(w':World)(lo:Nat)(v:Value):Option Int→Prop
 |none=>v=.slice none 0 0
 |some r=>∃g,v=.slice (some ⟨g,0,none⟩) 1 1∧lo≤g∧w'.heap[g]? =some (.cells #[.int .i32 r] 21 (0,0))
def Zo(b:Nat)(x:Option Int×Dk)(w:World)(e:Ending)(w':World):Prop:=∃v,e=.returned v∧OneAt w' w.heap.size v x.1∧zV w' b x.2∧w.grownBy w' (some b)
theorem zV.lt{w:World}{b:Nat}{d:Dk}(h:zV w b d):b<w.heap.size:=vG h.1.1
theorem zV.grown{w w':World}{b:Nat}{d:Dk}(h:zV w b d)(hb:Below w.heap.size w w'):zV w' b d:=by
 obtain⟨h0,h1,h2,h3,h4⟩:=h;exact⟨lQ hb h0,lQ hb h1,lQ hb h2,lQ hb h3,lQ hb h4⟩
theorem zV.set0{w:World}{b:Nat}{d:Dk}(h:zV w b d)(x:Int):zV (w.setCell ⟨b,0,none⟩ (.int .i32 x)) b {d with n:=x}:=by
 obtain⟨h0,h1,h2,h3,h4⟩:=h;exact⟨cO h0,pQ h1 (.inr qZ),pQ h2 (.inr qZ),pQ h3 (.inr qZ),pQ h4 (.inr qZ)⟩
theorem zV.set1{w:World}{b:Nat}{d:Dk}(h:zV w b d)(x:Int):zV (w.setCell ⟨b,1,none⟩ (.int .i64 x)) b {d with need:=x}:=by
 obtain⟨h0,h1,h2,h3,h4⟩:=h;exact⟨pQ h0 (.inr qZ),cO h1,pQ h2 (.inr qZ),pQ h3 (.inr qZ),pQ h4 (.inr qZ)⟩
theorem zV.set2{w:World}{b:Nat}{d:Dk}(h:zV w b d)(x:Int):zV (w.setCell ⟨b,2,none⟩ (.int .i64 x)) b {d with hv:=x}:=by
 obtain⟨h0,h1,h2,h3,h4⟩:=h;exact⟨pQ h0 (.inr qZ),pQ h1 (.inr qZ),cO h2,pQ h3 (.inr qZ),pQ h4 (.inr qZ)⟩
theorem zV.set3{w:World}{b:Nat}{d:Dk}(h:zV w b d)(x:Int):zV (w.setCell ⟨b,3,none⟩ (.int .u8 x)) b {d with lo:=x}:=by
 obtain⟨h0,h1,h2,h3,h4⟩:=h;exact⟨pQ h0 (.inr qZ),pQ h1 (.inr qZ),pQ h2 (.inr qZ),cO h3,pQ h4 (.inr qZ)⟩
theorem zV.set4{w:World}{b:Nat}{d:Dk}(h:zV w b d)(x:Int):zV (w.setCell ⟨b,4,none⟩ (.int .u8 x)) b {d with hi:=x}:=by
 obtain⟨h0,h1,h2,h3,h4⟩:=h;exact⟨pQ h0 (.inr qZ),pQ h1 (.inr qZ),pQ h2 (.inr qZ),pQ h3 (.inr qZ),cO h4⟩
theorem Y4:∀f:Fin 256,bits .and .i32 (f.val:Int) 31=(f.val:Int)%32∧bits .and .i32 (f.val:Int) 15=(f.val:Int)%16∧bits .and .i32 (f.val:Int) 7=(f.val:Int)%8:=by decide +kernel
theorem Ze(c:Int)(h0:0≤c)(h1:c<256):bits .and .i32 c 31=c%32∧bits .and .i32 c 15=c%16∧bits .and .i32 c 7=c%8:=by
 have :=Y4 ⟨c.toNat,by omega⟩
 rwa[show(((⟨c.toNat,by omega⟩:Fin 256).val:Nat):Int)=c from by show((c.toNat:Nat):Int)=c;omega]at this
set_option maxHeartbeats 1600000 in
theorem XW(b:Nat)(d:Dk)(c:Int)(w:World)(hd:zV w b d)(h:0≤c∧c<128∨194≤c∧c≤244):
 Calls jG 117 #[.pointer (some ⟨b,0,none⟩),.int .u8 c] w (Zo b (if c<128 then(some c,d)else(none,zU c)) w):=by
 have HS:=Hd (fun w=>Ut c h w);have HB:=Hd (fun w=>tL c w);have HD:=Hd hd;obtain⟨h0,h1,h2,h3,h4⟩:=hd;have c0:=h0.1;have c1:=h1.1;have c2:=h2.1;have c3:=h3.1;have c4:=h4.1;have f0:=h0.2;have f1:=h1.2;have f2:=h2.2;have f3:=h3.2;have f4:=h4.2;have hw:IntKind.i32.wrap c=c:=IntWalk.i32_in _ qJ
 by_cases hA:c<128
 · rw[if_pos hA];rw[show rR c=1 from if_pos hA]at HS;clear hw h0 h1 h2 h3 h4
   go_enter Tryz.func117,Tryz.ntmps117
   go_wp2_with(go_at_call 176;(with_reducible refine(HS.o _).mono ?_);rintro e w1 ⟨rfl,rfl⟩)
   go_ret
   exact⟨_,rfl,⟨w.heap.size,rfl,jD _,jA rfl⟩,HD.o.grown ((jU _ w).alloc (jD _) _),dK (zY _ _) _⟩
 · rw[if_neg hA];have hc0:¬c<0:=by omega
   have hcc:194≤c∧c≤244:=by omega
   have hM:=Ze c qJ qJ
   by_cases hB:c<224
   · rw[show rR c=2 from by unfold rR;rw[if_neg hA,if_pos hB]]at HS;have HL:=Hd (show zU c=⟨bits .and .i32 c 31,1,1,loC c,hiC c⟩from by unfold zU loC hiC;rw[if_pos hB,hM.1];rw[if_neg qJ,if_neg qJ,if_neg qJ,if_neg qJ]);generalize zU c=L at HL ⊢;generalize loC c=lc at HL HB;generalize hiC c=hc at HL HB;clear hM
     go_enter Tryz.func117,Tryz.ntmps117
     go_wp2_with(first|(go_at_call 176;(with_reducible refine(HS.o _).mono ?_);rintro e w1 ⟨rfl,rfl⟩)|(go_at_call 177;(with_reducible refine(HB.o _).mono ?_);rintro e w1 ⟨rfl,rfl⟩))
     go_ret
     rw[HL.o];exact qZj
   by_cases hC:c<240
   · rw[show rR c=3 from by unfold rR;rw[if_neg hA,if_neg hB,if_pos hC]]at HS;have HL:=Hd (show zU c=⟨bits .and .i32 c 15,2,1,loC c,hiC c⟩from by unfold zU loC hiC;rw[if_neg hB,if_pos hC,hM.2.1];rw[if_neg (show ¬c=240 by omega),if_neg (show ¬c=244 by omega)]);generalize zU c=L at HL ⊢;generalize loC c=lc at HL HB;generalize hiC c=hc at HL HB;clear hM
     go_enter Tryz.func117,Tryz.ntmps117
     go_wp2_with(first|(go_at_call 176;(with_reducible refine(HS.o _).mono ?_);rintro e w1 ⟨rfl,rfl⟩)|(go_at_call 177;(with_reducible refine(HB.o _).mono ?_);rintro e w1 ⟨rfl,rfl⟩))
     go_ret
     rw[HL.o];exact qZj
   rw[show rR c=4 from by unfold rR;rw[if_neg hA,if_neg hB,if_neg hC]]at HS;have HL:=Hd (show zU c=⟨bits .and .i32 c 7,3,1,loC c,hiC c⟩from by unfold zU loC hiC;rw[if_neg hB,if_neg hC,hM.2.2];rw[if_neg (show ¬c=224 by omega),if_neg (show ¬c=237 by omega)]);generalize zU c=L at HL ⊢;generalize loC c=lc at HL HB;generalize hiC c=hc at HL HB;clear hM
   go_enter Tryz.func117,Tryz.ntmps117
   go_wp2_with(first|(go_at_call 176;(with_reducible refine(HS.o _).mono ?_);rintro e w1 ⟨rfl,rfl⟩)|(go_at_call 177;(with_reducible refine(HB.o _).mono ?_);rintro e w1 ⟨rfl,rfl⟩))
   go_ret
   rw[HL.o];exact qZj
theorem XU(c:Int)(w:World):Calls jG 176 #[.int .u8 c] w fun e w'=>e=.returned (.int .i64 (cZ c))∧w=w':=by
 unfold cZ
 by_cases h1:c<128
 · rw[if_pos h1]
   go_enter Tryz.func176,Tryz.ntmps176
   go_wp2
   go_ret
   exact⟨rfl,rfl⟩
 rw[if_neg h1];have h1':128≤c:=by omega
 by_cases h2:c<194
 · rw[if_pos (.inl h2)]
   go_enter Tryz.func176,Tryz.ntmps176
   go_wp2
   go_ret
   exact⟨rfl,rfl⟩
 by_cases h3:244<c
 · rw[if_pos (.inr h3)]
   go_enter Tryz.func176,Tryz.ntmps176
   go_wp2
   go_ret
   exact⟨rfl,rfl⟩
 rw[if_neg qJ]
 by_cases h4:c<224
 · rw[if_pos h4]
   go_enter Tryz.func176,Tryz.ntmps176
   go_wp2
   go_ret
   exact⟨rfl,rfl⟩
 rw[if_neg h4];have h4':224≤c:=by omega
 by_cases h5:c<240
 · rw[if_pos h5]
   go_enter Tryz.func176,Tryz.ntmps176
   go_wp2
   go_ret
   exact⟨rfl,rfl⟩
 rw[if_neg h5];have h5':240≤c:=by omega
 go_enter Tryz.func176,Tryz.ntmps176
 go_wp2
 go_ret
 exact⟨rfl,rfl⟩
section
variable {w:World}{v:Zv}{p:Pz}
theorem zQ.d0(h:zQ w v p)(x:Int):zQ (w.setCell ⟨v.P,9,none⟩ (.int .i32 x)) v {p with dec:={p.dec with n:=x}}:=h.put 9 _ rfl rfl
theorem zQ.d1(h:zQ w v p)(x:Int):zQ (w.setCell ⟨v.P,10,none⟩ (.int .i64 x)) v {p with dec:={p.dec with need:=x}}:=h.put 10 _ rfl rfl
theorem zQ.d2(h:zQ w v p)(x:Int):zQ (w.setCell ⟨v.P,11,none⟩ (.int .i64 x)) v {p with dec:={p.dec with hv:=x}}:=h.put 11 _ rfl rfl
theorem zQ.d3(h:zQ w v p)(x:Int):zQ (w.setCell ⟨v.P,12,none⟩ (.int .u8 x)) v {p with dec:={p.dec with lo:=x}}:=h.put 12 _ rfl rfl
theorem zQ.d4(h:zQ w v p)(x:Int):zQ (w.setCell ⟨v.P,13,none⟩ (.int .u8 x)) v {p with dec:={p.dec with hi:=x}}:=h.put 13 _ rfl rfl
theorem aK{w:World}{lo n size:Nat}{ty:TypeId}{cs:List Value}(hl:cs.length=n*size)(hlo:lo≤w.heap.size)(hn:n≤maxLen):(w.alloc (.cells cs.toArray ty)).ownsRow lo ty size (.slice (some ⟨w.heap.size,0,none⟩) n n) n cs:=
 ⟨hl,.inr ⟨w.heap.size,n,_,rfl,hlo,jA rfl,jD _,hn,by simp[hl],by rw[←hl];exact List.take_length⟩⟩
def Kf(w':World)(lo:Nat)(u:Value)(rs:List Int):Prop:=w'.ownsRow lo 21 1 u rs.length (rs.map (.int .i32))
def sC(v:Zv)(p:Pz)(x:List Int×Dk)(w:World)(e:Ending)(w':World):Prop:=∃u,e=.returned u∧Kf w' w.heap.size u x.1∧zQ w' v {p with dec:=x.2}∧w.grownBy w' (some v.P)
theorem KH{w:World}{r:Int}{lo:Nat}(h:lo≤w.heap.size):Kf (w.alloc (.cells #[.int .i32 r] 21)) lo (.slice (some ⟨w.heap.size,0,none⟩) 1 1) [r]:=aK (n:=1) (cs:=[.int .i32 r]) rfl h qU
theorem xI(w:World)(lo:Nat):Kf w lo (.slice none 0 0) []:=kD w lo 21 1
set_option maxHeartbeats 1600000 in
theorem xX(h:zQ w v p)(c:Int)(hc:0≤c∧c≤255):
 Calls jG 117 #[.pointer (some ⟨v.P,9,none⟩),.int .u8 c] w (sC v p (bQ p.dec c) w):=by
 have HS:=Hd (fun w=>XU c w);have HB:=Hd (fun w=>tL c w);have HD:=Hd h;obtain⟨c0,f0⟩:=at_ h 9 (.int .i32 p.dec.n) rfl;obtain⟨c1,f1⟩:=at_ h 10 (.int .i64 p.dec.need) rfl;obtain⟨c2,f2⟩:=at_ h 11 (.int .i64 p.dec.hv) rfl;obtain⟨c3,f3⟩:=at_ h 12 (.int .u8 p.dec.lo) rfl;obtain⟨c4,f4⟩:=at_ h 13 (.int .u8 p.dec.hi) rfl;have hw:IntKind.i32.wrap c=c:=IntWalk.i32_in _ qJ;clear h;unfold bQ
 by_cases hz:cZ c=0
 · rw[if_pos hz];rw[hz]at HS;clear hz
   go_enter Tryz.func117,Tryz.ntmps117
   go_wp2_with(go_at_call 176;(with_reducible refine(HS.o _).mono ?_);rintro e w1 ⟨rfl,rfl⟩)
   go_ret
   exact⟨_,rfl,KH (jD _),HD.o.below ((jU _ w).alloc (jD _) _),dK (zY _ _) _⟩
 rw[if_neg hz]
 by_cases ho:cZ c=1
 · rw[if_pos ho];rw[ho]at HS;clear hz ho
   go_enter Tryz.func117,Tryz.ntmps117
   go_wp2_with(go_at_call 176;(with_reducible refine(HS.o _).mono ?_);rintro e w1 ⟨rfl,rfl⟩)
   go_ret
   exact⟨_,rfl,KH (jD _),HD.o.below ((jU _ w).alloc (jD _) _),dK (zY _ _) _⟩
 rw[if_neg ho];have hM:=Ze c qJ qJ;have hc1:194≤c∧c≤244:=by
  unfold cZ at hz ho
  constructor
  · rcases Int.lt_or_le c 128 with h|h
    · exact absurd (if_pos h) ho
    · rcases Int.lt_or_le c 194 with h2|h2
      · exact absurd (by rw[if_neg qJ,if_pos (.inl h2)]) hz
      · exact h2
  · rcases Int.lt_or_le 244 c with h2|h2
    · exact absurd (by rw[if_neg qJ,if_pos (.inr h2)]) hz
    · exact h2
 have hA:¬c<128:=by omega
 have hA2:¬(c<194∨244<c):=by omega
 clear hz ho
 by_cases hB:c<224
 · rw[show cZ c=2 from by unfold cZ;rw[if_neg hA,if_neg hA2,if_pos hB]]at HS;have HL:=Hd (show zU c=⟨bits .and .i32 c 31,1,1,loC c,hiC c⟩from by unfold zU loC hiC;rw[if_pos hB,hM.1];rw[if_neg qJ,if_neg qJ,if_neg qJ,if_neg qJ]);generalize zU c=L at HL ⊢;generalize loC c=lc at HL HB;generalize hiC c=hc at HL HB;clear hM hA2
   go_enter Tryz.func117,Tryz.ntmps117
   go_wp2_with(first|(go_at_call 176;(with_reducible refine(HS.o _).mono ?_);rintro e w1 ⟨rfl,rfl⟩)|(go_at_call 177;(with_reducible refine(HB.o _).mono ?_);rintro e w1 ⟨rfl,rfl⟩))
   go_ret
   rw[HL.o];exact qZk
 by_cases hC:c<240
 · rw[show cZ c=3 from by unfold cZ;rw[if_neg hA,if_neg hA2,if_neg hB,if_pos hC]]at HS;have HL:=Hd (show zU c=⟨bits .and .i32 c 15,2,1,loC c,hiC c⟩from by unfold zU loC hiC;rw[if_neg hB,if_pos hC,hM.2.1];rw[if_neg (show ¬c=240 by omega),if_neg (show ¬c=244 by omega)]);generalize zU c=L at HL ⊢;generalize loC c=lc at HL HB;generalize hiC c=hc at HL HB;clear hM hA2
   go_enter Tryz.func117,Tryz.ntmps117
   go_wp2_with(first|(go_at_call 176;(with_reducible refine(HS.o _).mono ?_);rintro e w1 ⟨rfl,rfl⟩)|(go_at_call 177;(with_reducible refine(HB.o _).mono ?_);rintro e w1 ⟨rfl,rfl⟩))
   go_ret
   rw[HL.o];exact qZk
 rw[show cZ c=4 from by unfold cZ;rw[if_neg hA,if_neg hA2,if_neg hB,if_neg hC]]at HS;have HL:=Hd (show zU c=⟨bits .and .i32 c 7,3,1,loC c,hiC c⟩from by unfold zU loC hiC;rw[if_neg hB,if_neg hC,hM.2.2];rw[if_neg (show ¬c=224 by omega),if_neg (show ¬c=237 by omega)]);generalize zU c=L at HL ⊢;generalize loC c=lc at HL HB;generalize hiC c=hc at HL HB;clear hM hA2
 go_enter Tryz.func117,Tryz.ntmps117
 go_wp2_with(first|(go_at_call 176;(with_reducible refine(HS.o _).mono ?_);rintro e w1 ⟨rfl,rfl⟩)|(go_at_call 177;(with_reducible refine(HB.o _).mono ?_);rintro e w1 ⟨rfl,rfl⟩))
 go_ret
 rw[HL.o];exact qZk
end
section
variable {base:Nat}{w:World}{v:Zv}{p:Pz}
theorem zQ.puts{v':Zv}{p':Pz}(h:zQ w v p)(o:Nat)(vs:List Value)(ho:o+vs.length≤14)(hP:v'.P=v.P)(he:(wN p v).take o++(vs++(wN p v).drop (o+vs.length))=wN p' v'):zQ (w.setCells v.P o vs) v' p':=by
 unfold zQ;rw[hP,←he];exact uC vs o _ w h (by show _≤14;exact ho)
def pE(base:Nat)(w:World)(v:Zv)(p':Pz)(e:Ending)(w':World):Prop:=e=.returned (.tuple #[])∧yC base w v p' w'
def KA(v:Zv):Zv:={v with r:=fun _=>.slice none 0 0}
def UT(wrong:Bool):List Value:=[.int .u8 0,.slice none 0 0,.slice none 0 0,.slice none 0 0,.int .u8 0,.bool wrong,.bool false]
theorem JV{v:Zv}{p p':Pz}(h0:p'.head=[])(h1:p'.inter=[])(h2:p'.text=[]):∀k,k<3→((KA v).r k=v.r k∧p'.r k=p.r k)∨((KA v).r k=.slice none 0 0∧p'.r k=[]):=fun k hk=>.inr ⟨rfl,by
 match k,hk with
 |0,_=>exact h0
 |1,_=>exact h1
 |2,_=>exact h2⟩
theorem zQ.facts(h:zQ w v p):(w.cell? ⟨v.P,0,none⟩=some (.int .u8 p.pre)∧w.frozen? ⟨v.P,0,none⟩=false)∧(w.cell? ⟨v.P,1,none⟩=some (v.r 0)∧w.frozen? ⟨v.P,1,none⟩=false)∧(w.cell? ⟨v.P,2,none⟩=some (v.r 1)∧w.frozen? ⟨v.P,2,none⟩=false)∧(w.cell? ⟨v.P,3,none⟩=some (v.r 2)∧w.frozen? ⟨v.P,3,none⟩=false)∧(w.cell? ⟨v.P,4,none⟩=some (.int .u8 p.last)∧w.frozen? ⟨v.P,4,none⟩=false)∧(w.cell? ⟨v.P,5,none⟩=some (.bool p.wrong)∧w.frozen? ⟨v.P,5,none⟩=false)∧(w.cell? ⟨v.P,6,none⟩=some (.bool p.cut)∧w.frozen? ⟨v.P,6,none⟩=false)∧(w.cell? ⟨v.P,7,none⟩=some (.int .i64 p.most)∧w.frozen? ⟨v.P,7,none⟩=false)∧(w.cell? ⟨v.P,8,none⟩=some (.int .i64 p.state)∧w.frozen? ⟨v.P,8,none⟩=false):=
 ⟨at_ h 0 _ rfl,at_ h 1 _ rfl,at_ h 2 _ rfl,at_ h 3 _ rfl,at_ h 4 _ rfl,at_ h 5 _ rfl,at_ h 6 _ rfl,at_ h 7 _ rfl,at_ h 8 _ rfl⟩
theorem xK(h:PzO base w v p):Calls jG 273 #[.pointer (some ⟨v.P,0,none⟩)] w (pE base w v (dX p)):=by
 obtain⟨⟨c0,f0⟩,⟨c1,f1⟩,⟨c2,f2⟩,⟨c3,f3⟩,⟨c4,f4⟩,⟨c5,f5⟩,⟨c6,f6⟩,⟨c7,f7⟩,⟨c8,f8⟩⟩:=h.blk.facts;have HO:=Hd h;clear h
 go_enter Tryz.func273,Tryz.ntmps273
 go_wp2
 go_end0
 exact⟨rfl,HO.o.reblk (v':=KA v) (vM (.inl qV) (UT true) 0 _ (Mod.refl _ _)) rfl (HO.o.blk.puts 0 (UT true) qZ rfl rfl) (JV rfl rfl rfl)⟩
theorem eX(h:PzO base w v p)(s:Int):Calls jG 67 #[.pointer (some ⟨v.P,0,none⟩),.int .i64 s] w (pE base w v (gX p s)):=by
 obtain⟨⟨c0,f0⟩,⟨c1,f1⟩,⟨c2,f2⟩,⟨c3,f3⟩,⟨c4,f4⟩,⟨c5,f5⟩,⟨c6,f6⟩,⟨c7,f7⟩,⟨c8,f8⟩⟩:=h.blk.facts;have HO:=Hd h;clear h
 go_enter Tryz.func67,Tryz.ntmps67
 go_wp2
 go_end0
 exact⟨rfl,HO.o.reblk (v':=KA v) (vM (.inl qV) (UT false) 0 _ ((Mod.refl _ _).setCell (a:=⟨v.P,8,none⟩) (.inl qV) _)) rfl ((HO.o.blk.put 8 (.int .i64 s) (v':=v) (p':={p with state:=s}) rfl rfl).puts 0 (UT false) qZ rfl rfl) (JV rfl rfl rfl)⟩
theorem info_u8:(jG.info? 5).map (fun i=>(i.zero,i.size,i.bytes))=some (some (.int .u8 0),1,1):=by kernel_rfl
theorem PzO.snoc{W w2:World}{k:Nat}(hk:k<3){c:Int}{v':Value}(h:PzO base W v p)(hg:W.grownBy w2 (v.r k).ownBlock)(ho:w2.ownsRow base 5 1 v' ((p.r k).length+1) (bV (p.r k)++[.int .u8 c]))(hn:∀g,v'.ownBlock=some g→(v.r k).ownBlock=some g∨W.heap.size≤g):
 yC base W v (p.sr (p.r k++[c]) k) (w2.setCell ⟨v.P,k+1,none⟩ v')∧w2.cell? ⟨v.P,k+1,none⟩=some (v.r k)∧w2.frozen? ⟨v.P,k+1,none⟩=false:=by
 have hb2:zQ w2 v p:=h.blk.keep hg (fun e=>h.np ⟨k,hk,e⟩);refine⟨h.grow hk hg (by rw[bV_snoc]at ho;rw[jC];exact ho) hn,?_⟩
 match k,hk with
 |0,_=>exact at_ hb2 1 _ rfl
 |1,_=>exact at_ hb2 2 _ rfl
 |2,_=>exact at_ hb2 3 _ rfl
theorem PzO.bw(h:PzO base w v p):base≤w.heap.size:=jI h.hb (Nat.le_of_lt h.blk.lt)
theorem yC.keep{p':Pz}{w':World}(h:yC base w v p' w'):∃v',v'.P=v.P∧PzO base w' v' p'∧yC base w v p' w':=by
 obtain⟨v',e,hO,h2⟩:=h;exact⟨v',e,hO,v',e,hO,h2⟩
theorem iS{ops:Array Oper}{rest:List Oper}{o:Oper}{a:Act}{Q:Exit→Act→World→Prop}(hgd:o.guard=none)(s x:Operand)(ho:o.op=.call {callee:=.builtin .append,args:=#[s,x],argTypes:=#[23,23]})
 (HO:PzO base w v p) (k:Nat) (hk:k<3) (c:Int) {n:Nat} (hN:(p.r k).length=n) (hz:n≤100000) {A:Option Addr} {cap:Nat} (hv:v.r k=.slice A n cap) (hs:a.eval s=.slice A n cap) (hx:a.eval x=.slice (some ⟨w.heap.size,0,none⟩) 1 1)
 (h:∀A' c' w3,w3.cell? ⟨v.P,k+1,none⟩=some (.slice A n cap)→w3.frozen? ⟨v.P,k+1,none⟩=false→yC base w v (p.sr (p.r k++[c]) k) (w3.setCell ⟨v.P,k+1,none⟩ (.slice A' (n+1) c'))→wpList jG ops Q rest (a.put o.dst (.slice A' (n+1) c')) w3):
 wpList jG ops Q (o::rest) a (w.alloc (.cells #[.int .u8 c] 5)):=by
 obtain⟨i0,hi0,hz0,hz1,hz2⟩:=info_parts info_u8;have hb:Below w.heap.size w (w.alloc (.cells #[.int .u8 c] 5)):=jH (jU _ _) _;have hO:=HO.below hb;have hrow:=hO.row k hk;rw[hv,hN]at hrow;refine vW hgd s x 23 ho base 5 i0 _ 1 1 Tryz.underlying23 hi0 hz0 hz1 hz2 rfl qZ (.slice A n cap) n (bV (p.r k)) hs hrow ⟨w.heap.size,0,none⟩ 1 1 [.int .u8 c] hx rfl (fun j u hj=>?_) (fun u hu=>by rw[jW.1 hu];rfl) qU qJ (jI HO.bw hb.size) (fun v' w3 h1 h2 h3=>?_)
 · cases j with
   |zero=>
    obtain rfl:Value.int .u8 c=u:=by simpa using hj
    exact(at_ (jA rfl) 0 _ rfl).1
   |succ j=>simp at hj
 · obtain⟨A',c',rfl⟩:=uI h1;rw[←hv]at h2 h3;obtain⟨r1,r2,r3⟩:=hO.snoc hk h2 (by rw[hN];exact h1) h3;rw[hv]at r2;exact h A' c' w3 r2 r3 (yC.pre hb r1)
set_option maxHeartbeats 1600000 in
theorem rN(h:PzO base w v p)(hi:p.inter.length≤2)(c:Int):Calls jG 178 #[.pointer (some ⟨v.P,0,none⟩),.int .u8 c] w (pE base w v (iF p c)):=by
 obtain⟨A,cap,hv⟩:=uI (h.row 1 qJ);obtain⟨-,-,⟨c2,f2⟩,-,-,⟨c5,f5⟩,-,-,-⟩:=h.blk.facts;rw[hv]at c2;have HO:=Hd h;have hS:=Hd (xK h);unfold iF
 by_cases h2:p.inter.length=2
 · have hl:(p.r 1).length=2:=h2;rw[if_pos h2,show aM (dX p) c=dX p from if_pos rfl];rw[hl]at c2;clear h hv hi h2 hl
   go_enter Tryz.func178,Tryz.ntmps178
   go_wp2_with(go_at_call 273;(with_reducible refine hS.o.mono ?_);rintro e w1 ⟨rfl,hr⟩;obtain⟨v1,e1,hO1,hR⟩:=hr.keep;have HR:=Hd hR;have d5:=(at_ hO1.blk 5 (.bool true) rfl).1;rw[e1]at d5;clear hr hR hO1)
   go_end0
   exact⟨rfl,HR.o⟩
 · rw[if_neg h2];have hn2:¬((p.r 1).length:Int)=2:=fun e=>h2 (by have e2:((p.inter.length:Nat):Int)=2:=e;omega);have hz:(p.r 1).length≤2:=hi;generalize hN:(p.r 1).length=n at c2 hn2 hz;rw[hN]at hv;clear h hi h2;unfold aM
   by_cases hw:p.wrong=true
   · rw[if_pos hw];rw[hw]at c5;clear hw hv hN
     go_enter Tryz.func178,Tryz.ntmps178
     go_wp2
     go_end0
     exact⟨rfl,HO.o.res⟩
   · rw[if_neg hw];rw[show p.wrong=false by cases hq:p.wrong<;>simp_all]at c5;have HV:=Hd hv;clear hw hv
     go_enter Tryz.func178,Tryz.ntmps178
     go_wp2_with(refine iS rfl (.tmp 21) (.tmp 23) rfl HO.o 1 qJ c hN qJ HV.o rfl rfl ?_;intro A' c' w3 d0 d1 hR;have HR:=Hd hR;clear hR)
     go_end0
     exact⟨rfl,HR.o⟩
set_option maxHeartbeats 1600000 in
theorem Ks(h:PzO base w v p)(hi:p.head.length≤256)(c:Int):Calls jG 179 #[.pointer (some ⟨v.P,0,none⟩),.int .u8 c] w (pE base w v (nY p c)):=by
 obtain⟨A,cap,hv⟩:=uI (h.row 0 qJ);obtain⟨A1,cap1,hv1⟩:=uI (h.row 1 qJ);obtain⟨⟨c0,f0⟩,⟨c1,f1⟩,⟨c2,f2⟩,-,-,⟨c5,f5⟩,-,-,-⟩:=h.blk.facts;rw[hv]at c1;rw[hv1]at c2;have HO:=Hd h;have hS:=Hd (xK h);have hz:(p.r 0).length≤256:=hi;have e0:p.head.length=(p.r 0).length:=rfl;have e1:p.inter.length=(p.r 1).length:=rfl;unfold nY;rw[e0,e1];generalize hN:(p.r 0).length=n at c1 hz hv ⊢;generalize (p.r 1).length=m at c2 ⊢;clear h hi e0 e1 hv1
 by_cases hw:p.wrong=true
 · rw[if_pos hw];rw[hw]at c5;clear hw hv hN
   go_enter Tryz.func179,Tryz.ntmps179
   go_wp2
   go_end0
   exact⟨rfl,HO.o.res⟩
 rw[if_neg hw];rw[show p.wrong=false by cases hq:p.wrong<;>simp_all]at c5;clear hw
 by_cases ha:60≤c∧p.pre=0∧n=0∧m=0
 · rw[if_pos ha];obtain⟨a1,a2,rfl,rfl⟩:=ha;rw[a2]at c0;have a3:¬c<60:=by omega
   clear hv hN
   go_enter Tryz.func179,Tryz.ntmps179
   go_wp2
   go_end0
   exact⟨rfl,HO.o.one 0 (.int .u8 c) rfl (fun k hk=>by match k,hk with|0,_=>rfl|1,_=>rfl|2,_=>rfl)⟩
 rw[if_neg ha]
 by_cases hb:60≤c∨0<m∨n=256
 · rw[if_pos hb];generalize p.pre=q at c0 ha;clear hv hN;have ha:=Hd ha;have hb:=Hd hb
   go_enter Tryz.func179,Tryz.ntmps179
   go_wp2_with(go_at_call 273;(with_reducible refine hS.o.mono ?_);rintro e w1 ⟨rfl,hr⟩;have HR:=Hd hr;clear hr)
   all_goals(go_end0;exact⟨rfl,HR.o⟩)
 · rw[if_neg hb];have b1:c<60:=by omega
   have b2:¬60≤c:=by omega
   have b3:m=0:=by omega
   have b4:¬(n:Int)=256:=by omega
   subst b3;have HV:=Hd hv;clear hv ha hb
   go_enter Tryz.func179,Tryz.ntmps179
   go_wp2_with(refine iS rfl (.tmp 8) (.tmp 10) rfl HO.o 0 qJ c hN qJ HV.o rfl rfl ?_;intro A' c' w3 d0 d1 hR;have HR:=Hd hR;clear hR)
   go_end0
   exact⟨rfl,HR.o⟩
set_option maxHeartbeats 1600000 in
theorem U8(h:PzO base w v p)(hi:p.text.length≤100000)(c:Int):Calls jG 118 #[.pointer (some ⟨v.P,0,none⟩),.int .u8 c] w (pE base w v (JH p c)):=by
 obtain⟨A,cap,hv⟩:=uI (h.row 2 qJ);obtain⟨-,-,-,⟨c3,f3⟩,-,-,⟨c6,f6⟩,⟨c7,f7⟩,-⟩:=h.blk.facts;rw[hv]at c3;have HO:=Hd h;have hz:(p.r 2).length≤100000:=hi;have e0:p.text.length=(p.r 2).length:=rfl;unfold JH;rw[e0];generalize hN:(p.r 2).length=n at c3 hz hv ⊢;clear h hi e0
 by_cases hw:p.most≤(n:Int)
 · rw[if_pos hw];clear hv hN
   go_enter Tryz.func118,Tryz.ntmps118
   go_upto_region 0 with fail
   refine kH 10 (fun w'=>Below w.heap.size w w'∧w'.cell? ⟨v.P,3,none⟩=some (.slice A n cap)∧w'.cell? ⟨v.P,7,none⟩=some (.int .i64 p.most)) qQ qQ ?_ ?_
   · exact⟨(jU _ _).drew,c3,c7⟩
   simp only[jS,kK,jR,jO]
   repeat(
    (first
     |refine kF qK ?_
     |(refine kE ?_ qK ?_ ?_;rotate_left;(focus(intro w' hS;obtain⟨_,_,_⟩:=hS;go_simp;first|done|with_reducible rfl))))
    simp only[Act.put,jZ,jX,jY])
   refine kO (fun w' hS=>?_);have HB:=Hd hS.1;obtain⟨d6,e6⟩:=at_ (HO.o.below hS.1).blk 6 (.bool p.cut) rfl;clear hS
   go_wp2
   go_end0
   exact⟨rfl,yC.pre HB.o ((HO.o.below HB.o).one 6 (.bool true) rfl (fun k hk=>by match k,hk with|0,_=>rfl|1,_=>rfl|2,_=>rfl))⟩
 · rw[if_neg hw];have hw2:(n:Int)<p.most:=by omega
   have HV:=Hd hv;have HNN:=Hd hN;clear hv hN
   go_enter Tryz.func118,Tryz.ntmps118
   go_upto_region 0 with fail
   refine kH 10 (fun w'=>Below w.heap.size w w'∧w'.cell? ⟨v.P,3,none⟩=some (.slice A n cap)∧w'.cell? ⟨v.P,7,none⟩=some (.int .i64 p.most)) qQ qQ ?_ ?_
   · exact⟨(jU _ _).drew,c3,c7⟩
   simp only[jS,kK,jR,jO]
   repeat(
    (first
     |refine kF qK ?_
     |(refine kE ?_ qK ?_ ?_;rotate_left;(focus(intro w' hS;obtain⟨_,_,_⟩:=hS;go_simp;first|done|with_reducible rfl))))
    simp only[Act.put,jZ,jX,jY])
   refine kO (fun w' hS=>?_);have HB:=Hd hS.1;obtain⟨-,d3,d7⟩:=hS
   go_wp2_with(refine iS rfl (.tmp 24) (.tmp 26) rfl (HO.o.below HB.o) 2 qJ c HNN.o qJ HV.o rfl rfl ?_;intro A' c' w3 d0 d1 hR;have HR:=Hd (yC.pre HB.o hR);clear hR)
   go_end0
   exact⟨rfl,HR.o⟩
end
end Go.Proofs.YtaefcahblmopfaaGreatDoor
