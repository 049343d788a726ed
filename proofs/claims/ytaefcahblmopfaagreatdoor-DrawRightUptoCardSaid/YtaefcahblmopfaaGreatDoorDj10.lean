/- Joined by a tool of this claim out of smaller texts. Conditions: as stated. -/
import Derived.Test.YtaefcahblmopfaaGreatDoorDj09
set_option linter.unusedVariables false
set_option linter.unusedSimpArgs false
set_option maxRecDepth 100000
open Go.Lib renaming hid → Hd
open List renaming setIfInBounds_toArray → jZ, set_cons_zero → jX, set_cons_succ → jY, mem_singleton → jM, getElem?_eq_getElem → jN, getElem?_eq_some_iff → jP, length_append → jC, drop_succ_cons → jL, take_succ_cons → jS, drop_zero → jO, take_succ_eq_append_getElem → kQ, mem_cons → kJ, take_zero → kK, append_assoc → kG, mem_append → kU, replicate → kN, length_set → uV, length_replicate → uG, getElem?_drop → gN
open Go.Proofs.Tryz renaming prog → jG
open Go.RowKit.Below renaming refl → jU
open Nat renaming le_refl → jD, le_trans → jI, zero_add → kP, add_zero → uA
open Go.IntWalk renaming i64_in → jF
open Option renaming mem_toList → jA
open Go.IntKind renaming i64 → jE
open And renaming intro → kY
open Array renaming getElem?_eq_some_iff → kB
namespace Go.Proofs.YtaefcahblmopfaaGreatDoor
open Go.RowKit
def qQv(cols:Nat)(b:Col)(w:World)(e:Ending)(w':World):Prop:=
 ∃g cap,e=.returned (.agg #[.slice (some ⟨g,0,none⟩) cols cap,.bool false])∧zZ w' ⟨some ⟨g,0,none⟩,kN cols (pY b),cap,false⟩∧Below w.heap.size w w'
set_option maxHeartbeats 1600000 in
theorem oS(P cols:Nat)(b:Col)(w:World)(x2:w.cell? ⟨P,2,none⟩=some (.int .i64 cols))(h2:2≤cols)(h3:cols≤1000):
 Calls jG 174 #[.pointer (some ⟨P,0,none⟩),.agg #[.int .i64 b.k,.int .i64 b.n]] w (qQv cols b w):=by
 have HBL:=Hd (fun w=>XJ cols b w qJ h3);have x:=vJ (o:=.cells #[.slice none 0 0,.bool false] 52) (jT (W:=w) (b:=w.heap.size) (o:=.cells #[.int .i64 b.k,.int .i64 b.n] 61) rfl);have y:=jT (W:=w.alloc (.cells #[.int .i64 b.k,.int .i64 b.n] 61)) (b:=w.heap.size+1) (o:=.cells #[.slice none 0 0,.bool false] 52) qV;have hb0:=jH (jH (jU w.heap.size w) (.cells #[.int .i64 b.k,.int .i64 b.n] 61)) (.cells #[.slice none 0 0,.bool false] 52);have HB:=Hd hb0;have X2:=Hd (kZ hb0 x2);have X0:=Hd (at_ x 0 _ rfl).1;have X1:=Hd (at_ x 1 _ rfl).1;have Y:=Hd y;clear x y hb0 x2
 go_enter Tryz.func174,Tryz.ntmps174
 go_upto_region 1 with fail
 generalize World.alloc _ _=W at HB X2 X0 X1 Y ⊢;have x2:=X2.o;have x0:=X0.o;have x1:=X1.o;refine kW 5 (fun w'=>Below W.heap.size W w'∧w'.cell? ⟨P,2,none⟩=some (.int .i64 cols)∧w'.cell? ⟨w.heap.size,0,none⟩=some (.int .i64 b.k)∧w'.cell? ⟨w.heap.size,1,none⟩=some (.int .i64 b.n)) qQ qQ ?_ ?_
 · exact⟨(jU _ _).drew,x2,x0,x1⟩
 simp only[jS,kK,jL,jO]
 repeat(
  (first
   |refine kF qK ?_
   |(refine kT ?_ qK ?_ ?_;rotate_left;(focus(intro w' hS;obtain⟨_,_,_,_⟩:=hS;go_simp;first|done|with_reducible rfl))))
  simp only[Act.put,jZ,jX,jY])
 refine kE (fun w' hS=>?_);have HB1:=Hd (jW HB.o hS.1);have HY:=Hd ((hS.1.block _ (jR Y.o)).trans Y.o);clear hS x2 x0 x1 X2 X0 X1 Y
 go_wp2_with(go_at_call 267;refine(HBL.o _).mono ?_;rintro e w2 ⟨g,cap,rfl,hc,hb⟩;rw[uG];have HC:=Hd hc;have HB2:=Hd hb
             have HY2:=Hd ((hb.block _ (jR HY.o)).trans HY.o);obtain⟨y0,y0f⟩:=at_ HY2.o 0 _ rfl;obtain⟨y1,y1f⟩:=at_ HY2.o 1 _ rfl;clear hc hb)
 have hset:=fY (u':=.slice (some ⟨g,0,none⟩) cols cap) (v':=.bool false) ⟨y0,y0f⟩ ⟨y1,y1f⟩;have HB3:=uK (uK (jW HB1.o HB2.o) (show w.heap.size≤w.heap.size+1 by omega) (o:=0) (.slice (some ⟨g,0,none⟩) cols cap)) (show w.heap.size≤w.heap.size+1 by omega) (o:=1) (.bool false);refine bodyPost_ret (xW rfl _ _ (w.heap.size+1) _ _ rfl hset.1.1 hset.2.1) rfl ⟨g,cap,rfl,(zZ.of_own HC.o qY (Zf _ _) false).mod (X:=[w.heap.size+1]) (yK (Mod.refl _ _) (.inl qV)) ?_,HB3⟩;intro x hx cs' f he;rw[jM.1 hx]at he;exact vM HY2.o he qZ rfl
section
variable {P:Program}
theorem vG{ops:Array Oper}{rest:List Oper}{o:Oper}{a:Act}{w:World}{Q:Exit→Act→World→Prop}(hgd:o.guard=none)(s x:Operand)(t:TypeId)
 (ho:o.op=.call {callee:=.builtin .append,args:=#[s,x],argTypes:=#[t,t]}) (base:Nat) (e:TypeId) (i:TypeInfo) (z:Value) (size bytes:Nat) (ht:P.underlying t=some (.slice e)) (hi:P.info? e=some i) (hz:i.zero=some z) (hsize:i.size=size) (hby:i.bytes=bytes) (hzs:z.cells.size=size) (hsz:0<size)
 (v:Value) (n:Nat) (xs:List Value) (hs:a.eval s=v) (hown:w.ownsRow base e size v n xs) (ad:Addr) (m c:Nat) (news:List Value) (hx:a.eval x=.slice (some ad) m c) (hl:news.length=m*size) (hnews:∀j u,news[j]? =some u→w.cell? (ad.add j)=some u) (h1:∀u∈news,u.oneCell'=true)
 (h63:n+m≤maxLen) (hbytes:(n+m)*bytes≤140737488355328) (hbase:base≤w.heap.size)
 (h:∀v' w',w'.ownsRow base e size v' (n+m) (xs++news)→w.grownBy w' v.ownBlock→(∀g,v'.ownBlock=some g→v.ownBlock=some g∨w.heap.size≤g)→wpList P ops Q rest (a.put o.dst v') w'):wpList P ops Q (o::rest) a w:=by
 obtain⟨v',w',hr,h2,h3,-,h4⟩:=run_append_own_at (P:=P) w base t o.type e i z size bytes ht hi hz hsize hby hzs hsz v n xs hown ad m c news hl hnews h1 h63 hbytes hbase;refine wpList_plain hgd fun K hK=>?_;unfold Oper.wp execOp;simp only[ho,resolve,invoke,builtin,Sem.run_bind,Sem.run_pure,Result.andThen_ok,List.map_toArray,List.map_cons,List.map_nil,hs,hx,hr];exact hK _ _ (h _ _ h2 h3 (fun g hg=>by
  rcases h4 with h4|h4
  · exact .inl (by rw[←h4];exact hg)
  · rw[h4]at hg;injection hg with hg;exact .inr qJ))
end
theorem Zq:(jG.info? 94).map (fun i=>(i.zero,i.size,i.bytes))=some (some (.agg #[.int .i64 0,.int .i64 0,.int .i64 0]),3,24):=by kernel_rfl
section
variable {base:Nat}{w:World}{q:Pv}{g:Pg}
theorem PgO.retold{w1:World}{vt':Value}{t':List Tl}(h:PgO base w q g)(ho:w1.ownsRow base 94 3 vt' t'.length (uM sA t'))(hm:Mod q.vt.ownBlock.toList w w1)(hv:∀b,vt'.ownBlock=some b→q.vt.ownBlock=some b∨w.heap.size≤b):
 pV base w q {g with told:=t'} (w1.setCell ⟨q.P,3,none⟩ vt'):=by
 have hvt:∀b,q.vt.ownBlock=some b→∃cur:Array Value,w.heap[b]? =some (.cells cur 94 (0,0)):=fun b hb=>uR h.told hb;have hPv:q.P∉q.vt.ownBlock.toList:=fun hb=>by
  obtain⟨cur,hc⟩:=hvt _ (jA.1 hb);exact qXn
 have hPl:=(kB.1 h.blk).1;have hm2:Mod (q.P::q.vt.ownBlock.toList) w (w1.setCell ⟨q.P,3,none⟩ vt'):=(hm.mono (fun b hb=>by simp[jA.1 hb])).setCell (a:=⟨q.P,3,none⟩) (.inl qV) _;have hX:yI w (q.P::q.vt.ownBlock.toList):=fun b hb cs f he=>by
  refine h.nocel b ?_ cs f he;rcases kJ.1 hb with rfl|hb
  · simp[pgX]
  · simp[pgX,jA.1 hb]
 have hblk:=kA (cs:=[.pointer (some ⟨q.R,0,none⟩),q.vs,.int .i64 g.cols,q.vt]) ((hm.block q.P hPl hPv).trans h.blk) 3 vt' (cs':=[.pointer (some ⟨q.R,0,none⟩),q.vs,.int .i64 g.cols,vt']) rfl;have hne:∀(b:Nat) (cur:Array Value) (t:TypeId),w.heap[b]? =some (.cells cur t (0,0))→t≠175→t≠94→b∉q.P::q.vt.ownBlock.toList:=fun b cur t hb h1 h2 hx=>by
  rcases kJ.1 hx with rfl|hx
  · exact vM h.blk hb h1.symm rfl
  · obtain⟨cur2,hc⟩:=hvt _ (jA.1 hx);exact vM hc hb h2.symm rfl
 refine⟨{q with vt:=vt'},rfl,rfl,⟨hblk,h.hb,h.ring.mod hm2 hX (fun b hb=>?_),kD h.own hm2 (fun b hb=>?_),?_,h.apart,h.scr,h.hist,fun r hr=>⟨(h.rows r hr).1.mod hm2 hX,(h.rows r hr).2⟩,h.cols2,h.cols1000,h.rows1000,h.gone0⟩,hm2.mono (fun b hb=>?_),fun b hb=>?_⟩
 · rcases kJ.1 hb with rfl|hb
   · exact hne _ _ _ h.ring.blk qZ qZ
   · obtain⟨cur,hc⟩:=uR h.ring.own (jA.1 hb);exact hne _ _ _ hc qZ qZ
 · obtain⟨cur,hc⟩:=uR h.own hb;exact hne _ _ _ hc qZ qZ
 · refine kD ho ((Mod.refl [q.P] w1).setCell (a:=⟨q.P,3,none⟩) (.inl qV) vt') (fun b hb hx=>?_);have e:=jM.1 hx;rcases hv b hb with h1|h1
   · exact hPv (by rw[←e];simp[h1])
   · omega
 · rcases kJ.1 hb with rfl|hb
   · simp[pgX]
   · simp[pgX,jA.1 hb]
 · rcases kJ.1 hb with rfl|hb
   · exact .inl qZz
   rcases kU.1 hb with hb|hb
   · exact .inl (by simp[pgX,jA.1 hb])
   rcases kU.1 hb with hb|hb
   · rcases hv b (jA.1 hb)with h1|h1
     · exact .inl (by simp[pgX,h1])
     · exact .inr h1
   · exact .inl (by simp[pgX,hb])
set_option maxHeartbeats 1600000 in
theorem Q4(h:PgO base w q g)(k a n:Int)(ht:g.told.length≤1000000)(hbw:base≤w.heap.size):Calls jG 149 #[.pointer (some ⟨q.P,0,none⟩),.int .i64 k,.int .i64 a,.int .i64 n] w (pJ base w q (pA g k a n)):=by
 obtain⟨j0,hj,gz0,gz1,gz2⟩:=info_parts Zq;obtain⟨-,-,-,x3,x3f⟩:=h.cells;have H:=Hd h;obtain⟨W,hW⟩:∃W,w.alloc (.cells #[.int .i64 k,.int .i64 a,.int .i64 n] 94)=W:=⟨_,rfl⟩;have hb:Below w.heap.size w W:=by rw[←hW];exact jH (jU _ _) _
 have HN:=Hd (show W.heap[w.heap.size]? =some (.cells #[.int .i64 k,.int .i64 a,.int .i64 n] 94 (0,0))from by rw[←hW];exact jT rfl);have HB:=Hd hb;have HO:=Hd (h.below hb);have hsz:W.heap.size=w.heap.size+1:=by rw[←hW];simp
 clear h hb
 go_enter Tryz.func149,Tryz.ntmps149
 go_wp2_with(refine vG rfl (.tmp 12) (.tmp 17) 147 rfl base 94 j0 _ 3 24 Tryz.underlying147 hj gz0 gz1 gz2 rfl qZ q.vt g.told.length (uM sA g.told) rfl HO.o.told ⟨w.heap.size,0,none⟩ 1 1 (sA ⟨k,a,n⟩) rfl rfl ?_ (Y4 _) ?_ ?_ ?_ ?_)
 all_goals first
  |omega
  |(simp only[maxLen];omega)
  |skip
 · intro j u hj;rw[vF,kP];exact(at_ HN.o j u (by simpa[sA]using hj)).1
 · intro v' w' ho hg hv';have HM:=Hd ((Mod.of_below (X:=q.vt.ownBlock.toList) HB.o).trans (Mod.of_grown (X:=q.vt.ownBlock.toList) hg (fun g hg=>by rw[hg];simp)) (fun g hg=>.inl hg));have HOW:=Hd (show w'.ownsRow base 94 3 v' (g.told++[Tl.mk k a n]).length (uM sA (g.told++[Tl.mk k a n]))from by rw[uI,jC];exact ho);have HV:=Hd (show ∀b,v'.ownBlock=some b→q.vt.ownBlock=some b∨w.heap.size≤b from fun b hb=>(hv' b hb).imp id (fun h=>by omega));obtain⟨A',c',hvf⟩:=uT ho;have hPv:q.P∉q.vt.ownBlock.toList:=fun hb=>by
    obtain⟨cur,hc⟩:=uR H.o.told (jA.1 hb);exact vM H.o.blk hc qZ rfl
   have hx3:w.cell? ⟨q.P,3,none⟩=some q.vt∧w.frozen? ⟨q.P,3,none⟩=false:=⟨x3,x3f⟩;obtain⟨z3,z3f⟩:=HM.o.hold hPv hx3;clear hx3;clear ho hg hv' x3 x3f hW;subst hvf;obtain⟨A0,c0,hv0⟩:=uT H.o.told
   go_wp2
   go_end0
   exact⟨rfl,H.o.retold HOW.o HM.o HV.o⟩
end
theorem K3{α:Type}{enc:α→List Value}{K:Nat}(hl:∀x,(enc x).length=K){w:World}{base g cap:Nat}{e:TypeId}{l:List α}(h:w.ownsRow base e K (.slice (some ⟨g,0,none⟩) l.length cap) l.length (uM enc l))(off:Nat)(cs:List α)(hi:off+cs.length≤l.length):
 (w.setCells g (off*K) (uM enc cs)).ownsRow base e K (.slice (some ⟨g,0,none⟩) l.length cap) l.length (uM enc (l.take off++cs++l.drop (off+cs.length)))∧Mod [g] w (w.setCells g (off*K) (uM enc cs)):=by
 refine⟨?_,vN (.inl qV) _ _ _ (Mod.refl _ _)⟩;have h1:=dJ (uM enc cs) (off*K) (uM enc l) w h (by rw[pM hl,pM hl,←Nat.add_mul];exact Nat.mul_le_mul_right _ hi);rw[iN hl,pM hl,←Nat.add_mul,iP hl,←uI,←uI,←kG]at h1;exact h1
theorem Jc{α:Type}{enc:α→List Value}{K:Nat}(hl:∀x,(enc x).length=K)(h1:∀x,∀v∈enc x,v.oneCell'=true)(st e:TypeId)(hu:jG.underlying st=some (.slice e))(hsz:(jG.info? e).map (·.size)=some K)
 {w:World} {base g cap:Nat} {l:List α} (h:w.ownsRow base e K (.slice (some ⟨g,0,none⟩) l.length cap) l.length (uM enc l)) (i k n oi ok dl sl dc sc:Nat) (hi:i+n≤l.length) (hk:k+n≤l.length) (hmin:Nat.min sl dl=n) (hoi:0<n→oi=i*K) (hok:0<n→ok=k*K):
 ∃w',(Builtin.copy_ #[st,st] 3 #[.slice (some ⟨g,oi,none⟩) dl dc,.slice (some ⟨g,ok,none⟩) sl sc]).run jG w=.ok (goInt n) w'∧w'.ownsRow base e K (.slice (some ⟨g,0,none⟩) l.length cap) l.length (uM enc (l.take i++(l.drop k).take n++l.drop (i+n)))∧Mod [g] w w':=by
 have hlen:((l.drop k).take n).length=n:=by simp;omega
 have hcl:(uM enc ((l.drop k).take n)).length=n*K:=by rw[pM hl,hlen]
 have bd:∀o j,0<n→j<n*K→o+n≤l.length→o*K+j<l.length*K:=fun o j hn hj ho=>by
  have :(o+n)*K≤l.length*K:=Nat.mul_le_mul_right _ ho;rw[Nat.add_mul]at this;omega
 have hn0:∀j,j<n*K→0<n:=fun j hj=>by
  rcases Nat.eq_zero_or_pos n with h|h
  · rw[h]at hj;simp at hj
  · exact h
 have key:(Builtin.copy_ #[st,st] 3 #[.slice (some ⟨g,oi,none⟩) dl dc,.slice (some ⟨g,ok,none⟩) sl sc]).run jG w=.ok (goInt n) (w.setCells g oi (uM enc ((l.drop k).take n))):=by
  have :=aF (P:=jG) w st st 3 e g oi dl dc ⟨g,ok,none⟩ sl sc K (uM enc ((l.drop k).take n)) hu hsz (by rw[hmin,hcl]) (fun j v hj=>?_) (fun j hj=>?_) (fun j hj=>?_) (sD h1 _)
  · rw[hmin]at this;exact this
  · have hj':=(jP.1 hj).1;rw[hcl]at hj';rw[vF,hok (hn0 j hj')];rw[←iN hl,List.getElem?_take,if_pos hj',←iP hl,gN]at hj;exact(gS h hj).1
  · rw[hcl]at hj;have hb:=bd i j (hn0 j hj) hj hi;rw[hoi (hn0 j hj)];obtain⟨v,hv⟩:∃v,(uM enc l)[i*K+j]? =some v:=⟨_,jN (by rw[pM hl];exact hb)⟩;rw[(gS h hv).1];rfl
  · rw[hcl]at hj;have hb:=bd i j (hn0 j hj) hj hi;rw[hoi (hn0 j hj)];obtain⟨v,hv⟩:∃v,(uM enc l)[i*K+j]? =some v:=⟨_,jN (by rw[pM hl];exact hb)⟩;exact(gS h hv).2
 refine⟨_,key,?_⟩;rcases Nat.eq_zero_or_pos n with hn|hn
 · subst hn;simp only[kK,List.append_nil,uA,List.take_append_drop];exact⟨h,Mod.refl _ _⟩
 · rw[hoi hn];have :=K3 hl h i ((l.drop k).take n) (by rw[hlen];exact hi)
   rwa[hlen]at this
theorem qJf{S:List Rh}{t b:Nat}(h:t≤b)(hb:b<S.length)(r:Rh):((S.take t++(S.drop (t+1)).take (b-t)++S.drop (t+(b-t))).set b r).map zU=yH (S.map zU) t b (zU r):=by
 rw[show t+(b-t)=b by omega,List.set_append_right _ _ qY];have e:b-(S.take t++(S.drop (t+1)).take (b-t)).length=0:=by simp;omega
 rw[e,List.drop_eq_getElem_cons hb,jX];unfold yH;simp[List.map_take,List.map_drop]
theorem qJg{S:List Rh}{t b:Nat}(h:t≤b)(hb:b<S.length)(r:Rh):((S.take (t+1)++(S.drop t).take (b-t)++S.drop (t+1+(b-t))).set t r).map zU=rI (S.map zU) t b (zU r):=by
 rw[show t+1+(b-t)=b+1 by omega,kG,List.set_append_left _ _ qY];have e:(S.take (t+1)).set t r=S.take t++[r]:=by
  rw[kQ qJ,List.set_append_right _ _ qY];have :t-(S.take t).length=0:=by simp;omega
  rw[this];rfl
 rw[e];unfold rI;simp[List.map_take,List.map_drop]
theorem ZS{S:List Rh}{i k n j:Nat}{r x:Rh}(h:x∈(S.take i++(S.drop k).take n++S.drop (i+n)).set j r):x∈S∨x=r:=by
 rcases List.mem_or_eq_of_mem_set h with h|h
 · refine .inl ?_;rcases kU.1 h with h|h
   · rcases kU.1 h with h|h
     · exact List.mem_of_mem_take h
     · exact List.mem_of_mem_drop (List.mem_of_mem_take h)
   · exact List.mem_of_mem_drop h
 · exact .inr h
section
variable {base:Nat}{w:World}{q:Pv}{g:Pg}
theorem JA(h:PgO base w q g){gs c t:Nat}(hv:q.vs=.slice (some ⟨gs,0,none⟩) q.S.length c)(ht:t<q.S.length){S1:List Rh}{w1:World}(hl:S1.length=q.S.length)(ho:w1.ownsRow base 52 2 (.slice (some ⟨gs,0,none⟩) q.S.length c) q.S.length (uM yG S1))(hm:Mod [gs] w w1)
 {w2:World} (hb:Below w1.heap.size w1 w2) {r:Rh} (hr:zZ w2 r) (hrl:r.cs.length=g.cols) (hmem:∀x∈S1.set t r,x∈q.S∨x=r) {scr':List Ro} (hs:(S1.set t r).map zU=scr'):
 pV base w q {g with scr:=scr'} ((w2.setCell ⟨gs,t*2,none⟩ (.slice r.A r.cs.length r.cap)).setCell ⟨gs,t*2+1,none⟩ (.bool r.cont)):=by
 have hX:yI w q.vs.ownBlock.toList:=fun x hx cs f he=>h.nocel x (by simp[pgX,(jA.1 hx)]) cs f he;have hvs:q.vs.ownBlock.toList=[gs]:=by rw[hv];simp[Value.ownBlock]
 have hM:Mod q.vs.ownBlock.toList w ((w2.setCell ⟨gs,t*2,none⟩ (.slice r.A r.cs.length r.cap)).setCell ⟨gs,t*2+1,none⟩ (.bool r.cont)):=by
  rw[hvs];exact yK (hm.then_below hb) (.inl qV)
 rw[←hl]at ho;have ho2:=kD ho (Mod.of_below (X:=[]) hb) (fun _ _ h=>by cases h);have ho3:=fU ho2 (show t<S1.length by omega) r;have hgl:gs<w2.heap.size:=(ho2.lt gs rfl).2;refine h.screen (S':=S1.set t r) (by simpa using hl) ?_ hM hs (fun x hx=>?_)
 · rw[uV,hv,←hl];exact ho3
 · rcases hmem x hx with hx|rfl
   · exact⟨(h.rows x hx).1.mod hM hX,(h.rows x hx).2⟩
   · refine⟨hr.mod (X:=[gs]) (yK (Mod.refl _ _) (.inl qV)) (fun b hb' cs f he=>?_),hrl⟩;rw[jM.1 hb']at he;obtain⟨cur,hc⟩:=uR ho2 (g:=gs) rfl;exact vM hc he qZ rfl
set_option maxHeartbeats 3200000 in
theorem pslideA(h:PgO base w q g)(f t:Nat)(b:Col)(hft:f<t)(ht:t<q.S.length):
 Calls jG 382 #[.pointer (some ⟨q.P,0,none⟩),.int .i64 f,.int .i64 t,.agg #[.int .i64 b.k,.int .i64 b.n]] w (pJ base w q {g with scr:=yH g.scr f t (zD g.cols b)}):=by
 obtain⟨gs,c,hv⟩:=gH h.own qJ;have hr1:=h.rows1000;have hc2:=h.cols2;have hc3:=h.cols1000;have H:=Hd h;have HV:=Hd hv;obtain⟨W,hW⟩:∃W,w.alloc (.cells #[.int .i64 b.k,.int .i64 b.n] 61)=W:=⟨_,rfl⟩;have hb0:Below w.heap.size w W:=by rw[←hW];exact jH (jU _ _) _
 have HN:=Hd (show W.heap[w.heap.size]? =some (.cells #[.int .i64 b.k,.int .i64 b.n] 61 (0,0))from by rw[←hW];exact jT rfl);have HB:=Hd hb0;have hO:=h.below hb0;have HO:=Hd hO;obtain⟨-,⟨x1,-⟩,-,-⟩:=hO.cells;have hown:=hO.own;rw[hv]at x1 hown;have hcap:q.S.length≤c:=by
  rcases hown.2 with⟨e,-⟩|⟨g',c',cur,e,_,_,hc,_⟩
  · cases e
  · simp only[Value.slice.injEq]at e;omega
 have HOWN:=Hd hown;obtain⟨f1,hf1⟩:∃f1:Nat,f1=f+1:=⟨_,rfl⟩;obtain⟨t1,ht1⟩:∃t1:Nat,t1=t+1:=⟨_,rfl⟩;have hf1I:(f:Int)+1=(f1:Int):=by omega
 have ht1I:(t:Int)+1=(t1:Int):=by omega
 have hwf:jE.wrap (f1:Int)=(f1:Int):=jF _ qJ;have hwt:jE.wrap (t1:Int)=(t1:Int):=jF _ qJ;have hftI:(f:Int)<(t:Int):=by omega
 have c1:t≤c:=by omega
 have c2:f≤t:=by omega
 have c3:¬c=f:=by omega
 have c4:t1≤c:=by omega
 have c5:f1≤t1:=by omega
 have c6:¬c=f1:=by omega
 have HF:=Hd (kY hf1 ht1);have HFT:=Hd (kY hft ht);clear h hO hown hv hb0 hf1 ht1 hft ht
 go_enter Tryz.func382,Tryz.ntmps382
 go_upto_region 2 with fail
 clear hW;refine kW 16 (fun w'=>Below W.heap.size W w'∧w'.cell? ⟨q.P,1,none⟩=some (.slice (some ⟨gs,0,none⟩) q.S.length c)) qQ qQ ?_ ?_
 · exact⟨(jU _ _).drew,x1⟩
 simp only[jS,kK,jL,jO]
 repeat(
  (first
   |refine kF qK ?_
   |(refine kT ?_ qK ?_ ?_;rotate_left;(focus(intro w' hS;obtain⟨_,_⟩:=hS;go_simp;first|done|with_reducible rfl))))
  simp only[Act.put,jZ,jX,jY])
 refine kE (fun w' hS=>?_);have HB1:=Hd hS.1;obtain⟨w2,hcp,hO2,hM2⟩:=Jc bH iD 46 52 Tryz.underlying46 sN (kD HOWN.o (Mod.of_below (X:=[]) hS.1) (fun _ _ h=>by cases h)) f f1 (t-f) (f*2) (f1*2) (t-f) (t1-f1) (c-f) (c-f1) (by have :=HFT.o;omega) (by have :=HFT.o;have :=HF.o;omega) (by rw[show t1-f1=t-f by have :=HF.o;omega];exact Nat.min_self _) (fun _=>rfl) (fun _=>rfl);rw[HF.o.1]at hO2;have HO2:=Hd hO2;have HM2:=Hd (((Mod.of_below (X:=[gs]) HB.o).then_below HB1.o).trans hM2 (fun x hx=>.inl hx));have hP:=H.o.lt q.P qZz;have hgsw:=H.o.own.lt gs (by rw[HV.o];rfl);have hne:q.P≠gs:=by
  obtain⟨cur,hc⟩:=uR H.o.own (g:=gs) (by rw[HV.o];rfl);exact vM H.o.blk hc qZ
 have x1':=HM2.o.cell (by simpa using hne) (show w.cell? ⟨q.P,1,none⟩=some (.slice (some ⟨gs,0,none⟩) q.S.length c)from by rw[H.o.cells.2.1.1,HV.o]);have x2':=HM2.o.cell (by simpa using hne) H.o.cells.2.2.1.1;have HNB:=Hd ((hM2.block _ (Nat.lt_of_lt_of_le (jR HN.o) HB1.o.size) qY).trans ((HB1.o.block _ (jR HN.o)).trans HN.o));clear hS hO2 hM2 x1
 go_upto_region 4 with fail
 clear hcp;obtain⟨b0,-⟩:=at_ HNB.o 0 _ rfl;obtain⟨b1,-⟩:=at_ HNB.o 1 _ rfl;have HBK:=Hd (fun w' (x2:w'.cell? ⟨q.P,2,none⟩=some (.int .i64 g.cols))=>oS q.P g.cols b w' x2 hc2 hc3);refine gI 8 (fun w'=>Below w2.heap.size w2 w'∧w'.cell? ⟨q.P,1,none⟩=some (.slice (some ⟨gs,0,none⟩) q.S.length c)∧w'.cell? ⟨q.P,2,none⟩=some (.int .i64 g.cols)∧w'.cell? ⟨w.heap.size,0,none⟩=some (.int .i64 b.k)∧w'.cell? ⟨w.heap.size,1,none⟩=some (.int .i64 b.n)) qQ qQ (fun w1 w2 hS hb=>⟨jW hS.1 hb,kZ hb hS.2.1,kZ hb hS.2.2.1,kZ hb hS.2.2.2.1,kZ hb hS.2.2.2.2⟩) ⟨(jU _ _).drew,x1',x2',b0,b1⟩ ?_;refine AtN.go 0 ?_
 iterate 7 (refine AtC.take (o:=⟨_,_,_,_,_,_⟩) (v:=?_) qQ rfl qV qQ qQ ?_ ?_;rotate_left;(focus(first|exact uQ.skip qK|(refine uQ.val qK ?_;intro w' hS;obtain⟨_,_,_,_,_⟩:=hS;go_simp;first|done|with_reducible rfl)));simp only[Act.put,jZ,jX,jY])
 refine AtC.back ?_;refine AtN.one 7 (o:=⟨_,_,_,_,_,_⟩) (fun v=>∃g1 cap,v=.agg #[.slice (some ⟨g1,0,none⟩) g.cols cap,.bool false]) (fun v w'=>∃g1 cap,v=.agg #[.slice (some ⟨g1,0,none⟩) g.cols cap,.bool false]∧zZ w' ⟨some ⟨g1,0,none⟩,kN g.cols (pY b),cap,false⟩) qV qQ rfl (fun v w1 w2 ⟨g1,cap,hv,hr⟩ hb=>⟨g1,cap,hv,hr.below hb⟩) (uQ.call 174 #[.pointer (some ⟨q.P,0,none⟩),.agg #[.int .i64 b.k,.int .i64 b.n]] _ _ qK ?_ (fun w' hS=>?_)) ?_
 · intro w'
   go_simp
 · refine(HBK.o w' hS.2.2.1).mono ?_;rintro e w3 ⟨g1,cap,rfl,hr,hb⟩;exact⟨_,rfl,⟨⟨g1,cap,rfl⟩,g1,cap,rfl,hr⟩,hb⟩
 rintro v ⟨g1,cap,rfl⟩;simp only[Act.put,jZ,jX,jY];refine AtN.done qQ (fun w' hS=>?_);obtain⟨⟨hb2,-,-,-,-⟩,g1',cap',hv',hrc'⟩:=hS;simp only[Value.agg.injEq,Array.mk.injEq,List.cons.injEq,Value.slice.injEq,Option.some.injEq,Addr.mk.injEq,and_true,true_and]at hv';obtain⟨rfl,rfl⟩:=hv';have HB2:=Hd hb2;have HRC:=Hd hrc';have hS1:(q.S.take f++(q.S.drop (f+1)).take (t-f)++q.S.drop (f+(t-f))).length=q.S.length:=by have :=HFT.o;simp;omega
 have htS:t<(q.S.take f++(q.S.drop (f+1)).take (t-f)++q.S.drop (f+(t-f))).length:=by rw[hS1];exact HFT.o.2
 have hO3:=kD HO2.o (Mod.of_below (X:=[]) hb2) (fun _ _ h=>by cases h);rw[←hS1]at hO3;obtain⟨rt,hrt⟩:∃rt,(q.S.take f++(q.S.drop (f+1)).take (t-f)++q.S.drop (f+(t-f)))[t]? =some rt:=⟨_,jN htS⟩;obtain⟨⟨q0,q0f⟩,q1,q1f⟩:=zK hO3 hrt;clear hrt;have htI:(t:Int)<(q.S.length:Int):=by have :=HFT.o;omega
 have HS1:=Hd hS1;have HFT2:=Hd (show f≤t∧t<q.S.length from⟨by have :=HFT.o;omega,HFT.o.2⟩);clear hb2 hrc' x1' x2' b0 b1 hO3 hS1 htS c1 c2 c3 c4 c5 c6
 go_wp2
 go_end0
 have key:=JA (H.o) HV.o HFT.o.2 HS1.o HO2.o HM2.o HB2.o HRC.o qV (fun x hx=>ZS hx) (qJf HFT2.o.1 HFT2.o.2 ⟨some ⟨g1,0,none⟩,kN g.cols (pY b),cap,false⟩);rw[H.o.scr]at key;simp only[uG]at key;exact⟨rfl,key⟩
set_option maxHeartbeats 3200000 in
theorem pslideB(h:PgO base w q g)(f t:Nat)(b:Col)(hft:t≤f)(ht:f<q.S.length):
 Calls jG 382 #[.pointer (some ⟨q.P,0,none⟩),.int .i64 f,.int .i64 t,.agg #[.int .i64 b.k,.int .i64 b.n]] w (pJ base w q {g with scr:=rI g.scr t f (zD g.cols b)}):=by
 obtain⟨gs,c,hv⟩:=gH h.own qJ;have hr1:=h.rows1000;have hc2:=h.cols2;have hc3:=h.cols1000;have H:=Hd h;have HV:=Hd hv;obtain⟨W,hW⟩:∃W,w.alloc (.cells #[.int .i64 b.k,.int .i64 b.n] 61)=W:=⟨_,rfl⟩;have hb0:Below w.heap.size w W:=by rw[←hW];exact jH (jU _ _) _
 have HN:=Hd (show W.heap[w.heap.size]? =some (.cells #[.int .i64 b.k,.int .i64 b.n] 61 (0,0))from by rw[←hW];exact jT rfl);have HB:=Hd hb0;have hO:=h.below hb0;have HO:=Hd hO;obtain⟨-,⟨x1,-⟩,-,-⟩:=hO.cells;have hown:=hO.own;rw[hv]at x1 hown;have hcap:q.S.length≤c:=by
  rcases hown.2 with⟨e,-⟩|⟨g',c',cur,e,_,_,hc,_⟩
  · cases e
  · simp only[Value.slice.injEq]at e;omega
 have HOWN:=Hd hown;obtain⟨f1,hf1⟩:∃f1:Nat,f1=f+1:=⟨_,rfl⟩;obtain⟨t1,ht1⟩:∃t1:Nat,t1=t+1:=⟨_,rfl⟩;have hf1I:(f:Int)+1=(f1:Int):=by omega
 have ht1I:(t:Int)+1=(t1:Int):=by omega
 have hwf:jE.wrap (f1:Int)=(f1:Int):=jF _ qJ;have hwt:jE.wrap (t1:Int)=(t1:Int):=jF _ qJ;have hftI:¬(f:Int)<(t:Int):=by omega
 have c1:f1≤c:=by omega
 have c2:t1≤f1:=by omega
 have c4:f≤c:=by omega
 have c5:t≤f:=by omega
 have c6:¬c=t:=by omega
 obtain⟨off,hoff⟩:∃off,(if c=t1 then(some ⟨gs,0,none⟩:Option Addr)else some ⟨gs,t1*2,none⟩)=some ⟨gs,off,none⟩:=by
  by_cases h:c=t1
  · exact⟨0,if_pos h⟩
  · exact⟨t1*2,if_neg h⟩
 have HOFF:Hid (0<f-t→off=t1*2):=Hd (fun h=>by rw[if_neg qJ]at hoff;simp at hoff;omega);have HF:=Hd (kY hf1 ht1);have HFT:=Hd (kY hft ht);clear h hO hown hv hb0 hf1 ht1 hft ht
 go_enter Tryz.func382,Tryz.ntmps382
 go_upto_region 3 with fail
 clear hW;refine kW 16 (fun w'=>Below W.heap.size W w'∧w'.cell? ⟨q.P,1,none⟩=some (.slice (some ⟨gs,0,none⟩) q.S.length c)) qQ qQ ?_ ?_
 · exact⟨(jU _ _).drew,x1⟩
 simp only[jS,kK,jL,jO]
 repeat(
  (first
   |refine kF qK ?_
   |(refine kT ?_ qK ?_ ?_;rotate_left;(focus(intro w' hS;obtain⟨_,_⟩:=hS;go_simp;first|done|with_reducible rfl))))
  simp only[Act.put,jZ,jX,jY])
 refine kE (fun w' hS=>?_);have HB1:=Hd hS.1;obtain⟨w2,hcp,hO2,hM2⟩:=Jc bH iD 46 52 Tryz.underlying46 sN (kD HOWN.o (Mod.of_below (X:=[]) hS.1) (fun _ _ h=>by cases h)) t1 t (f-t) off (t*2) (f1-t1) (f-t) (c-t1) (c-t) (by have :=HFT.o;have :=HF.o;omega) (by have :=HFT.o;omega) (by rw[show f1-t1=f-t by have :=HF.o;omega];exact Nat.min_self _) HOFF.o (fun _=>rfl);rw[HF.o.2]at hO2;have HO2:=Hd hO2;have HM2:=Hd (((Mod.of_below (X:=[gs]) HB.o).then_below HB1.o).trans hM2 (fun x hx=>.inl hx));have hP:=H.o.lt q.P qZz;have hgsw:=H.o.own.lt gs (by rw[HV.o];rfl);have hne:q.P≠gs:=by
  obtain⟨cur,hc⟩:=uR H.o.own (g:=gs) (by rw[HV.o];rfl);exact vM H.o.blk hc qZ
 have x1':=HM2.o.cell (by simpa using hne) (show w.cell? ⟨q.P,1,none⟩=some (.slice (some ⟨gs,0,none⟩) q.S.length c)from by rw[H.o.cells.2.1.1,HV.o]);have x2':=HM2.o.cell (by simpa using hne) H.o.cells.2.2.1.1;have HNB:=Hd ((hM2.block _ (Nat.lt_of_lt_of_le (jR HN.o) HB1.o.size) qY).trans ((HB1.o.block _ (jR HN.o)).trans HN.o));clear hS hO2 hM2 x1
 go_upto_region 4 with fail
 clear hcp hoff;obtain⟨b0,-⟩:=at_ HNB.o 0 _ rfl;obtain⟨b1,-⟩:=at_ HNB.o 1 _ rfl;have HBK:=Hd (fun w' (x2:w'.cell? ⟨q.P,2,none⟩=some (.int .i64 g.cols))=>oS q.P g.cols b w' x2 hc2 hc3);refine gI 8 (fun w'=>Below w2.heap.size w2 w'∧w'.cell? ⟨q.P,1,none⟩=some (.slice (some ⟨gs,0,none⟩) q.S.length c)∧w'.cell? ⟨q.P,2,none⟩=some (.int .i64 g.cols)∧w'.cell? ⟨w.heap.size,0,none⟩=some (.int .i64 b.k)∧w'.cell? ⟨w.heap.size,1,none⟩=some (.int .i64 b.n)) qQ qQ (fun w1 w2 hS hb=>⟨jW hS.1 hb,kZ hb hS.2.1,kZ hb hS.2.2.1,kZ hb hS.2.2.2.1,kZ hb hS.2.2.2.2⟩) ⟨(jU _ _).drew,x1',x2',b0,b1⟩ ?_;refine AtN.go 0 ?_
 iterate 7 (refine AtC.take (o:=⟨_,_,_,_,_,_⟩) (v:=?_) qQ rfl qV qQ qQ ?_ ?_;rotate_left;(focus(first|exact uQ.skip qK|(refine uQ.val qK ?_;intro w' hS;obtain⟨_,_,_,_,_⟩:=hS;go_simp;first|done|with_reducible rfl)));simp only[Act.put,jZ,jX,jY])
 refine AtC.back ?_;refine AtN.one 7 (o:=⟨_,_,_,_,_,_⟩) (fun v=>∃g1 cap,v=.agg #[.slice (some ⟨g1,0,none⟩) g.cols cap,.bool false]) (fun v w'=>∃g1 cap,v=.agg #[.slice (some ⟨g1,0,none⟩) g.cols cap,.bool false]∧zZ w' ⟨some ⟨g1,0,none⟩,kN g.cols (pY b),cap,false⟩) qV qQ rfl (fun v w1 w2 ⟨g1,cap,hv,hr⟩ hb=>⟨g1,cap,hv,hr.below hb⟩) (uQ.call 174 #[.pointer (some ⟨q.P,0,none⟩),.agg #[.int .i64 b.k,.int .i64 b.n]] _ _ qK ?_ (fun w' hS=>?_)) ?_
 · intro w'
   go_simp
 · refine(HBK.o w' hS.2.2.1).mono ?_;rintro e w3 ⟨g1,cap,rfl,hr,hb⟩;exact⟨_,rfl,⟨⟨g1,cap,rfl⟩,g1,cap,rfl,hr⟩,hb⟩
 rintro v ⟨g1,cap,rfl⟩;simp only[Act.put,jZ,jX,jY];refine AtN.done qQ (fun w' hS=>?_);obtain⟨⟨hb2,-,-,-,-⟩,g1',cap',hv',hrc'⟩:=hS;simp only[Value.agg.injEq,Array.mk.injEq,List.cons.injEq,Value.slice.injEq,Option.some.injEq,Addr.mk.injEq,and_true,true_and]at hv';obtain⟨rfl,rfl⟩:=hv';have HB2:=Hd hb2;have HRC:=Hd hrc';have hS1:(q.S.take (t+1)++(q.S.drop t).take (f-t)++q.S.drop (t+1+(f-t))).length=q.S.length:=by have :=HFT.o;simp;omega
 have htS:t<(q.S.take (t+1)++(q.S.drop t).take (f-t)++q.S.drop (t+1+(f-t))).length:=by rw[hS1];have :=HFT.o;omega
 have hO3:=kD HO2.o (Mod.of_below (X:=[]) hb2) (fun _ _ h=>by cases h);rw[←hS1]at hO3;obtain⟨rt,hrt⟩:∃rt,(q.S.take (t+1)++(q.S.drop t).take (f-t)++q.S.drop (t+1+(f-t)))[t]? =some rt:=⟨_,jN htS⟩;obtain⟨⟨q0,q0f⟩,q1,q1f⟩:=zK hO3 hrt;clear hrt;have htI:(t:Int)<(q.S.length:Int):=by have :=HFT.o;omega
 have HS1:=Hd hS1;have HFT2:=Hd (show t≤f∧f<q.S.length from HFT.o);clear hb2 hrc' x1' x2' b0 b1 hO3 hS1 htS c1 c2 c4 c5 c6
 go_wp2
 go_end0
 have key:=JA (H.o) HV.o (by have :=HFT.o;omega) HS1.o HO2.o HM2.o HB2.o HRC.o qV (fun x hx=>ZS hx) (qJg HFT2.o.1 HFT2.o.2 ⟨some ⟨g1,0,none⟩,kN g.cols (pY b),cap,false⟩);rw[H.o.scr]at key;simp only[uG]at key;exact⟨rfl,key⟩
theorem Xi(l:List Ro)(t:Nat)(b:Ro):yH l t t b=rI l t t b:=by
 unfold yH rI;simp
theorem Q5(h:PgO base w q g)(f t:Nat)(b:Col)(hft:f≤t)(ht:t<q.S.length):
 Calls jG 382 #[.pointer (some ⟨q.P,0,none⟩),.int .i64 f,.int .i64 t,.agg #[.int .i64 b.k,.int .i64 b.n]] w (pJ base w q {g with scr:=yH g.scr f t (zD g.cols b)}):=by
 rcases Nat.lt_or_ge f t with h1|h1
 · exact pslideA h f t b h1 ht
 · obtain rfl:f=t:=by omega
   rw[Xi];exact pslideB h f f b (jD _) ht
end
section
variable {base:Nat}{w w1:World}{q:Pv}{g g1:Pg}
theorem xN{f:FuncId}{args:Array Value}{g2:Pg}(hs:pV base w q g1 w1)(hc:∀q1,q1.P=q.P→PgO base w1 q1 g1→Calls jG f args w1 (pJ base w1 q1 g2)):Calls jG f args w1 (pJ base w q g2):=by
 obtain⟨q1,e1,e2,h1,h2,h3⟩:=hs;exact(hc q1 e1 h1).mono fun e w2 ⟨he,hr⟩=>⟨he,pV.trans ⟨e1,e2,h2,h3⟩ hr⟩
theorem pV.hold(hs:pV base w q g1 w1){b o:Nat}{v:Value}(hb:b∉pgX q)(hc:w.cell? ⟨b,o,none⟩=some v):w1.cell? ⟨b,o,none⟩=some v:=by
 obtain⟨q1,-,-,-,h2,-⟩:=hs;exact h2.cell hb hc
theorem wJ(hs:pV base w q g1 w1):Calls jG 91 #[.pointer (some ⟨q.P,0,none⟩)] w1 fun e w2=>e=.returned (.int .i64 g1.hist.length)∧w1=w2:=by
 obtain⟨q1,e1,e2,h1,-⟩:=hs;rw[←e1];exact Jb h1
theorem nZ(hs:pV base w q g1 w1)(k a n:Int)(ht:g1.told.length≤1000000):Calls jG 149 #[.pointer (some ⟨q.P,0,none⟩),.int .i64 k,.int .i64 a,.int .i64 n] w1 (pJ base w q (pA g1 k a n)):=
 xN hs fun q1 e h=>by
  rw[←e];exact Q4 h k a n ht (by have :=h.lt q1.P qZz;omega)
theorem tP(hs:pV base w q g1 w1)(y:Int):Calls jG 293 #[.pointer (some ⟨q.P,0,none⟩),.int .i64 y] w1 (pJ base w q (yB g1 y false)):=
 xN hs fun q1 e h=>by rw[←e];exact Q7 h y
theorem wX(hs:pV base w q g1 w1)(f t:Nat)(b:Col)(hft:f≤t)(ht:t<g1.scr.length):Calls jG 382 #[.pointer (some ⟨q.P,0,none⟩),.int .i64 f,.int .i64 t,.agg #[.int .i64 b.k,.int .i64 b.n]] w1 (pJ base w q {g1 with scr:=yH g1.scr f t (zD g1.cols b)}):=
 xN hs fun q1 e h=>by rw[←e];exact Q5 h f t b hft (by rw[h.len];exact ht)
theorem PgO.hist100k(h:PgO base w q g):g.hist.length≤100000:=by have :=h.hlen;have :=h.ring.hn;have :=h.ring.hm;have :=h.ring.hroom;omega
set_option maxHeartbeats 3200000 in
theorem qJ7(h:PgO base w q g)(top bottom:Nat)(b:Col)(h1:top≤bottom)(h2:bottom<g.scr.length)(ht:g.told.length≤999990):
 Calls jG 355 #[.pointer (some ⟨q.P,0,none⟩),.int .i64 top,.int .i64 bottom,.agg #[.int .i64 b.k,.int .i64 b.n]] w (pJ base w q (Ys g top bottom b)):=by
 have hrows:=h.rows1000;have hlen:=h.len;have hh:=h.hist100k;obtain⟨W,hW⟩:∃W,w.alloc (.cells #[.int .i64 b.k,.int .i64 b.n] 61)=W:=⟨_,rfl⟩;have hb0:Below w.heap.size w W:=by rw[←hW];exact jH (jU _ _) _
 have HN:=Hd (show W.heap[w.heap.size]? =some (.cells #[.int .i64 b.k,.int .i64 b.n] 61 (0,0))from by rw[←hW];exact jT rfl);have HB:=Hd hb0;have HX:w.heap.size∉pgX q:=fun hx=>by have :=h.lt _ hx;omega
 have H0:=Hd (h.below hb0).res;have hwa:jE.wrap ((g.hist.length:Int)+(top:Int))=(g.hist.length:Int)+(top:Int):=jF _ qJ;have hwb:jE.wrap ((g.hist.length:Int)+(bottom:Int))=(g.hist.length:Int)+(bottom:Int):=jF _ qJ;have hwc:jE.wrap ((bottom:Int)+1)=(bottom:Int)+1:=jF _ qJ;have HBA:=Hd (wJ H0.o);have HBA2:Hid (∀w1,pV base W q (pA g 1 ((g.hist.length:Int)+top) 1) w1→Calls jG 91 #[.pointer (some ⟨q.P,0,none⟩)] w1 fun e w2=>e=.returned (.int .i64 g.hist.length)∧w1=w2):=Hd (fun w1 hs=>by have :=wJ hs;exact this);have HT1:=Hd (nZ H0.o 1 ((g.hist.length:Int)+top) 1 qJ);have HT2:Hid (∀w1,pV base W q (pA g 1 ((g.hist.length:Int)+top) 1) w1→Calls jG 149 #[.pointer (some ⟨q.P,0,none⟩),.int .i64 0,.int .i64 ((g.hist.length:Int)+bottom),.int .i64 1] w1 (pJ base W q (pA (pA g 1 ((g.hist.length:Int)+top) 1) 0 ((g.hist.length:Int)+bottom) 1))):=Hd (fun w1 hs=>nZ hs _ _ _ (by simp[pA];omega))
 have HSL:Hid (∀w1,pV base W q (pA (pA g 1 ((g.hist.length:Int)+top) 1) 0 ((g.hist.length:Int)+bottom) 1) w1→Calls jG 382 #[.pointer (some ⟨q.P,0,none⟩),.int .i64 top,.int .i64 bottom,.agg #[.int .i64 b.k,.int .i64 b.n]] w1 (pJ base W q {(pA (pA g 1 ((g.hist.length:Int)+top) 1) 0 ((g.hist.length:Int)+bottom) 1)with scr:=yH g.scr top bottom (zD g.cols b)})):=Hd (fun w1 hs=>wX hs top bottom b h1 h2);have HPA:=Hd (fun(g1:Pg) (y:Int) (w1:World) (hs:pV base W q g1 w1)=>tP hs y);obtain⟨b0,-⟩:=at_ HN.o 0 _ rfl;obtain⟨b1,-⟩:=at_ HN.o 1 _ rfl;have HB0:=Hd b0;have HB1:=Hd b1;have HG:Hid (Ys g top bottom b=yB (yB {(pA (pA g 1 ((g.hist.length:Int)+top) 1) 0 ((g.hist.length:Int)+bottom) 1)with scr:=yH g.scr top bottom (zD g.cols b)} top false) ((bottom:Int)+1) false):=Hd rfl;rw[HG.o];clear hb0 h b0 b1
 go_enter Tryz.func355,Tryz.ntmps355
 go_wp2_with(first
  |(go_at_call 91;first
     |(have hpv:=HS1.o;clear hpv;(with_reducible refine(HBA2.o _ HS1.o).mono ?_);rintro e w9 ⟨rfl,rfl⟩)
     |((with_reducible refine HBA.o.mono ?_);rintro e w9 ⟨rfl,rfl⟩))
  |(go_at_call 149;first
     |(have hpv:=HS1.o;clear hpv;(with_reducible refine(HT2.o _ HS1.o).mono ?_);rintro e w2 ⟨rfl,hs⟩;have HS2:=Hd hs;have y0:=hs.hold HX HB0.o;have y1:=hs.hold HX HB1.o;clear hs)
     |((with_reducible refine HT1.o.mono ?_);rintro e w2 ⟨rfl,hs⟩;have HS1:=Hd hs;clear hs))
  |(go_at_call 382;(with_reducible refine(HSL.o _ HS2.o).mono ?_);rintro e w3 ⟨rfl,hs⟩;have HS3:=Hd hs;clear hs)
  |(go_at_call 293;first
     |(have hpv:=HS4.o;clear hpv;(with_reducible refine(HPA.o _ _ _ HS4.o).mono ?_);rintro e w4 ⟨rfl,hs⟩;have HS5:=Hd hs;clear hs)
     |((with_reducible refine(HPA.o _ _ _ HS3.o).mono ?_);rintro e w4 ⟨rfl,hs⟩;have HS4:=Hd hs;clear hs)))
 go_end0
 exact⟨rfl,HS5.o.pre HB.o⟩
end
section
variable {base:Nat}{w:World}{v:Zv}{p:Pz}
theorem zX.puts{v':Zv}{p':Pz}(h:zX w v p)(o:Nat)(vs:List Value)(ho:o+vs.length≤14)(hP:v'.P=v.P)(he:(wI p v).take o++(vs++(wI p v).drop (o+vs.length))=wI p' v'):zX (w.setCells v.P o vs) v' p':=by
 unfold zX;rw[hP,←he];exact uF vs o _ w h (by show _≤14;exact ho)
def yQ(base:Nat)(w:World)(v:Zv)(p':Pz)(e:Ending)(w':World):Prop:=e=.returned (.tuple #[])∧yS base w v p' w'
def Km(v:Zv):Zv:={v with r:=fun _=>.slice none 0 0}
def Ul(wrong:Bool):List Value:=[.int .u8 0,.slice none 0 0,.slice none 0 0,.slice none 0 0,.int .u8 0,.bool wrong,.bool false]
theorem Jq{v:Zv}{p p':Pz}(h0:p'.head=[])(h1:p'.inter=[])(h2:p'.text=[]):∀k,k<3→((Km v).r k=v.r k∧p'.r k=p.r k)∨((Km v).r k=.slice none 0 0∧p'.r k=[]):=fun k hk=>.inr ⟨rfl,by
 match k,hk with
 |0,_=>exact h0
 |1,_=>exact h1
 |2,_=>exact h2⟩
theorem zX.facts(h:zX w v p):(w.cell? ⟨v.P,0,none⟩=some (.int .u8 p.pre)∧w.frozen? ⟨v.P,0,none⟩=false)∧(w.cell? ⟨v.P,1,none⟩=some (v.r 0)∧w.frozen? ⟨v.P,1,none⟩=false)∧(w.cell? ⟨v.P,2,none⟩=some (v.r 1)∧w.frozen? ⟨v.P,2,none⟩=false)∧(w.cell? ⟨v.P,3,none⟩=some (v.r 2)∧w.frozen? ⟨v.P,3,none⟩=false)∧(w.cell? ⟨v.P,4,none⟩=some (.int .u8 p.last)∧w.frozen? ⟨v.P,4,none⟩=false)∧(w.cell? ⟨v.P,5,none⟩=some (.bool p.wrong)∧w.frozen? ⟨v.P,5,none⟩=false)∧(w.cell? ⟨v.P,6,none⟩=some (.bool p.cut)∧w.frozen? ⟨v.P,6,none⟩=false)∧(w.cell? ⟨v.P,7,none⟩=some (.int .i64 p.most)∧w.frozen? ⟨v.P,7,none⟩=false)∧(w.cell? ⟨v.P,8,none⟩=some (.int .i64 p.state)∧w.frozen? ⟨v.P,8,none⟩=false):=
 ⟨at_ h 0 _ rfl,at_ h 1 _ rfl,at_ h 2 _ rfl,at_ h 3 _ rfl,at_ h 4 _ rfl,at_ h 5 _ rfl,at_ h 6 _ rfl,at_ h 7 _ rfl,at_ h 8 _ rfl⟩
theorem xD(h:PzO base w v p):Calls jG 273 #[.pointer (some ⟨v.P,0,none⟩)] w (yQ base w v (dM p)):=by
 obtain⟨⟨c0,f0⟩,⟨c1,f1⟩,⟨c2,f2⟩,⟨c3,f3⟩,⟨c4,f4⟩,⟨c5,f5⟩,⟨c6,f6⟩,⟨c7,f7⟩,⟨c8,f8⟩⟩:=h.blk.facts;have HO:=Hd h;clear h
 go_enter Tryz.func273,Tryz.ntmps273
 go_wp2
 go_end0
 exact⟨rfl,HO.o.reblk (v':=Km v) (vN (.inl qV) (Ul true) 0 _ (Mod.refl _ _)) rfl (HO.o.blk.puts 0 (Ul true) qZ rfl rfl) (Jq rfl rfl rfl)⟩
theorem eN(h:PzO base w v p)(s:Int):Calls jG 67 #[.pointer (some ⟨v.P,0,none⟩),.int .i64 s] w (yQ base w v (gV p s)):=by
 obtain⟨⟨c0,f0⟩,⟨c1,f1⟩,⟨c2,f2⟩,⟨c3,f3⟩,⟨c4,f4⟩,⟨c5,f5⟩,⟨c6,f6⟩,⟨c7,f7⟩,⟨c8,f8⟩⟩:=h.blk.facts;have HO:=Hd h;clear h
 go_enter Tryz.func67,Tryz.ntmps67
 go_wp2
 go_end0
 exact⟨rfl,HO.o.reblk (v':=Km v) (vN (.inl qV) (Ul false) 0 _ ((Mod.refl _ _).setCell (a:=⟨v.P,8,none⟩) (.inl qV) _)) rfl ((HO.o.blk.put 8 (.int .i64 s) (v':=v) (p':={p with state:=s}) rfl rfl).puts 0 (Ul false) qZ rfl rfl) (Jq rfl rfl rfl)⟩
theorem info_u8:(jG.info? 5).map (fun i=>(i.zero,i.size,i.bytes))=some (some (.int .u8 0),1,1):=by kernel_rfl
theorem PzO.snoc{W w2:World}{k:Nat}(hk:k<3){c:Int}{v':Value}(h:PzO base W v p)(hg:W.grownBy w2 (v.r k).ownBlock)(ho:w2.ownsRow base 5 1 v' ((p.r k).length+1) (bV (p.r k)++[.int .u8 c]))(hn:∀g,v'.ownBlock=some g→(v.r k).ownBlock=some g∨W.heap.size≤g):
 yS base W v (p.sr (p.r k++[c]) k) (w2.setCell ⟨v.P,k+1,none⟩ v')∧w2.cell? ⟨v.P,k+1,none⟩=some (v.r k)∧w2.frozen? ⟨v.P,k+1,none⟩=false:=by
 have hb2:zX w2 v p:=h.blk.keep hg (fun e=>h.np ⟨k,hk,e⟩);refine⟨h.grow hk hg (by rw[bV_snoc]at ho;rw[jC];exact ho) hn,?_⟩
 match k,hk with
 |0,_=>exact at_ hb2 1 _ rfl
 |1,_=>exact at_ hb2 2 _ rfl
 |2,_=>exact at_ hb2 3 _ rfl
theorem PzO.bw(h:PzO base w v p):base≤w.heap.size:=jI h.hb (Nat.le_of_lt h.blk.lt)
theorem yS.keep{p':Pz}{w':World}(h:yS base w v p' w'):∃v',v'.P=v.P∧PzO base w' v' p'∧yS base w v p' w':=by
 obtain⟨v',e,hO,h2⟩:=h;exact⟨v',e,hO,v',e,hO,h2⟩
theorem iE{ops:Array Oper}{rest:List Oper}{o:Oper}{a:Act}{Q:Exit→Act→World→Prop}(hgd:o.guard=none)(s x:Operand)(ho:o.op=.call {callee:=.builtin .append,args:=#[s,x],argTypes:=#[23,23]})
 (HO:PzO base w v p) (k:Nat) (hk:k<3) (c:Int) {n:Nat} (hN:(p.r k).length=n) (hz:n≤100000) {A:Option Addr} {cap:Nat} (hv:v.r k=.slice A n cap) (hs:a.eval s=.slice A n cap) (hx:a.eval x=.slice (some ⟨w.heap.size,0,none⟩) 1 1)
 (h:∀A' c' w3,w3.cell? ⟨v.P,k+1,none⟩=some (.slice A n cap)→w3.frozen? ⟨v.P,k+1,none⟩=false→yS base w v (p.sr (p.r k++[c]) k) (w3.setCell ⟨v.P,k+1,none⟩ (.slice A' (n+1) c'))→wpList jG ops Q rest (a.put o.dst (.slice A' (n+1) c')) w3):
 wpList jG ops Q (o::rest) a (w.alloc (.cells #[.int .u8 c] 5)):=by
 obtain⟨i0,hi0,hz0,hz1,hz2⟩:=info_parts info_u8;have hb:Below w.heap.size w (w.alloc (.cells #[.int .u8 c] 5)):=jH (jU _ _) _;have hO:=HO.below hb;have hrow:=hO.row k hk;rw[hv,hN]at hrow;refine vG hgd s x 23 ho base 5 i0 _ 1 1 Tryz.underlying23 hi0 hz0 hz1 hz2 rfl qZ (.slice A n cap) n (bV (p.r k)) hs hrow ⟨w.heap.size,0,none⟩ 1 1 [.int .u8 c] hx rfl (fun j u hj=>?_) (fun u hu=>by rw[jM.1 hu];rfl) qG qJ (jI HO.bw hb.size) (fun v' w3 h1 h2 h3=>?_)
 · cases j with
   |zero=>
    obtain rfl:Value.int .u8 c=u:=by simpa using hj
    exact(at_ (jT rfl) 0 _ rfl).1
   |succ j=>simp at hj
 · obtain⟨A',c',rfl⟩:=uT h1;rw[←hv]at h2 h3;obtain⟨r1,r2,r3⟩:=hO.snoc hk h2 (by rw[hN];exact h1) h3;rw[hv]at r2;exact h A' c' w3 r2 r3 (yS.pre hb r1)
set_option maxHeartbeats 1600000 in
theorem rL(h:PzO base w v p)(hi:p.inter.length≤2)(c:Int):Calls jG 178 #[.pointer (some ⟨v.P,0,none⟩),.int .u8 c] w (yQ base w v (iT p c)):=by
 obtain⟨A,cap,hv⟩:=uT (h.row 1 qJ);obtain⟨-,-,⟨c2,f2⟩,-,-,⟨c5,f5⟩,-,-,-⟩:=h.blk.facts;rw[hv]at c2;have HO:=Hd h;have hS:=Hd (xD h);unfold iT
 by_cases h2:p.inter.length=2
 · have hl:(p.r 1).length=2:=h2;rw[if_pos h2,show QY (dM p) c=dM p from if_pos rfl];rw[hl]at c2;clear h hv hi h2 hl
   go_enter Tryz.func178,Tryz.ntmps178
   go_wp2_with(go_at_call 273;(with_reducible refine hS.o.mono ?_);rintro e w1 ⟨rfl,hr⟩;obtain⟨v1,e1,hO1,hR⟩:=hr.keep;have HR:=Hd hR;have d5:=(at_ hO1.blk 5 (.bool true) rfl).1;rw[e1]at d5;clear hr hR hO1)
   go_end0
   exact⟨rfl,HR.o⟩
 · rw[if_neg h2];have hn2:¬((p.r 1).length:Int)=2:=fun e=>h2 (by have e2:((p.inter.length:Nat):Int)=2:=e;omega);have hz:(p.r 1).length≤2:=hi;generalize hN:(p.r 1).length=n at c2 hn2 hz;rw[hN]at hv;clear h hi h2;unfold QY
   by_cases hw:p.wrong=true
   · rw[if_pos hw];rw[hw]at c5;clear hw hv hN
     go_enter Tryz.func178,Tryz.ntmps178
     go_wp2
     go_end0
     exact⟨rfl,HO.o.res⟩
   · rw[if_neg hw];rw[show p.wrong=false by cases hq:p.wrong<;>simp_all]at c5;have HV:=Hd hv;clear hw hv
     go_enter Tryz.func178,Tryz.ntmps178
     go_wp2_with(refine iE rfl (.tmp 21) (.tmp 23) rfl HO.o 1 qJ c hN qJ HV.o rfl rfl ?_;intro A' c' w3 d0 d1 hR;have HR:=Hd hR;clear hR)
     go_end0
     exact⟨rfl,HR.o⟩
set_option maxHeartbeats 1600000 in
theorem VD(h:PzO base w v p)(hi:p.head.length≤256)(c:Int):Calls jG 179 #[.pointer (some ⟨v.P,0,none⟩),.int .u8 c] w (yQ base w v (nH p c)):=by
 obtain⟨A,cap,hv⟩:=uT (h.row 0 qJ);obtain⟨A1,cap1,hv1⟩:=uT (h.row 1 qJ);obtain⟨⟨c0,f0⟩,⟨c1,f1⟩,⟨c2,f2⟩,-,-,⟨c5,f5⟩,-,-,-⟩:=h.blk.facts;rw[hv]at c1;rw[hv1]at c2;have HO:=Hd h;have hS:=Hd (xD h);have hz:(p.r 0).length≤256:=hi;have e0:p.head.length=(p.r 0).length:=rfl;have e1:p.inter.length=(p.r 1).length:=rfl;unfold nH;rw[e0,e1];generalize hN:(p.r 0).length=n at c1 hz hv ⊢;generalize (p.r 1).length=m at c2 ⊢;clear h hi e0 e1 hv1
 by_cases hw:p.wrong=true
 · rw[if_pos hw];rw[hw]at c5;clear hw hv hN
   go_enter Tryz.func179,Tryz.ntmps179
   go_wp2
   go_end0
   exact⟨rfl,HO.o.res⟩
 rw[if_neg hw];rw[show p.wrong=false by cases hq:p.wrong<;>simp_all]at c5;clear hw
 by_cases ha:60≤c∧p.pre=0∧n=0∧m=0
 · rw[if_pos ha];obtain⟨a1,a2,rfl,rfl⟩:=ha;rw[a2]at c0;have a3:¬c<60:=by omega
   clear hv hN
   go_enter Tryz.func179,Tryz.ntmps179
   go_wp2
   go_end0
   exact⟨rfl,HO.o.one 0 (.int .u8 c) rfl (fun k hk=>by match k,hk with|0,_=>rfl|1,_=>rfl|2,_=>rfl)⟩
 rw[if_neg ha]
 by_cases hb:60≤c∨0<m∨n=256
 · rw[if_pos hb];generalize p.pre=q at c0 ha;clear hv hN;have ha:=Hd ha;have hb:=Hd hb
   go_enter Tryz.func179,Tryz.ntmps179
   go_wp2_with(go_at_call 273;(with_reducible refine hS.o.mono ?_);rintro e w1 ⟨rfl,hr⟩;have HR:=Hd hr;clear hr)
   all_goals(go_end0;exact⟨rfl,HR.o⟩)
 · rw[if_neg hb];have b1:c<60:=by omega
   have b2:¬60≤c:=by omega
   have b3:m=0:=by omega
   have b4:¬(n:Int)=256:=by omega
   subst b3;have HV:=Hd hv;clear hv ha hb
   go_enter Tryz.func179,Tryz.ntmps179
   go_wp2_with(refine iE rfl (.tmp 8) (.tmp 10) rfl HO.o 0 qJ c hN qJ HV.o rfl rfl ?_;intro A' c' w3 d0 d1 hR;have HR:=Hd hR;clear hR)
   go_end0
   exact⟨rfl,HR.o⟩
set_option maxHeartbeats 1600000 in
theorem qQw(h:PzO base w v p)(hi:p.text.length≤100000)(c:Int):Calls jG 118 #[.pointer (some ⟨v.P,0,none⟩),.int .u8 c] w (yQ base w v (Jp p c)):=by
 obtain⟨A,cap,hv⟩:=uT (h.row 2 qJ);obtain⟨-,-,-,⟨c3,f3⟩,-,-,⟨c6,f6⟩,⟨c7,f7⟩,-⟩:=h.blk.facts;rw[hv]at c3;have HO:=Hd h;have hz:(p.r 2).length≤100000:=hi;have e0:p.text.length=(p.r 2).length:=rfl;unfold Jp;rw[e0];generalize hN:(p.r 2).length=n at c3 hz hv ⊢;clear h hi e0
 by_cases hw:p.most≤(n:Int)
 · rw[if_pos hw];clear hv hN
   go_enter Tryz.func118,Tryz.ntmps118
   go_upto_region 0 with fail
   refine kW 10 (fun w'=>Below w.heap.size w w'∧w'.cell? ⟨v.P,3,none⟩=some (.slice A n cap)∧w'.cell? ⟨v.P,7,none⟩=some (.int .i64 p.most)) qQ qQ ?_ ?_
   · exact⟨(jU _ _).drew,c3,c7⟩
   simp only[jS,kK,jL,jO]
   repeat(
    (first
     |refine kF qK ?_
     |(refine kT ?_ qK ?_ ?_;rotate_left;(focus(intro w' hS;obtain⟨_,_,_⟩:=hS;go_simp;first|done|with_reducible rfl))))
    simp only[Act.put,jZ,jX,jY])
   refine kE (fun w' hS=>?_);have HB:=Hd hS.1;obtain⟨d6,e6⟩:=at_ (HO.o.below hS.1).blk 6 (.bool p.cut) rfl;clear hS
   go_wp2
   go_end0
   exact⟨rfl,yS.pre HB.o ((HO.o.below HB.o).one 6 (.bool true) rfl (fun k hk=>by match k,hk with|0,_=>rfl|1,_=>rfl|2,_=>rfl))⟩
 · rw[if_neg hw];have hw2:(n:Int)<p.most:=by omega
   have HV:=Hd hv;have HNN:=Hd hN;clear hv hN
   go_enter Tryz.func118,Tryz.ntmps118
   go_upto_region 0 with fail
   refine kW 10 (fun w'=>Below w.heap.size w w'∧w'.cell? ⟨v.P,3,none⟩=some (.slice A n cap)∧w'.cell? ⟨v.P,7,none⟩=some (.int .i64 p.most)) qQ qQ ?_ ?_
   · exact⟨(jU _ _).drew,c3,c7⟩
   simp only[jS,kK,jL,jO]
   repeat(
    (first
     |refine kF qK ?_
     |(refine kT ?_ qK ?_ ?_;rotate_left;(focus(intro w' hS;obtain⟨_,_,_⟩:=hS;go_simp;first|done|with_reducible rfl))))
    simp only[Act.put,jZ,jX,jY])
   refine kE (fun w' hS=>?_);have HB:=Hd hS.1;obtain⟨-,d3,d7⟩:=hS
   go_wp2_with(refine iE rfl (.tmp 24) (.tmp 26) rfl (HO.o.below HB.o) 2 qJ c HNN.o qJ HV.o rfl rfl ?_;intro A' c' w3 d0 d1 hR;have HR:=Hd (yS.pre HB.o hR);clear hR)
   go_end0
   exact⟨rfl,HR.o⟩
end
end Go.Proofs.YtaefcahblmopfaaGreatDoor
