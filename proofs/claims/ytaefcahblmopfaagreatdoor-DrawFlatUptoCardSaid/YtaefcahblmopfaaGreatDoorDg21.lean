/- Joined by a tool of this claim out of smaller texts. Conditions: as stated. -/
import Derived.Test.YtaefcahblmopfaaGreatDoorDg20
import Derived.RangeFuncKeeps
import Derived.RangeFuncNested
import Derived.RangeFuncBound
import Derived.RangeFuncCalls
import Derived.RangeFuncLeaves
import Derived.RangeFuncBox
import Derived.OwnWalkIn
import Derived.TacticsInMore
import Derived.LoopNIn
import Derived.LoopIn
set_option linter.unusedVariables false
set_option linter.unusedSimpArgs false
set_option maxRecDepth 100000
open Go.Lib renaming hid → Hd
open List renaming setIfInBounds_toArray → jZ, set_cons_zero → jX, set_cons_succ → jY, mem_singleton → jW, getElem?_eq_getElem → jN, getElem?_eq_some_iff → jP, length_append → jC, drop_succ_cons → jR, take_succ_cons → jS, drop_zero → jO, mem_cons → kJ, getD_eq_getElem?_getD → kV, mem_append → kM, getElem?_append_right → kT, getElem?_map → uV, getElem?_append_left → uM, take_of_length_le → vV
open Go.Proofs.Tryz renaming prog → jG
open Go.RowKit.Below renaming refl → jU
open Nat renaming le_refl → jD, le_trans → jI, zero_le → kB, add_zero → uS
open Go.IntWalk renaming i64_in → jF
open Go.IntKind renaming i64 → jE
open Array renaming getElem?_eq_some_iff → kN
open Go.World renaming setCell → uB
namespace Go.Proofs.YtaefcahblmopfaaGreatDoor
open Go.RowKit
def iT(s:Sc)(G:List (List Int)):Sc:={s with pen:={s.pen with at_:=fQ s.pen.at_ (yU G)}}
section
variable {base:Nat}{w:World}{v:Sv}{s:Sc}
set_option maxHeartbeats 1600000 in
theorem WH(h:ScO base w v s)(hf:cN s.pen.at_.fl){A:Option Addr}{H:List Gh}(hG:dU w A H)(ca:Nat)(hca:H.length≤ca)(hz:H.length≤1000000)(hzg:∀h∈H,h.g.length≤1000000):
 Calls jG 221 #[.pointer (some ⟨v.S,0,none⟩),.slice A H.length ca] w (eA base w v (iT s (vZ H))):=by
 have HO:=Hd h;have HC:Hid (∀w',Below w.heap.size w w'→Calls jG 200 #[.slice A H.length ca] w' (Ub (yU (vZ H)) w')):=Hd (fun w' hb=>oF (hG.below hb) ca hca hz hzg);have HT:Hid (∀w' (A1:Option Addr) (H1:List Gh) (c1:Nat),dU w' A1 H1→vZ H1=yU (vZ H)→Calls jG 306 #[.agg (aL s.pen.at_).toArray,.slice A1 H1.length c1] w' (iR (fQ s.pen.at_ (yU (vZ H))) w')):=Hd (fun w' A1 H1 c1 h1 h2=>by
  have hl:H1.length=(vZ H1).length:=by unfold vZ;simp
  rw[←h2];exact Y8 h1 c1 (by rw[h2];exact nC _) (by rw[hl,h2];have :=(rZ (vZ H)).2;omega) s.pen.at_ hf)
 unfold iT;obtain⟨C,hC⟩:∃C,yU (vZ H)=C:=⟨_,rfl⟩;rw[hC]at HC HT ⊢;obtain⟨a2,ha2⟩:∃a2,fQ s.pen.at_ C=a2:=⟨_,rfl⟩;rw[ha2]at HT ⊢;obtain⟨c0,-⟩:=at_ h.blk 0 (.int .i64 s.pen.at_.fk) rfl;obtain⟨c1,-⟩:=at_ h.blk 1 (.int .i64 s.pen.at_.fn) rfl;obtain⟨c2,-⟩:=at_ h.blk 2 (.int .i64 s.pen.at_.bk) rfl;obtain⟨c3,-⟩:=at_ h.blk 3 (.int .i64 s.pen.at_.bn) rfl;obtain⟨c4,-⟩:=at_ h.blk 4 (.int .i64 s.pen.at_.fl) rfl;clear h hf hG hca hz hzg hC ha2
 go_enter Tryz.func221,Tryz.ntmps221
 go_upto_region 1 with fail
 refine Go.RL.wp_region_l 12 (fun w'=>w'.cell? ⟨v.S,0,none⟩=some (.int .i64 s.pen.at_.fk)∧w'.cell? ⟨v.S,1,none⟩=some (.int .i64 s.pen.at_.fn)∧w'.cell? ⟨v.S,2,none⟩=some (.int .i64 s.pen.at_.bk)∧w'.cell? ⟨v.S,3,none⟩=some (.int .i64 s.pen.at_.bn)∧w'.cell? ⟨v.S,4,none⟩=some (.int .i64 s.pen.at_.fl)) (fun w'=>Below w.heap.size w w') qQ qQ ⟨c0,c1,c2,c3,c4⟩ ((jU _ _).drew) ?_;refine Go.RL.AtL.go 0 ?_
 iterate 7 (refine Go.RL.AtK.take (o:=⟨_,_,_,_,_,_⟩) (v:=?_) qQ rfl qV qQ qQ ?_ ?_;rotate_left;(focus(refine Go.RL.Pure.val qK ?_;intro w' hI;obtain⟨_,_,_,_,_⟩:=hI;go_simp;first|done|with_reducible rfl));simp only[Act.put,jZ,jX,jY])
 refine Go.RL.AtK.back ?_;refine Go.RL.AtL.one 7 (o:=⟨_,_,_,_,_,_⟩) (fun _=>True) (fun u w'=>∃(A1:Option Addr) (H1:List Gh) (k1:Nat),u=.slice A1 H1.length k1∧dU w' A1 H1∧vZ H1=C∧Below w.heap.size w w') qV qQ rfl
  (Go.RL.StabL.call 200 #[.slice A H.length ca] _ _ qK ?_ (fun w' hI hS=>?_)) ?_
 · intro w'
   go_simp
 · refine(HC.o w' hS).mono ?_;rintro e w3 ⟨A1,H1,k1,rfl,hg,hg2,hb⟩;obtain⟨h0,h1,h2,h3,h4⟩:=hI;exact⟨_,rfl,trivial,⟨kZ hb h0,kZ hb h1,kZ hb h2,kZ hb h3,kZ hb h4⟩,A1,H1,k1,rfl,hg,hg2,jM hS hb⟩
 rintro v1 -;simp only[Act.put,jZ,jX,jY];refine Go.RL.AtL.one 8 (o:=⟨_,_,_,_,_,_⟩) (fun u=>u=.agg (aL a2).toArray) (fun _ w'=>Below w.heap.size w w') qV qQ rfl
  (Go.RL.StabL.call 306 #[.agg (aL s.pen.at_).toArray,v1] _ _ qK ?_ (fun w' hI hS=>?_)) ?_
 · intro w'
   go_simp
   rfl
 · obtain⟨A1,H1,k1,rfl,hg,hg2,hb1⟩:=hS;refine(HT.o w' A1 H1 k1 hg hg2).mono ?_;rintro e w3 ⟨rfl,hb⟩;obtain⟨h0,h1,h2,h3,h4⟩:=hI;exact⟨_,rfl,rfl,⟨kZ hb h0,kZ hb h1,kZ hb h2,kZ hb h3,kZ hb h4⟩,jM hb1 hb⟩
 rintro v2 rfl;simp only[Act.put,jZ,jX,jY];refine Go.RL.AtL.go 9 ?_
 iterate 3 (refine Go.RL.AtK.take (o:=⟨_,_,_,_,_,_⟩) (v:=?_) qQ rfl qV qQ qQ ?_ ?_;rotate_left;(focus(refine Go.RL.Pure.val qK ?_;intro w' hI;obtain⟨_,_,_,_,_⟩:=hI;go_simp;first|done|with_reducible rfl));simp only[Act.put,jZ,jX,jY])
 refine Go.RL.AtK.back ?_;refine Go.RL.AtL.done qQ (fun w' hI hS=>?_);have hO:=HO.o.below hS;simp only[jR,jO];refine wpList_store_mid rfl 63 (.tmp 17) (.tmp 14) rfl (v.S) (0) ((aL a2).toArray) rfl rfl (hO.there (by show 0+5≤38;omega)) pD (all_oneCell_toArray (Wl _)) ?_;simp only[Act.put];have hp:=hO.puts 0 (aL a2) (by show 0+5≤38;omega) (s':={s with pen:={s.pen with at_:=a2}}) rfl rfl rfl;have HP:=Hd hp;have HS:=Hd hS;clear hI hS hO hp c0 c1 c2 c3 c4
 go_wp2
 go_end0
 exact⟨rfl,pU.pre HS.o ⟨v,rfl,rfl,rfl,HP.o.1,HP.o.2,fun _ hb=>.inl hb⟩⟩
end
theorem wH(ev:Tm→Ev→Tm)(t:Tm)(a b:List Ev):bT ev t (a++b)=bT ev (bT ev t a) b:=by simp[bT]
theorem lP.left{ev:Tm→Ev→Tm}{Ok:Tm→Ev→Prop}{t:Tm}{a b:List Ev}(h:lP ev Ok t (a++b)):lP ev Ok t a:=fun j e he=>by
 have hj:=(jP.1 he).1;have :=h j e (by rw[uM hj];exact he)
 rwa[List.take_append_of_le_length qJ]at this
theorem lP.right{ev:Tm→Ev→Tm}{Ok:Tm→Ev→Prop}{t:Tm}{a b:List Ev}(h:lP ev Ok t (a++b)):lP ev Ok (bT ev t a) b:=fun j e he=>by
 have :=h (a.length+j) e (by rw[kT qJ,Nat.add_sub_cancel_left];exact he)
 rwa[List.take_length_add_append,wH]at this
structure Blind(ev:Tm→Ev→Tm):Prop where
 pz:∀t e,(ev t e).pz=t.pz
 cm:∀t e p,ev {t with pz:=p} e={ev t e with pz:=p}
theorem Blind.evs{ev:Tm→Ev→Tm}(h:Blind ev):∀(es:List Ev) (t:Tm) (p:Pz),bT ev {t with pz:=p} es={bT ev t es with pz:=p}
 |[],_,_=>rfl
 |e::es,t,p=>by
  show bT ev (ev {t with pz:=p} e) es={bT ev (ev t e) es with pz:=p};rw[h.cm,h.evs es]
theorem Blind.byte{ev:Tm→Ev→Tm}(h:Blind ev)(t:Tm)(c:Int):QF ev t c={bT ev t (vN t.pz c).2 with pz:=(vN t.pz c).1}:=h.evs _ _ _
theorem Blind.feed{ev:Tm→Ev→Tm}(h:Blind ev):∀(bs:List Int) (t:Tm),bS ev t bs={bT ev t (pR t.pz bs).2 with pz:=(pR t.pz bs).1}
 |[],_=>rfl
 |c::bs,t=>by
  show bS ev (QF ev t c) bs=_;rw[h.byte,h.feed bs];show{bT ev {bT ev t (vN t.pz c).2 with pz:=(vN t.pz c).1} (pR (vN t.pz c).1 bs).2 with pz:=(pR (vN t.pz c).1 bs).1}={bT ev t ((vN t.pz c).2++(pR (vN t.pz c).1 bs).2)with pz:=(pR (vN t.pz c).1 bs).1};rw[h.evs,wH]
theorem Blind.evsOk{ev:Tm→Ev→Tm}{Ok:Tm→Ev→Prop}(h:Blind ev)(ho:∀t e p,Ok t e→Ok {t with pz:=p} e){t:Tm}{es:List Ev}(hE:lP ev Ok t es)(p:Pz):lP ev Ok {t with pz:=p} es:=fun j e he=>by
 rw[h.evs];exact ho _ _ _ (hE j e he)
theorem Blind.feedOk{ev:Tm→Ev→Tm}{Ok:Tm→Ev→Prop}(h:Blind ev)(ho:∀t e p,Ok t e→Ok {t with pz:=p} e):∀(bs:List Int) (t:Tm),lP ev Ok t (pR t.pz bs).2→fO ev Ok t bs
 |[],_,_=>fO.nil
 |c::bs,t,hE=>by
  have hE':lP ev Ok t ((vN t.pz c).2++(pR (vN t.pz c).1 bs).2):=hE;refine fO.cons (h.evsOk ho hE'.left _) (h.feedOk ho bs _ ?_);rw[h.byte];exact h.evsOk ho hE'.right _
def Xy(r:Int):Ev:={evE with r:=r}
def Qv(l:List Nat)(c:Int):Ev:=⟨3,0,c,0,l.map (fun n:Nat=>[(n:Int)]),[],[],false⟩
def dR(e:Ev):List Int:=if e.kind=0 then vK e.r else 27::91::(yV (e.nums.map fun g=>(g.headD 0).toNat)++[e.byte])
theorem ZT(r:Int):dR (Xy r)=vK r:=rfl
theorem dV(l:List Nat)(c:Int):dR (Qv l c)=27::91::(yV l++[c]):=by
 have e:(l.map (fun n:Nat=>[(n:Int)])).map (fun g=>(g.headD 0).toNat)=l:=by
  rw[List.map_map]
  conv=>rhs;rw[←List.map_id l]
  exact List.map_congr_left (fun n _=>by simp)
 show 27::91::(yV ((l.map (fun n:Nat=>[(n:Int)])).map (fun g=>(g.headD 0).toNat))++[c])=_;rw[e]
def qK3(e:Ev):Prop:=(∃r,e=Xy r∧gD r=true∧rH r)∨(∃(l:List Nat) (c:Int),e=Qv l c∧l≠[]∧l.length≤32∧(∀n∈l,n≤65535)∧64≤c∧c<127)
theorem iP:∀(k n:Nat),n<10 ^ (k+1)→(cB n).length≤k+1
 |0,n,h=>by
  rw[mL,if_pos qJ];exact jD _
 |k+1,n,h=>by
  rw[mL]
  split
  · simp
  · have :n/10<10 ^ (k+1):=by rw[Nat.div_lt_iff_lt_mul qZ];rw[Nat.pow_succ]at h;exact h
    have :=iP k (n/10) this;simp only[jC,List.length_cons,List.length_nil];omega
theorem iZ:∀l:List Nat,(∀n∈l,n≤65535)→(yV l).length≤6*l.length
 |[],_=>jD _
 |[n],h=>by
  have :=iP 4 n (by have :=h n qV;omega);show(cB n).length≤6;omega
 |n::m::l,h=>by
  have :=iP 4 n (by have :=h n qV;omega);have :=iZ (m::l) (fun x hx=>h x (List.mem_cons_of_mem _ hx));show(cB n++59::yV (m::l)).length≤_;simp only[jC,List.length_cons]at this ⊢;omega
structure RestQ(p:Pz):Prop where
 r:qKz p
 h:p.head=[]
 i:p.inter=[]
 t:p.text=[]
theorem RestQ.held{p:Pz}(h:RestQ p):p.state=0∧JI p=0:=by
 refine⟨h.r.1,?_⟩;unfold JI;rw[h.h,h.i,h.t,h.r.2.2];rfl
theorem RestQ.new(n:Int):RestQ (dN n):=⟨⟨rfl,rfl,rfl⟩,rfl,rfl,rfl⟩
theorem xT:∀(E:List Ev) (p:Pz),RestQ p→(∀e∈E,qK3 e)→∃p',RestQ p'∧pR p (E.flatMap dR)=(p',E)
 |[],p,h,_=>⟨p,h,rfl⟩
 |e::E,p,h,hE=>by
  rw[List.flatMap_cons];rcases hE e (List.mem_cons_self ..)with⟨r,rfl,hs,hp⟩|⟨l,c,rfl,h1,h2,h3,h4,h5⟩
  · obtain⟨d,d1,d2,d3⟩:=qQw h.r [r] (fun x hx=>by rw[jW.1 hx];exact⟨hs,hp⟩);obtain⟨p',hp',hr⟩:=xT E {p with dec:=d} ⟨⟨h.r.1,d1,d2⟩,h.h,h.i,h.t⟩ (fun x hx=>hE x (List.mem_cons_of_mem _ hx));refine⟨p',hp',?_⟩;rw[ZT,dC,show vK r=[r].flatMap vK from by simp,d3];show((pR {p with dec:=d} (E.flatMap dR)).1,[Xy r]++(pR {p with dec:=d} (E.flatMap dR)).2)=_;rw[hr];rfl
  · have hq:=iZ l h3;have hs:=seq_run h.r (l:=yV l) (aW l) qJ (c:=c) ⟨h4,h5⟩;have hn:Vl (yV l)=l.map (fun n:Nat=>[(n:Int)]):=aX l 32 h1 h2 h3;rw[hn]at hs;obtain⟨p',hp',hr⟩:=xT E (gX p 0) ⟨⟨rfl,h.r.2.1,h.r.2.2⟩,rfl,rfl,rfl⟩ (fun x hx=>hE x (List.mem_cons_of_mem _ hx));refine⟨p',hp',?_⟩;rw[dV,dC,hs];show((pR (gX p 0) (E.flatMap dR)).1,[Qv l c]++(pR (gX p 0) (E.flatMap dR)).2)=_;rw[hr];rfl
def evS(s:Sc)(e:Ev):Sc:=
 if e.kind=0 then mX s e.r
 else if e.byte=72 then sJ s (gF e.nums 0-1) (gF e.nums 1-1)
 else if e.byte=109 then iT s e.nums
 else if e.byte=88 then zD s (gF e.nums 0)
 else s
def evD(t:Tm)(e:Ev):Tm:=doT t (fun s=>evS s e)
def OkS(s:Sc)(e:Ev):Prop:=(e.kind=0∨(e.kind=3∧e.pre=0∧e.inter=[]∧(e.byte=72∨e.byte=109∨e.byte=88)))∧ScI s∧s.pg.told.length≤900000∧cN s.pen.at_.fl
def OkD(t:Tm)(e:Ev):Prop:=OkS (iC t) e
theorem nW:Blind evD:=by
 refine⟨fun t e=>?_,fun t e p=>?_⟩
 · unfold evD doT Xp;split<;>rfl
 · unfold evD doT Xp iC;cases t.use<;>rfl
theorem OkD.cm(t:Tm)(e:Ev)(p:Pz)(h:OkD t e):OkD {t with pz:=p} e:=h
theorem QJ:∀(E:List Ev) (t:Tm),t.use=false→bT evD t E={t with s0:=E.foldl evS t.s0}
 |[],_,_=>rfl
 |e::E,t,h=>by
  have e1:evD t e={t with s0:=evS t.s0 e}:=by
   unfold evD doT Xp iC;rw[h];rfl
  show bT evD (evD t e) E=_;rw[e1];exact QJ E {t with s0:=evS t.s0 e} h
def pB(s:Sc)(bs:List Int)(s':Sc):Prop:=∃E:List Ev,bs=E.flatMap dR∧(∀e∈E,qK3 e)∧(∀j e,E[j]? =some e→OkS ((E.take j).foldl evS s) e)∧E.foldl evS s=s'
theorem pB.refl(s:Sc):pB s [] s:=⟨[],rfl,(fun e h=>by cases h),(fun j e h=>by simp at h),rfl⟩
theorem pB.trans{s s1 s2:Sc}{a b:List Int}(h1:pB s a s1)(h2:pB s1 b s2):pB s (a++b) s2:=by
 obtain⟨E,rfl,g1,o1,rfl⟩:=h1;obtain⟨F,rfl,g2,o2,rfl⟩:=h2;refine⟨E++F,by rw[List.flatMap_append],fun e he=>(kM.1 he).elim (g1 e) (g2 e),fun j e he=>?_,by rw[List.foldl_append]⟩
 by_cases hj:j<E.length
 · rw[uM hj]at he;rw[List.take_append_of_le_length qJ];exact o1 j e he
 · rw[kT qJ]at he;obtain⟨i,rfl⟩:∃i,j=E.length+i:=⟨j-E.length,by omega⟩;rw[Nat.add_sub_cancel_left]at he;rw[List.take_length_add_append,List.foldl_append];exact o2 i e he
theorem pB.one{s:Sc}{e:Ev}(h:qK3 e)(ho:OkS s e):pB s (dR e) (evS s e):=
 ⟨[e],by simp,fun x hx=>by rw[jW.1 hx];exact h,fun j x hx=>by
  match j,hx with
  |0,hx=>obtain rfl:e=x:=by simpa using hx
         exact ho
  |j+1,hx=>simp at hx,rfl⟩
theorem pB.fed{t:Tm}{bs:List Int}{s':Sc}(h:pB t.s0 bs s')(hu:t.use=false)(hp:RestQ t.pz):∃p',RestQ p'∧bS evD t bs={t with s0:=s',pz:=p'}∧fO evD OkD t bs:=by
 obtain⟨E,rfl,hg,ho,rfl⟩:=h;obtain⟨p',hp',hr⟩:=xT E t.pz hp hg;refine⟨p',hp',?_,nW.feedOk OkD.cm _ _ ?_⟩
 · rw[nW.feed,hr];show{bT evD t E with pz:=p'}=_;rw[QJ E t hu]
 · rw[hr];intro j e he;show OkS (iC (bT evD t (E.take j))) e;rw[QJ _ t hu];have :=ho j e he;unfold iC;show OkS (if t.use=true then _ else _) e;rw[hu];exact this
def cT(k n:Int):Bool:=decide (k=0∧n=0∨k=1∧0≤n∧n<256∨k=2∧0≤n∧n<16777216)
def oA(n f:Int):Bool:=if n<0 then false else decide (n/f%2=1)
def iL(fk fn bk bn fl:Int):Bool:=cT fk fn&&cT bk bn&&decide (0≤fl)&&decide (fl<1024)&& !(oA fl 8&&oA fl 256)
theorem QM(k n:Int):(k=0∧(n=0∧cT k n=true∨n≠0∧cT k n=false))∨(k=1∧(0≤n∧n<256∧cT k n=true∨n<0∧cT k n=false∨256≤n∧cT k n=false))∨(k=2∧(0≤n∧n<16777216∧cT k n=true∨n<0∧cT k n=false∨16777216≤n∧cT k n=false))∨(k≠0∧k≠1∧k≠2∧cT k n=false):=by
 unfold cT;simp only[decide_eq_true_eq,decide_eq_false_iff_not];omega
theorem aJ(k n:Int)(w:World):Calls jG 60 #[.agg #[.int .i64 k,.int .i64 n]] w fun e w'=>e=.returned (.bool (cT k n))∧Below w.heap.size w w':=by
 have HC:=QM k n;generalize cT k n=b at HC ⊢;rcases HC with⟨rfl,⟨rfl,rfl⟩|⟨h,rfl⟩⟩|⟨rfl,⟨h0,h1,rfl⟩|⟨h0,rfl⟩|⟨h0,rfl⟩⟩|⟨rfl,⟨h0,h1,rfl⟩|⟨h0,rfl⟩|⟨h0,rfl⟩⟩|⟨h0,h1,h2,rfl⟩
 all_goals
  go_enter Tryz.func60,Tryz.ntmps60
  go_wp2
  go_ret
  refine⟨?_,by repeat(first|exact jU _ _|refine jH ?_ _)⟩;simp
  try omega
theorem QS(k n:Int)(hc:cT k n=true)(w:World):Calls jG 164 #[.agg #[.int .i64 k,.int .i64 n]] w fun e w'=>e=.returned (.bool true)∧Below w.heap.size w w':=by
 have HC:=QM k n;rw[hc]at HC;clear hc;rcases HC with⟨rfl,⟨rfl,_⟩|⟨_,h⟩⟩|⟨rfl,⟨h0,h1,_⟩|⟨_,h⟩|⟨_,h⟩⟩|⟨rfl,⟨h0,h1,_⟩|⟨_,h⟩|⟨_,h⟩⟩|⟨_,_,_,h⟩
 all_goals try(cases h;done)
 all_goals
  go_enter Tryz.func164,Tryz.ntmps164
  go_wp2
  go_ret
  refine⟨?_,by repeat(first|exact jU _ _|refine jH ?_ _)⟩;simp
  try omega
theorem JU(n f:Int)(w:World)(h0:0≤n)(h1:n<1024)(hf:0<f)(hf2:f≤1024):Calls jG 61 #[.int .i64 n,.int .i64 f] w fun e w'=>e=.returned (.bool (oA n f))∧w=w':=by
 have hq:n.tdiv f=n/f:=Int.tdiv_eq_ediv_of_nonneg h0;have hqn:0≤n/f:=Int.ediv_nonneg h0 qJ;have hql:n/f≤n:=Int.ediv_le_self _ h0;have hr:(n/f).tmod 2=n/f%2:=Int.tmod_eq_emod_of_nonneg hqn;have hfz:(f==0)=false:=beq_eq_false_iff_ne.2 qJ;have hf0:¬f=0:=by omega
 have hn:¬n<0:=by omega
 have hw1:jE.wrap (n/f)=n/f:=jF _ qJ;have hw2:jE.wrap (n/f%2)=n/f%2:=jF _ qJ;have he:oA n f=(n/f%2==1):=by
  unfold oA;rw[if_neg hn]
  by_cases h:n/f%2=1
  · rw[h];rfl
  · rw[beq_eq_false_iff_ne.2 h,decide_eq_false h]
 rw[he];clear he
 go_enter Tryz.func61,Tryz.ntmps61
 go_wp2
 go_ret
 exact⟨rfl,rfl⟩
set_option maxHeartbeats 1600000 in
theorem Vu(fk fn bk bn fl:Int)(w:World):Calls jG 32 #[.agg #[.int .i64 fk,.int .i64 fn,.int .i64 bk,.int .i64 bn,.int .i64 fl]] w fun e w'=>e=.returned (.bool (iL fk fn bk bn fl))∧Below w.heap.size w w':=by
 have HF:=Hd (fun w=>aJ fk fn w);have HB:=Hd (fun w=>aJ bk bn w);unfold iL;obtain⟨b1,hb1⟩:∃b,cT fk fn=b:=⟨_,rfl⟩;obtain⟨b2,hb2⟩:∃b,cT bk bn=b:=⟨_,rfl⟩;rw[hb1]at HF ⊢;rw[hb2]at HB ⊢;clear hb1 hb2;cases b1
 · go_enter Tryz.func32,Tryz.ntmps32
   go_wp2_with(go_at_call 60;refine(HF.o _).mono ?_;rintro e w1 ⟨rfl,hb1⟩;have hB1:=jM (show Below w.heap.size w _ from by repeat(first|exact jU _ _|refine jH ?_ _)) hb1;have e2:=(vT hb1 (jA rfl) 2 _ rfl).1;have e3:=(vT hb1 (jA rfl) 3 _ rfl).1;have e4:=(vT hb1 (jA rfl) 4 _ rfl).1)
   go_ret
   exact⟨by simp,hB1⟩
 cases b2
 · go_enter Tryz.func32,Tryz.ntmps32
   go_wp2_with(first|(go_at_call 60;(with_reducible refine(HF.o _).mono ?_);rintro e w1 ⟨rfl,hb1⟩;have hB1:=jM (show Below w.heap.size w _ from by repeat(first|exact jU _ _|refine jH ?_ _)) hb1;have e2:=(vT hb1 (jA rfl) 2 _ rfl).1;have e3:=(vT hb1 (jA rfl) 3 _ rfl).1;have e4:=(vT hb1 (jA rfl) 4 _ rfl).1)|(go_at_call 60;(with_reducible refine(HB.o _).mono ?_);rintro e w2 ⟨rfl,hb2⟩;have hB2:=jM (show Below w.heap.size w _ from by repeat(first|exact hB1|refine jH ?_ _)) hb2;have f4:=kZ hb2 e4))
   go_ret
   exact⟨by simp,hB2⟩
 by_cases h0:0≤fl
 rotate_left
 · have h0':fl<0:=by omega
   go_enter Tryz.func32,Tryz.ntmps32
   go_wp2_with(first|(go_at_call 60;(with_reducible refine(HF.o _).mono ?_);rintro e w1 ⟨rfl,hb1⟩;have hB1:=jM (show Below w.heap.size w _ from by repeat(first|exact jU _ _|refine jH ?_ _)) hb1;have e2:=(vT hb1 (jA rfl) 2 _ rfl).1;have e3:=(vT hb1 (jA rfl) 3 _ rfl).1;have e4:=(vT hb1 (jA rfl) 4 _ rfl).1)|(go_at_call 60;(with_reducible refine(HB.o _).mono ?_);rintro e w2 ⟨rfl,hb2⟩;have hB2:=jM (show Below w.heap.size w _ from by repeat(first|exact hB1|refine jH ?_ _)) hb2;have f4:=kZ hb2 e4))
   go_ret
   refine⟨?_,hB2⟩;rw[decide_eq_false (show ¬0≤fl by omega)];simp
 by_cases h1:fl<1024
 rotate_left
 · have h1':1024≤fl:=by omega
   go_enter Tryz.func32,Tryz.ntmps32
   go_wp2_with(first|(go_at_call 60;(with_reducible refine(HF.o _).mono ?_);rintro e w1 ⟨rfl,hb1⟩;have hB1:=jM (show Below w.heap.size w _ from by repeat(first|exact jU _ _|refine jH ?_ _)) hb1;have e2:=(vT hb1 (jA rfl) 2 _ rfl).1;have e3:=(vT hb1 (jA rfl) 3 _ rfl).1;have e4:=(vT hb1 (jA rfl) 4 _ rfl).1)|(go_at_call 60;(with_reducible refine(HB.o _).mono ?_);rintro e w2 ⟨rfl,hb2⟩;have hB2:=jM (show Below w.heap.size w _ from by repeat(first|exact hB1|refine jH ?_ _)) hb2;have f4:=kZ hb2 e4))
   go_ret
   refine⟨?_,hB2⟩;rw[decide_eq_false (show ¬fl<1024 by omega)];simp
 have H8:=Hd (fun w=>JU fl 8 w h0 h1 qJ qJ);have H256:=Hd (fun w=>JU fl 256 w h0 h1 qJ qJ);obtain⟨b3,hb3⟩:∃b,oA fl 8=b:=⟨_,rfl⟩;obtain⟨b4,hb4⟩:∃b,oA fl 256=b:=⟨_,rfl⟩;rw[hb3]at H8 ⊢;rw[hb4]at H256 ⊢;clear hb3 hb4;cases b3<;>cases b4<;>
 · go_enter Tryz.func32,Tryz.ntmps32
   go_wp2_with(first|(go_at_call 60;(with_reducible refine(HF.o _).mono ?_);rintro e w1 ⟨rfl,hb1⟩;have hB1:=jM (show Below w.heap.size w _ from by repeat(first|exact jU _ _|refine jH ?_ _)) hb1;have e2:=(vT hb1 (jA rfl) 2 _ rfl).1;have e3:=(vT hb1 (jA rfl) 3 _ rfl).1;have e4:=(vT hb1 (jA rfl) 4 _ rfl).1)|(go_at_call 60;(with_reducible refine(HB.o _).mono ?_);rintro e w2 ⟨rfl,hb2⟩;have hB2:=jM (show Below w.heap.size w _ from by repeat(first|exact hB1|refine jH ?_ _)) hb2;have f4:=kZ hb2 e4)|(go_at_call 61;(with_reducible refine(H8.o _).mono ?_);rintro e w1 ⟨rfl,rfl⟩)|(go_at_call 61;(with_reducible refine(H256.o _).mono ?_);rintro e w1 ⟨rfl,rfl⟩))
   go_ret
   exact⟨by simp[h0,h1],hB2⟩
theorem YU:∀f:Fin 1024,bits .andNot .i64 (f.val:Int) 1023=0∧(oA (f.val:Int) 8=true∧oA (f.val:Int) 256=true∨¬bits .and .i64 (f.val:Int) 264=264):=by decide +kernel
theorem QT(fk fn bk bn fl:Int)(h:iL fk fn bk bn fl=true)(w:World):Calls jG 93 #[.agg #[.int .i64 fk,.int .i64 fn,.int .i64 bk,.int .i64 bn,.int .i64 fl]] w fun e w'=>e=.returned (.bool true)∧Below w.heap.size w w':=by
 unfold iL at h;simp only[Bool.and_eq_true,decide_eq_true_eq,Bool.not_eq_true']at h;obtain⟨⟨⟨⟨hf,hb⟩,h0⟩,h1⟩,h2⟩:=h;have HF:=Hd (fun w=>QS fk fn hf w);have HB:=Hd (fun w=>QS bk bn hb w);have hfl:=YU ⟨fl.toNat,by omega⟩;rw[show(((⟨fl.toNat,by omega⟩:Fin 1024).val:Nat):Int)=fl from by show((fl.toNat:Nat):Int)=fl;omega]at hfl;obtain⟨hx,hy⟩:=hfl;have hy':¬bits .and .i64 fl 264=264:=by
  rcases hy with⟨a,b⟩|h
  · rw[a,b]at h2;cases h2
  · exact h
 clear hf hb h0 h1 h2 hy
 go_enter Tryz.func93,Tryz.ntmps93
 go_wp2_with(first|(go_at_call 164;(with_reducible refine(HF.o _).mono ?_);rintro e w1 ⟨rfl,hb1⟩;have hB1:=jM (show Below w.heap.size w _ from by repeat(first|exact jU _ _|refine jH ?_ _)) hb1;have e2:=(vT hb1 (jA rfl) 2 _ rfl).1;have e3:=(vT hb1 (jA rfl) 3 _ rfl).1;have e4:=(vT hb1 (jA rfl) 4 _ rfl).1)|(go_at_call 164;(with_reducible refine(HB.o _).mono ?_);rintro e w2 ⟨rfl,hb2⟩;have hB2:=jM (show Below w.heap.size w _ from by repeat(first|exact hB1|refine jH ?_ _)) hb2;have f4:=kZ hb2 e4))
 go_ret
 refine⟨?_,hB2⟩;simp[hx,hy']
def zE:List (Nat×Int):=[(1,1),(2,2),(3,4),(4,8),(5,16),(7,32),(8,64),(9,128),(21,256),(53,512)]
def zI(f:Int):List Nat:=(zE.filter (fun x=>Qb f x.2)).map (·.1)
def pM(k n:Int)(m:Nat):List Nat:=if k=1 then[m,5,n.toNat]else if k=2 then[m,2,(n/65536).toNat,(n/256%256).toNat,(n%256).toNat]else[]
def pY(a:Atr):List Nat:=0::(zI a.fl++(pM a.fk a.fn 38++pM a.bk a.bn 48))
def dW(l:List Nat):List (List Int):=l.map (fun n:Nat=>[(n:Int)])
def gQ(a:Atr):Prop:=iL a.fk a.fn a.bk a.bn a.fl=true
theorem gQ.parts{a:Atr}(h:gQ a):cT a.fk a.fn=true∧cT a.bk a.bn=true∧0≤a.fl∧a.fl<1024∧(oA a.fl 8&&oA a.fl 256)=false:=by
 unfold gQ iL at h;simp only[Bool.and_eq_true,decide_eq_true_eq,Bool.not_eq_true']at h;exact⟨h.1.1.1.1,h.1.1.1.2,h.1.1.2,h.1.2,h.2⟩
theorem gQ.fl{a:Atr}(h:gQ a):cN a.fl:=⟨h.parts.2.2.1,h.parts.2.2.2.1⟩
theorem gQ.zero:gQ vI:=by unfold gQ;decide
theorem sN(l:List Nat)(h0:l≠[])(h1:l.length≤32)(h2:∀n∈l,n≤65535):yU (dW l)=dW l:=by
 unfold yU dW;rw[if_neg (by simpa using h0),vV (by simpa using h1),List.map_map];refine List.map_congr_left (fun n hn=>?_);have :=h2 n hn;show bR [(n:Int)]=[(n:Int)];unfold bR fT;simp only[List.length_cons,List.length_nil];rw[if_neg qZ];simp only[jS,List.take_nil,List.map_cons,List.map_nil,List.cons.injEq,and_true];omega
theorem cM{l:List (List Int)}{i v:Nat}(h:l[i]? =some [(v:Int)]):yP l i=v:=by
 unfold yP;rw[kV,h];show max 0 (v:Int)=v;omega
theorem Qr{l:List (List Int)}{i v:Nat}(a:Atr)(h:l[i]? =some [(v:Int)])(hv:v≠38∧v≠48):bU l.length a l i=bU l.length (dM a (v:Int) [(v:Int)]) l (i+1):=by
 rw[iA l a i (jP.1 h).1];unfold eM;rw[cM h,if_neg qJ,kV,h];rfl
theorem xN:∀(F:List Nat) (l:List (List Int)) (i:Nat) (a:Atr),(∀(j v:Nat),F[j]? =some v→l[i+j]? =some [(v:Int)])→(∀v∈F,v≠38∧v≠48)→bU l.length a l i=bU l.length (F.foldl (fun(a:Atr) (v:Nat)=>dM a (v:Int) [(v:Int)]) a) l (i+F.length)
 |[],_,_,_,_,_=>rfl
 |v::F,l,i,a,h,hv=>by
  have h0:=h 0 v rfl;rw[uS]at h0;rw[Qr a h0 (hv v (List.mem_cons_self ..)),xN F l (i+1) _ (fun j u hj=>by rw[show i+1+j=i+(j+1) by omega];exact h (j+1) u hj) (fun u hu=>hv u (List.mem_cons_of_mem _ hu))];rw[show i+1+F.length=i+(v::F).length by simp;omega];rfl
theorem xM{k n:Int}{m:Nat}{l:List (List Int)}{i:Nat}(a:Atr)(hm:m=38∨m=48)(hc:cT k n=true)(h:∀(j v:Nat),(pM k n m)[j]? =some v→l[i+j]? =some [(v:Int)]):
 bU l.length a l i=bU l.length (if k=0 then a else wL a m (some ⟨k,n⟩)) l (i+(pM k n m).length):=by
 have hk:(k=0∧n=0)∨(k=1∧0≤n∧n<256)∨(k=2∧0≤n∧n<16777216):=by
  unfold cT at hc;rw[decide_eq_true_eq]at hc;omega
 rcases hk with⟨rfl,rfl⟩|⟨rfl,h1,h2⟩|⟨rfl,h1,h2⟩
 · rfl
 · have e:pM 1 n m=[m,5,n.toNat]:=rfl;rw[e]at h ⊢;have g0:=h 0 _ rfl;have g1:=h 1 _ rfl;have g2:=h 2 _ rfl;rw[iA l a i (by have :=(jP.1 g0).1;omega)];have f0:=cM g0;have f1:=cM g1;have f2:=cM g2;rw[uS]at g0 f0;have hx:nS l i=(some ⟨1,n⟩,i+3):=by
    unfold nS;rw[kV,g0];simp only[Option.getD_some];rw[if_neg qV,f1,if_pos qZ,f2,if_pos ⟨(jP.1 g2).1,by omega⟩]
    congr 2
    congr 1
    omega
   unfold eM;rw[f0,if_pos qJ,hx,if_neg qZ];rfl
 · have e:pM 2 n m=[m,2,(n/65536).toNat,(n/256%256).toNat,(n%256).toNat]:=rfl;rw[e]at h ⊢;have g0:=h 0 _ rfl;have g1:=h 1 _ rfl;have g2:=h 2 _ rfl;have g3:=h 3 _ rfl;have g4:=h 4 _ rfl;rw[iA l a i (by have :=(jP.1 g0).1;omega)];have f0:=cM g0;have f1:=cM g1;have f2:=cM g2;have f3:=cM g3;have f4:=cM g4;rw[uS]at g0 f0;have hx:nS l i=(some ⟨2,n⟩,i+5):=by
    unfold nS;rw[kV,g0];simp only[Option.getD_some];rw[if_neg qV,f1,if_neg qZ,if_pos qZ,f2,f3,f4,if_pos ⟨(jP.1 g4).1,by omega,by omega,by omega⟩]
    congr 2
    congr 1
    omega
   unfold eM;rw[f0,if_pos qJ,hx,if_neg qZ];rfl
theorem YH:∀f:Fin 1024,(oA (f.val:Int) 8&&oA (f.val:Int) 256)=false→(zI (f.val:Int)).foldl (fun(g:Int) (v:Nat)=>cK g (v:Int) [(v:Int)]) 0=(f.val:Int):=by decide +kernel
theorem tW(f:Int):∀v∈zI f,v=1∨v=2∨v=3∨v=4∨v=5∨v=7∨v=8∨v=9∨v=21∨v=53:=fun v hv=>by
 unfold zI at hv;obtain⟨x,hx,rfl⟩:=List.mem_map.1 hv;have :=(List.mem_filter.1 hx).1;simp only[zE,kJ,List.not_mem_nil,or_false]at this;rcases this with rfl|rfl|rfl|rfl|rfl|rfl|rfl|rfl|rfl|rfl<;>simp
theorem YM(f:Int):(zI f).length≤10:=by
 unfold zI;rw[List.length_map];exact jI (List.length_filter_le ..) qZ
theorem aS:∀(F:List Nat) (f:Int),(∀v∈F,v=1∨v=2∨v=3∨v=4∨v=5∨v=7∨v=8∨v=9∨v=21∨v=53)→F.foldl (fun(a:Atr) (v:Nat)=>dM a (v:Int) [(v:Int)]) ⟨0,0,0,0,f⟩=⟨0,0,0,0,F.foldl (fun(g:Int) (v:Nat)=>cK g (v:Int) [(v:Int)]) f⟩
 |[],_,_=>rfl
 |v::F,f,h=>by
  have e:dM ⟨0,0,0,0,f⟩ (v:Int) [(v:Int)]=⟨0,0,0,0,cK f (v:Int) [(v:Int)]⟩:=by
   rcases h v (List.mem_cons_self ..)with rfl|rfl|rfl|rfl|rfl|rfl|rfl|rfl|rfl|rfl<;>rfl
  show F.foldl _ (dM ⟨0,0,0,0,f⟩ (v:Int) [(v:Int)])=_;rw[e];exact aS F _ (fun u hu=>h u (List.mem_cons_of_mem _ hu))
theorem dO{k n:Int}{m:Nat}(hm:m≤255)(hc:cT k n=true):(pM k n m).length≤5∧∀v∈pM k n m,v≤65535:=by
 have hk:(k=0∧n=0)∨(k=1∧0≤n∧n<256)∨(k=2∧0≤n∧n<16777216):=by
  unfold cT at hc;rw[decide_eq_true_eq]at hc;omega
 rcases hk with⟨rfl,rfl⟩|⟨rfl,h1,h2⟩|⟨rfl,h1,h2⟩
 · exact⟨kB _,fun v hv=>by cases hv⟩
 · refine⟨by show 3≤5;decide,fun v hv=>?_⟩;rw[show pM 1 n m=[m,5,n.toNat]from rfl]at hv;simp only[kJ,List.not_mem_nil,or_false]at hv;omega
 · refine⟨by show 5≤5;decide,fun v hv=>?_⟩;rw[show pM 2 n m=[m,2,(n/65536).toNat,(n/256%256).toNat,(n%256).toNat]from rfl]at hv;simp only[kJ,List.not_mem_nil,or_false]at hv;omega
theorem nB{a:Atr}(h:gQ a):pY a≠[]∧(pY a).length≤32∧∀n∈pY a,n≤65535:=by
 obtain⟨h1,h2,-,-,-⟩:=h.parts;have p1:=dO (m:=38) qZ h1;have p2:=dO (m:=48) qZ h2;have p3:=YM a.fl;refine⟨by simp[pY],?_,fun n hn=>?_⟩
 · unfold pY;simp only[List.length_cons,jC];omega
 · unfold pY at hn;rcases kJ.1 hn with rfl|hn
   · omega
   rcases kM.1 hn with hn|hn
   · have :=tW a.fl n hn;omega
   rcases kM.1 hn with hn|hn
   · exact p1.2 n hn
   · exact p2.2 n hn
theorem VJ{a:Atr}(h:gQ a)(on:Atr):fQ on (dW (pY a))=a:=by
 obtain⟨h1,h2,h3,h4,h5⟩:=h.parts;obtain⟨fk,fn,bk,bn,fl⟩:=a;obtain⟨l,hl⟩:∃l,dW (pY ⟨fk,fn,bk,bn,fl⟩)=l:=⟨_,rfl⟩;have hat:∀(j v:Nat),(pY ⟨fk,fn,bk,bn,fl⟩)[j]? =some v→l[j]? =some [(v:Int)]:=fun j v hj=>by
  rw[←hl];unfold dW;rw[uV,hj];rfl
 have hlen:l.length=1+((zI fl).length+((pM fk fn 38).length+(pM bk bn 48).length)):=by
  rw[←hl];unfold dW pY;simp only[List.length_map,List.length_cons,jC];omega
 rw[hl];unfold fQ;rw[Qr on (hat 0 0 rfl) qZ];rw[show dM on ((0:Nat):Int) [((0:Nat):Int)]=vI from rfl];rw[xN (zI fl) l (0+1) vI (fun j v hj=>hat _ v (by
  have hj2:=(jP.1 hj).1;show(0::(zI fl++_))[0+1+j]? =_;rw[show 0+1+j=j+1 by omega,List.getElem?_cons_succ,uM hj2];exact hj)) (fun v hv=>by have :=tW fl v hv;omega)]
 rw[show vI=⟨0,0,0,0,0⟩from rfl,aS _ _ (tW fl)];have hf:=YH ⟨fl.toNat,by simp only at h4 h3;omega⟩ (by
  show(oA ((fl.toNat:Nat):Int) 8&&oA ((fl.toNat:Nat):Int) 256)=false;rw[show((fl.toNat:Nat):Int)=fl by simp only at h3;omega];exact h5)
 have hfe:((fl.toNat:Nat):Int)=fl:=by simp only at h3;omega
 simp only[hfe]at hf;rw[hf];rw[xM (k:=fk) (n:=fn) (m:=38) _ (.inl rfl) h1 (fun j v hj=>hat _ v (by
  have hj2:=(jP.1 hj).1;show(0::(zI fl++(pM fk fn 38++_)))[0+1+(zI fl).length+j]? =_;rw[show 0+1+(zI fl).length+j=(zI fl).length+j+1 by omega,List.getElem?_cons_succ,kT qJ,Nat.add_sub_cancel_left,uM hj2];exact hj))]
 rw[xM (k:=bk) (n:=bn) (m:=48) _ (.inr rfl) h2 (fun j v hj=>hat _ v (by
  show(0::(zI fl++(pM fk fn 38++pM bk bn 48)))[0+1+(zI fl).length+(pM fk fn 38).length+j]? =_;rw[show 0+1+(zI fl).length+(pM fk fn 38).length+j=(zI fl).length+((pM fk fn 38).length+j)+1 by omega,List.getElem?_cons_succ,kT qJ,Nat.add_sub_cancel_left,kT qJ,Nat.add_sub_cancel_left];exact hj))]
 rw[dI l _ _ _ qJ];have z:∀k n:Int,cT k n=true→k=0→n=0:=fun k n hc hk=>by
  unfold cT at hc;rw[decide_eq_true_eq]at hc;omega
 by_cases k1:fk=0
 · have :=z _ _ h1 k1;simp only at k1 this;subst k1 this;rw[if_pos rfl]
   by_cases k2:bk=0
   · have :=z _ _ h2 k2;simp only at k2 this;subst k2 this;rw[if_pos rfl]
   · rw[if_neg k2];rfl
 · rw[if_neg k1]
   by_cases k2:bk=0
   · have :=z _ _ h2 k2;simp only at k2 this;subst k2 this;rw[if_pos rfl];rfl
   · rw[if_neg k2];rfl
set_option maxHeartbeats 1600000 in
theorem Us(b:Nat)(d:Dk)(c:Int)(w:World)(hd:zV w b d)(h:okD d c):
 Calls jG 69 #[.pointer (some ⟨b,0,none⟩),.int .u8 c] w (Zo b (yF d c) w):=by
 have HD:=Hd hd;obtain⟨h0,h1,h2,h3,h4⟩:=hd;have c0:=h0.1;have c1:=h1.1;have c2:=h2.1;have c3:=h3.1;have c4:=h4.1;have f0:=h0.2;have f1:=h1.2;have f2:=h2.2;have f3:=h3.2;have f4:=h4.2;clear h0 h1 h2 h3 h4;obtain⟨n,need,hv,lo,hi⟩:=d;simp only at c0 c1 c2 c3 c4;rcases h with⟨e0,e1,hc⟩|⟨e0,e1,e2,e3,e4,e5,e6,e7,e8,e9⟩
 · simp only at e0 e1;subst e0 e1;have HB:=Hd (XW b ⟨n,0,0,lo,hi⟩ c w HD.o hc);have HX:yF ⟨n,0,0,lo,hi⟩ c=if c<128 then(some c,⟨n,0,0,lo,hi⟩)else(none,zU c):=by unfold yF;rw[if_pos rfl]
   rw[HX];clear HX hc;generalize (if c<128 then(some c,⟨n,0,0,lo,hi⟩)else(none,zU c):Option Int×Dk)=X at HB ⊢
   go_enter Tryz.func69,Tryz.ntmps69
   go_wp2_with(go_at_call 117;(with_reducible refine HB.o.mono ?_);rintro e w1 ⟨v,rfl,hv⟩)
   go_ret
   exact⟨_,rfl,hv⟩
 · simp only at e0 e1 e2 e3 e4 e5 e6 e7 e8 e9;have hn0:¬need=0:=by omega
   have g1:¬c<lo:=by omega
   have g2:¬hi<c:=by omega
   have w1:jE.wrap (hv+1)=hv+1:=jF _ qJ;have w2:jE.wrap (need-1)=need-1:=jF _ qJ
   by_cases hl:need=1
   · subst hl
     go_enter Tryz.func69,Tryz.ntmps69
     go_wp2
     go_ret
     rw[show yF ⟨n,1,hv,lo,hi⟩ c=(some (n*64+c%64),⟨n*64+c%64,0,0,128,191⟩)from by unfold yF;rw[if_neg (show ¬(1:Int)=0 by decide),if_pos rfl];simp only[];rw[Int.mul_comm 64 n]];refine⟨_,rfl,⟨_,rfl,?_,jA (by simp[uB])⟩,((((((HD.o.set0 _).set3 _).set4 _).set2 _).set1 _).set2 _).grown ((jU _ _).alloc (jD _) _),dK (vU (vU (vU (vU (vU (vU (zY _ _) _) _) _) _) _) _) _⟩;exact jD _
   · have hl1:0<need-1:=by omega
     go_enter Tryz.func69,Tryz.ntmps69
     go_wp2
     go_ret
     rw[show yF ⟨n,need,hv,lo,hi⟩ c=(none,⟨n*64+c%64,need-1,hv+1,128,191⟩)from by unfold yF;rw[if_neg hn0,if_neg hl];simp only[];rw[Int.mul_comm 64 n]];exact⟨_,rfl,rfl,((((HD.o.set0 _).set3 _).set4 _).set2 _).set1 _,vU (vU (vU (vU (vU (zY _ _) _) _) _) _) _⟩
theorem qQe(b:Nat)(d:Dk)(w:World)(hd:zV w b d)(h:d.hv=0):
 Calls jG 66 #[.pointer (some ⟨b,0,none⟩)] w fun e w'=>e=.returned (.slice none 0 0)∧w=w':=by
 obtain⟨h0,h1,h2,h3,h4⟩:=hd;have c2:=h2.1;rw[h]at c2;clear h0 h1 h2 h3 h4
 go_enter Tryz.func66,Tryz.ntmps66
 go_wp2
 go_ret
 exact⟨rfl,rfl⟩
open Go.RowKit Go
def AbD{β:Type}(d:Nat)(J:β→World→Prop):Prop:=∀s W W',J s W→W.grownBy W' (some d)→J s W'
def bodyD{α:Type}(Kp:World→World→Prop)(I:List α→World→Prop)(xs:List α)(W:World):Exit→Act→World→Prop
 | .normal,_,W'=>KeepsOthers W W'∧Kp W W'∧I xs W'
 |_,_,_=>False
def SeqD{α:Type}(F:Fence)(n:Nat)(P:Program)(l g:Nat)(lb:Array Value)(encs:α→Array Value)(Kp:World→World→Prop)(d:Nat)(xs:List α)(W:World):Prop:=
 ∀(J:List α→World→Prop),AbD d J→
  (∀pre x W1,J pre W1→pre.length<xs.length→d<W1.heap.size→YieldAt F (n-1) P l (encs x) W1 fun e W'=>e=.returned (.bool true)∧J (pre++[x]) W'∧Kp W1 W')→
  J [] W→
  CallsIn F n P g (#[.func (.yield l) #[] #[]]++lb) W fun e W'=>(∃v,e=.returned v)∧J xs W'
variable {F:Fence}{n:Nat}{P:Program}
theorem sF{α:Type}{g:Operand}{ps:Array Tmp}{assign body:Code}{Q:Exit→Act→World→Prop}{a:Act}{w:World}
 (hro:F.round=none) (h1:1≤n) {gf:Nat} {lb:Array Value} (hg:a.eval g=.func (.func gf) #[] lb) (hFg:F.fn gf) (eg:∀args w,(callFunc gf args).run P w=.ok (.enter gf args) w)
 {encs:α→Array Value} {Kp:World→World→Prop} {xs:List α} {d:Nat} (hd:w.heap.size+1<d)
 (hseq:∀W,Below w.heap.size w W→W.heap.size=w.heap.size+2→SeqD F (n-1) P (w.heap.size+1) gf lb encs Kp d xs W)
 (hKt:∀{A B C:World},Kp A B→Kp B C→Kp A C) (hKb:∀(W:World) (o':Obj),Kp W (W.putObj (w.heap.size+1) o')) (hps:∀x,(encs x).size=ps.size)
 (I:List α→World→Prop) (hI:∀s W W' r,I s W→W.grownBy W' (some r)→r=d∨r=w.heap.size+1→I s W') (h0:I [] w) (a₁:α→Act)
 (hassign:∀(l:Nat) (x:α) (W:World) (K:Act→World→Prop),K (a₁ x) W→
   assign.wpIn (F.inRound l) (n-1-1) P (Exit.then K (fun _ _ _=>False)) {tmps:=(ps.zip (encs x)).foldl (fun t (p,v)=>t.setIfInBounds p v) a.tmps,defers:=[]} W)
 (hbody:∀(l:Nat) (pre:List α) (x:α) (W:World),I pre W→pre.length<xs.length→d<W.heap.size→body.wpIn (F.inRound l) (n-1-1) P (bodyD Kp I (pre++[x]) W) (a₁ x) W)
 (hdone:∀(W:World),I xs W→W.heap[w.heap.size]? =some (.deferred (some []))→Q .normal {a with defers:={target:=.collected w.heap.size,args:=#[]}::a.defers} W):
 (Code.rangeFunc g ps assign body).wpIn F n P Q a w:=by
 refine wpIn_rangeFunc ?_;intro fn hfn;rw[hro];obtain⟨rec,hrec⟩:∃rec:LoopState→Option Code→Loop,rec=fun st pe=>{state:=st,pending:=pe,fn,tmps:=a.tmps,params:=ps,assign,body,defers:=w.heap.size}:=⟨_,rfl⟩;obtain⟨W1,hW1⟩:∃W1,(w.alloc (.deferred (some []))).alloc (.loop (rec .ready none))=W1:=⟨_,rfl⟩;have hL1:W1.heap[w.heap.size+1]? =some (.loop (rec .ready none)):=by
  rw[←hW1];have :=World.alloc_heap_new (w.alloc (.deferred (some []))) (.loop (rec .ready none));rwa[World.size_alloc]at this
 have hK1:W1.heap[w.heap.size]? =some (.deferred (some [])):=by
  rw[←hW1];exact(Below.heap_alloc _ _ _ qV).trans (World.alloc_heap_new w _)
 have hb1:Below w.heap.size w W1:=by
  rw[←hW1];exact((jU _ w).alloc (jD _) _).alloc qV _
 have hs1:W1.heap.size=w.heap.size+2:=by rw[←hW1];simp
 have hg1:w.grownBy W1 (some d):=by
  rw[←hW1];exact⟨rfl,rfl,rfl,by simp;omega,fun k hk _=>((Below.heap_alloc _ _ k qY).trans (Below.heap_alloc w _ k hk))⟩
 have hI1:I [] W1:=hI [] w W1 d h0 hg1 (.inl rfl);refine⟨w.heap.size+1,[{target:=.collected w.heap.size,args:=#[]}],W1,{target:=.fn (.func gf) lb,args:=#[.func (.yield (w.heap.size+1)) #[] #[]]},W1,gf,
  #[.func (.yield (w.heap.size + 1)) #[] #[]] ++ lb, W1, ?_, ?_, ?_, ?_, fun _ => h1, ?_⟩
 · rw[←hW1,hrec];exact run_enterLoop_outer _ _ _ _ _
 · simp only[resolve,hg];simp[go_sem]
 · intro f' hf';simp[Target.leads]at hf';subst hf';exact hFg
 · simp[invoke,go_sem,eg]
 · refine(hseq W1 hb1 hs1
    (fun pre W=>I pre W∧W.heap[w.heap.size+1]? =some (.loop (rec .ready none))∧W.heap[w.heap.size]? =some (.deferred (some [])))
    (fun s A B hs hg'=>⟨hI s A B d hs.1 hg' (.inl rfl),
      (hg'.block _ (kN.1 hs.2.1).1 qVu).trans hs.2.1,
      (hg'.block _ (kN.1 hs.2.2).1 qVu).trans hs.2.2⟩)
    ?_ ⟨hI1,hL1,hK1⟩).mono ?_
   · rintro pre x W ⟨hi,hl,hk⟩ hlen hdl;have hlt:w.heap.size+1<W.heap.size:=(kN.1 hl).1;have hy:=run_yield (P:=P) (args:=encs x) hl (by rw[hrec];exact hps x);rw[hrec]at hy;refine⟨fn,_,assign,body,hy,roundIn_of_wpIn hfn (hassign _ x W _ ⟨_,run_beginRound hl (by rw[hrec]),?_⟩)⟩;have hl2:(W.putObj (w.heap.size+1) (.loop {rec .ready none with state:=.busy})).heap[w.heap.size+1]? =some (.loop {rec .ready none with state:=.busy}):=World.putObj_heap_same hlt;have hk2:(W.putObj (w.heap.size+1) (.loop {rec .ready none with state:=.busy})).heap[w.heap.size]? =some (.deferred (some [])):=(World.putObj_heap_other qJ).trans hk;have hw2:Kp W (W.putObj (w.heap.size+1) (.loop {rec .ready none with state:=.busy})):=hKb _ _;refine wpIn_mono (hbody _ pre x _ (hI _ _ _ _ hi (grownBy_putObj' W (w.heap.size+1) _) (.inr rfl)) hlen (by rw[World.putObj_size];exact hdl)) ?_;rintro e a3 W3 hp;cases e with
     |normal=>
      obtain⟨hk3,hkp3,hi3⟩:=hp;have hl3:=hk3.same _ _ hl2 rfl;have hr:=run_endRound (P:=P) none hl3;rw[hrec]at hr hl3;refine⟨_,_,hr,⟨rfl,⟨hI _ _ _ _ hi3 (grownBy_putObj' W3 (w.heap.size+1) _) (.inr rfl),?_,?_⟩,hKt (hKt hw2 hkp3) (hKb _ _)⟩⟩
      · rw[hrec];exact World.putObj_heap_same (kN.1 hl3).1
      · exact(World.putObj_heap_other qJ).trans (hk3.same _ _ hk2 rfl)
     |_=>exact hp.elim
   · rintro e W2 ⟨⟨v,rfl⟩,hi,hl,hk⟩;exact⟨none,_,by have :=run_endLoop (P:=P) hl (by rw[hrec];simp);rw[hrec]at this;exact this,hdone _ (hI _ _ _ _ hi (grownBy_putObj' W2 (w.heap.size+1) _) (.inr rfl)) ((World.putObj_heap_other qJ).trans hk)⟩
attribute [local go_sem] Oper.semAt_some
def KpD(ob lr d:Nat)(W W':World):Prop:=W.heap.size≤W'.heap.size∧∀k,k≤d→k≠ob→k≠lr→W'.heap[k]? =W.heap[k]?
theorem KpD.trans{ob lr d:Nat}{A B C:World}(h:KpD ob lr d A B)(k:KpD ob lr d B C):KpD ob lr d A C:=⟨jI h.1 k.1,fun i a b c=>(k.2 i a b c).trans (h.2 i a b c)⟩
theorem KpD.cell{ob lr d:Nat}{W W':World}(h:KpD ob lr d W W'){b o:Nat}(hb:b≤d)(h1:b≠ob)(h2:b≠lr):W'.cell? ⟨b,o,none⟩=W.cell? ⟨b,o,none⟩∧W'.frozen? ⟨b,o,none⟩=W.frozen? ⟨b,o,none⟩:=
 ⟨World.cell?_of_block (h.2 b hb h1 h2),World.frozen?_of_block (h.2 b hb h1 h2)⟩
theorem zV.kept{ob lr d:Nat}{W W':World}(h:KpD ob lr d W W'){x:Dk}(h1:d≠ob)(h2:d≠lr)(hd:zV W d x):zV W' d x:=by
 obtain⟨a0,a1,a2,a3,a4⟩:=hd;have k:=fun o=>h.cell (b:=d) (o:=o) (jD _) h1 h2;exact⟨⟨(k 0).1.trans a0.1,(k 0).2.trans a0.2⟩,⟨(k 1).1.trans a1.1,(k 1).2.trans a1.2⟩,⟨(k 2).1.trans a2.1,(k 2).2.trans a2.2⟩,⟨(k 3).1.trans a3.1,(k 3).2.trans a3.2⟩,⟨(k 4).1.trans a4.1,(k 4).2.trans a4.2⟩⟩
def Kn(W:World)(ob lr d:Nat)(A:Option Addr)(bs:List Int):Prop:=0<bs.length→∃g off,A=some ⟨g,off,none⟩∧g<d∧g≠ob∧g≠lr∧∀i x,bs[i]? =some x→W.cell? ⟨g,off+i,none⟩=some (.int .u8 x)
theorem Kn.kept{ob lr d:Nat}{W W':World}{A:Option Addr}{bs:List Int}(h:KpD ob lr d W W')(hb:Kn W ob lr d A bs):Kn W' ob lr d A bs:=fun h0=>by
 obtain⟨g,off,e,h1,h2,h3,h4⟩:=hb h0;exact⟨g,off,e,h1,h2,h3,fun i x hx=>(h.cell qJ h2 h3).1.trans (h4 i x hx)⟩
theorem Kn.grown{ob lr d:Nat}{W W':World}{A:Option Addr}{bs:List Int}(h:W.grownBy W' (some d))(hb:Kn W ob lr d A bs):Kn W' ob lr d A bs:=fun h0=>by
 obtain⟨g,off,e,h1,h2,h3,h4⟩:=hb h0;exact⟨g,off,e,h1,h2,h3,fun i x hx=>(World.cell?_of_block (h.block g (vG (h4 i x hx)) qVu)).trans (h4 i x hx)⟩
theorem cell_gb{W W':World}{b d o:Nat}{v:Value}(h:W.grownBy W' (some d))(hb:b≠d)(hc:W.cell? ⟨b,o,none⟩=some v):W'.cell? ⟨b,o,none⟩=some v:=
 (World.cell?_of_block (h.block b (vG hc) (by intro e;cases e;exact hb rfl))).trans hc
theorem qQy(d:Dk)(l:List Int)(k:Nat):(yT d (l.take k)).1.length≤(yT d l).1.length:=by
 have :=mK d (l.take k) (l.drop k);rw[List.take_append_drop]at this;rw[this];simp
theorem KG{bs:List Int}{k:Nat}(h:k<bs.length):bs[k]? =some bs[k]:=jN h
set_option maxHeartbeats 3200000 in
theorem Uw(n:Nat)(hn:1≤n)(l ob bb ca:Nat)(A:Option Addr)(bs L:List Int)(hok:∀d:Dk,d.need=0∧d.hv=0→fX d bs∧(yT d bs).1=L∧(yT d bs).2.need=0∧(yT d bs).2.hv=0)(hz:bs.length≤10000)
 (W:World) (hob:ob<W.heap.size) (hl:l<W.heap.size) (hbb:bb≠ob) (hbl:bb≠l) (hb:W.cell? ⟨bb,0,none⟩=some (.slice A bs.length ca)) (hbs:Kn W ob l W.heap.size A bs):
 SeqD Fence.wide n jG l 376 #[.pointer (some ⟨bb,0,none⟩)] (fun x:Int=>#[Value.int .i32 x]) (KpD ob l W.heap.size) W.heap.size L W:=by
 intro J hJ hY h0;obtain⟨hok1,hL,hnd,hhv⟩:=hok ⟨0,0,0,0,0⟩ ⟨rfl,rfl⟩;have HOK:=Hd hok1;have HL:=Hd hL;have HBS:=Hd hbs;have HEND:=Hd (⟨hnd,hhv⟩:(yT ⟨0,0,0,0,0⟩ bs).2.need=0∧(yT ⟨0,0,0,0,0⟩ bs).2.hv=0);clear hok hok1 hL hbs hnd hhv;have hbW:=vG hb;have hD0:zV (W.alloc (.cells #[.int .i32 0,.int .i64 0,.int .i64 0,.int .u8 0,.int .u8 0] 132)) W.heap.size ⟨0,0,0,0,0⟩:=⟨at_ (jA rfl) 0 _ rfl,at_ (jA rfl) 1 _ rfl,at_ (jA rfl) 2 _ rfl,at_ (jA rfl) 3 _ rfl,at_ (jA rfl) 4 _ rfl⟩;have hg0:=dK (zY W (some W.heap.size)) (.cells #[.int .i32 0,.int .i64 0,.int .i64 0,.int .u8 0,.int .u8 0] 132);have hb1:=cell_gb hg0 qJ hb;have HB1:=Hd (⟨hD0,HBS.o.grown hg0,hJ _ _ _ h0 hg0,hb1⟩:zV (W.alloc (.cells #[.int .i32 0,.int .i64 0,.int .i64 0,.int .u8 0,.int .u8 0] 132)) W.heap.size ⟨0,0,0,0,0⟩∧Kn (W.alloc (.cells #[.int .i32 0,.int .i64 0,.int .i64 0,.int .u8 0,.int .u8 0] 132)) ob l W.heap.size A bs∧J [] (W.alloc (.cells #[.int .i32 0,.int .i64 0,.int .i64 0,.int .u8 0,.int .u8 0] 132))∧(W.alloc (.cells #[.int .i32 0,.int .i64 0,.int .i64 0,.int .u8 0,.int .u8 0] 132)).cell? ⟨bb,0,none⟩=some (.slice A bs.length ca));clear hD0 hg0 hb h0;obtain⟨d,hd⟩:∃d,d=W.heap.size:=⟨_,rfl⟩
 refine callsIn_of_wp Tryz.func376 rfl trivial ?_ rfl;simp only[Tryz.ntmps376,List.size_toArray,List.length_cons,List.length_nil,Nat.reduceAdd,Nat.reduceSub,Array.replicate_succ,Array.replicate_zero,List.push_toArray,List.append_toArray,List.nil_append,List.cons_append]
 gi_wp2
 gi_loopw [12] (fun i wr=>∃k:Nat,k≤bs.length∧i=.int .i64 k∧zV wr W.heap.size (yT ⟨0,0,0,0,0⟩ (bs.take k)).2∧Kn wr ob l W.heap.size A bs∧J (yT ⟨0,0,0,0,0⟩ (bs.take k)).1 wr) (fun i _=>bs.length-(intOf i).toNat)
 case atStart=>exact⟨0,kB _,rfl,HB1.o.1,HB1.o.2.1,HB1.o.2.2.1⟩
 case round=>
  obtain⟨k,hk,rfl,hdec,hbk,hj⟩:=hrel
  by_cases hlt:k<bs.length
  · obtain⟨g,off,rfl,hg1,hg2,hg3,hcs⟩:=hbk qJ;have hc:=hcs k _ (KG hlt);have hokk:=qJp HOK.o hlt;have HT:=Hd (xE ⟨0,0,0,0,0⟩ bs hlt);have HLEN:=Hd (qQy ⟨0,0,0,0,0⟩ bs (k+1));have HS:=Hd (Us W.heap.size _ _ wr hdec hokk);have HBK:=Hd hbk;have HJ:=Hd hj;clear hdec hokk hbk hj hcs;rw[HT.o,HL.o]at HLEN;generalize hx:bs[k]=x at hc HS HT HLEN;generalize (yT ⟨0,0,0,0,0⟩ (bs.take k)).2=D at HS HT HLEN;generalize (yT ⟨0,0,0,0,0⟩ (bs.take k)).1=P at HJ HT HLEN;generalize yF D x=X at HS HT HLEN;obtain⟨x1,D'⟩:=X;clear hx;rcases x1 with _|r
    · gi_wp2_with (refine⟨trivial,?_⟩;gi_at_call 69;refine(callsIn_wide.2 HS.o).mono ?_;rintro e W1 ⟨v,rfl,rfl,hd1,hgr⟩)
      refine wpIn_loop_rounds 1 ?_;rw[roundsIn_succ]
      gi_wp2
      go_roundw
      case rel=>exact⟨k+1,by omega,by simp,by rw[HT.o];exact hd1,HBK.o.grown hgr,by rw[HT.o];simpa using hJ _ _ _ HJ.o hgr⟩
      case measure=>simp[intOf];omega
    · gi_wp2_with (refine⟨trivial,?_⟩;gi_at_call 69;refine(callsIn_wide.2 HS.o).mono ?_;rintro e W1 ⟨v,rfl,⟨g',rfl,hg',hcell⟩,hd1,hgr⟩)
      have hj1:=hJ _ _ _ HJ.o hgr;have hc1:=(at_ hcell 0 _ rfl).1;obtain⟨fn,tmps,assign,body,hy,hR⟩:=hY _ r W1 hj1 (by have :=HLEN.o;simp at this;omega) hd1.lt;clear hj1;refine wpIn_loop_rounds 2 ?_;rw[roundsIn_succ]
      gi_wp2
      refine hR.mono ?_;rintro e W3 ⟨rfl,hJ3,hk3⟩;have HJ3:=Hd hJ3;have HK3:=Hd hk3;clear hJ3 hk3
      gi_wp2
      rw[roundsIn_succ]
      gi_wp2
      go_roundw
      case rel=>exact⟨k+1,by omega,by simp,by rw[HT.o];exact hd1.kept HK3.o qJ qJ,(HBK.o.grown hgr).kept HK3.o,by rw[HT.o];exact HJ3.o⟩
      case measure=>simp[intOf];omega
  · obtain rfl:k=bs.length:=by omega
    rw[List.take_length]at hdec hj;have HE:=Hd (qQe W.heap.size _ wr hdec HEND.o.2);have HJ:=Hd hj;clear hdec hj
    gi_wp2_with (refine⟨trivial,?_⟩;gi_at_call 66;refine(callsIn_wide.2 HE.o).mono ?_;rintro e W1 ⟨rfl,rfl⟩)
    refine wpIn_loop_rounds 1 ?_;rw[roundsIn_succ]
    gi_wp2
    go_end0
    exact⟨⟨_,rfl⟩,by rw[←HL.o];exact HJ.o⟩
end Go.Proofs.YtaefcahblmopfaaGreatDoor
