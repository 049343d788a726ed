/- Joined by a tool of this claim out of smaller texts. Conditions: as stated. -/
import Derived.Test.YtaefcahblmopfaaGreatDoorDj25
import Derived.Test.YtaefcahblmopfaaGreatDoorDj28
set_option linter.unusedVariables false
set_option linter.unusedSimpArgs false
set_option maxRecDepth 100000
open Go.Lib renaming hid → Hd
open List renaming setIfInBounds_toArray → jZ, set_cons_zero → jX, set_cons_succ → jY, mem_singleton → jM, getElem?_eq_some_iff → jP, length_append → jC, drop_succ_cons → jL, take_succ_cons → jS, drop_zero → jO, mem_cons → kJ, getD_eq_getElem?_getD → kX, append_assoc → kG, mem_append → kU, replicate → kN, getElem?_append_right → kI, length_set → uV, getElem?_map → uX, length_replicate → uG, getElem?_append_left → uD, take_of_length_le → vY, ext_getElem? → gM
open Go.Proofs.Tryz renaming prog → jG
open Go.RowKit.Below renaming refl → jU
open Nat renaming le_refl → jD, le_trans → jI, zero_le → kM, add_zero → uA
open ByteArray renaming empty → kH
open Int renaming toNat_natCast → vV
namespace Go.Proofs.YtaefcahblmopfaaGreatDoor
open Go.RowKit
def iI(s:Sc)(G:List (List Int)):Sc:={s with pen:={s.pen with at_:=fX s.pen.at_ (yP G)}}
section
variable {base:Nat}{w:World}{v:Sv}{s:Sc}
set_option maxHeartbeats 1600000 in
theorem We(h:ScO base w v s)(hf:cP s.pen.at_.fl){A:Option Addr}{H:List Gh}(hG:dC w A H)(ca:Nat)(hca:H.length≤ca)(hz:H.length≤1000000)(hzg:∀h∈H,h.g.length≤1000000):
 Calls jG 221 #[.pointer (some ⟨v.S,0,none⟩),.slice A H.length ca] w (fK base w v (iI s (vU H))):=by
 have HO:=Hd h;have HC:Hid (∀w',Below w.heap.size w w'→Calls jG 200 #[.slice A H.length ca] w' (WY (yP (vU H)) w')):=Hd (fun w' hb=>oE (hG.below hb) ca hca hz hzg);have HT:Hid (∀w' (A1:Option Addr) (H1:List Gh) (c1:Nat),dC w' A1 H1→vU H1=yP (vU H)→Calls jG 306 #[.agg (aL s.pen.at_).toArray,.slice A1 H1.length c1] w' (iA (fX s.pen.at_ (yP (vU H))) w')):=Hd (fun w' A1 H1 c1 h1 h2=>by
  have hl:H1.length=(vU H1).length:=by unfold vU;simp
  rw[←h2];exact qQq h1 c1 (by rw[h2];exact nS _) (by rw[hl,h2];have :=(rM (vU H)).2;omega) s.pen.at_ hf)
 unfold iI;obtain⟨C,hC⟩:∃C,yP (vU H)=C:=⟨_,rfl⟩;rw[hC]at HC HT ⊢;obtain⟨a2,ha2⟩:∃a2,fX s.pen.at_ C=a2:=⟨_,rfl⟩;rw[ha2]at HT ⊢;obtain⟨c0,-⟩:=at_ h.blk 0 (.int .i64 s.pen.at_.fk) rfl;obtain⟨c1,-⟩:=at_ h.blk 1 (.int .i64 s.pen.at_.fn) rfl;obtain⟨c2,-⟩:=at_ h.blk 2 (.int .i64 s.pen.at_.bk) rfl;obtain⟨c3,-⟩:=at_ h.blk 3 (.int .i64 s.pen.at_.bn) rfl;obtain⟨c4,-⟩:=at_ h.blk 4 (.int .i64 s.pen.at_.fl) rfl;clear h hf hG hca hz hzg hC ha2
 go_enter Tryz.func221,Tryz.ntmps221
 go_upto_region 1 with fail
 refine Go.RL.wp_region_l 12 (fun w'=>w'.cell? ⟨v.S,0,none⟩=some (.int .i64 s.pen.at_.fk)∧w'.cell? ⟨v.S,1,none⟩=some (.int .i64 s.pen.at_.fn)∧w'.cell? ⟨v.S,2,none⟩=some (.int .i64 s.pen.at_.bk)∧w'.cell? ⟨v.S,3,none⟩=some (.int .i64 s.pen.at_.bn)∧w'.cell? ⟨v.S,4,none⟩=some (.int .i64 s.pen.at_.fl)) (fun w'=>Below w.heap.size w w') qQ qQ ⟨c0,c1,c2,c3,c4⟩ ((jU _ _).drew) ?_;refine Go.RL.AtL.go 0 ?_
 iterate 7 (refine Go.RL.AtK.take (o:=⟨_,_,_,_,_,_⟩) (v:=?_) qQ rfl qV qQ qQ ?_ ?_;rotate_left;(focus(refine Go.RL.Pure.val qK ?_;intro w' hI;obtain⟨_,_,_,_,_⟩:=hI;go_simp;first|done|with_reducible rfl));simp only[Act.put,jZ,jX,jY])
 refine Go.RL.AtK.back ?_;refine Go.RL.AtL.one 7 (o:=⟨_,_,_,_,_,_⟩) (fun _=>True) (fun u w'=>∃(A1:Option Addr) (H1:List Gh) (k1:Nat),u=.slice A1 H1.length k1∧dC w' A1 H1∧vU H1=C∧Below w.heap.size w w') qV qQ rfl
  (Go.RL.StabL.call 200 #[.slice A H.length ca] _ _ qK ?_ (fun w' hI hS=>?_)) ?_
 · intro w'
   go_simp
 · refine(HC.o w' hS).mono ?_;rintro e w3 ⟨A1,H1,k1,rfl,hg,hg2,hb⟩;obtain⟨h0,h1,h2,h3,h4⟩:=hI;exact⟨_,rfl,trivial,⟨kZ hb h0,kZ hb h1,kZ hb h2,kZ hb h3,kZ hb h4⟩,A1,H1,k1,rfl,hg,hg2,jW hS hb⟩
 rintro v1 -;simp only[Act.put,jZ,jX,jY];refine Go.RL.AtL.one 8 (o:=⟨_,_,_,_,_,_⟩) (fun u=>u=.agg (aL a2).toArray) (fun _ w'=>Below w.heap.size w w') qV qQ rfl
  (Go.RL.StabL.call 306 #[.agg (aL s.pen.at_).toArray,v1] _ _ qK ?_ (fun w' hI hS=>?_)) ?_
 · intro w'
   go_simp
   rfl
 · obtain⟨A1,H1,k1,rfl,hg,hg2,hb1⟩:=hS;refine(HT.o w' A1 H1 k1 hg hg2).mono ?_;rintro e w3 ⟨rfl,hb⟩;obtain⟨h0,h1,h2,h3,h4⟩:=hI;exact⟨_,rfl,rfl,⟨kZ hb h0,kZ hb h1,kZ hb h2,kZ hb h3,kZ hb h4⟩,jW hb1 hb⟩
 rintro v2 rfl;simp only[Act.put,jZ,jX,jY];refine Go.RL.AtL.go 9 ?_
 iterate 3 (refine Go.RL.AtK.take (o:=⟨_,_,_,_,_,_⟩) (v:=?_) qQ rfl qV qQ qQ ?_ ?_;rotate_left;(focus(refine Go.RL.Pure.val qK ?_;intro w' hI;obtain⟨_,_,_,_,_⟩:=hI;go_simp;first|done|with_reducible rfl));simp only[Act.put,jZ,jX,jY])
 refine Go.RL.AtK.back ?_;refine Go.RL.AtL.done qQ (fun w' hI hS=>?_);have hO:=HO.o.below hS;simp only[jL,jO];refine wpList_store_mid rfl 63 (.tmp 17) (.tmp 14) rfl (v.S) (0) ((aL a2).toArray) rfl rfl (hO.there (by show 0+5≤38;omega)) pR (all_oneCell_toArray (K5 _)) ?_;simp only[Act.put];have hp:=hO.puts 0 (aL a2) (by show 0+5≤38;omega) (s':={s with pen:={s.pen with at_:=a2}}) rfl rfl rfl;have HP:=Hd hp;have HS:=Hd hS;clear hI hS hO hp c0 c1 c2 c3 c4
 go_wp2
 go_end0
 exact⟨rfl,pU.pre HS.o ⟨v,rfl,rfl,rfl,HP.o.1,HP.o.2,fun _ hb=>.inl hb⟩⟩
end
theorem wS(ev:Tm→Ev→Tm)(t:Tm)(a b:List Ev):cQ ev t (a++b)=cQ ev (cQ ev t a) b:=by simp[cQ]
theorem lD.left{ev:Tm→Ev→Tm}{Ok:Tm→Ev→Prop}{t:Tm}{a b:List Ev}(h:lD ev Ok t (a++b)):lD ev Ok t a:=fun j e he=>by
 have hj:=(jP.1 he).1;have :=h j e (by rw[uD hj];exact he)
 rwa[List.take_append_of_le_length qJ]at this
theorem lD.right{ev:Tm→Ev→Tm}{Ok:Tm→Ev→Prop}{t:Tm}{a b:List Ev}(h:lD ev Ok t (a++b)):lD ev Ok (cQ ev t a) b:=fun j e he=>by
 have :=h (a.length+j) e (by rw[kI qJ,Nat.add_sub_cancel_left];exact he)
 rwa[List.take_length_add_append,wS]at this
structure Blind(ev:Tm→Ev→Tm):Prop where
 pz:∀t e,(ev t e).pz=t.pz
 cm:∀t e p,ev {t with pz:=p} e={ev t e with pz:=p}
theorem Blind.evs{ev:Tm→Ev→Tm}(h:Blind ev):∀(es:List Ev) (t:Tm) (p:Pz),cQ ev {t with pz:=p} es={cQ ev t es with pz:=p}
 |[],_,_=>rfl
 |e::es,t,p=>by
  show cQ ev (ev {t with pz:=p} e) es={cQ ev (ev t e) es with pz:=p};rw[h.cm,h.evs es]
theorem Blind.byte{ev:Tm→Ev→Tm}(h:Blind ev)(t:Tm)(c:Int):Qd ev t c={cQ ev t (vP t.pz c).2 with pz:=(vP t.pz c).1}:=h.evs _ _ _
theorem Blind.feed{ev:Tm→Ev→Tm}(h:Blind ev):∀(bs:List Int) (t:Tm),bI ev t bs={cQ ev t (pE t.pz bs).2 with pz:=(pE t.pz bs).1}
 |[],_=>rfl
 |c::bs,t=>by
  show bI ev (Qd ev t c) bs=_;rw[h.byte,h.feed bs];show{cQ ev {cQ ev t (vP t.pz c).2 with pz:=(vP t.pz c).1} (pE (vP t.pz c).1 bs).2 with pz:=(pE (vP t.pz c).1 bs).1}={cQ ev t ((vP t.pz c).2++(pE (vP t.pz c).1 bs).2)with pz:=(pE (vP t.pz c).1 bs).1};rw[h.evs,wS]
theorem Blind.evsOk{ev:Tm→Ev→Tm}{Ok:Tm→Ev→Prop}(h:Blind ev)(ho:∀t e p,Ok t e→Ok {t with pz:=p} e){t:Tm}{es:List Ev}(hE:lD ev Ok t es)(p:Pz):lD ev Ok {t with pz:=p} es:=fun j e he=>by
 rw[h.evs];exact ho _ _ _ (hE j e he)
theorem Blind.feedOk{ev:Tm→Ev→Tm}{Ok:Tm→Ev→Prop}(h:Blind ev)(ho:∀t e p,Ok t e→Ok {t with pz:=p} e):∀(bs:List Int) (t:Tm),lD ev Ok t (pE t.pz bs).2→iJ ev Ok t bs
 |[],_,_=>iJ.nil
 |c::bs,t,hE=>by
  have hE':lD ev Ok t ((vP t.pz c).2++(pE (vP t.pz c).1 bs).2):=hE;refine iJ.cons (h.evsOk ho hE'.left _) (h.feedOk ho bs _ ?_);rw[h.byte];exact h.evsOk ho hE'.right _
def YV(r:Int):Ev:={evE with r:=r}
def JJ(l:List Nat)(c:Int):Ev:=⟨3,0,c,0,l.map (fun n:Nat=>[(n:Int)]),[],[],false⟩
def eJ(e:Ev):List Int:=if e.kind=0 then kO e.r else 27::91::(yY (e.nums.map fun g=>(g.headD 0).toNat)++[e.byte])
theorem Zl(r:Int):eJ (YV r)=kO r:=rfl
theorem dG(l:List Nat)(c:Int):eJ (JJ l c)=27::91::(yY l++[c]):=by
 have e:(l.map (fun n:Nat=>[(n:Int)])).map (fun g=>(g.headD 0).toNat)=l:=by
  rw[List.map_map]
  conv=>rhs;rw[←List.map_id l]
  exact List.map_congr_left (fun n _=>by simp)
 show 27::91::(yY ((l.map (fun n:Nat=>[(n:Int)])).map (fun g=>(g.headD 0).toNat))++[c])=_;rw[e]
def qV1(e:Ev):Prop:=(∃r,e=YV r∧vE r=true∧rC r)∨(∃(l:List Nat) (c:Int),e=JJ l c∧l≠[]∧l.length≤32∧(∀n∈l,n≤65535)∧64≤c∧c<127)
theorem iL:∀(k n:Nat),n<10 ^ (k+1)→(cD n).length≤k+1
 |0,n,h=>by
  rw[mS,if_pos qJ];exact jD _
 |k+1,n,h=>by
  rw[mS]
  split
  · simp
  · have :n/10<10 ^ (k+1):=by rw[Nat.div_lt_iff_lt_mul qZ];rw[Nat.pow_succ]at h;exact h
    have :=iL k (n/10) this;simp only[jC,List.length_cons,List.length_nil];omega
theorem iU:∀l:List Nat,(∀n∈l,n≤65535)→(yY l).length≤6*l.length
 |[],_=>jD _
 |[n],h=>by
  have :=iL 4 n (by have :=h n qV;omega);show(cD n).length≤6;omega
 |n::m::l,h=>by
  have :=iL 4 n (by have :=h n qV;omega);have :=iU (m::l) (fun x hx=>h x (List.mem_cons_of_mem _ hx));show(cD n++59::yY (m::l)).length≤_;simp only[jC,List.length_cons]at this ⊢;omega
structure RestQ(p:Pz):Prop where
 r:qVy p
 h:p.head=[]
 i:p.inter=[]
 t:p.text=[]
theorem RestQ.held{p:Pz}(h:RestQ p):p.state=0∧Jo p=0:=by
 refine⟨h.r.1,?_⟩;unfold Jo;rw[h.h,h.i,h.t,h.r.2.2];rfl
theorem RestQ.new(n:Int):RestQ (dL n):=⟨⟨rfl,rfl,rfl⟩,rfl,rfl,rfl⟩
theorem aD:∀(E:List Ev) (p:Pz),RestQ p→(∀e∈E,qV1 e)→∃p',RestQ p'∧pE p (E.flatMap eJ)=(p',E)
 |[],p,h,_=>⟨p,h,rfl⟩
 |e::E,p,h,hE=>by
  rw[List.flatMap_cons];rcases hE e (List.mem_cons_self ..)with⟨r,rfl,hs,hp⟩|⟨l,c,rfl,h1,h2,h3,h4,h5⟩
  · obtain⟨d,d1,d2,d3⟩:=qJj h.r [r] (fun x hx=>by rw[jM.1 hx];exact⟨hs,hp⟩);obtain⟨p',hp',hr⟩:=aD E {p with dec:=d} ⟨⟨h.r.1,d1,d2⟩,h.h,h.i,h.t⟩ (fun x hx=>hE x (List.mem_cons_of_mem _ hx));refine⟨p',hp',?_⟩;rw[Zl,dE,show kO r=[r].flatMap kO from by simp,d3];show((pE {p with dec:=d} (E.flatMap eJ)).1,[YV r]++(pE {p with dec:=d} (E.flatMap eJ)).2)=_;rw[hr];rfl
  · have hq:=iU l h3;have hs:=seq_run h.r (l:=yY l) (QX l) qJ (c:=c) ⟨h4,h5⟩;have hn:ZB (yY l)=l.map (fun n:Nat=>[(n:Int)]):=aE l 32 h1 h2 h3;rw[hn]at hs;obtain⟨p',hp',hr⟩:=aD E (gV p 0) ⟨⟨rfl,h.r.2.1,h.r.2.2⟩,rfl,rfl,rfl⟩ (fun x hx=>hE x (List.mem_cons_of_mem _ hx));refine⟨p',hp',?_⟩;rw[dG,dE,hs];show((pE (gV p 0) (E.flatMap eJ)).1,[JJ l c]++(pE (gV p 0) (E.flatMap eJ)).2)=_;rw[hr];rfl
def evS(s:Sc)(e:Ev):Sc:=
 if e.kind=0 then mY s e.r
 else if e.byte=72 then sH s (gR e.nums 0-1) (gR e.nums 1-1)
 else if e.byte=109 then iI s e.nums
 else if e.byte=88 then zT s (gR e.nums 0)
 else s
def evD(t:Tm)(e:Ev):Tm:=doT t (fun s=>evS s e)
def OkS(s:Sc)(e:Ev):Prop:=(e.kind=0∨(e.kind=3∧e.pre=0∧e.inter=[]∧(e.byte=72∨e.byte=109∨e.byte=88)))∧ScI s∧s.pg.told.length≤900000∧cP s.pen.at_.fl
def OkD(t:Tm)(e:Ev):Prop:=OkS (iR t) e
theorem nC:Blind evD:=by
 refine⟨fun t e=>?_,fun t e p=>?_⟩
 · unfold evD doT YK;split<;>rfl
 · unfold evD doT YK iR;cases t.use<;>rfl
theorem OkD.cm(t:Tm)(e:Ev)(p:Pz)(h:OkD t e):OkD {t with pz:=p} e:=h
theorem QA:∀(E:List Ev) (t:Tm),t.use=false→cQ evD t E={t with s0:=E.foldl evS t.s0}
 |[],_,_=>rfl
 |e::E,t,h=>by
  have e1:evD t e={t with s0:=evS t.s0 e}:=by
   unfold evD doT YK iR;rw[h];rfl
  show cQ evD (evD t e) E=_;rw[e1];exact QA E {t with s0:=evS t.s0 e} h
def pC(s:Sc)(bs:List Int)(s':Sc):Prop:=∃E:List Ev,bs=E.flatMap eJ∧(∀e∈E,qV1 e)∧(∀j e,E[j]? =some e→OkS ((E.take j).foldl evS s) e)∧E.foldl evS s=s'
theorem pC.refl(s:Sc):pC s [] s:=⟨[],rfl,(fun e h=>by cases h),(fun j e h=>by simp at h),rfl⟩
theorem pC.trans{s s1 s2:Sc}{a b:List Int}(h1:pC s a s1)(h2:pC s1 b s2):pC s (a++b) s2:=by
 obtain⟨E,rfl,g1,o1,rfl⟩:=h1;obtain⟨F,rfl,g2,o2,rfl⟩:=h2;refine⟨E++F,by rw[List.flatMap_append],fun e he=>(kU.1 he).elim (g1 e) (g2 e),fun j e he=>?_,by rw[List.foldl_append]⟩
 by_cases hj:j<E.length
 · rw[uD hj]at he;rw[List.take_append_of_le_length qJ];exact o1 j e he
 · rw[kI qJ]at he;obtain⟨i,rfl⟩:∃i,j=E.length+i:=⟨j-E.length,by omega⟩;rw[Nat.add_sub_cancel_left]at he;rw[List.take_length_add_append,List.foldl_append];exact o2 i e he
theorem pC.one{s:Sc}{e:Ev}(h:qV1 e)(ho:OkS s e):pC s (eJ e) (evS s e):=
 ⟨[e],by simp,fun x hx=>by rw[jM.1 hx];exact h,fun j x hx=>by
  match j,hx with
  |0,hx=>obtain rfl:e=x:=by simpa using hx
         exact ho
  |j+1,hx=>simp at hx,rfl⟩
theorem pC.fed{t:Tm}{bs:List Int}{s':Sc}(h:pC t.s0 bs s')(hu:t.use=false)(hp:RestQ t.pz):∃p',RestQ p'∧bI evD t bs={t with s0:=s',pz:=p'}∧iJ evD OkD t bs:=by
 obtain⟨E,rfl,hg,ho,rfl⟩:=h;obtain⟨p',hp',hr⟩:=aD E t.pz hp hg;refine⟨p',hp',?_,nC.feedOk OkD.cm _ _ ?_⟩
 · rw[nC.feed,hr];show{cQ evD t E with pz:=p'}=_;rw[QA E t hu]
 · rw[hr];intro j e he;show OkS (iR (cQ evD t (E.take j))) e;rw[QA _ t hu];have :=ho j e he;unfold iR;show OkS (if t.use=true then _ else _) e;rw[hu];exact this
def bJ:List (Nat×Int):=[(1,1),(2,2),(3,4),(4,8),(5,16),(7,32),(8,64),(9,128),(21,256),(53,512)]
def bK(f:Int):List Nat:=(bJ.filter (fun x=>JY f x.2)).map (·.1)
def pN(k n:Int)(m:Nat):List Nat:=if k=1 then[m,5,n.toNat]else if k=2 then[m,2,(n/65536).toNat,(n/256%256).toNat,(n%256).toNat]else[]
def pX(a:Atr):List Nat:=0::(bK a.fl++(pN a.fk a.fn 38++pN a.bk a.bn 48))
def dD(l:List Nat):List (List Int):=l.map (fun n:Nat=>[(n:Int)])
def vO(a:Atr):Prop:=sO a.fk a.fn a.bk a.bn a.fl=true
theorem vO.parts{a:Atr}(h:vO a):bA a.fk a.fn=true∧bA a.bk a.bn=true∧0≤a.fl∧a.fl<1024∧(mB a.fl 8&&mB a.fl 256)=false:=by
 unfold vO sO at h;simp only[Bool.and_eq_true,decide_eq_true_eq,Bool.not_eq_true']at h;exact⟨h.1.1.1.1,h.1.1.1.2,h.1.1.2,h.1.2,h.2⟩
theorem vO.fl{a:Atr}(h:vO a):cP a.fl:=⟨h.parts.2.2.1,h.parts.2.2.2.1⟩
theorem vO.zero:vO vI:=by unfold vO;decide
theorem sI(l:List Nat)(h0:l≠[])(h1:l.length≤32)(h2:∀n∈l,n≤65535):yP (dD l)=dD l:=by
 unfold yP dD;rw[if_neg (by simpa using h0),vY (by simpa using h1),List.map_map];refine List.map_congr_left (fun n hn=>?_);have :=h2 n hn;show bE [(n:Int)]=[(n:Int)];unfold bE fI;simp only[List.length_cons,List.length_nil];rw[if_neg qZ];simp only[jS,List.take_nil,List.map_cons,List.map_nil,List.cons.injEq,and_true];omega
theorem cN{l:List (List Int)}{i v:Nat}(h:l[i]? =some [(v:Int)]):yR l i=v:=by
 unfold yR;rw[kX,h];show max 0 (v:Int)=v;omega
theorem JC{l:List (List Int)}{i v:Nat}(a:Atr)(h:l[i]? =some [(v:Int)])(hv:v≠38∧v≠48):bB l.length a l i=bB l.length (dF a (v:Int) [(v:Int)]) l (i+1):=by
 rw[iO l a i (jP.1 h).1];unfold eL;rw[cN h,if_neg qJ,kX,h];rfl
theorem aK:∀(F:List Nat) (l:List (List Int)) (i:Nat) (a:Atr),(∀(j v:Nat),F[j]? =some v→l[i+j]? =some [(v:Int)])→(∀v∈F,v≠38∧v≠48)→bB l.length a l i=bB l.length (F.foldl (fun(a:Atr) (v:Nat)=>dF a (v:Int) [(v:Int)]) a) l (i+F.length)
 |[],_,_,_,_,_=>rfl
 |v::F,l,i,a,h,hv=>by
  have h0:=h 0 v rfl;rw[uA]at h0;rw[JC a h0 (hv v (List.mem_cons_self ..)),aK F l (i+1) _ (fun j u hj=>by rw[show i+1+j=i+(j+1) by omega];exact h (j+1) u hj) (fun u hu=>hv u (List.mem_cons_of_mem _ hu))];rw[show i+1+F.length=i+(v::F).length by simp;omega];rfl
theorem aJ{k n:Int}{m:Nat}{l:List (List Int)}{i:Nat}(a:Atr)(hm:m=38∨m=48)(hc:bA k n=true)(h:∀(j v:Nat),(pN k n m)[j]? =some v→l[i+j]? =some [(v:Int)]):
 bB l.length a l i=bB l.length (if k=0 then a else xG a m (some ⟨k,n⟩)) l (i+(pN k n m).length):=by
 have hk:(k=0∧n=0)∨(k=1∧0≤n∧n<256)∨(k=2∧0≤n∧n<16777216):=by
  unfold bA at hc;rw[decide_eq_true_eq]at hc;omega
 rcases hk with⟨rfl,rfl⟩|⟨rfl,h1,h2⟩|⟨rfl,h1,h2⟩
 · rfl
 · have e:pN 1 n m=[m,5,n.toNat]:=rfl;rw[e]at h ⊢;have g0:=h 0 _ rfl;have g1:=h 1 _ rfl;have g2:=h 2 _ rfl;rw[iO l a i (by have :=(jP.1 g0).1;omega)];have f0:=cN g0;have f1:=cN g1;have f2:=cN g2;rw[uA]at g0 f0;have hx:nI l i=(some ⟨1,n⟩,i+3):=by
    unfold nI;rw[kX,g0];simp only[Option.getD_some];rw[if_neg qV,f1,if_pos qZ,f2,if_pos ⟨(jP.1 g2).1,by omega⟩]
    congr 2
    congr 1
    omega
   unfold eL;rw[f0,if_pos qJ,hx,if_neg qZ];rfl
 · have e:pN 2 n m=[m,2,(n/65536).toNat,(n/256%256).toNat,(n%256).toNat]:=rfl;rw[e]at h ⊢;have g0:=h 0 _ rfl;have g1:=h 1 _ rfl;have g2:=h 2 _ rfl;have g3:=h 3 _ rfl;have g4:=h 4 _ rfl;rw[iO l a i (by have :=(jP.1 g0).1;omega)];have f0:=cN g0;have f1:=cN g1;have f2:=cN g2;have f3:=cN g3;have f4:=cN g4;rw[uA]at g0 f0;have hx:nI l i=(some ⟨2,n⟩,i+5):=by
    unfold nI;rw[kX,g0];simp only[Option.getD_some];rw[if_neg qV,f1,if_neg qZ,if_pos qZ,f2,f3,f4,if_pos ⟨(jP.1 g4).1,by omega,by omega,by omega⟩]
    congr 2
    congr 1
    omega
   unfold eL;rw[f0,if_pos qJ,hx,if_neg qZ];rfl
theorem Yg:∀f:Fin 1024,(mB (f.val:Int) 8&&mB (f.val:Int) 256)=false→(bK (f.val:Int)).foldl (fun(g:Int) (v:Nat)=>cX g (v:Int) [(v:Int)]) 0=(f.val:Int):=by decide +kernel
theorem tS(f:Int):∀v∈bK f,v=1∨v=2∨v=3∨v=4∨v=5∨v=7∨v=8∨v=9∨v=21∨v=53:=fun v hv=>by
 unfold bK at hv;obtain⟨x,hx,rfl⟩:=List.mem_map.1 hv;have :=(List.mem_filter.1 hx).1;simp only[bJ,kJ,List.not_mem_nil,or_false]at this;rcases this with rfl|rfl|rfl|rfl|rfl|rfl|rfl|rfl|rfl|rfl<;>simp
theorem Yy(f:Int):(bK f).length≤10:=by
 unfold bK;rw[List.length_map];exact jI (List.length_filter_le ..) qZ
theorem QD:∀(F:List Nat) (f:Int),(∀v∈F,v=1∨v=2∨v=3∨v=4∨v=5∨v=7∨v=8∨v=9∨v=21∨v=53)→F.foldl (fun(a:Atr) (v:Nat)=>dF a (v:Int) [(v:Int)]) ⟨0,0,0,0,f⟩=⟨0,0,0,0,F.foldl (fun(g:Int) (v:Nat)=>cX g (v:Int) [(v:Int)]) f⟩
 |[],_,_=>rfl
 |v::F,f,h=>by
  have e:dF ⟨0,0,0,0,f⟩ (v:Int) [(v:Int)]=⟨0,0,0,0,cX f (v:Int) [(v:Int)]⟩:=by
   rcases h v (List.mem_cons_self ..)with rfl|rfl|rfl|rfl|rfl|rfl|rfl|rfl|rfl|rfl<;>rfl
  show F.foldl _ (dF ⟨0,0,0,0,f⟩ (v:Int) [(v:Int)])=_;rw[e];exact QD F _ (fun u hu=>h u (List.mem_cons_of_mem _ hu))
theorem eZ{k n:Int}{m:Nat}(hm:m≤255)(hc:bA k n=true):(pN k n m).length≤5∧∀v∈pN k n m,v≤65535:=by
 have hk:(k=0∧n=0)∨(k=1∧0≤n∧n<256)∨(k=2∧0≤n∧n<16777216):=by
  unfold bA at hc;rw[decide_eq_true_eq]at hc;omega
 rcases hk with⟨rfl,rfl⟩|⟨rfl,h1,h2⟩|⟨rfl,h1,h2⟩
 · exact⟨kM _,fun v hv=>by cases hv⟩
 · refine⟨by show 3≤5;decide,fun v hv=>?_⟩;rw[show pN 1 n m=[m,5,n.toNat]from rfl]at hv;simp only[kJ,List.not_mem_nil,or_false]at hv;omega
 · refine⟨by show 5≤5;decide,fun v hv=>?_⟩;rw[show pN 2 n m=[m,2,(n/65536).toNat,(n/256%256).toNat,(n%256).toNat]from rfl]at hv;simp only[kJ,List.not_mem_nil,or_false]at hv;omega
theorem nL{a:Atr}(h:vO a):pX a≠[]∧(pX a).length≤32∧∀n∈pX a,n≤65535:=by
 obtain⟨h1,h2,-,-,-⟩:=h.parts;have p1:=eZ (m:=38) qZ h1;have p2:=eZ (m:=48) qZ h2;have p3:=Yy a.fl;refine⟨by simp[pX],?_,fun n hn=>?_⟩
 · unfold pX;simp only[List.length_cons,jC];omega
 · unfold pX at hn;rcases kJ.1 hn with rfl|hn
   · omega
   rcases kU.1 hn with hn|hn
   · have :=tS a.fl n hn;omega
   rcases kU.1 hn with hn|hn
   · exact p1.2 n hn
   · exact p2.2 n hn
theorem VE{a:Atr}(h:vO a)(on:Atr):fX on (dD (pX a))=a:=by
 obtain⟨h1,h2,h3,h4,h5⟩:=h.parts;obtain⟨fk,fn,bk,bn,fl⟩:=a;obtain⟨l,hl⟩:∃l,dD (pX ⟨fk,fn,bk,bn,fl⟩)=l:=⟨_,rfl⟩;have hat:∀(j v:Nat),(pX ⟨fk,fn,bk,bn,fl⟩)[j]? =some v→l[j]? =some [(v:Int)]:=fun j v hj=>by
  rw[←hl];unfold dD;rw[uX,hj];rfl
 have hlen:l.length=1+((bK fl).length+((pN fk fn 38).length+(pN bk bn 48).length)):=by
  rw[←hl];unfold dD pX;simp only[List.length_map,List.length_cons,jC];omega
 rw[hl];unfold fX;rw[JC on (hat 0 0 rfl) qZ];rw[show dF on ((0:Nat):Int) [((0:Nat):Int)]=vI from rfl];rw[aK (bK fl) l (0+1) vI (fun j v hj=>hat _ v (by
  have hj2:=(jP.1 hj).1;show(0::(bK fl++_))[0+1+j]? =_;rw[show 0+1+j=j+1 by omega,List.getElem?_cons_succ,uD hj2];exact hj)) (fun v hv=>by have :=tS fl v hv;omega)]
 rw[show vI=⟨0,0,0,0,0⟩from rfl,QD _ _ (tS fl)];have hf:=Yg ⟨fl.toNat,by simp only at h4 h3;omega⟩ (by
  show(mB ((fl.toNat:Nat):Int) 8&&mB ((fl.toNat:Nat):Int) 256)=false;rw[show((fl.toNat:Nat):Int)=fl by simp only at h3;omega];exact h5)
 have hfe:((fl.toNat:Nat):Int)=fl:=by simp only at h3;omega
 simp only[hfe]at hf;rw[hf];rw[aJ (k:=fk) (n:=fn) (m:=38) _ (.inl rfl) h1 (fun j v hj=>hat _ v (by
  have hj2:=(jP.1 hj).1;show(0::(bK fl++(pN fk fn 38++_)))[0+1+(bK fl).length+j]? =_;rw[show 0+1+(bK fl).length+j=(bK fl).length+j+1 by omega,List.getElem?_cons_succ,kI qJ,Nat.add_sub_cancel_left,uD hj2];exact hj))]
 rw[aJ (k:=bk) (n:=bn) (m:=48) _ (.inr rfl) h2 (fun j v hj=>hat _ v (by
  show(0::(bK fl++(pN fk fn 38++pN bk bn 48)))[0+1+(bK fl).length+(pN fk fn 38).length+j]? =_;rw[show 0+1+(bK fl).length+(pN fk fn 38).length+j=(bK fl).length+((pN fk fn 38).length+j)+1 by omega,List.getElem?_cons_succ,kI qJ,Nat.add_sub_cancel_left,kI qJ,Nat.add_sub_cancel_left];exact hj))]
 rw[eV l _ _ _ qJ];have z:∀k n:Int,bA k n=true→k=0→n=0:=fun k n hc hk=>by
  unfold bA at hc;rw[decide_eq_true_eq]at hc;omega
 by_cases k1:fk=0
 · have :=z _ _ h1 k1;simp only at k1 this;subst k1 this;rw[if_pos rfl]
   by_cases k2:bk=0
   · have :=z _ _ h2 k2;simp only at k2 this;subst k2 this;rw[if_pos rfl]
   · rw[if_neg k2];rfl
 · rw[if_neg k1]
   by_cases k2:bk=0
   · have :=z _ _ h2 k2;simp only at k2 this;subst k2 this;rw[if_pos rfl];rfl
   · rw[if_neg k2];rfl
def eqA(a b:Atr):Bool:=decide (a.fk=b.fk)&&decide (a.fn=b.fn)&&decide (a.bk=b.bk)&&decide (a.bn=b.bn)&&decide (a.fl=b.fl)
theorem sS{a b:Atr}:eqA a b=true↔a=b:=by
 obtain⟨a1,a2,a3,a4,a5⟩:=a;obtain⟨b1,b2,b3,b4,b5⟩:=b;unfold eqA;simp only[Bool.and_eq_true,decide_eq_true_eq,Atr.mk.injEq,and_assoc]
def cV(y x:Nat):List Int:=27::91::(yY [y+1,x+1]++[72])
def pF(on a:Atr):List Int:=if eqA on a then[]else 27::91::(yY (pX a)++[109])
def JU(n:Nat):List Int:=27::91::(yY [n]++[88])
def fC(c:Cl):List Int:=yD (vD c.r)++yD c.more
def vW:Atr→List Cl→List Int×Atr
 |on,[]=>([],on)
 |on,c::l=>if c.half=2 then vW on l else(pF on (vC c)++(fC c++(vW (vC c) l).1),(vW (vC c) l).2)
def zH(a b:Cl):Bool:=(decide (a.r=0)==decide (b.r=0))&& !(decide (a.r=0)&& !eqA (vC a) (vC b))
def zY:List Cl→Nat
 |[]=>0
 |c::l=>(l.takeWhile (zH c)).length+1
def tG(y x:Nat)(on:Atr)(l:List Cl):List Int×Atr:=
 match l with
 |[]=>([],on)
 |c::_=>
  if c.r=0 then(if eqA (vC c) vI then([],on)else(cV y x++(pF on (vC c)++JU (zY l)),vC c))
  else(cV y x++(vW on (l.take (zY l))).1,(vW on (l.take (zY l))).2)
def zI:Nat→Nat→Nat→Atr→List Cl→List Int×Atr
 |0,_,_,on,_=>([],on)
 |k+1,y,x,on,l=>if l.length=0 then([],on)else((tG y x on l).1++(zI k y (x+zY l) (tG y x on l).2 (l.drop (zY l))).1,(zI k y (x+zY l) (tG y x on l).2 (l.drop (zY l))).2)
def yX:Nat→Atr→List (List Cl)→List Int×Atr
 |_,on,[]=>([],on)
 |y,on,l::r=>((zI l.length y 0 on l).1++(yX (y+1) (zI l.length y 0 on l).2 r).1,(yX (y+1) (zI l.length y 0 on l).2 r).2)
def dR(rows:List (List Cl))(ay ax:Nat):List Int:=(yX 0 vI rows).1++(pF (yX 0 vI rows).2 vI++cV ay ax)
def mkR(l:List Cl):Ro:=⟨l,false⟩
def dS(st:List Bool)(cols:Nat)(scr:List (List Cl))(a:Atr)(y x:Nat)(la:Int):Sc:=⟨⟨5,[],0,scr.map mkR,cols,[]⟩,st,⟨a,gE,false,true,false⟩,y,x,0,(scr.length:Int)-1,XI,0,0,false,la⟩
def zeC:Cl:=pY ⟨0,0⟩
def gD(k:Nat):List Cl:=kN k zeC
theorem newS_dS(n cols:Nat)(st:List Bool):rQ n cols 5 st=dS st cols (kN n (gD cols)) vI 0 0 0:=by
 unfold rQ dS;simp only[List.map_replicate,uG];rfl
theorem QV{f:List Cl→List Cl}:∀{scr:List (List Cl)} {y:Nat} {l:List Cl},scr[y]? =some l→(scr.map mkR).modify y (fun r=>{r with cs:=f r.cs})=(scr.set y (f l)).map mkR
 |[],_,_,h=>by simp at h
 |r::scr,0,l,h=>by
  obtain rfl:r=l:=by simpa using h
  rfl
 |r::scr,y+1,l,h=>by
  have :=QV (f:=f) (scr:=scr) (y:=y) (l:=l) qD;simp only[List.map_cons,List.modify_succ_cons,jY];rw[this]
theorem ZT:∀{scr:List (List Cl)} {y:Nat},(scr.map mkR).modify y (fun r=>{r with cont:=false})=scr.map mkR
 |[],y=>by simp
 |r::scr,0=>rfl
 |r::scr,y+1=>by
  simp only[List.map_cons,List.modify_succ_cons];rw[ZT]
section
variable {st:List Bool}{cols:Nat}{scr:List (List Cl)}{a:Atr}{y x:Nat}{la:Int}
theorem dS_sci(hy:y<scr.length)(hx:x≤cols):ScI (dS st cols scr a y x la):=by
 refine⟨?_,?_,?_,?_,?_,?_,?_⟩<;>simp[dS]<;>omega
theorem Zr(hy:y<scr.length)(hx:x≤cols)(ha:vO a){e:Ev}(h:e.kind=0∨(e.kind=3∧e.pre=0∧e.inter=[]∧(e.byte=72∨e.byte=109∨e.byte=88))):OkS (dS st cols scr a y x la) e:=⟨h,dS_sci hy hx,kM _,ha.fl⟩
theorem mT{l:List Nat}{i v:Nat}(h0:l≠[])(h1:l.length≤32)(h2:∀n∈l,n≤65535)(hv:l[i]? =some v)(h3:1≤v):gR (dD l) i=v:=by
 have hi:=(jP.1 hv).1;unfold gR rY;rw[sI l h0 h1 h2,if_pos (by unfold dD;simpa using hi)];have e:(dD l).getD i []=[(v:Int)]:=by
  rw[kX];unfold dD;rw[uX,hv];rfl
 rw[e];show max 1 (if(v:Int)= -1 then 1 else(v:Int))=v;rw[if_neg qJ];omega
theorem tT{y' x':Nat}(hr:scr.length≤1000)(hc:cols≤1000)(hy:y<scr.length)(hx:x≤cols)(ha:vO a)(hy':y'<scr.length)(hx':x'<cols):pC (dS st cols scr a y x la) (cV y' x') (dS st cols scr a y' x' la):=by
 have h:=pC.one (s:=dS st cols scr a y x la) (e:=JJ [y'+1,x'+1] 72) (.inr ⟨_,_,rfl,by simp,by simp,fun n hn=>by simp at hn;omega,by decide,by decide⟩) (Zr hy hx ha (.inr ⟨rfl,rfl,rfl,.inl rfl⟩));have e:evS (dS st cols scr a y x la) (JJ [y'+1,x'+1] 72)=dS st cols scr a y' x' la:=by
  have hn:∀n∈[y'+1,x'+1],n≤65535:=fun n hn=>by simp at hn;omega
  rw[show evS (dS st cols scr a y x la) (JJ [y'+1,x'+1] 72)=sH (dS st cols scr a y x la) (gR (dD [y'+1,x'+1]) 0-1) (gR (dD [y'+1,x'+1]) 1-1)from rfl];rw[mT (v:=y'+1) qV qV hn rfl qJ,mT (v:=x'+1) qV qV hn rfl qJ];unfold sH;rw[if_neg (by show ¬(false=true);decide)];have e1:pP (((y'+1:Nat):Int)-1) 0 (Jj (dS st cols scr a y x la)-1)=y':=by
   unfold pP Jj dS;simp only[List.length_map];omega
  have e2:pP (((x'+1:Nat):Int)-1) 0 (fP (dS st cols scr a y x la)-1)=x':=by
   show pP (((x'+1:Nat):Int)-1) 0 ((cols:Int)-1)=x';unfold pP;omega
  rw[e1,e2];rfl
 rw[e,dG]at h;exact h
theorem nP{b:Atr}(hy:y<scr.length)(hx:x≤cols)(ha:vO a)(hb:vO b):pC (dS st cols scr a y x la) (pF a b) (dS st cols scr b y x la):=by
 unfold pF
 by_cases h:eqA a b=true
 · rw[if_pos h,sS.1 h];exact pC.refl _
 · rw[if_neg h];obtain⟨c1,c2,c3⟩:=nL hb;have h:=pC.one (s:=dS st cols scr a y x la) (e:=JJ (pX b) 109) (.inr ⟨_,_,rfl,c1,c2,c3,by decide,by decide⟩) (Zr hy hx ha (.inr ⟨rfl,rfl,rfl,.inr (.inl rfl)⟩));have e:evS (dS st cols scr a y x la) (JJ (pX b) 109)=dS st cols scr b y x la:=by
    show iI _ (dD (pX b))=_;unfold iI;rw[sI _ c1 c2 c3];show{dS st cols scr a y x la with pen:={(dS st cols scr a y x la).pen with at_:=fX a (dD (pX b))}}=_;rw[VE hb];rfl
   rw[e,dG]at h;exact h
theorem Yr{l:List Cl}(hl:scr[y]? =some l)(f:List Cl→List Cl):zC (dS st cols scr a y x la).pg y f=⟨5,[],0,(scr.set y (f l)).map mkR,cols,[]⟩:=by
 have hy:=(jP.1 hl).1;unfold zC;rw[if_pos (by unfold inP dS;simp;omega),vV];show Pg.mk 5 [] 0 ((scr.map mkR).modify y _) cols []=_;rw[QV hl]
theorem Ut(l:List Cl):dS st cols (scr.set y l) a y x la={dS st cols scr a y x la with pg:=⟨5,[],0,(scr.set y l).map mkR,cols,[]⟩}:=by
 unfold dS;simp only[uV]
theorem VJ(g:Pg)(hg:g=⟨5,[],0,scr.map mkR,cols,[]⟩)(k:Int):yB g k false=g:=by
 subst hg;unfold yB
 split
 · simp only[ZT]
 · rfl
theorem Yz{n:Nat}{l:List Cl}(hl:scr[y]? =some l)(hc:cols≤1000)(hx:x<cols)(ha:vO a)(h1:1≤n)(h2:x+n≤cols):pC (dS st cols scr a y x la) (JU n) (dS st cols (scr.set y (bZ l x ((x:Int)+n) (rN a))) a y x la):=by
 have hy:=(jP.1 hl).1;have hn:∀m∈[n],m≤65535:=fun m hm=>by simp at hm;omega
 have h:=pC.one (s:=dS st cols scr a y x la) (e:=JJ [n] 88) (.inr ⟨_,_,rfl,by simp,by simp,hn,by decide,by decide⟩) (Zr hy qJ ha (.inr ⟨rfl,rfl,rfl,.inr (.inr rfl)⟩));have e:evS (dS st cols scr a y x la) (JJ [n] 88)=dS st cols (scr.set y (bZ l x ((x:Int)+n) (rN a))) a y x la:=by
  show zT _ (gR (dD [n]) 0)=_;rw[mT (v:=n) qV qV hn rfl h1];have e1:inS (dS st cols scr a y x la)=x:=by show min (x:Int) ((cols:Int)-1)=x;omega
  have e2:inX (dS st cols scr a y x la)=dS st cols scr a y x la:=by
   unfold inX;rw[e1];rfl
  have e3:pP (n:Int) 1 1000=n:=by unfold pP;omega
  unfold zT qK1;rw[e1,e2,e3];have e4:fT (dS st cols scr a y x la).pg (y:Int) (x:Int) ((x:Int)+n) (rN a)=⟨5,[],0,(scr.set y (bZ l x ((x:Int)+n) (rN a))).map mkR,cols,[]⟩:=by
   unfold fT;rw[if_pos (by unfold inP dS;simp;omega),Yr hl];simp only[]
   split
   · split
     · rw[VJ _ rfl,VJ _ rfl]
     · rw[VJ _ rfl]
   · rfl
  show{dS st cols scr a y x la with pg:=fT (dS st cols scr a y x la).pg (y:Int) (x:Int) ((x:Int)+n) (rN a)}=_;rw[e4,Ut]
 rw[e,dG]at h;exact h
theorem rR{r:Int}(h:vB r≠ -1):vE r=true∧rC r:=by
 have hn:bY r=false:=by
  cases hh:bY r with
  |false=>rfl
  |true=>exact absurd (by unfold vB;rw[hh,if_pos rfl]) h
 unfold bY at hn;simp only[Bool.or_eq_false_iff,Bool.and_eq_false_iff,decide_eq_false_iff_not]at hn;unfold vE rC;simp only[Bool.and_eq_true,Bool.or_eq_true,decide_eq_true_eq];omega
theorem qVb(r:Int):qKl (dS st cols scr a y x la).pen.ch r=r:=by
 show aN 66 r=r;unfold aN;rw[if_neg qJ,if_neg qJ,if_neg qJ]
theorem Zh{r:Int}{l:List Cl}(hl:scr[y]? =some l)(w:Nat)(hw:vB r=w)(hw1:1≤w)(hx:x+w≤cols)(ha:vO a):pC (dS st cols scr a y x la) (kO r) (dS st cols (scr.set y (fV l x r a)) a y (x+w) r):=by
 have hy:=(jP.1 hl).1;obtain⟨g1,g2⟩:=rR (r:=r) qJ;have h:=pC.one (s:=dS st cols scr a y x la) (e:=YV r) (.inl ⟨r,rfl,g1,g2⟩) (Zr hy qJ ha (.inl rfl));have e:evS (dS st cols scr a y x la) (YV r)=dS st cols (scr.set y (fV l x r a)) a y (x+w) r:=by
  show mY _ r=_;unfold mY;rw[qVb];show oW (dS st cols scr a y x la) r=_;unfold oW;rw[hw,if_neg qJ,if_neg qJ];have e1:mZ (dS st cols scr a y x la) w=dS st cols scr a y x la:=by
   unfold mZ;rw[if_pos (by unfold fP dS;simp only[];omega)]
  rw[e1];show V8 (dS st cols scr a y x la) r w=_;unfold V8;show{dS st cols scr a y x la with pg:=zC (dS st cols scr a y x la).pg y (fun l=>fV l (x:Int) r a),x:=(x:Int)+w,last:=r}=_;rw[Yr hl];unfold dS;simp only[uV,Int.natCast_add]
 rw[e]at h;exact h
theorem Jw{r:Int}{l:List Cl}(hl:scr[y]? =some l)(hw:vB r=0)(hx:x≤cols)(ha:vO a):pC (dS st cols scr a y x la) (kO r) (dS st cols (scr.set y (cM l ((x:Int)-1) r)) a y x la):=by
 have hy:=(jP.1 hl).1;obtain⟨g1,g2⟩:=rR (r:=r) qJ;have h:=pC.one (s:=dS st cols scr a y x la) (e:=YV r) (.inl ⟨r,rfl,g1,g2⟩) (Zr hy qJ ha (.inl rfl));have e:evS (dS st cols scr a y x la) (YV r)=dS st cols (scr.set y (cM l ((x:Int)-1) r)) a y x la:=by
  show mY _ r=_;unfold mY;rw[qVb];show oW (dS st cols scr a y x la) r=_;unfold oW;rw[if_pos hw];show{dS st cols scr a y x la with pg:=zC (dS st cols scr a y x la).pg y (fun l=>cM l ((x:Int)-1) r)}=_;rw[Yr hl,Ut]
 rw[e]at h;exact h
end
def Wh(p:List Cl):Prop:=∀q,uJ (p++q)=p++uJ q
theorem Wh.nil:Wh []:=fun _=>rfl
theorem Wh.app{p q:List Cl}(h1:Wh p)(h2:Wh q):Wh (p++q):=fun r=>by rw[kG,h1,h2,kG]
theorem Wh.one{c:Cl}(h:c.half=0):Wh [c]:=fun q=>zO h q
theorem Wh.two{c d:Cl}(h:yE c d=true):Wh [c,d]:=fun q=>by
 have h1:c.half=1:=by
  unfold yE at h;simp only[Bool.and_eq_true,decide_eq_true_eq]at h;exact h.1.1
 show uJ (c::d::q)=c::d::uJ q;rw[bC,if_neg qJ,if_pos h]
theorem Wh.rep{c:Cl}(h:c.half=0):∀k,Wh (kN k c)
 |0=>Wh.nil
 |k+1=>by
  rw[List.replicate_succ];exact(Wh.one h).app (Wh.rep h k)
theorem Wh.zeros(k:Nat):Wh (gD k):=Wh.rep rfl k
theorem Wh.mend{p:List Cl}(h:Wh p):uJ p=p:=by
 have :=h []
 rwa[List.append_nil,show uJ []=[]from rfl,List.append_nil]at this
theorem Ke(r:Int)(m:ByteArray)(a:Atr):yE (gZ r m 1 a) (gZ r m 2 a)=true:=by
 unfold yE gZ;simp
theorem tC{c d:Cl}(h:yE c d=true):c.half=1∧d.half=2∧c={d with half:=1}:=by
 unfold yE at h;simp only[Bool.and_eq_true,decide_eq_true_eq]at h;exact⟨h.1.1,h.1.2,h.2⟩
theorem Uf(c:Cl):gZ c.r c.more c.half (vC c)=c:=rfl
theorem oH(k:Nat):gD (k+1)=zeC::gD k:=List.replicate_succ
section
variable {p:List Cl}
theorem qJx(hp:Wh p)(k:Nat)(r:Int)(a:Atr)(hw:vB r=1):fV (p++gD (k+1)) p.length r a=p++gZ r kH 0 a::gD k:=by
 have e:uJ (p++gD (k+1))=p++gD (k+1):=(hp.app (Wh.zeros _)).mend;unfold fV;rw[e];simp only[];rw[if_pos ⟨hw,by omega,by simp[gD];omega⟩,vV,List.set_append_right _ _ (jD _),Nat.sub_self,oH,jX];rw[hp,zO rfl,(Wh.zeros k).mend]
theorem qJw(hp:Wh p)(k:Nat)(r:Int)(a:Atr)(hw:vB r=2):fV (p++gD (k+2)) p.length r a=p++gZ r kH 1 a::gZ r kH 2 a::gD k:=by
 have e:uJ (p++gD (k+2))=p++gD (k+2):=(hp.app (Wh.zeros _)).mend;unfold fV;rw[e];simp only[];rw[if_neg qJ,if_pos ⟨hw,by omega,by simp[gD];omega⟩,vV,List.set_append_right _ _ (jD _),Nat.sub_self,oH,jX,List.set_append_right _ _ qJ,show p.length+1-p.length=0+1 by omega,jY,oH,jX];have :=(hp.app ((Wh.two (Ke r kH a)).app (Wh.zeros k))).mend;simpa using this
theorem V4(hp:Wh p)(k:Nat){r q:Int}{m:ByteArray}(a:Atr)(hr:r≠0)(hw:vB q=0)(hm:(m++vD q).size≤32):
 cM (p++gZ r m 0 a::gD k) p.length q=p++gZ r (m++vD q) 0 a::gD k:=by
 have e:uJ (p++gZ r m 0 a::gD k)=p++gZ r m 0 a::gD k:=(hp.app ((Wh.one (c:=gZ r m 0 a) rfl).app (Wh.zeros k))).mend;have e2:uJ (p++gZ r (m++vD q) 0 a::gD k)=p++gZ r (m++vD q) 0 a::gD k:=(hp.app ((Wh.one (c:=gZ r (m++vD q) 0 a) rfl).app (Wh.zeros k))).mend;unfold cM;rw[e];simp only[vV];rw[kI (jD _),Nat.sub_self,List.getElem?_cons_zero];simp only[];rw[if_neg (by
  rintro(h|h|h|h)
  · omega
  · exact hr h
  · exact h hw
  · have :(m++vD q).size≤32:=hm;exact absurd h (by show ¬32<(m++vD q).size;omega))]
 have hmo:=fR p (gZ r m 0 a::gD k) 0 (gO (m++vD q));rw[uA]at hmo;rw[if_neg (by show ¬(0:Int)=1;decide),if_neg (by show ¬(0:Int)=2;decide)];show uJ ((p++gZ r m 0 a::gD k).modify p.length (gO (m++vD q)))=_;rw[hmo];exact e2
theorem V3(hp:Wh p)(k:Nat){r q:Int}{m:ByteArray}(a:Atr)(hr:r≠0)(hw:vB q=0)(hm:(m++vD q).size≤32):
 cM (p++gZ r m 1 a::gZ r m 2 a::gD k) ((p.length+1:Nat):Int) q=p++gZ r (m++vD q) 1 a::gZ r (m++vD q) 2 a::gD k:=by
 have e:uJ (p++gZ r m 1 a::gZ r m 2 a::gD k)=p++gZ r m 1 a::gZ r m 2 a::gD k:=(hp.app ((Wh.two (Ke r m a)).app (Wh.zeros k))).mend;have e2:uJ (p++gZ r (m++vD q) 1 a::gZ r (m++vD q) 2 a::gD k)=p++gZ r (m++vD q) 1 a::gZ r (m++vD q) 2 a::gD k:=(hp.app ((Wh.two (Ke r (m++vD q) a)).app (Wh.zeros k))).mend;unfold cM;rw[e];simp only[vV];rw[kI qJ,show p.length+1-p.length=0+1 by omega,List.getElem?_cons_succ,List.getElem?_cons_zero];simp only[];rw[if_neg (by
  rintro(h|h|h|h)
  · omega
  · exact hr h
  · exact h hw
  · have :(m++vD q).size≤32:=hm;exact absurd h (by show ¬32<(m++vD q).size;omega))]
 have hm0:=fR p (gZ r m 1 a::gZ r m 2 a::gD k) 0 (gO (m++vD q));rw[uA]at hm0;have hm1:=fR p (gZ r (m++vD q) 1 a::gZ r m 2 a::gD k) 1 (gO (m++vD q));rw[if_neg (by show ¬(2:Int)=1;decide),if_pos (show(gZ r m 2 a).half=2 from rfl)];show uJ (((p++gZ r m 1 a::gZ r m 2 a::gD k).modify (p.length+1-1) (gO (m++vD q))).modify (p.length+1) (gO (m++vD q)))=_;rw[Nat.add_sub_cancel,hm0];show uJ ((p++gZ r (m++vD q) 1 a::gZ r m 2 a::gD k).modify (p.length+1) (gO (m++vD q)))=_;rw[hm1];exact e2
end
theorem oI{xs:List Int}(hx:∀x∈xs,0≤x∧x<256):yD (strOfNums xs)=xs:=by
 unfold yD strOfNums;simp only[List.map_map]
 conv=>rhs;rw[←List.map_id xs]
 refine List.map_congr_left (fun x h=>?_);have :=hx x h;show((UInt8.ofNat x.toNat).toNat:Int)=x;rw[UInt8.toNat_ofNat'];omega
theorem Q3{r:Int}(h:vE r=true):yD (vD r)=kO r:=by
 rw[dQ r h,oI (cB r h)]
theorem ZQ{r:Int}(h:vE r=true)(L:List Int):strOfNums ((r::L).flatMap kO)=vD r++strOfNums (L.flatMap kO):=by
 rw[List.flatMap_cons,←yV,dQ r h]
theorem wO(a b c:ByteArray):a++b++c=a++(b++c):=by
 apply ByteArray.ext;simp
section
variable {st:List Bool}{cols:Nat}{y:Nat}
theorem iZ{scr:List (List Cl)}{l:List Cl}(h:scr[y]? =some l):scr.set y l=scr:=by
 apply gM;intro i;rw[List.getElem?_set]
 split
 · next hi=>
   subst hi;rw[if_pos (jP.1 h).1,h]
 · rfl
theorem eQ{scr:List (List Cl)}{l:List Cl}(hy:y<scr.length):(scr.set y l)[y]? =some l:=by
 rw[List.getElem?_set,if_pos rfl,if_pos hy]
theorem wL{p:List Cl}(hp:Wh p)(k:Nat){r:Int}{a:Atr}(ha:vO a)(hr:r≠0):∀(L:List Int) (m:ByteArray) (scr:List (List Cl)) (la:Int),scr[y]? =some (p++gZ r m 0 a::gD k)→p.length+1≤cols→(∀q∈L,vE q=true∧vB q=0)→(m++strOfNums (L.flatMap kO)).size≤32→
 pC (dS st cols scr a y (p.length+1) la) (L.flatMap kO) (dS st cols (scr.set y (p++gZ r (m++strOfNums (L.flatMap kO)) 0 a::gD k)) a y (p.length+1) la)
 |[],m,scr,la,h,hx,_,_=>by
  rw[show m++strOfNums (([]:List Int).flatMap kO)=m from by apply ByteArray.ext;simp[strOfNums],iZ h];exact pC.refl _
 |q::L,m,scr,la,h,hx,hL,hz=>by
  obtain⟨q1,q2⟩:=hL q (List.mem_cons_self ..);have hy:=(jP.1 h).1;rw[ZQ q1,←wO]at hz ⊢;have hz2:(m++vD q).size≤32:=by rw[ByteArray.size_append]at hz;omega
  have h1:=Jw (st:=st) (cols:=cols) (a:=a) (la:=la) h q2 hx ha;rw[show((p.length+1:Nat):Int)-1=(p.length:Int) by omega,V4 hp k a hr q2 hz2]at h1;have h2:=wL hp k ha hr L (m++vD q) (scr.set y (p++gZ r (m++vD q) 0 a::gD k)) la (eQ hy) hx (fun x hx=>hL x (List.mem_cons_of_mem _ hx)) hz;rw[List.set_set]at h2;exact h1.trans h2
theorem wF{p:List Cl}(hp:Wh p)(k:Nat){r:Int}{a:Atr}(ha:vO a)(hr:r≠0):∀(L:List Int) (m:ByteArray) (scr:List (List Cl)) (la:Int),scr[y]? =some (p++gZ r m 1 a::gZ r m 2 a::gD k)→p.length+2≤cols→(∀q∈L,vE q=true∧vB q=0)→(m++strOfNums (L.flatMap kO)).size≤32→
 pC (dS st cols scr a y (p.length+2) la) (L.flatMap kO) (dS st cols (scr.set y (p++gZ r (m++strOfNums (L.flatMap kO)) 1 a::gZ r (m++strOfNums (L.flatMap kO)) 2 a::gD k)) a y (p.length+2) la)
 |[],m,scr,la,h,hx,_,_=>by
  rw[show m++strOfNums (([]:List Int).flatMap kO)=m from by apply ByteArray.ext;simp[strOfNums],iZ h];exact pC.refl _
 |q::L,m,scr,la,h,hx,hL,hz=>by
  obtain⟨q1,q2⟩:=hL q (List.mem_cons_self ..);have hy:=(jP.1 h).1;rw[ZQ q1,←wO]at hz ⊢;have hz2:(m++vD q).size≤32:=by rw[ByteArray.size_append]at hz;omega
  have h1:=Jw (st:=st) (cols:=cols) (a:=a) (la:=la) h q2 hx ha;rw[show((p.length+2:Nat):Int)-1=((p.length+1:Nat):Int) by omega,V3 hp k a hr q2 hz2]at h1;have h2:=wF hp k ha hr L (m++vD q) (scr.set y (p++gZ r (m++vD q) 1 a::gZ r (m++vD q) 2 a::gD k)) la (eQ hy) hx (fun x hx=>hL x (List.mem_cons_of_mem _ hx)) hz;rw[List.set_set]at h2;exact h1.trans h2
theorem gF.right{c:Cl}(h:gF c):vO (vC c):=h.2.1
theorem gF.blank{c:Cl}(h:gF c)(hr:c.r=0):c=pY (rN (vC c)):=by
 obtain⟨h1,-,h3⟩:=h;obtain⟨f1,f2,f3⟩:=h3 hr;rcases h1 with⟨-,e1,e2⟩|⟨h1,-⟩
 · obtain⟨r,more,half,fk,fn,bk,bn,fl⟩:=c;simp only at hr e1 e2 f1 f2 f3;subst hr e1 e2 f1 f2 f3;rfl
 · exact absurd hr h1
theorem gF.marks{c:Cl}(h:gF c)(hr:c.r≠0):(∃L:List Int,(∀r∈L,vE r=true∧vB r=0)∧c.more=strOfNums (L.flatMap kO)∧c.more.size≤32)∧(c.half=0∧vB c.r=1∨c.half=1∧vB c.r=2∨c.half=2∧vB c.r=2):=by
 rcases h.1 with⟨h1,-⟩|⟨-,h2,h3⟩
 · exact absurd h1 hr
 · exact⟨h2,h3⟩
theorem Za{c:Cl}{L:List Int}(h:∀r∈L,vE r=true∧vB r=0)(hm:c.more=strOfNums (L.flatMap kO))(hs:vE c.r=true):fC c=kO c.r++L.flatMap kO:=by
 unfold fC;rw[Q3 hs,hm,oI (fun x hx=>by
  obtain⟨r,h1,h2⟩:=List.mem_flatMap.1 hx;exact cB r (h r h1).1 x h2)]
theorem VQ(m:ByteArray):kH++m=m:=by apply ByteArray.ext;simp
theorem QT{p:List Cl}(hp:Wh p)(k:Nat){c:Cl}(hc:gF c)(hr:c.r≠0)(h0:c.half=0){on:Atr}(hon:vO on){scr:List (List Cl)}(la:Int)(h:scr[y]? =some (p++gD (k+1)))(hx:p.length+(k+1)=cols):
 pC (dS st cols scr on y p.length la) (pF on (vC c)++fC c) (dS st cols (scr.set y (p++c::gD k)) (vC c) y (p.length+1) c.r):=by
 have hy:=(jP.1 h).1;obtain⟨⟨L,hL,hm,hz⟩,hw⟩:=hc.marks hr;have hw1:vB c.r=1:=by omega
 rw[Za hL hm (rR qJ).1];have h1:=nP (st:=st) (cols:=cols) (la:=la) (x:=p.length) hy qJ hon hc.right;have h2:=Zh (st:=st) (cols:=cols) (la:=la) (a:=vC c) (x:=p.length) h 1 hw1 qZ qJ hc.right;rw[qJx hp k c.r (vC c) hw1]at h2;have h3:=wL (st:=st) (cols:=cols) hp k hc.right hr L kH _ c.r (eQ hy) qJ hL (by rw[VQ,←hm];exact hz);rw[VQ,←hm,List.set_set,←h0,Uf]at h3;rw[h0]at h3;exact h1.trans (h2.trans h3)
theorem Yb{p:List Cl}(hp:Wh p)(k:Nat){c d:Cl}(hc:gF c)(hr:c.r≠0)(hcd:yE c d=true){on:Atr}(hon:vO on){scr:List (List Cl)}(la:Int)(h:scr[y]? =some (p++gD (k+2)))(hx:p.length+(k+2)=cols):
 pC (dS st cols scr on y p.length la) (pF on (vC c)++fC c) (dS st cols (scr.set y (p++c::d::gD k)) (vC c) y (p.length+2) c.r):=by
 have hy:=(jP.1 h).1;obtain⟨p1,p2,p3⟩:=tC hcd;obtain⟨⟨L,hL,hm,hz⟩,hw⟩:=hc.marks hr;have hw1:vB c.r=2:=by omega
 rw[Za hL hm (rR qJ).1];have h1:=nP (st:=st) (cols:=cols) (la:=la) (x:=p.length) hy qJ hon hc.right;have h2:=Zh (st:=st) (cols:=cols) (la:=la) (a:=vC c) (x:=p.length) h 2 hw1 qZ qJ hc.right;rw[qJw hp k c.r (vC c) hw1]at h2;have h3:=wF (st:=st) (cols:=cols) hp k hc.right hr L kH _ c.r (eQ hy) qJ hL (by rw[VQ,←hm];exact hz);rw[VQ,←hm,List.set_set]at h3;have e1:gZ c.r c.more 1 (vC c)=c:=by rw[←p1];exact Uf c
 have e2:gZ c.r c.more 2 (vC c)=d:=by
  rw[p3];obtain⟨r,more,half,fk,fn,bk,bn,fl⟩:=d;simp only at p2;subst p2;rfl
 rw[e1,e2]at h3;exact h1.trans (h2.trans h3)
def Gly:List Cl→Prop
 |[]=>True
 |[c]=>c.half=0
 |c::d::l=>(c.half=0∧Gly (d::l))∨(yE c d=true∧Gly l)
theorem Gly.wh:∀{l:List Cl},Gly l→Wh l
 |[],_=>Wh.nil
 |[_],h=>Wh.one h
 |c::d::l,h=>by
  have h:(c.half=0∧Gly (d::l))∨(yE c d=true∧Gly l):=h;rcases h with⟨h1,h2⟩|⟨h1,h2⟩
  · exact(Wh.one h1).app h2.wh
  · exact(Wh.two h1).app h2.wh
theorem rU:∀(seg:List Cl),Gly seg→(∀c∈seg,gF c∧c.r≠0)→∀(p:List Cl) (k:Nat) (on:Atr) (la:Int) (scr:List (List Cl)),Wh p→vO on→scr[y]? =some (p++gD (seg.length+k))→p.length+(seg.length+k)=cols→
 ∃la',pC (dS st cols scr on y p.length la) (vW on seg).1 (dS st cols (scr.set y (p++(seg++gD k))) (vW on seg).2 y (p.length+seg.length) la')∧vO (vW on seg).2
 |[],_,_,p,k,on,la,scr,_,hon,h,_=>by
  refine⟨la,?_,hon⟩;rw[show([]:List Cl).length+k=k by simp]at h;rw[show([]:List Cl)++gD k=gD k from rfl,iZ h];exact pC.refl _
 |[c],hg,hok,p,k,on,la,scr,hp,hon,h,hx=>by
  have h0:c.half=0:=hg;obtain⟨c1,c2⟩:=hok c (jM.2 rfl);have e:vW on [c]=(pF on (vC c)++fC c,vC c):=by
   show(if c.half=2 then _ else _)=_;rw[if_neg qJ];simp[vW]
  rw[e];rw[show[c].length+k=k+1 by simp;omega]at h hx;exact⟨c.r,QT hp k c1 c2 h0 hon la h hx,c1.right⟩
 |c::d::l,hg,hok,p,k,on,la,scr,hp,hon,h,hx=>by
  have hg:(c.half=0∧Gly (d::l))∨(yE c d=true∧Gly l):=hg;have hy:=(jP.1 h).1;obtain⟨c1,c2⟩:=hok c (List.mem_cons_self ..);rcases hg with⟨h0,h1⟩|⟨h0,h1⟩
  · have e:vW on (c::d::l)=(pF on (vC c)++(fC c++(vW (vC c) (d::l)).1),(vW (vC c) (d::l)).2):=by
     show(if c.half=2 then _ else _)=_;rw[if_neg qJ]
    rw[e];have z1:(c::d::l).length+k=((d::l).length+k)+1:=by simp;omega
    rw[z1]at h hx;have f1:=QT (st:=st) (y:=y) hp _ c1 c2 h0 hon la h hx;obtain⟨la',f2,f3⟩:=rU (d::l) h1 (fun x hx=>hok x (List.mem_cons_of_mem _ hx)) (p++[c]) k (vC c) c.r (scr.set y (p++c::gD ((d::l).length+k))) (hp.app (Wh.one h0)) c1.right (by rw[eQ hy];simp) (by simp at hx ⊢;omega);refine⟨la',?_,f3⟩;rw[List.set_set]at f2;have z2:p.length+(c::d::l).length=(p++[c]).length+(d::l).length:=by simp;omega
    have z3:p++(c::d::l++gD k)=p++[c]++(d::l++gD k):=by simp
    rw[z2,z3,←kG];rw[show p.length+1=(p++[c]).length by simp]at f1;exact f1.trans f2
  · obtain⟨p1,p2,p3⟩:=tC h0;have e:vW on (c::d::l)=(pF on (vC c)++(fC c++(vW (vC c) l).1),(vW (vC c) l).2):=by
     show(if c.half=2 then _ else(pF on (vC c)++(fC c++(vW (vC c) (d::l)).1),(vW (vC c) (d::l)).2))=_;rw[if_neg qJ,show vW (vC c) (d::l)=vW (vC c) l from by show(if d.half=2 then _ else _)=_;rw[if_pos p2]]
    rw[e];have z1:(c::d::l).length+k=(l.length+k)+2:=by simp;omega
    rw[z1]at h hx;have f1:=Yb (st:=st) (y:=y) hp _ c1 c2 h0 hon la h hx;obtain⟨la',f2,f3⟩:=rU l h1 (fun x hx=>hok x (List.mem_cons_of_mem _ (List.mem_cons_of_mem _ hx))) (p++[c,d]) k (vC c) c.r (scr.set y (p++c::d::gD (l.length+k))) (hp.app (Wh.two h0)) c1.right (by rw[eQ hy];simp) (by simp at hx ⊢;omega);refine⟨la',?_,f3⟩;rw[List.set_set]at f2;have z2:p.length+(c::d::l).length=(p++[c,d]).length+l.length:=by simp;omega
    have z3:p++(c::d::l++gD k)=p++[c,d]++(l++gD k):=by simp
    rw[z2,z3,←kG];rw[show p.length+2=(p++[c,d]).length by simp]at f1;exact f1.trans f2
end
end Go.Proofs.YtaefcahblmopfaaGreatDoor
