/- Joined by a tool of this claim out of smaller texts. Conditions: as stated. -/
import Derived.Test.YtaefcahblmopfaaGreatDoorDj35
import Derived.Test.YtaefcahblmopfaaGreatDoorDj36
set_option linter.unusedVariables false
set_option linter.unusedSimpArgs false
set_option maxRecDepth 100000
open Go.Lib renaming hid → Hd
open List renaming setIfInBounds_toArray → jZ, set_cons_zero → jX, set_cons_succ → jY, mem_singleton → jM, getElem?_eq_getElem → jN, getElem?_eq_some_iff → jP, length_append → jC, drop_succ_cons → jL, take_succ_cons → jS, drop_zero → jO, take_succ_eq_append_getElem → kQ, mem_cons → kJ, take_zero → kK, append_assoc → kG, mem_append → kU, getElem?_map → uX, mem_of_getElem? → uB, map_append → vX
open Go.Proofs.Tryz renaming prog → jG
open Go.RowKit.Below renaming refl → jU
open Nat renaming le_refl → jD, le_trans → jI, zero_le → kM, zero_add → kP, add_zero → uA
open Go.IntWalk renaming i64_in → jF
open Option renaming mem_toList → jA
open Go.IntKind renaming i64 → jE
open And renaming intro → kY
open ByteArray renaming empty → kH
open Go.World renaming ownsRow → kL, ownsRow_nil → kS, setCell → uN
namespace Go.Proofs.YtaefcahblmopfaaGreatDoor
open Go.RowKit
def RcW(w:World)(r:Rh):Prop:=r.cs.length≤10000∧zL w r.A r.cs
theorem RcW.below{w w':World}{r:Rh}(h:RcW w r)(hb:Below w.heap.size w w'):RcW w' r:=⟨h.1,h.2.below hb⟩
theorem UV{w:World}{A:Option Addr}{l:List Cl}(h:pT kV 8 w A l):zL w A l:=fun h0=>by
 obtain⟨b,off,hA,hc⟩:=h h0;exact⟨b,off,hA,fun i c hi=>⟨hc i c hi 0 _ rfl,hc i c hi 1 _ rfl,hc i c hi 2 _ rfl,hc i c hi 3 _ rfl,hc i c hi 4 _ rfl,hc i c hi 5 _ rfl,hc i c hi 6 _ rfl,hc i c hi 7 _ rfl⟩⟩
theorem zZ.weak{w:World}{r:Rh}(h:zZ w r):RcW w r:=⟨h.1,UV h.2.2.1⟩
set_option maxHeartbeats 3200000 in
theorem qQs(A B:Option Addr)(L M:List Rh)(ca cb:Nat)(w:World)(hA:pT yG 2 w A L)(hB:pT yG 2 w B M)(hrL:∀r∈L,RcW w r)(hrM:∀r∈M,RcW w r)(he:L.map zU=M.map zU)(hz:L.length≤1000000):
 Calls jG 34 #[.slice A L.length ca,.slice B M.length cb] w (fun e w'=>e=.returned (.bool true)∧Below w.heap.size w w'):=by
 have hlen:L.length=M.length:=by have :=congrArg List.length he;simpa using this
 have HA:=Hd hA;have HB:=Hd hB;have HL:=Hd hrL;have HM:=Hd hrM;have HE:=Hd he;have HLEN:=Hd hlen;obtain⟨n,hn⟩:∃n,n=L.length:=⟨_,rfl⟩;rw[←hlen,←hn];have HN:=Hd hn;have hz':n≤1000000:=by omega
 clear hA hB hrL hrM he hlen hn hz
 go_enter Tryz.func34,Tryz.ntmps34
 go_wp2_with fail
 go_loopw [5] (fun i wr=>∃k:Nat,k≤n∧i=.int .i64 k∧Below w.heap.size w wr) (fun i _=>n-(intOf i).toNat)
 case atStart=>exact⟨0,kM _,rfl,jU _ _⟩
 case round=>
  obtain⟨k,hk,rfl,hBe⟩:=hrel
  by_cases hlt:k<n
  rotate_left
  · go_wp2
    go_ret
    exact⟨rfl,hBe⟩
  · obtain⟨b,off,x,rfl,hx,cx⟩:=(HA.o.below hBe).at_ (show k<L.length by have :=HN.o;omega);obtain⟨b',off',y,rfl,hy,cy⟩:=(HB.o.below hBe).at_ (show k<M.length by have :=HN.o;have :=HLEN.o;omega);have hxy:zU x=zU y:=by
     have h1:(L.map zU)[k]? =some (zU x):=by rw[uX,hx];rfl
     have h2:(M.map zU)[k]? =some (zU y):=by rw[uX,hy];rfl
     rw[HE.o,h2]at h1;exact(Option.some.inj h1).symm
    have hcs:x.cs=y.cs:=congrArg Ro.cs hxy;have hct:x.cont=y.cont:=congrArg Ro.cont hxy;have hrx:=(HL.o x (uB hx)).below hBe;have hry:=(HM.o y (uB hy)).below hBe;have HSM:Hid (∀w',Below wr.heap.size wr w'→Calls jG 57 #[.slice x.A x.cs.length x.cap,.slice y.A x.cs.length y.cap] w' (fun e w''=>e=.returned (.bool true)∧Below w'.heap.size w' w'')):=Hd (fun w' hb=>by
     have h1:=hrx.below hb;have h2:=hry.below hb;have :=hZ x.A y.A x.cs y.cs x.cap y.cap w' h1.2 h2.2 (by have :=h1.1;omega) (by have :=h2.1;omega);rw[←hcs]at this;simpa using this)
    have x0:wr.cell? ⟨b,off+k*2,none⟩=some (.slice x.A x.cs.length x.cap):=cx 0 _ rfl;have x1:wr.cell? ⟨b,off+k*2+1,none⟩=some (.bool x.cont):=cx 1 _ rfl;have y0:wr.cell? ⟨b',off'+k*2,none⟩=some (.slice y.A x.cs.length y.cap):=by rw[hcs];exact cy 0 _ rfl
    have y1:wr.cell? ⟨b',off'+k*2+1,none⟩=some (.bool x.cont):=by rw[hct];exact cy 1 _ rfl
    clear hx hy cx cy hxy hcs hct hrx hry
    go_upto_region 6 with fail
    refine kW 24 (fun w'=>Below wr.heap.size wr w'∧w'.cell? ⟨b,off+k*2,none⟩=some (.slice x.A x.cs.length x.cap)∧w'.cell? ⟨b,off+k*2+1,none⟩=some (.bool x.cont)∧w'.cell? ⟨b',off'+k*2,none⟩=some (.slice y.A x.cs.length y.cap)∧w'.cell? ⟨b',off'+k*2+1,none⟩=some (.bool x.cont)) qQ qQ ?_ ?_
    · exact⟨(jU _ _).drew,x0,x1,y0,y1⟩
    simp only[jS,kK,jL,jO]
    repeat(
     (first
      |refine kF qK ?_
      |(refine uO 57 #[.slice x.A x.cs.length x.cap,.slice y.A x.cs.length y.cap] (.bool true) qK ?_ (fun w' hS=>(HSM.o w' hS.1).mono (fun e w'' h=>⟨h.1,jW hS.1 h.2,kZ h.2 hS.2.1,kZ h.2 hS.2.2.1,kZ h.2 hS.2.2.2.1,kZ h.2 hS.2.2.2.2⟩)) ?_;(focus(intro w2;go_simp;done)))
      |(refine kT ?_ qK ?_ ?_;rotate_left;(focus(intro w' hS;obtain⟨_,_,_,_,_⟩:=hS;go_simp;first|done|with_reducible rfl))))
     simp only[Act.put,jZ,jX,jY])
    refine kE (fun w' hS=>?_);have HBB:=Hd (jW hBe hS.1);clear hS x0 x1 y0 y1
    go_wp2
    go_roundw
    case rel=>exact⟨k+1,by omega,by go_num,HBB.o⟩
    case measure=>simp[intOf];omega
def YQ(r:Rw):Rh:=⟨r.A,r.cs,r.cap,false⟩
theorem Z6{w:World}{A:Option Addr}{rows:List Rw}(h:bG w A (rows.map tY)):pT yG 2 w A (rows.map YQ):=fun h0=>by
 rw[List.length_map]at h0;obtain⟨b,off,hA,hr⟩:=h (by rw[List.length_map];exact h0);refine⟨b,off,hA,fun i x hi j v hj=>?_⟩;rw[uX]at hi;obtain⟨r,hg,rfl⟩:=Option.map_eq_some_iff.1 hi;obtain⟨⟨c0,c1⟩,-,-⟩:=hr i (tY r) (by rw[uX,hg];rfl);rcases j with _|_|j
 · simp[yG,YQ]at hj;subst hj;exact c0
 · simp[yG,YQ]at hj;subst hj;exact c1
 · simp[yG]at hj
theorem Wm{w:World}{A:Option Addr}{rows:List Rw}(h:bG w A (rows.map tY))(hz:∀r∈rows,r.cs.length≤1000):∀r∈rows.map YQ,RcW w r:=fun r hr=>by
 obtain⟨q,hq,rfl⟩:=List.mem_map.1 hr;obtain⟨i,hi⟩:=List.mem_iff_getElem?.1 hq;obtain⟨b,off,hA,hr⟩:=h (by rw[List.length_map];exact List.length_pos_iff.2 (List.ne_nil_of_mem hq));have :=(hr i (tY q) (by rw[uX,hi];rfl)).2.1;exact⟨by have :=hz q hq;show q.cs.length≤10000;omega,this⟩
theorem qKk(rows:List Rw):(rows.map YQ).map zU=(vL rows).map mkR:=by
 unfold vL;simp only[List.map_map];rfl
theorem qKv{t:Tm}{bs:List Int}(h:PzOk t.pz)(hb:VB bs):PzOk (bI evD t bs).pz:=by
 have h1:∀(es:List Ev) (t:Tm),(cQ evD t es).pz=t.pz:=fun es=>by
  induction es with
  |nil=>intro t;rfl
  |cons e es ih=>intro t;show(cQ evD (evD t e) es).pz=_;rw[ih,nC.pz]
 have h2:∀(l:List Int) (t:Tm),VB l→PzOk t.pz→PzOk (bI evD t l).pz:=fun l=>by
  induction l with
  |nil=>intro t _ h;exact h
  |cons c l ih=>intro t hl h;exact ih _ (fun x hx=>hl x (List.mem_cons_of_mem _ hx)) (by show PzOk (cQ evD _ _).pz;rw[h1];exact h.step (by have :=hl c (List.mem_cons_self ..);omega))
 exact h2 _ _ hb h
theorem ZD{n:Int}(h1:1≤n)(h2:n≤65536):PzOk (dL n):=⟨by simp[dL],by simp[dL],by simp[dL],⟨by simp[dL];omega,by simp[dL]⟩,by simp[dL],by simp[dL];omega,by simp[dL],DkOk.zero⟩
theorem RestQ.rest{t:Tm}(h:RestQ t.pz):Vs t=true:=by
 unfold Vs;rw[h.held.1,h.held.2];rfl
theorem pC.bys{s s':Sc}{bs:List Int}(h:pC s bs s'):VB bs:=by
 obtain⟨E,rfl,hg,-,-⟩:=h;intro x hx;obtain⟨e,he,hx⟩:=List.mem_flatMap.1 hx;rcases hg e he with⟨r,rfl,hr,-⟩|⟨l,c,rfl,-,-,-,h1,h2⟩
 · exact cB r hr x hx
 · rw[dG]at hx;simp only[kJ,kU,List.not_mem_nil,or_false]at hx;rcases hx with rfl|rfl|hx|rfl
   · omega
   · omega
   · have :=QX l x hx;omega
   · omega
theorem qJo{rows:List Rw}{cols:Nat}(hok:dP rows cols):qVw cols (vL rows):=fun l hl=>by
 obtain⟨r,hr,rfl⟩:=List.mem_map.1 hl;exact hok.2.2.2.2 r hr
theorem Y9{rows:List Rw}(hok:qV7 rows)(hz:rows.length≤400)(ay ax:Nat)(hay:ay≤1000)(hax:ax≤1000):(dR (vL rows) ay ax).length≤80000000:=by
 have h1:=KZ hok hz ay ax;have h2:=eF (yX 0 vI (vL rows)).2 vO.zero;have h3:=iG ay ax hay hax;unfold dR;simp only[jC];omega
set_option maxHeartbeats 3200000 in
theorem Y7(A:Option Addr)(rows:List Rw)(ca cols ay ax:Nat)(w:World)(hl:bG w A rows)(hok:dP rows cols)(hcap:∀r∈rows,r.cs.length≤r.cap)(hay:ay<rows.length)(hax:ax<cols)(ht:fO w):
 Calls jG 48 #[.slice A rows.length ca,.agg #[.int .i64 ay,.int .i64 ax]] w fun e w'=>e=.returned (.bool true)∧Below w.heap.size w w':=by
 have hcs:qV7 rows:=fun r hr=>⟨by rw[(hok.2.2.2.2 r hr).1];exact hok.2.2.2.1,hcap r hr,(hok.2.2.2.2 r hr).2.2⟩;obtain⟨W,hW⟩:∃W,w.alloc (.cells #[.int .i64 ay,.int .i64 ax] 34)=W:=⟨_,rfl⟩;have hb0:Below w.heap.size w W:=by rw[←hW];exact jH (jU _ _) _
 have hn0:W.heap[w.heap.size]? =some (.cells #[.int .i64 ay,.int .i64 ax] 34 (0,0)):=by rw[←hW];exact jT rfl
 obtain⟨⟨x0,-⟩,⟨x1,-⟩⟩:=kY (at_ hn0 0 (.int .i64 ay) rfl) (at_ hn0 1 (.int .i64 ax) rfl);have HB0:=Hd hb0;have HN0:=Hd hn0;have HDR:Hid (Calls jG 87 #[.slice A rows.length ca,.agg #[.int .i64 ay,.int .i64 ax]] W fun e w'=>e=.returned (.tuple #[.string (strOfNums (dR (vL rows) ay ax)),.int .i64 0])∧Below W.heap.size W w'):=Hd (qK4 A rows ca cols ay ax W (hl.below hb0) hok hcap hay hax (ht.below hb0));obtain⟨la,hfe⟩:=X6 (st:=cY [] cols) (vL rows) (by unfold vL;rw[List.length_map];exact hok.1) hok.2.2.1 (by unfold vL;rw[List.length_map];have :=hok.2.1;omega) hok.2.2.2.1 (qJo hok) ay ax (by unfold vL;rw[List.length_map];exact hay) hax;have hrl:(vL rows).length=rows.length:=by unfold vL;rw[List.length_map]
 have hlen:=Y9 hcs hok.2.1 ay ax (by have :=hok.2.1;omega) (by have :=hok.2.2.2.1;omega);rw[hrl]at hfe;have HFE:=Hd hfe;have HLEN:=Hd hlen;have HTN:Hid (∀w,Calls jG 7 #[.int .i64 rows.length,.int .i64 cols,.int .i64 5,.int .i64 50] w (XC rows.length cols 5 50 w)):=Hd (fun w=>qQ6 rows.length cols 5 50 w (by have :=hok.1;omega) (by have :=hok.2.1;omega) hok.2.2.1 hok.2.2.2.1 qJ qJ qJ);obtain⟨b,off,rfl,hrr⟩:=hl hok.1;obtain⟨⟨d0,-⟩,-,-⟩:=(hrr 0 _ (jN hok.1)).below hb0;rw[(hok.2.2.2.2 _ (List.getElem_mem hok.1)).1,Nat.zero_mul,uA]at d0;generalize rows[0].A=rA at d0;generalize rows[0].cap=rc at d0;have HL:=Hd hl;have HOK:=Hd hok;have h0:=hok.1;clear hfe hlen ht hcs hcap hay hax hrr hl hok hb0 hn0;obtain⟨S,hS⟩:∃S,strOfNums (dR (vL rows) ay ax)=S:=⟨_,rfl⟩;rw[hS]at HDR;have HS:=Hd hS;clear hS
 go_enter Tryz.func48,Tryz.ntmps48
 go_upto_region 2 with(go_at_call 87;(with_reducible refine HDR.o.mono ?_);rintro e w1 ⟨rfl,hb⟩;have HB1:=Hd hb;clear hb)
 have e0:w1.cell? ⟨b,off,none⟩=some (.slice rA cols rc):=kZ HB1.o d0;clear d0 x0 x1 hW
 go_upto_region 5 with(go_at_call 7;(with_reducible refine(HTN.o _).mono ?_);rintro e w2 ⟨v,rfl,hO,hb⟩;have HO:=Hd hO;have HB2:=Hd hb;clear hO hb)
 have hlo:W.heap.size≤w1.heap.size:=HB1.o.size;have hwl:w.heap.size<W.heap.size:=jR HN0.o;obtain⟨p',hp',hfd,hok2⟩:=pC.fed (t:=⟨dL 50,rQ rows.length cols 5 (cY [] cols),rQ rows.length cols 0 (cY [] cols),false,Kn,⟨#[]⟩,[],[]⟩) HFE.o rfl (RestQ.new 50);have hcv:=mA S w2;have hbs:=pC.bys HFE.o;have hpo:=qKv (t:=⟨dL 50,rQ rows.length cols 5 (cY [] cols),rQ rows.length cols 0 (cY [] cols),false,Kn,⟨#[]⟩,[],[]⟩) (ZD qJ qJ) hbs;rw[hfd]at hpo;have hbw:=dH w2 5 S;have hbi:WG (Lib.bytesWorld w2 5 S) (some ⟨w2.heap.size,0,none⟩) (dR (vL rows) ay ax) (tmX v):=fun h=>by
  have h1:=Qb w2 5 (dR (vL rows) ay ax) hbs h;rw[HS.o]at h1;obtain⟨g,o,e,h2⟩:=h1;obtain⟨rfl,rfl⟩:w2.heap.size=g∧0=o:=by injection e with e;injection e with e1 e2 _;exact⟨e1,e2⟩
  exact⟨_,_,rfl,fun hx=>by have :=(HO.o.lt _ hx).2;omega,h2⟩
 have hsz:S.size=(dR (vL rows) ay ax).length:=by rw[←HS.o,gJ]
 generalize Lib.bytesWorld w2 5 S=wb at hcv hbw hbi;have HFD:Hid (∀c,Calls jG 9 #[.pointer (some ⟨v.M,0,none⟩),.slice (some ⟨w2.heap.size,0,none⟩) S.size c] wb (nQ w1.heap.size wb v {(⟨dL 50,rQ rows.length cols 5 (cY [] cols),rQ rows.length cols 0 (cY [] cols),false,Kn,⟨#[]⟩,[],[]⟩:Tm)with s0:=dS (cY [] cols) cols (vL rows) vI ay ax la,pz:=p'})):=Hd (fun c=>by
  rw[hsz,←hfd];exact Wk evD OkD (doD w1.heap.size) nC.pz (HO.o.below hbw) (ZD qJ qJ) hbi hbs (by have :=HLEN.o;omega) hok2)
 have HBW:=Hd ((HB2.o.mono hlo).trans (hbw.mono (jI hlo HB2.o.size)));have HPO:=Hd (kY hp' hpo);have HOB:=Hd (HO.o.below hbw);have HWL:=Hd (kY hlo hwl);clear hp' hfd hok2 hbs hpo hbw hbi hsz hlo hwl e0 HDR HTN HO
 go_upto_region 6 with(go_at_call 9;(with_reducible refine(HFD.o _).mono ?_);rintro e w3 ⟨rfl,hr⟩;have HR3:=Hd hr;clear hr)
 obtain⟨v3,hV3,hO3,hm3⟩:=HR3.o;have hB3:Below W.heap.size W w3:=(HB1.o.trans HBW.o).trans (hm3.below (fun x hx=>jI HWL.o.1 (HOB.o.lt x hx).1) (jI HWL.o.1 HBW.o.size));have HO3:=Hd hO3;have HF3:=Hd (oD hO3);rw[hV3.M]at HF3;have HP3:=Hd (iX hO3.a);have HM3:=Hd hV3.M;have HB3:=Hd hB3;clear hV3 hO3 hm3 hB3 hcv
 go_upto_region 7 with(first
  |(go_at_call 12;(with_reducible refine HF3.o.mono ?_);rintro e w4 ⟨rfl,rfl⟩)
  |(go_at_call 78;(with_reducible refine HP3.o.mono ?_);rintro e w4 ⟨rfl,rfl⟩))
 have HALL:=Hd (qKc HO3.o.a.page);have HHS:Hid (∀L:List Rh,L.map zU=([]:List Ro)++(vL rows).map mkR→L.map zU=(rows.map YQ).map zU):=Hd (fun L h=>by rw[h,List.nil_append,qKk]);have HRL:Hid (∀w',Below w3.heap.size w3 w'→bG w' (some ⟨b,off,none⟩) rows):=Hd (fun w' hb=>HL.o.below (HB0.o.trans ((HB3.o.trans (hb.mono HB3.o.size)).mono HB0.o.size)));have HPA:Hid (∀w',Below w3.heap.size w3 w'→Calls jG 89 #[.slice (some ⟨b,off,none⟩) rows.length ca] w' (Qo rows w')):=Hd (fun w' hb=>YN _ rows ca w' (HRL.o w' hb) h0 HOK.o.2.1);have HX3:Hid (w3.heap[w.heap.size]? =some (.cells #[.int .i64 ay,.int .i64 ax] 34 (0,0))):=Hd ((HB3.o.block _ HWL.o.2).trans HN0.o);have HFR:Hid (∀w',Below w3.heap.size w3 w'→Calls jG 90 #[.pointer (some ⟨v.M,0,none⟩),.agg #[.int .i64 ay,.int .i64 ax]] w' fun e w2=>e=.returned (.bool true)∧zW w1.heap.size w' v3 {(⟨dL 50,rQ rows.length cols 5 (cY [] cols),rQ rows.length cols 0 (cY [] cols),false,Kn,⟨#[]⟩,[],[]⟩:Tm)with s0:=dS (cY [] cols) cols (vL rows) vI ay ax la,pz:=p'} w2):=Hd (fun w' hb=>by
  have :=Z9 (ay:=ay) (ax:=ax) (HO3.o.below hb) HPO.o.2 rfl rfl rfl rfl rfl rfl (RestQ.rest HPO.o.1) (by rw[hrl];have :=HOK.o.2.1;omega);rw[HM3.o]at this;exact this)
 clear HF3 HP3 HFD;have hlt3:Hid (∀x∈tmX v3,W.heap.size≤x):=Hd (fun x hx=>jI HWL.o.1 (HO3.o.lt x hx).1);obtain⟨QP,hQP⟩:∃QP,v3.a.q.P=QP:=⟨_,rfl⟩;have HQP:=Hd hQP;rw[hQP]at HALL ⊢;clear hQP
 go_wp2_with(first
  |(go_at_call 88;(with_reducible refine HALL.o.mono ?_);rintro e w4 ⟨val,L,rfl,hro,hmap,hb4⟩;obtain⟨LA,lc,rfl⟩:=uT hro.1;have HRO:=Hd hro;have HMP:=Hd (HHS.o L hmap);have HB4:=Hd hb4;clear hro hmap hb4)
  |(go_at_call 89;(with_reducible refine(HPA.o _ HB4.o).mono ?_);rintro e w5 ⟨A5,c5,rfl,hpr,hb5⟩;have HB5:=Hd (jW HB4.o hb5);have HSM:Hid (Calls jG 34 #[.slice LA L.length lc,.slice A5 rows.length c5] w5 fun e w'=>e=.returned (.bool true)∧Below w5.heap.size w5 w'):=Hd (by
     have h1:=HRO.o.below hb5;have :=qQs LA A5 L (rows.map YQ) lc c5 w5 (rX bH h1.1) (Z6 hpr) (fun r hr=>(h1.2 r hr).1.weak) (Wm hpr (fun r hr=>by rw[(HOK.o.2.2.2.2 r hr).1];exact HOK.o.2.2.2.1)) HMP.o (by have :=congrArg List.length HMP.o;simp only[List.length_map]at this;have :=HOK.o.2.1;omega);rw[List.length_map]at this;exact this);clear hpr hb5)
  |(go_at_call 34;(with_reducible refine HSM.o.mono ?_);rintro e w6 ⟨rfl,hb6⟩;have HB6:=Hd (jW HB5.o hb6);have y0:w6.cell? ⟨w.heap.size,0,none⟩=some (.int .i64 ay):=(at_ ((HB6.o.block _ (jR HX3.o)).trans HX3.o) 0 _ rfl).1;have y1:w6.cell? ⟨w.heap.size,1,none⟩=some (.int .i64 ax):=(at_ ((HB6.o.block _ (jR HX3.o)).trans HX3.o) 1 _ rfl).1;clear hb6)
  |(go_at_call 90;(with_reducible refine(HFR.o _ HB6.o).mono ?_);rintro e w7 ⟨rfl,hr⟩;have HR7:=Hd hr;have HBA:Hid (Calls jG 91 #[.pointer (some ⟨QP,0,none⟩)] w7 fun e w'=>e=.returned (.int .i64 0)∧w7=w'):=Hd (by
     obtain⟨v7,hq,hV,hO7,hm7⟩:=HR7.o;have :=Jb hO7.a.page;rw[hq,HQP.o]at this;exact this);clear hr)
  |(go_at_call 91;(with_reducible refine HBA.o.mono ?_);rintro e w8 ⟨rfl,rfl⟩))
 go_ret
 obtain⟨v7,hq,hV,hO7,hm7⟩:=HR7.o;exact⟨rfl,HB0.o.trans (((HB3.o.trans (HB6.o.mono HB3.o.size)).trans (hm7.below hlt3.o (jI HB3.o.size HB6.o.size))).mono HB0.o.size)⟩
def renWb:Go.Shelf.Ren:=⟨fun n=>if n=167 then 100 else Tryz.laysJoin_ren.f n,Tryz.laysJoin_ren.t,Tryz.laysJoin_ren.g⟩
theorem laysWs:Lays.n166 jG Tryz.laysJoin_ren:={Tryz.laysJoin with}
theorem laysSt:Lays.n169 jG Tryz.laysJoin_ren:={Tryz.laysJoin with}
theorem laysWb:Lays.n167 jG renWb:={Tryz.laysJoin with
 f167:=Tryz.func100.trans (congrArg some qQ)
 f240:=Tryz.func168.trans (congrArg some qQ)
 f276:=Tryz.func260.trans (congrArg some qQ)
 t5:=Tryz.underlying5
 a5:=Tryz.isAgg5
 z5:=Tryz.sizeOf5
 v5:=Tryz.zeroValue5}
theorem extraWb:Builder.Extra jG renWb:=
 {sizeBuilder:=by kernel_rfl
  liesBuilder:=by kernel_rfl
  t5:=Tryz.underlying5
  a5:=Tryz.isAgg5
  z5:=Tryz.sizeOf5
  v5:=Tryz.zeroValue5
  infoByte:=by kernel_rfl
  cellsByte:=by kernel_rfl
  sizeByte:=by kernel_rfl
  neB5:=by decide}
def BdI(base:Nat)(w:World)(b:Nat)(l:List UInt8):Prop:=Lib.IsBuilder 76 5 base b (Lib.byteCells l) w
theorem BdI.below{base:Nat}{w w':World}{b:Nat}{l:List UInt8}(h:BdI base w b l)(hb:Below w.heap.size w w'):BdI base w' b l:=by
 have up:∀p,Lib.BuilderAt 76 5 base b p (Lib.byteCells l) w→Lib.BuilderAt 76 5 base b p (Lib.byteCells l) w':=fun p ⟨h1,v,h2,h3,h4⟩=>⟨h1,v,(hb.block _ (jR h2)).trans h2,kD h3 (Mod.of_below (X:=[]) hb) (fun _ _ h=>by cases h),h4⟩;exact h.imp (up _) (up _)
theorem BdI.new{base:Nat}{w:World}{b:Nat}(h:w.heap[b]? =some (.cells #[.pointer none,.slice none 0 0] 76 (0,0)))(hb:base≤b):BdI base w b []:=.inl ⟨hb,_,h,kS w base 5 1,by simp[Value.ownBlock]⟩
theorem bw_any{base b:Nat}{l:List UInt8}{w:World}(h:BdI base w b l)(s:ByteArray)(hz:l.length+s.size≤140737488355328)(hb:base≤w.heap.size):
 Calls jG 101 #[.pointer (some ⟨b,0,none⟩),.string s] w fun e w'=>e=.returned (.tuple #[.int .i64 s.size,.nilIface])∧BdI base w' b (l++s.data.toList)∧Below base w w':=by
 refine(Any.Builder_WriteString laysWs Yd base b (Lib.byteCells l) s w h (by rw[Lib.byteCells_length];exact hz) hb).mono ?_;rintro e w' ⟨he,h1,h2⟩;exact⟨he,.inr (by rw[Lib.byteCells_append];exact h1),h2⟩
theorem bb_any{base b:Nat}{l:List UInt8}{w:World}(h:BdI base w b l)(c:UInt8)(hz:l.length+1≤140737488355328)(hb:base≤w.heap.size):
 Calls jG 100 #[.pointer (some ⟨b,0,none⟩),.int .u8 c.toNat] w fun e w'=>e=.returned .nilIface∧BdI base w' b (l++[c])∧Below base w w':=by
 refine(Any.Builder_WriteByte laysWb extraWb base b (Lib.byteCells l) (c.toNat:Int) w h (by rw[Lib.byteCells_length];exact hz) hb).mono ?_;rintro e w' ⟨he,h1,h2⟩;exact⟨he,.inr (by rw[Lib.byteCells_append];exact h1),h2⟩
theorem bs_any{base b:Nat}{l:List UInt8}{w:World}(h:BdI base w b l)(hb:base≤w.heap.size):
 Calls jG 42 #[.pointer (some ⟨b,0,none⟩)] w fun e w'=>e=.returned (.string ⟨l.toArray⟩)∧Below base w w':=Any.Builder_String_any laysSt Yd base b l w h hb
set_option maxHeartbeats 1600000 in
theorem bwriteH(base b o n:Nat)(ba bf:Value)(xs:List Value)(s:ByteArray)(w:World)(hl:WZ w b o)(h:BuB w b o ba bf)(hown:w.ownsRow base 5 1 bf n xs)(hb:bf.ownBlock≠some b)(hs:n+s.size≤1000000000000)(hbase:base≤w.heap.size):
 Calls jG 101 #[.pointer (some ⟨b,o,none⟩),.string s] w (qZa base b o n bf xs s w):=by
 obtain⟨i0,hi,hz0,hz1,hz2⟩:=info_parts ZO;have HC:=Hd (qVq b o ba bf w hl h);have HN:=Hd hb;have HO:=Hd hown;have hlt:=uE h.h0.1;obtain⟨A,cap,rfl⟩:=uT hown;clear h hl hb hown
 go_enter Tryz.func101,Tryz.ntmps101
 go_upto_region 2 with(go_at_call 168;(with_reducible refine HC.o.mono ?_);rintro e w2 ⟨rfl,hw2,hB2⟩)
 have HW:=Hd hw2;have HB2:=Hd hB2;have hsz:w2.heap.size=w.heap.size:=by rcases HW.o with rfl|rfl<;>simp[uN]
 have HO2:Hid (w2.ownsRow base 5 1 (.slice A n cap) n xs):=Hd (by
  rcases HW.o with rfl|rfl
  · exact HO.o
  · exact kD HO.o ((Mod.refl [b] _).setCell (a:=⟨b,o,none⟩) (.inl qV) _) (fun g hg hx=>HN.o qZ0))
 obtain⟨c1,f1⟩:=hB2.h1;clear hw2 hB2
 go_wp2_with(at_builtin;refine eB rfl _ _ 23 9 rfl base 5 i0 Tryz.underlying23 Tryz.underlying9 hi hz0 hz1 hz2 _ n xs rfl HO2.o s rfl qG qJ qJ ?_;intro v' w3 hown' hgrow hv;obtain⟨A',c',rfl⟩:=uT hown';have HB3:=Hd (HB2.o.grown hgrow HN.o);have HO3:=Hd hown';have HG3:Hid (w2.grownBy w3 (Value.slice A n cap).ownBlock):=Hd hgrow;have HV3:Hid (∀g,(Value.slice A' (n+s.size) c').ownBlock=some g→(Value.slice A n cap).ownBlock=some g∨w2.heap.size≤g):=Hd hv;have d1:=HB3.o.h1.1;have e1:=HB3.o.h1.2;clear hown' hgrow hv)
 go_ret2
 exact qX6
theorem bwm_any{base b:Nat}{l:List UInt8}{wr:World}(h0:BdI base wr b l)(s:ByteArray)(hs:l.length+s.size≤1000000000000)(hbase:base≤wr.heap.size){w:World}(hbr:Below wr.heap.size wr w)(hsz:wr.heap.size<w.heap.size):
 Calls jG 101 #[.pointer (some ⟨b,0,none⟩),.string s] w fun e w'=>e=.returned (.tuple #[.int .i64 s.size,.nilIface])∧BdI base w' b (l++s.data.toList)∧Below base w w'∧w'.heap[wr.heap.size]? =w.heap[wr.heap.size]? :=by
 obtain⟨p,hp,hB,v,hbk0,hown0,hne⟩:∃p,(p=.pointer none∨p=.pointer (some ⟨b,0,none⟩))∧Lib.BuilderAt 76 5 base b p (Lib.byteCells l) wr:=by
  rcases h0 with h|h
  · exact⟨_,.inl rfl,h⟩
  · exact⟨_,.inr rfl,h⟩
 have hbk:=(hbr.block _ (jR hbk0)).trans hbk0;have hown:w.ownsRow base 5 1 v l.length (Lib.byteCells l):=by
  have :=kD hown0 (Mod.of_below (X:=[]) hbr) (fun _ _ h=>by cases h)
  rwa[Lib.byteCells_length]at this
 have hlw:=jR hbk0;have hkb:wr.heap.size≠b:=by omega
 have hkv:∀g,v.ownBlock=some g→g<wr.heap.size:=fun g hg=>(hown0.lt g hg).2;refine(bwriteH base b 0 l.length p v (Lib.byteCells l) s w (oQ hbk rfl) ⟨at_ hbk 0 _ rfl,at_ hbk 1 _ rfl,hp⟩ hown hne hs (jI hbase hbr.size)).mono ?_;rintro e w' ⟨he,v',w1,w2,hw1,hg,ho,hn,hBu,rfl⟩;have hX:Mod (b::v.ownBlock.toList) w w1:=by
  rcases hw1 with rfl|rfl
  · exact Mod.refl _ _
  · exact(Mod.refl _ _).setCell (a:=⟨b,0,none⟩) (.inl (List.mem_cons_self ..)) _
 have hX2:Mod (b::v.ownBlock.toList) w w2:=hX.trans (Mod.of_grown hg (fun g e=>List.mem_cons_of_mem _ (jA.2 e))) (fun _ hx=>.inl hx);have hX3:Mod [b] w2 (w2.setCell ⟨b,0+1,none⟩ v'):=(Mod.refl _ _).setCell (a:=⟨b,0+1,none⟩) (.inl (jM.2 rfl)) _;have hX4:Mod (b::v.ownBlock.toList) w (w2.setCell ⟨b,0+1,none⟩ v'):=hX2.trans (hX3.mono (fun b' hb=>by rw[jM.1 hb];exact List.mem_cons_self ..)) (fun _ hx=>.inl hx);have hblk:∃x,w2.heap[b]? =some (.cells #[x,v] 76 (0,0)):=by
  have hgb:∀W:World,W.grownBy w2 v.ownBlock→(∃x,W.heap[b]? =some (.cells #[x,v] 76 (0,0)))→∃x,w2.heap[b]? =some (.cells #[x,v] 76 (0,0)):=fun W hg ⟨x,hx⟩=>⟨x,(hg.block b (jR hx) (fun e=>hne e.symm)).trans hx⟩;rcases hw1 with rfl|rfl
  · exact hgb _ hg ⟨_,hbk⟩
  · exact hgb _ hg ⟨.pointer (some ⟨b,0,none⟩),by
     have :=vR (o:=0) (v:=.pointer (some ⟨b,0,none⟩)) hbk;exact this⟩
 obtain⟨x,hx⟩:=hblk;have hx0:=hBu.h0.1;rw[(at_ hx 0 x rfl).1]at hx0;obtain rfl:x=.pointer (some ⟨b,0,none⟩):=Option.some.inj hx0;have hvb:v'.ownBlock≠some b:=fun e=>by
  rcases hn _ e with h|h
  · exact hne h
  · have :=jR hbk;omega
 refine⟨he,.inr ⟨hB,v',?_,?_,hvb⟩,hX4.below (fun g hg=>?_) (jI hbase hbr.size),hX4.block _ hsz (fun hm=>?_)⟩
 · have :=vR (o:=1) (v:=v') hx;exact this
 · have hlen:(Lib.byteCells (l++s.data.toList)).length=l.length+s.size:=by rw[Lib.byteCells_length,jC,Array.length_toList];rfl
   have hby:Lib.byteCells (l++s.data.toList)=Lib.byteCells l++Lib.strCells s:=by simp[Lib.byteCells,Lib.strCells]
   rw[hlen,hby];refine kD ho hX3 (fun g hg2 hm=>?_);rw[jM.1 hm]at hg2;exact hvb hg2
 · rcases kJ.1 hg with rfl|hg
   · exact hB
   · exact(hown0.lt g (jA.1 hg)).1
 · rcases kJ.1 hm with e|hm
   · exact hkb e
   · have :=hkv _ (jA.1 hm);omega
set_option maxHeartbeats 3200000 in
theorem Xg{l:List Cl}{n:Nat}{c:Cl}(hc:l[n]? =some c):lI (l.take (n+1))=if c.r=0 then lI (l.take n)else n+1:=by
 have hn:n<l.length:=(jP.1 hc).1;have e:l.take (n+1)=l.take n++[c]:=by rw[List.take_add_one,hc];rfl
 rw[e];unfold lI;rw[List.reverse_append,List.reverse_singleton,List.singleton_append,List.dropWhile_cons]
 by_cases h:c.r=0
 · rw[if_pos qD,if_pos h]
 · rw[if_neg qD,if_neg h];simp;omega
theorem qQ0(l:List Cl):lI l≤l.length:=by
 unfold lI;have :=(List.dropWhile_sublist (fun c:Cl=>decide (c.r=0)) (l:=l.reverse)).length_le
 rwa[List.length_reverse]at this
set_option maxHeartbeats 3200000 in
theorem qQh(A:Option Addr)(l:List Cl)(ca:Nat)(w:World)(hl:pT kV 8 w A l)(hz:l.length≤100000000):
 Calls jG 99 #[.slice A l.length ca] w (fun e w'=>e=.returned (.int .i64 (lI l))∧Below w.heap.size w w'):=by
 have HL:=Hd hl;obtain⟨m,hm⟩:∃m,m=l.length:=⟨_,rfl⟩;have HM:=Hd hm;have HZ:=Hd hz;rw[←hm];clear hl hz hm
 go_enter Tryz.func99,Tryz.ntmps99
 go_wp2_with fail
 go_loopw [3] (fun s3 wr=>∃n:Nat,s3=.int .i64 n∧n≤m∧lI (l.take n)=lI l∧Below w.heap.size w wr) (fun s3 _=>(intOf s3).toNat)
 case atStart=>exact⟨m,rfl,jD _,by rw[HM.o,List.take_length],jU _ _⟩
 case round=>
  obtain⟨n,rfl,hn,hu,hb⟩:=hrel;have HB:=Hd hb;have HU:=Hd hu
  by_cases h0:n=0
  · subst h0;clear hu hb
    go_wp2
    go_ret
    exact⟨by rw[←HU.o];rfl,HB.o⟩
  · obtain⟨k,rfl⟩:∃k,n=k+1:=⟨n-1,by omega⟩;obtain⟨n1,hn1⟩:∃n1,n1=k+1:=⟨_,rfl⟩;rw[←hn1]at hn ⊢;have h0I:0<(n1:Int):=by omega
    have hs:(n1:Int)-1=(k:Int):=by omega
    have hkl:k<l.length:=by have :=HM.o;omega
    have hkI:(k:Int)<(m:Int):=by omega
    obtain⟨b,off,c,rfl,hc,hcell⟩:=(HL.o.below hb).at_ hkl;have hwk:jE.wrap (k:Int)=(k:Int):=jF _ (by have :=HZ.o;omega);have hT:=Xg hc;have c0:=hcell 0 _ rfl;simp only[uA]at c0;rw[←hn1]at hu hT;have HT:=Hd hT;have HN1:=Hd hn1;clear hu hb hc hcell hT hn1 h0 hkl
    by_cases hr:c.r=0
    · have hrb:(c.r==0)=true:=by simp[hr]
      have HR:=Hd hr;clear hr
      go_wp2
      go_roundw
      case rel=>exact⟨k,by go_num,by have :=HN1.o;omega,by rw[←HU.o,←HN1.o,HT.o,if_pos HR.o],HB.o⟩
      case measure=>simp[intOf];have :=HN1.o;omega
    · have hrb:(c.r==0)=false:=by simp[hr]
      have HR:=Hd hr;clear hr
      go_wp2
      go_ret
      exact⟨by rw[←HU.o,←HN1.o,HT.o,if_neg HR.o];rfl,HB.o⟩
def cL(c:Cl):List UInt8:=if c.half=2∨c.half=3 then[]else if c.r=0 then[32]else(vD c.r).data.toList++c.more.data.toList
def mJ(l:List Cl):List UInt8:=(l.take (lI l)).flatMap cL
theorem Wu{cs:List Cl}{k:Nat}{c:Cl}(h:cs[k]? =some c):(cs.take (k+1)).flatMap cL=(cs.take k).flatMap cL++cL c:=by
 obtain⟨hk,rfl⟩:=jP.1 h;rw[kQ hk,List.flatMap_append];simp
theorem Kq(cs:List Cl)(k:Nat):((cs.take k).flatMap cL).length≤(cs.flatMap cL).length:=by
 have :=congrArg List.length (congrArg (List.flatMap cL) (List.take_append_drop k cs));rw[List.flatMap_append,jC]at this;omega
set_option maxHeartbeats 3200000 in
theorem qQa(A:Option Addr)(cs:List Cl)(ca:Nat)(w:World)(hc:zL w A cs)(hcap:cs.length≤ca)(hz:cs.length≤1000000)(hb:(cs.flatMap cL).length≤100000000000):
 Calls jG 54 #[.slice A cs.length ca] w fun e w'=>e=.returned (.string ⟨(mJ cs).toArray⟩)∧Below w.heap.size w w':=by
 have hul:=qQ0 cs;have HU:Hid (∀w',Below w.heap.size w w'→Calls jG 99 #[.slice A cs.length ca] w' fun e w2=>e=.returned (.int .i64 (lI cs))∧Below w'.heap.size w' w2):=Hd (fun w' hb=>qQh A cs ca w' (iW (hc.below hb)) qJ);obtain⟨T,hT⟩:∃T,mJ cs=T:=⟨_,rfl⟩;rw[hT];unfold mJ at hT;generalize lI cs=u at hul HU hT;have HT:=Hd hT;have HC:=Hd hc;have HB:=Hd hb;have hu1:(u:Int)≤ca:=by omega
 obtain⟨W,hW⟩:∃W,w.alloc (.cells #[.pointer none,.slice none 0 0] 76)=W:=⟨_,rfl⟩;have hb0:Below w.heap.size w W:=by rw[←hW];exact jH (jU _ _) _
 have hn0:W.heap[w.heap.size]? =some (.cells #[.pointer none,.slice none 0 0] 76 (0,0)):=by rw[←hW];exact jT rfl
 have HB0:=Hd hb0;have HBD:=Hd (BdI.new hn0 (jD _));obtain⟨n,hn⟩:∃n,cs.length=n:=⟨_,rfl⟩;rw[hn]at HU hul hcap hz ⊢;have HN:=Hd hn;clear hc hb hT hb0 hn0 hn
 go_enter Tryz.func54,Tryz.ntmps54
 go_wp2_with(go_at_call 99;(with_reducible refine(HU.o _ HB0.o).mono ?_);rintro e w1 ⟨rfl,hb1⟩)
 have HB1:=Hd (jW HB0.o hb1);have HBD1:=Hd (HBD.o.below hb1);clear hb1 HU hW
 go_loopw [11] (fun i wr=>∃k:Nat,k≤u∧i=.int .i64 k∧Below w.heap.size w wr∧BdI w.heap.size wr w.heap.size ((cs.take k).flatMap cL)) (fun i _=>u-(intOf i).toNat)
 case atStart=>exact⟨0,kM _,rfl,HB1.o,by rw[kK];exact HBD1.o⟩
 case round=>
  clear HBD HBD1;obtain⟨k,hk,rfl,hBe,hbd⟩:=hrel
  by_cases hlt:k<u
  · obtain⟨b',off',c,rfl,hcg,hca⟩:=(HC.o.below hBe).at_ (k:=k) (by have :=HN.o;omega);have hst:=Wu hcg;have hle:=Kq cs (k+1);rw[hst,jC]at hle;obtain⟨r0,r1,r2,r3,r4,r5,r6,r7⟩:=hca;obtain⟨cr,cm,chf,c3,c4,c5,c6,c7⟩:=c;simp only at r0 r1 r2 r3 r4 r5 r6 r7;have hbc:=jH (jU wr.heap.size wr) (.cells #[.int .i32 cr,.string cm,.int .i64 chf,.int .i64 c3,.int .i64 c4,.int .i64 c5,.int .i64 c6,.int .i64 c7] 65);have HBC:=Hd hbc;have HST:=Hd hst;have HLE:=Hd hle;have HBE:=Hd hBe;have hsz:w.heap.size≤wr.heap.size:=hBe.size;have HSZ:=Hd hsz;have HBDr:=Hd hbd;generalize (cs.take k).flatMap cL=l1 at HST HLE HBDr hbd;clear hcg hst hle hBe hbc hsz
    by_cases h2:chf=2∨chf=3
    · have e:cL ⟨cr,cm,chf,c3,c4,c5,c6,c7⟩=[]:=if_pos h2;rw[e,List.append_nil]at HST;have hfin:=hbd.below HBC.o;have HFIN:=Hd hfin;clear e hbd hfin;rcases h2 with rfl|rfl
      · go_wp2_with fail
        go_roundw
        case rel=>exact⟨k+1,by omega,by go_num,jW HBE.o HBC.o,by rw[HST.o];exact HFIN.o⟩
        case measure=>simp[intOf];omega
      · go_wp2_with fail
        go_roundw
        case rel=>exact⟨k+1,by omega,by go_num,jW HBE.o HBC.o,by rw[HST.o];exact HFIN.o⟩
        case measure=>simp[intOf];omega
    · have h2a:(chf==2)=false:=by simp;omega
      have h2b:(chf==3)=false:=by simp;omega
      by_cases h0:cr=0
      · have e:cL ⟨cr,cm,chf,c3,c4,c5,c6,c7⟩=[32]:=by unfold cL;rw[if_neg h2,if_pos h0]
        rw[e]at HST HLE;subst h0;have HWB:Hid (Calls jG 100 #[.pointer (some ⟨w.heap.size,0,none⟩),.int .u8 32] (wr.alloc (.cells #[.int .i32 0,.string cm,.int .i64 chf,.int .i64 c3,.int .i64 c4,.int .i64 c5,.int .i64 c6,.int .i64 c7] 65)) fun e w'=>e=.returned .nilIface∧BdI w.heap.size w' w.heap.size (l1++[32])∧Below w.heap.size (wr.alloc (.cells #[.int .i32 0,.string cm,.int .i64 chf,.int .i64 c3,.int .i64 c4,.int .i64 c5,.int .i64 c6,.int .i64 c7] 65)) w'):=Hd (bb_any (hbd.below HBC.o) 32 (by have h1:=HLE.o;have h2:=HB.o;rw[List.length_singleton]at h1;omega) (jI HSZ.o HBC.o.size));clear e hbd h2
        go_wp2_with(go_at_call 100;(with_reducible refine HWB.o.mono ?_);rintro e w3 ⟨rfl,h3,hb3⟩;have HB3:=Hd (kY h3 hb3);clear h3 hb3)
        go_roundw
        case rel=>exact⟨k+1,by omega,by go_num,(jW HBE.o HBC.o).trans HB3.o.2,by rw[HST.o];exact HB3.o.1⟩
        case measure=>simp[intOf];omega
      · have h0b:(cr==0)=false:=by simpa using h0
        have e:cL ⟨cr,cm,chf,c3,c4,c5,c6,c7⟩=(vD cr).data.toList++cm.data.toList:=by unfold cL;rw[if_neg h2,if_neg h0]
        rw[e]at HST HLE;rw[jC]at HLE;have hln:l1.length+((vD cr).data.toList.length+cm.data.toList.length)≤100000000000:=jI HLE.o HB.o;have HLN:=Hd hln;have HBDr:=Hd hbd;have HPUT:=Hd (fun w=>lO cr w);have hpz:(vD cr).data.toList.length=(vD cr).size:=by rw[Array.length_toList];rfl
        have hmz:cm.data.toList.length=cm.size:=by rw[Array.length_toList];rfl
        generalize vD cr=pu at HPUT HLN HST hpz;have HPZ:=Hd (kY hpz hmz);have hx0:(wr.alloc (.cells #[.int .i32 cr,.string cm,.int .i64 chf,.int .i64 c3,.int .i64 c4,.int .i64 c5,.int .i64 c6,.int .i64 c7] 65)).heap[wr.heap.size]? =some (.cells #[.int .i32 cr,.string cm,.int .i64 chf,.int .i64 c3,.int .i64 c4,.int .i64 c5,.int .i64 c6,.int .i64 c7] 65 (0,0)):=jT rfl;have HX0:=Hd hx0;clear e hbd hln hpz hmz hx0 h2 HLE
        go_wp2_with(first
         |(go_at_call 102;(with_reducible refine(HPUT.o _).mono ?_);rintro e w3 ⟨rfl,hb3⟩;have HB3:=Hd (jW HBC.o hb3);have HX3:=Hd ((hb3.block _ (jR HX0.o)).trans HX0.o);have HWS:=Hd (bwm_any HBDr.o pu (by have :=HLN.o;have :=HPZ.o;omega) HSZ.o HB3.o (jR HX3.o));clear hb3)
         |(go_at_call 101;(with_reducible refine HWS.o.mono ?_);rintro e w4 ⟨rfl,h4,hb4,hk4⟩;have HX4:=Hd (hk4.trans HX3.o);have y1:w4.cell? ⟨wr.heap.size,1,none⟩=some (.string cm):=(at_ HX4.o 1 _ rfl).1;have HB4:=Hd ((HB3.o.mono HSZ.o).trans hb4);have HWT:=Hd (bw_any h4 cm (by have :=HLN.o;have :=HPZ.o;rw[jC];omega) (jI HSZ.o HB4.o.size));clear h4 hb4 hk4 HWS)
         |(go_at_call 101;(with_reducible refine HWT.o.mono ?_);rintro e w5 ⟨rfl,h5,hb5⟩;have HB5:=Hd (kY h5 hb5);clear h5 hb5))
        go_roundw
        case rel=>exact⟨k+1,by omega,by go_num,(HBE.o.trans (HB4.o)).trans HB5.o.2,by rw[HST.o,←kG];exact HB5.o.1⟩
        case measure=>simp[intOf];omega
  · obtain rfl:k=u:=by omega
    rw[HT.o]at hbd;have HS:=Hd (bs_any hbd hBe.size);have HBE:=Hd hBe;clear hbd hBe
    go_wp2_with(go_at_call 42;(with_reducible refine HS.o.mono ?_);rintro e w3 ⟨rfl,hb3⟩;have HB3:=Hd hb3;clear hb3)
    go_ret
    exact⟨rfl,HBE.o.trans HB3.o⟩
def Xw(r:Rw):ByteArray:=⟨(Lib.trimRightB (mJ r.cs) 32).toArray⟩
def YU(rows:List Rw):List UInt8:=Lib.trimRightB (Lib.join ((rows.map Xw).map (·.data.toList)) [10]) 10
theorem qQ5(l:List UInt8)(c:UInt8):(Lib.trimRightB l c).length≤l.length:=by
 unfold Lib.trimRightB;have :=(List.dropWhile_sublist (fun x:UInt8=>x==c) (l:=l.reverse)).length_le;rw[List.length_reverse]at this ⊢;exact this
theorem ZA(M:Nat)(c:UInt8):∀xs:List (List UInt8),(∀x∈xs,x.length≤M)→(Lib.join xs [c]).length≤xs.length*(M+1)
 |[],_=>kM _
 |[x],h=>by
  have :=h x (jM.2 rfl);rw[Lib.join_one];simp only[List.length_cons,List.length_nil];omega
 |x::y::r,h=>by
  have h1:=h x (List.mem_cons_self ..);have h2:=ZA M c (y::r) (fun z hz=>h z (List.mem_cons_of_mem _ hz));have e:Lib.join (x::y::r) [c]=x++([c]++Lib.join (y::r) [c]):=rfl;rw[e];simp only[jC,List.length_cons,List.length_nil]at h2 ⊢;rw[Nat.add_mul,Nat.one_mul]at h2 ⊢;rw[Nat.add_mul,Nat.one_mul];omega
def TxOk(rows:List Rw):Prop:=∀r∈rows,r.cs.length≤r.cap∧r.cs.length≤1000000∧(r.cs.flatMap cL).length≤100000000000
theorem qJq{r:Rw}(h:(r.cs.flatMap cL).length≤100000000000):(Xw r).data.toList.length≤100000000000:=by
 show(Lib.trimRightB (mJ r.cs) 32).length≤_;exact jI (qQ5 _ _) (jI (Kq _ _) h)
set_option maxHeartbeats 3200000 in
theorem Yn(A:Option Addr)(rows:List Rw)(ca:Nat)(w:World)(hl:bG w A rows)(h0:0<rows.length)(hz:rows.length≤400)(hok:TxOk rows):
 Calls jG 27 #[.slice A rows.length ca] w fun e w'=>e=.returned (.string ⟨(YU rows).toArray⟩)∧Below w.heap.size w w':=by
 obtain⟨b,off,rfl,hr⟩:=hl h0;obtain⟨j0,hj,gz0,gz1,gz2⟩:=info_parts Jm;have HR:=Hd hr;have HOK:=Hd hok;obtain⟨X,hX⟩:∃X:Nat→List ByteArray,X=fun k=>(rows.take k).map Xw:=⟨_,rfl⟩;have HXS:Hid (∀k r,rows[k]? =some r→X (k+1)=X k++[Xw r]):=Hd (fun k r hk=>by
  obtain⟨h1,rfl⟩:=jP.1 hk;rw[hX];simp only[];rw[kQ h1,vX];rfl)
 have HX0:Hid (X 0=[]):=Hd (by rw[hX];rfl);have HXL:Hid ((X rows.length).length=rows.length):=Hd (by rw[hX];simp);have HXE:Hid ((Lib.join ((X rows.length).map (·.data.toList)) [10]).length≤140737488355328∧YU rows=Lib.trimRightB (Lib.join ((X rows.length).map (·.data.toList)) [10]) 10):=Hd (by
  rw[hX];simp only[List.take_length];refine⟨?_,rfl⟩;have :=ZA 100000000000 10 ((rows.map Xw).map (·.data.toList)) (fun x hx=>by
   obtain⟨y,hy,rfl⟩:=List.mem_map.1 hx;obtain⟨r,hr,rfl⟩:=List.mem_map.1 hy;exact qJq (hok r hr).2.2)
  simp only[List.length_map]at this;have h2:rows.length*(100000000000+1)≤400*(100000000000+1):=Nat.mul_le_mul_right _ hz;omega)
 obtain⟨S,hS⟩:∃S,Lib.join ((X rows.length).map (·.data.toList)) [10]=S:=⟨_,rfl⟩;rw[hS]at HXE;rw[HXE.o.2];have HS:=Hd hS;obtain⟨L,hL⟩:∃L,rows.length=L:=⟨_,rfl⟩;rw[hL]at h0 hz HXL HS ⊢;have HLZ:=Hd (kY h0 (kY hz hL));have HTR:Hid (∀w,Calls jG 53 #[.string ⟨S.toArray⟩,.string ⟨#[10]⟩] w fun e w'=>e=.returned (.string ⟨(Lib.trimRightB S 10).toArray⟩)∧w'=w):=Hd (fun w=>aM ⟨S.toArray⟩ 10 qZ w (by
  have :(⟨S.toArray⟩:ByteArray).size=S.length:=rfl;rw[this];have :=HXE.o.1;omega))
 clear hl hr hok hX hS hL h0 hz
 go_enter Tryz.func27,Tryz.ntmps27
 go_wp2_with fail
 go_loopw [3,8] (fun s3 s8 wr=>∃k:Nat,s8=.int .i64 k∧k≤L∧wr.ownsRow w.heap.size 9 1 s3 k (uM wT (X k))∧Below w.heap.size w wr) (fun _ s8 _=>L-(intOf s8).toNat)
 case atStart=>exact⟨0,rfl,kM _,by rw[HX0.o];exact kS _ _ _ _,jU _ _⟩
 case round=>
  obtain⟨k,rfl,hk,hO,hB⟩:=hrel;obtain⟨bx,rfl⟩:∃bx:Value×Unit,u3=bx.1:=⟨(u3,()),rfl⟩;have HO:=Hd hO;have HB:=Hd hB;have hwk:jE.wrap ((k:Int)+1)=(k:Int)+1:=jF _ qZ3;clear hO hB
  by_cases hlt:k<L
  · have hltI:(k:Int)<(L:Int):=by omega
    obtain⟨r,hget⟩:∃r,rows[k]? =some r:=⟨_,jN (by have :=HLZ.o.2.2;omega)⟩;obtain⟨⟨c0,c1⟩,hcl,-⟩:=(HR.o k r hget).below HB.o;have hrk:=HOK.o r (uB hget);have HXK:=Hd (HXS.o k r hget);obtain⟨rA,cs,cap,cont⟩:=r;simp only at c0 c1 hcl hrk;have hbx:=jH (jU wr.heap.size wr) (.cells #[.slice rA cs.length cap,.bool cont] 52);have HTX:=Hd (qQa rA cs cap (wr.alloc (.cells #[.slice rA cs.length cap,.bool cont] 52)) (hcl.below hbx) hrk.1 hrk.2.1 hrk.2.2);have hxl:(mJ cs).length≤100000000000:=jI (Kq _ _) hrk.2.2;have HT2:Hid (∀w,Calls jG 53 #[.string ⟨(mJ cs).toArray⟩,.string ⟨#[32]⟩] w fun e w'=>e=.returned (.string (Xw ⟨rA,cs,cap,cont⟩))∧w'=w):=Hd (fun w=>aM ⟨(mJ cs).toArray⟩ 32 qZ w (by
     have :(⟨(mJ cs).toArray⟩:ByteArray).size=(mJ cs).length:=rfl;rw[this];omega))
    obtain⟨d,hd⟩:∃d,Xw ⟨rA,cs,cap,cont⟩=d:=⟨_,rfl⟩;rw[hd]at HXK HT2;obtain⟨tx,htx⟩:∃tx:ByteArray,(⟨(mJ cs).toArray⟩:ByteArray)=tx:=⟨_,rfl⟩;rw[htx]at HTX HT2;have HBN:=Hd hbx;have HSZ:=Hd HB.o.size;generalize cs.length=n at c0 HTX HBN;clear hd hget hcl hrk hxl htx hbx
    go_upto_region 5 with fail
    refine wp_region_lit ?_;have hcell:(wr.alloc (.cells #[.slice rA n cap,.bool cont] 52)).cell? ⟨wr.heap.size,0,none⟩=some (.slice rA n cap):=(at_ (jT rfl) 0 _ rfl).1;refine jB (bx.1) qK qK ?_;simp only[Act.put,jZ,jX,jY];refine jB (.pointer (some ⟨wr.heap.size,0,none⟩)) qK qK ?_;simp only[Act.put,jZ,jX,jY];refine jB (.slice rA n cap) qK qX ?_;simp only[Act.put,jZ,jX,jY];refine zE rfl 54 #[.slice rA n cap] qX (HTX.o.mono (fun e w' h=>(⟨_,h.1,rfl,h.2⟩:∃v,e=.returned v∧v=.string tx∧Below (wr.alloc (.cells #[.slice rA n cap,.bool cont] 52)).heap.size (wr.alloc (.cells #[.slice rA n cap,.bool cont] 52)) w'))) ?_;rintro v4 w4 ⟨rfl,hb4⟩;simp only[Act.put,jZ,jX,jY];refine zE rfl 53 #[.string tx,.string ⟨#[32]⟩] qX ((HT2.o w4).mono (fun e w' h=>(⟨_,h.1,rfl,h.2⟩:∃v,e=.returned v∧v=.string d∧w'=w4))) ?_;rintro v5 w5 ⟨rfl,rfl⟩;simp only[Act.put,jZ,jX,jY];have hb5:=jW HBN.o hb4;have hO5:=kD HO.o (Mod.of_below (X:=[]) hb5) (fun _ _ h=>by cases h);have HO3:=Hd (kD hO5 (Mod.of_below (X:=[]) (jH (jU w5.heap.size w5) (.cells #[.string d] 9))) (fun _ _ h=>by cases h));have HBX:=Hd (jH (jW HB.o hb5) (.cells #[.string d] 9));have HSZ5:=Hd hb5.size;clear hO5 hb5 hb4 hcell
    refine uC (.slice (some ⟨w5.heap.size,0,none⟩) 1 1) (w5.alloc (.cells #[.string d] 9)) qK qX ?_;simp only[Act.put,jZ,jX,jY];refine vG (o:=⟨some 18,_,_,_,_,_⟩) rfl (.tmp 12) (.tmp 17) 109 rfl w.heap.size 9 j0 _ 1 16 Tryz.underlying109 hj gz0 gz1 gz2 rfl qZ bx.1 k (uM wT (X k)) rfl HO3.o ⟨w5.heap.size,0,none⟩ 1 1 [.string d] rfl rfl (fun j u hj=>by rw[vF,kP];exact(at_ (jT rfl) j u qW).1) (Ja d) (by have :=HLZ.o.2;simp only[maxLen];omega) qZ3 (by have :=HSZ.o;have :=HSZ5.o;simp at *;omega) ?_;intro v' w7 ho hg hv';have HO7:Hid (w7.ownsRow w.heap.size 9 1 v' (k+1) (uM wT (X (k+1)))):=Hd (by rw[HXK.o,uI];exact ho);have HB7:=Hd (HBX.o.grown hg HBX.o.size (fun b hb=>(kL.lt (show kL _ _ _ _ _ _ _ from HO3.o) b hb).1));simp only[Act.put,jZ,jX,jY];clear ho hg hv'
    go_wp2
    go_roundw
    case rel=>exact⟨k+1,by go_num,by omega,HO7.o,HB7.o⟩
    case measure=>simp[intOf];omega
  · have hltI:¬(k:Int)<(L:Int):=by omega
    obtain rfl:k=L:=by omega
    obtain⟨b8,c8,hv8⟩:=gH HO.o HLZ.o.1;obtain⟨bv,bu⟩:=bx;simp only at hv8;subst hv8;have hcc:=Kh HO.o;have hlt8:=kL.lt (show kL _ _ _ _ _ _ _ from HO.o) b8 rfl;have hJ:=JE b8 c8 (X k) ⟨#[10]⟩ wr (fun j x hx=>by
     have :=kL.cells HO.o (g:=b8) rfl j (.string x) (Zd KQ hx rfl);rw[vF,kP]at this;exact this) hlt8.2 (by rw[HXL.o];have :=HLZ.o.2;omega) (by rw[HXL.o];exact hcc) (by have h1:=HXE.o.1;have h2:=HS.o;rw[←h2]at h1;exact h1)
    rw[HXL.o,show(⟨(Lib.join ((X k).map (·.data.toList)) (⟨#[10]⟩:ByteArray).data.toList).toArray⟩:ByteArray)=⟨S.toArray⟩from by rw[←HS.o]]at hJ;have HJ:=Hd hJ;clear hJ hcc hlt8
    go_wp2_with(first
     |(go_at_call 55;(with_reducible refine HJ.o.mono ?_);rintro e w9 ⟨rfl,hb⟩;have HB9:=Hd (jW HB.o hb);clear hb)
     |(go_at_call 53;(with_reducible refine(HTR.o _).mono ?_);rintro e w9 ⟨rfl,rfl⟩))
    go_ret
    exact⟨rfl,HB9.o⟩
def exC(r:Int):Cl:=⟨r,kH,0,0,0,0,0,0⟩
def exR(g:Nat):Rw:=⟨some ⟨g,0,none⟩,[exC 97,exC 98],2,false⟩
theorem qKx{r:Int}(h:r=97∨r=98):gF (exC r):=by
 refine⟨.inr ⟨?_,⟨[],fun r hr=>(by cases hr),rfl,(show 0≤32 by decide)⟩,.inl ⟨rfl,?_⟩⟩,?_,fun h0=>?_⟩
 · show r≠0;omega
 · rcases h with rfl|rfl<;>kernel_rfl
 · show sO 0 0 0 0 0=true
   decide
 · exact⟨rfl,rfl,rfl⟩
theorem exR_ok(g:Nat):dP [exR g] 2:=by
 refine⟨(show 0<1 by decide),(show 1≤400 by decide),by decide,by decide,fun r hr=>?_⟩;rw[jM.1 hr];refine⟨rfl,?_,fun c hc=>?_⟩
 · kernel_rfl
 · rcases kJ.1 hc with rfl|hc
   · exact qKx (.inl rfl)
   · rw[jM.1 hc];exact qKx (.inr rfl)
theorem exR_tx(g:Nat):TxOk [exR g]:=fun r hr=>by
 rw[jM.1 hr];refine⟨by show 2≤2;decide,by show 2≤1000000;decide,?_⟩;have :((exR g).cs.flatMap cL).length=2:=by kernel_rfl
 omega
theorem X7(g:Nat):(⟨(YU [exR g]).toArray⟩:ByteArray)=⟨#[97,98]⟩:=by kernel_rfl
theorem exR_at{w:World}{g:Nat}(h0:w.heap[g]? =some (.cells #[.int .i32 97,.string kH,.int .i64 0,.int .i64 0,.int .i64 0,.int .i64 0,.int .i64 0,.int .i64 0,.int .i32 98,.string kH,.int .i64 0,.int .i64 0,.int .i64 0,.int .i64 0,.int .i64 0,.int .i64 0] 65 (0,0)))
 (h1:w.heap[g+1]? =some (.cells #[.slice (some ⟨g,0,none⟩) 2 2,.bool false] 52 (0,0))):bG w (some ⟨g+1,0,none⟩) [exR g]:=fun _=>by
 refine⟨g+1,0,rfl,fun i r hi=>?_⟩;rcases i with _|i
 · obtain rfl:exR g=r:=by simpa using hi
   refine⟨⟨(at_ h1 0 _ rfl).1,(at_ h1 1 _ rfl).1⟩,fun _=>⟨g,0,rfl,fun j c hj=>?_⟩,by show 2≤_;omega⟩;rcases j with _|_|j
   · obtain rfl:exC 97=c:=by simpa[exR]using hj
     exact⟨(at_ h0 0 _ rfl).1,(at_ h0 1 _ rfl).1,(at_ h0 2 _ rfl).1,(at_ h0 3 _ rfl).1,(at_ h0 4 _ rfl).1,(at_ h0 5 _ rfl).1,(at_ h0 6 _ rfl).1,(at_ h0 7 _ rfl).1⟩
   · obtain rfl:exC 98=c:=by simpa[exR]using hj
     exact⟨(at_ h0 8 _ rfl).1,(at_ h0 9 _ rfl).1,(at_ h0 10 _ rfl).1,(at_ h0 11 _ rfl).1,(at_ h0 12 _ rfl).1,(at_ h0 13 _ rfl).1,(at_ h0 14 _ rfl).1,(at_ h0 15 _ rfl).1⟩
   · simp[exR]at hj
 · simp at hi
set_option maxHeartbeats 1600000 in
theorem XG(w:World)(ht:fO w):Calls jG 22 #[] w fun e w'=>e=.returned (.bool true)∧Below w.heap.size w w':=by
 have HT:=Hd ht;clear ht
 go_enter Tryz.func22,Tryz.ntmps22
 go_upto_region 2 with fail
 obtain⟨W,hW⟩:∃W,(w.alloc (.cells #[.int .i32 97,.string kH,.int .i64 0,.int .i64 0,.int .i64 0,.int .i64 0,.int .i64 0,.int .i64 0,.int .i32 98,.string kH,.int .i64 0,.int .i64 0,.int .i64 0,.int .i64 0,.int .i64 0,.int .i64 0] 65)).alloc (.cells #[.slice (some ⟨w.heap.size,0,none⟩) 2 2,.bool false] 52)=W:=⟨_,rfl⟩;have hx1:W.heap[w.heap.size+1]? =some (.cells #[.slice (some ⟨w.heap.size,0,none⟩) 2 2,.bool false] 52 (0,0)):=by rw[←hW];exact jT (by rw[World.size_alloc])
 have hx0:W.heap[w.heap.size]? =some (.cells #[.int .i32 97,.string kH,.int .i64 0,.int .i64 0,.int .i64 0,.int .i64 0,.int .i64 0,.int .i64 0,.int .i32 98,.string kH,.int .i64 0,.int .i64 0,.int .i64 0,.int .i64 0,.int .i64 0,.int .i64 0] 65 (0,0)):=by rw[←hW];exact((jH (jU _ _) _).block _ qZ7).trans (jT rfl)
 have hb:Below w.heap.size w W:=by rw[←hW];exact jH (jH (jU _ _) _) _
 change Code.wp _ _ _ _ ((w.alloc (.cells #[.int .i32 97,.string kH,.int .i64 0,.int .i64 0,.int .i64 0,.int .i64 0,.int .i64 0,.int .i64 0,.int .i32 98,.string kH,.int .i64 0,.int .i64 0,.int .i64 0,.int .i64 0,.int .i64 0,.int .i64 0] 65)).alloc (.cells #[.slice (some ⟨w.heap.size,0,none⟩) 2 2,.bool false] 52));rw[hW];have hrw:=exR_at hx0 hx1;have HDR:Hid (Calls jG 48 #[.slice (some ⟨w.heap.size+1,0,none⟩) 1 1,.agg #[.int .i64 0,.int .i64 1]] W fun e w'=>e=.returned (.bool true)∧Below W.heap.size W w'):=Hd (Y7 _ [exR w.heap.size] 1 2 0 1 W hrw (exR_ok _) (fun r hr=>by rw[jM.1 hr];exact jD 2) (show 0<1 by decide) qZ (HT.o.below hb));have HPL:Hid (∀w',Below W.heap.size W w'→Calls jG 27 #[.slice (some ⟨w.heap.size+1,0,none⟩) 1 1] w' fun e w2=>e=.returned (.string ⟨#[97,98]⟩)∧Below w'.heap.size w' w2):=Hd (fun w' hb2=>by
  have :=Yn _ [exR w.heap.size] 1 w' (hrw.below hb2) (show 0<1 by decide) (show 1≤400 by decide) (exR_tx _);rw[X7]at this;exact this)
 have HB:=Hd hb;clear hx0 hx1 hb hrw hW
 go_wp2_with(first
  |(go_at_call 48;(with_reducible refine HDR.o.mono ?_);rintro e w1 ⟨rfl,hb⟩;have HB1:=Hd hb;clear hb)
  |(go_at_call 27;(with_reducible refine(HPL.o _ HB1.o).mono ?_);rintro e w2 ⟨rfl,hb⟩;have HB2:=Hd (jW HB1.o hb);clear hb))
 go_ret
 exact⟨rfl,HB.o.trans (HB2.o.mono HB.o.size)⟩
end Go.Proofs.YtaefcahblmopfaaGreatDoor
