/- Joined by a tool of this claim out of smaller texts. Conditions: as stated. -/
import Derived.Test.YtaefcahblmopfaaGreatDoorDj22
set_option linter.unusedVariables false
set_option linter.unusedSimpArgs false
set_option maxRecDepth 100000
open Go.Lib renaming hid → Hd
open List renaming setIfInBounds_toArray → jZ, set_cons_zero → jX, set_cons_succ → jY, mem_singleton → jM, getElem?_eq_getElem → jN, getElem?_eq_some_iff → jP, length_append → jC, drop_succ_cons → jL, take_succ_cons → jS, drop_zero → jO, take_succ_eq_append_getElem → kQ, mem_cons → kJ, take_zero → kK, getD_eq_getElem?_getD → kX, mem_append → kU, getElem?_map → uX, map_append → vX, take_of_length_le → vY
open Go.Proofs.Tryz renaming prog → jG
open Go.RowKit.Below renaming refl → jU
open Nat renaming le_refl → jD, le_trans → jI, zero_le → kM, zero_add → kP
open Go.IntWalk renaming i64_in → jF
open Option renaming mem_toList → jA
open Go.IntKind renaming i64 → jE
open Go.World renaming ownsRow → kL
namespace Go.Proofs.YtaefcahblmopfaaGreatDoor
open Go.RowKit
theorem mE{w:World}{base:Nat}{v:Value}{xs:List Int}(h:w.ownsRow base 5 1 v xs.length (bV xs)):(convert 23 9 v).run jG w=.ok (.string (strOfNums xs)) w:=by
 rcases h.2 with⟨rfl,h0⟩|⟨g,cap,cur,rfl,-⟩
 · obtain rfl:xs=[]:=List.eq_nil_of_length_eq_zero h0;exact run_convert_bytes_nil w 23 5 Tryz.underlying23 Tryz.underlying5 0 0 9 Tryz.underlying9
 · refine run_convert_bytes_arg w 23 5 Tryz.underlying23 Tryz.underlying5 g 0 xs.length cap xs rfl (fun i hi=>?_) 9 Tryz.underlying9;have :=kL.cells h (g:=g) rfl i (.int .u8 (xs.getD i 0)) (by unfold bV;rw[uX,jN hi,kX,jN hi];rfl);rw[vF,kP]at this;rw[kP];exact this
theorem ExsO.lit{w:World}{lo:Nat}{x:Ex}(hlo:lo≤w.heap.size)(h:ExOk w lo x):ExsO (w.alloc (.cells (zA x).toArray 83)) lo (.slice (some ⟨w.heap.size,0,none⟩) 1 1) [x] [x.e]:=
 ⟨sY (n:=1) (cs:=zA x) rfl hlo qG,rfl,fun y hy=>by rw[jM.1 hy];exact h.below (jH (jU _ _) _)⟩
theorem yQ.ev{base:Nat}{w:World}{v:Zv}{p':Pz}{w':World}(h:yS base w v p' w'):yJ base w v (p',[]) (.returned (.slice none 0 0)) w':=⟨_,[],rfl,ExsO.nil _ _,h⟩
theorem yJ.mk{base:Nat}{w w1 w2:World}{v:Zv}{p':Pz}{u:Value}{L:List Ex}{evs:List Ev}(h:PzO base w v p')(hb:Below w.heap.size w w1)(hx:ExsO w1 w.heap.size u L evs){p2:Pz}(hr:yS base w1 v p2 w2):yJ base w v (p2,evs) (.returned u) w2:=by
 refine⟨u,L,rfl,?_,yS.pre hb hr⟩;obtain⟨v',-,-,hm,-⟩:=hr;exact hx.mod hm (fun b hb=>.inl (h.lt b hb).2)
section
variable {base:Nat}{w:World}{v:Zv}{p:Pz}
set_option maxHeartbeats 1600000 in
theorem xF(h:PzO base w v p)(c:Int):Calls jG 115 #[.pointer (some ⟨v.P,0,none⟩),.int .u8 c] w (yJ base w v (bT p c)):=by
 obtain⟨A1,cap1,hv1⟩:=uT (h.row 1 qJ);obtain⟨-,-,⟨c2,f2⟩,-,-,⟨c5,f5⟩,-,-,-⟩:=h.blk.facts;have hcv:(convert 23 9 (.slice A1 (p.r 1).length cap1)).run jG w=.ok (.string (strOfNums p.inter)) w:=by rw[←hv1];exact mE (h.row 1 qJ)
 rw[hv1]at c2;have HO:=Hd h;have HE:Hid (∀W,Below w.heap.size w W→∀s:Int,Calls jG 67 #[.pointer (some ⟨v.P,0,none⟩),.int .i64 s] W (yQ base W v (gV p s))):=Hd (fun W hb s=>eN (h.below hb) s);have e1:p.inter.length=(p.r 1).length:=rfl;unfold bT;rw[e1];generalize hN:(p.r 1).length=n at c2 hcv ⊢;clear h hv1 e1;have HB0:Hid (Below w.heap.size w w):=Hd (jU _ _)
 by_cases hq:n=0∧p.wrong=false
 · obtain⟨rfl,hw⟩:=hq;rw[hw]at c5
   by_cases k1:c=91
   · subst k1;rw[if_pos ⟨rfl,hw,rfl⟩];clear hcv hN hw
     go_enter Tryz.func115,Tryz.ntmps115
     go_wp2_with(go_at_call 67;(with_reducible refine(HE.o _ HB0.o _).mono ?_);rintro e w1 ⟨rfl,hr⟩;have HR:=Hd hr;clear hr)
     go_ret
     exact yQ.ev HR.o
   rw[if_neg (fun h=>k1 h.2.2)]
   by_cases k2:c=93
   · subst k2;rw[if_pos ⟨rfl,hw,rfl⟩];clear hcv hN hw
     go_enter Tryz.func115,Tryz.ntmps115
     go_wp2_with(go_at_call 67;(with_reducible refine(HE.o _ HB0.o _).mono ?_);rintro e w1 ⟨rfl,hr⟩;have HR:=Hd hr;clear hr)
     go_ret
     exact yQ.ev HR.o
   rw[if_neg (fun h=>k2 h.2.2)]
   by_cases k3:c=80
   · subst k3;rw[if_pos ⟨rfl,hw,rfl⟩];clear hcv hN hw
     go_enter Tryz.func115,Tryz.ntmps115
     go_wp2_with(go_at_call 67;(with_reducible refine(HE.o _ HB0.o _).mono ?_);rintro e w1 ⟨rfl,hr⟩;have HR:=Hd hr;clear hr)
     go_ret
     exact yQ.ev HR.o
   rw[if_neg (fun h=>k3 h.2.2)]
   by_cases k4:c=88∨c=94∨c=95
   · rw[if_pos ⟨rfl,hw,k4⟩];clear hcv hN hw;rcases k4 with rfl|rfl|rfl
     all_goals
      go_enter Tryz.func115,Tryz.ntmps115
      go_wp2_with(go_at_call 67;(with_reducible refine(HE.o _ HB0.o _).mono ?_);rintro e w1 ⟨rfl,hr⟩;have HR:=Hd hr;clear hr)
      go_ret
      exact yQ.ev HR.o
   rw[if_neg (fun h=>k4 h.2.2)];unfold qKz;rw[if_neg (by rw[hw];decide)];have k5:¬c=88:=fun e=>k4 (.inl e);have k6:¬c=94:=fun e=>k4 (.inr (.inl e));have k7:¬c=95:=fun e=>k4 (.inr (.inr e));have HX:=Hd (ExsO.lit (w:=w) (jD _) (mD w w.heap.size (e:={evE with kind:=2,byte:=c,inter:=p.inter}) rfl));have HB:=Hd (jH (jU w.heap.size w) (.cells #[.int .i64 2,.int .i32 0,.int .u8 c,.int .u8 0,.slice none 0 0,.string (strOfNums p.inter),.string ⟨#[]⟩,.bool false] 83));clear hw k4
   go_enter Tryz.func115,Tryz.ntmps115
   go_wp2_with(go_at_call 67;(with_reducible refine(HE.o _ HB.o _).mono ?_);rintro e w1 ⟨rfl,hr⟩;have HR:=Hd hr;clear hr)
   go_ret
   exact yJ.mk HO.o HB.o HX.o HR.o
 · rw[if_neg (fun h=>hq ⟨h.1,h.2.1⟩),if_neg (fun h=>hq ⟨h.1,h.2.1⟩),if_neg (fun h=>hq ⟨h.1,h.2.1⟩),if_neg (fun h=>hq ⟨h.1,h.2.1⟩)];unfold qKz
   by_cases hw:p.wrong=true
   · rw[if_pos hw];rw[hw]at c5;clear hcv hN hw hq;have hn0:(n:Int)=0∨¬(n:Int)=0:=by omega
     rcases hn0 with hn0|hn0
     all_goals
      go_enter Tryz.func115,Tryz.ntmps115
      go_wp2_with(go_at_call 67;(with_reducible refine(HE.o _ HB0.o _).mono ?_);rintro e w1 ⟨rfl,hr⟩;have HR:=Hd hr;clear hr)
      go_ret
      exact yQ.ev HR.o
   · rw[if_neg hw];have hw2:p.wrong=false:=by cases hq:p.wrong<;>simp_all
     rw[hw2]at c5;have hn0:¬(n:Int)=0:=fun e=>hq ⟨by omega,hw2⟩;have HX:=Hd (ExsO.lit (w:=w) (jD _) (mD w w.heap.size (e:={evE with kind:=2,byte:=c,inter:=p.inter}) rfl));have HB:=Hd (jH (jU w.heap.size w) (.cells #[.int .i64 2,.int .i32 0,.int .u8 c,.int .u8 0,.slice none 0 0,.string (strOfNums p.inter),.string ⟨#[]⟩,.bool false] 83));clear hw hw2 hN hq
     go_enter Tryz.func115,Tryz.ntmps115
     go_wp2_with(go_at_call 67;(with_reducible refine(HE.o _ HB.o _).mono ?_);rintro e w1 ⟨rfl,hr⟩;have HR:=Hd hr;clear hr)
     go_ret
     exact yJ.mk HO.o HB.o HX.o HR.o
end
theorem ExOk.bare{w w':World}{lo lo2:Nat}{x:Ex}(h:ExOk w lo x)(h0:x.e.nums=[]):ExOk w' lo2 x:=by
 have hH:x.H=[]:=by
  have :=h.g;rw[h0]at this;exact List.map_eq_nil_iff.1 this
 refine⟨h.g,h.c,h.z,?_⟩;rw[hH];exact⟨fun h=>absurd rfl h,⟨fun h=>absurd h qV,fun h hh=>by cases hh⟩,fun h hh=>by cases hh⟩
theorem YA:(jG.info? 83).map (fun i=>(i.zero,i.size,i.bytes))=some (some (.agg #[.int .i64 0,.int .i32 0,.int .u8 0,.int .u8 0,.slice none 0 0,.string ⟨#[]⟩,.string ⟨#[]⟩,.bool false]),8,80):=by kernel_rfl
theorem ExsO.len{w:World}{lo:Nat}{u:Value}{L:List Ex}{evs:List Ev}(h:ExsO w lo u L evs):L.length=evs.length:=by rw[←h.es,List.length_map]
theorem ExsO.bare{w:World}{lo:Nat}{u:Value}{L:List Ex}{evs:List Ev}(h:ExsO w lo u L evs)(h0:∀e∈evs,e.nums=[]):∀x∈L,x.e.nums=[]:=fun x hx=>h0 _ (by rw[←h.es];exact List.mem_map_of_mem hx)
theorem cR{ops:Array Oper}{rest:List Oper}{o:Oper}{a:Act}{w:World}{Q:Exit→Act→World→Prop}(hgd:o.guard=none)(s x:Operand)(ho:o.op=.call {callee:=.builtin .append,args:=#[s,x],argTypes:=#[79,79]})
 {lo lo2:Nat} {u u2:Value} {X L:List Ex} {evs evs2:List Ev} (hX:ExsO w lo u X evs) (hL:ExsO w lo2 u2 L evs2) (hlo2:lo≤lo2) (h0:∀e∈evs,e.nums=[]) (h2:(∀e∈evs2,e.nums=[])∨∀g,u.ownBlock=some g→g<lo2) (hz:X.length+L.length≤100000) (hlo:lo≤w.heap.size)
 (hs:a.eval s=u) (hx:a.eval x=u2)
 (h:∀u' w',ExsO w' lo u' (X++L) (evs++evs2)→w.grownBy w' u.ownBlock→(∀g,u'.ownBlock=some g→u.ownBlock=some g∨w.heap.size≤g)→(∀x∈L,ExOk w' lo2 x)→wpList jG ops Q rest (a.put o.dst u') w'):wpList jG ops Q (o::rest) a w:=by
 obtain⟨i0,hi0,hz0,hz1,hz2⟩:=info_parts YA
 by_cases hn:L=[]
 · subst hn;have e2:evs2=[]:=hL.es.symm;subst e2;obtain⟨A,cap,rfl⟩:=uT hX.own;obtain⟨A2,cap2,rfl⟩:=uT hL.own;have hA:A=none→X.length=0∧cap=0:=fun e=>by
    rcases hX.own.2 with⟨e1,e3⟩|⟨g,c,cur,e1,-⟩
    · exact⟨e3,by injection e1⟩
    · rw[e]at e1;injection e1 with e1;cases e1
   have hcap:X.length≤cap:=by
    rcases hX.own.2 with⟨e1,e3⟩|⟨g,c,cur,e1,-,-,e4,-⟩
    · omega
    · injection e1 with e1 e5 e6;omega
   refine bS hgd s x 79 ho (e:=83) (i:=i0) Tryz.underlying79 hi0 A X.length cap hcap hA A2 cap2 hs hx (h _ _ ?_ ⟨rfl,rfl,rfl,jD _,fun _ _ _=>rfl⟩ (fun g hg=>.inl hg) (fun x hx=>by cases hx));rw[List.append_nil,List.append_nil];exact hX
 · have hpos:0<L.length:=List.length_pos_iff.2 hn;obtain⟨b,cap2,rfl⟩:=gH hL.own hpos;refine vG hgd s x 79 ho lo 83 i0 _ 8 80 Tryz.underlying79 hi0 hz0 hz1 hz2 rfl qZ u X.length (uM zA X) hs hX.own ⟨b,0,none⟩ L.length cap2 (uM zA L) hx (by rw[pM tE]) (kL.cells hL.own (g:=b) rfl) (fun u hu=>?_) qG qJ hlo (fun v' w' h3 h4 h5=>(fun h6=>h v' w' ⟨?_,?_,fun y hy=>?_⟩ h4 h5 h6) (fun y hy=>?_))
   · obtain⟨y,-,hy⟩:=List.mem_flatMap.1 hu;exact tA y u hy
   · rw[uI,jC];exact h3
   · rw[vX,hX.es,hL.es]
   · rcases kU.1 hy with hy|hy
     · exact(hX.ok y hy).bare (hX.bare h0 y hy)
     · exact(h6 y hy).weaken hlo2
   · rcases h2 with h2|h2
     · exact(hL.ok y hy).bare (hL.bare h2 y hy)
     · exact(hL.ok y hy).mod (Mod.of_grown (X:=u.ownBlock.toList) h4 (fun g hg=>by simp[hg])) (fun g hg=>.inl (h2 g (jA.1 hg)))
theorem mX:∀(a b:List Int) (p:Pz),vZ p (a++b)=((vZ (vZ p a).1 b).1,(vZ p a).2++(vZ (vZ p a).1 b).2)
 |[],_,_=>rfl
 |r::a,b,p=>by
  show vZ p (r::(a++b))=_;simp only[vZ];rw[mX a b];simp
theorem dI(a:List Int)(r:Int)(p:Pz):vZ p (a++[r])=((print1 (vZ p a).1 r).1,(vZ p a).2++(print1 (vZ p a).1 r).2):=by
 rw[mX];simp[vZ]
theorem rG(p:Pz)(c:Int):(∀e∈(bT p c).2,e.nums=[])∧(bT p c).2.length≤1:=by
 unfold bT
 split
 · exact qXz
 split
 · exact qXz
 split
 · exact qXz
 split
 · exact qXz
 · unfold qKz
   split
   · exact qXz
   · exact qX0
theorem ZV(p:Pz)(r:Int):(∀e∈(print1 p r).2,e.nums=[])∧(print1 p r).2.length≤1:=by
 unfold print1
 split
 · exact qX0
 split
 · exact qXz
 split
 · exact rG p _
 · exact qX0
theorem zR:∀(l:List Int) (p:Pz),(∀e∈(vZ p l).2,e.nums=[])∧(vZ p l).2.length≤l.length
 |[],_=>⟨fun _ h=>by simp[vZ]at h,by simp[vZ]⟩
 |r::l,p=>by
  obtain⟨a1,a2⟩:=ZV p r;obtain⟨b1,b2⟩:=zR l (print1 p r).1;exact⟨fun e h=>(kU.1 h).elim (a1 e) (b1 e),by simp[vZ];omega⟩
theorem ExsO.keepB{X:List Nat}{w w':World}{lo:Nat}{u:Value}{L:List Ex}{evs:List Ev}(h:ExsO w lo u L evs)(h0:∀e∈evs,e.nums=[])(hm:Mod X w w')(hd:∀b,u.ownBlock=some b→b∉X):ExsO w' lo u L evs:=
 ⟨kD h.own hm hd,h.es,fun x hx=>(h.ok x hx).bare (h.bare h0 x hx)⟩
structure PrI(base:Nat)(w:World)(v:Zv)(p:Pz)(rs:List Int)(wr:World)(u:Value)(k:Nat)(v':Zv)(X:List Ex):Prop where
 P:v'.P=v.P
 o:PzO base wr v' (vZ p (rs.take k)).1
 x:ExsO wr w.heap.size u X (vZ p (rs.take k)).2
 m:Mod (zvX v) w wr
 n:∀b∈zvX v',b∈zvX v∨w.heap.size≤b
 d:∀b,u.ownBlock=some b→b∉zvX v'
section
variable {base:Nat}{w:World}{v:Zv}{p:Pz}{rs:List Int}{wr:World}{u:Value}{k:Nat}{v':Zv}{X:List Ex}
theorem PrI.len(h:PrI base w v p rs wr u k v' X):X.length≤k:=by
 have :=(zR (rs.take k) p).2;rw[h.x.len];exact jI this qY
theorem PrI.res(h:PrI base w v p rs wr u k v' X):yS base w v (vZ p (rs.take k)).1 wr:=⟨v',h.P,h.o,h.m,h.n⟩
theorem PrI.grew(h:PrI base w v p rs wr u k v' X){w1 w2:World}{u':Value}{X':List Ex}{r:Int}(hk:rs[k]? =some r)(hb:Below wr.heap.size wr w1)(hg:w1.grownBy w2 u.ownBlock)(hu:∀g,u'.ownBlock=some g→u.ownBlock=some g∨w1.heap.size≤g)(hp:(print1 (vZ p (rs.take k)).1 r).1=(vZ p (rs.take k)).1)(hx:ExsO w2 w.heap.size u' X' ((vZ p (rs.take k)).2++(print1 (vZ p (rs.take k)).1 r).2)):PrI base w v p rs w2 u' (k+1) v' X':=by
 have ht:rs.take (k+1)=rs.take k++[r]:=by
  obtain⟨h1,h2⟩:=jP.1 hk;rw[kQ h1,h2]
 have hm:Mod u.ownBlock.toList wr w2:=(Mod.of_below hb).trans (Mod.of_grown (X:=u.ownBlock.toList) hg (fun g hg=>by simp[hg])) (fun g hg=>.inl hg);refine⟨h.P,?_,by rw[ht,dI];exact hx,(h.m.trans hm (fun g hg=>.inr (h.x.own.lt g (jA.1 hg)).1)),h.n,fun b hb' hx'=>?_⟩
 · rw[ht,dI,hp];exact h.o.mod hm (fun b hb hx=>h.d b (jA.1 hx) hb)
 · rcases hu b hb' with h1|h1
   · exact h.d b h1 hx'
   · have :=(h.o.lt b hx').2;have :=hb.size;omega
theorem PrI.moved(h:PrI base w v p rs wr u k v' X){w1 w2:World}{u':Value}{X':List Ex}{r:Int}{v2:Zv}(hk:rs[k]? =some r)(hP:v2.P=v'.P)(hm1:Mod (zvX v') wr w1)(hx2:∀b∈zvX v2,b∈zvX v'∨wr.heap.size≤b)(hO:PzO base w1 v2 (print1 (vZ p (rs.take k)).1 r).1)(hg:w1.grownBy w2 u.ownBlock)(hu:∀g,u'.ownBlock=some g→u.ownBlock=some g∨w1.heap.size≤g)(hx:ExsO w2 w.heap.size u' X' ((vZ p (rs.take k)).2++(print1 (vZ p (rs.take k)).1 r).2)):PrI base w v p rs w2 u' (k+1) v2 X':=by
 have ht:rs.take (k+1)=rs.take k++[r]:=by
  obtain⟨h1,h2⟩:=jP.1 hk;rw[kQ h1,h2]
 have hm2:Mod u.ownBlock.toList w1 w2:=Mod.of_grown (X:=u.ownBlock.toList) hg (fun g hg=>by simp[hg]);have hd2:∀b,u.ownBlock=some b→b∉zvX v2:=fun b hb hx=>by
  rcases hx2 b hx with h1|h1
  · exact h.d b hb h1
  · have :=(h.x.own.lt b hb).2;omega
 refine⟨hP.trans h.P,?_,by rw[ht,dI];exact hx,(h.m.trans hm1 h.n).trans hm2 (fun g hg=>.inr (h.x.own.lt g (jA.1 hg)).1),fun b hb=>?_,fun b hb' hx'=>?_⟩
 · rw[ht,dI];exact hO.mod hm2 (fun b hb hx=>hd2 b (jA.1 hx) hb)
 · rcases hx2 b hb with h1|h1
   · exact h.n b h1
   · exact .inr (jI h.m.size h1)
 · rcases hu b hb' with h1|h1
   · exact hd2 b h1 hx'
   · have :=(hO.lt b hx').2;omega
set_option maxHeartbeats 3200000 in
theorem VC(h:PzO base w v p){lo:Nat}(hr:Qn w lo u rs)(hlo:∀b∈zvX v,b<lo)(hz:rs.length≤1000)(hr0:∀r∈rs,0≤r∧r<2147483648):Calls jG 65 #[.pointer (some ⟨v.P,0,none⟩),u] w (yJ base w v (vZ p rs)):=by
 obtain⟨A,cap,rfl⟩:=uT hr;have HR:Hid (∀wr,Mod (zvX v) w wr→∀k,k<rs.length→∃b r,A=some ⟨b,0,none⟩∧rs[k]? =some r∧wr.cell? ⟨b,k,none⟩=some (.int .i32 r)∧0≤r∧r<2147483648):=Hd (fun wr hm k hk=>by
  obtain⟨b,c,he⟩:=gH hr qJ;obtain rfl:A=some ⟨b,0,none⟩:=by injection he
  have h2:=kD hr hm (fun g hg hx=>by have :=hlo g hx;have :=(kL.lt hr g hg).1;omega);have h3:=kL.cells h2 (g:=b) rfl k (.int .i32 (rs[k]'hk)) (by rw[uX,jN hk];rfl);rw[vF,kP]at h3;exact⟨b,rs[k]'hk,rfl,jN hk,h3,hr0 _ (List.getElem_mem hk)⟩)
 have HF:Hid (∀W v' q c,PzO base W v' q→v'.P=v.P→Calls jG 115 #[.pointer (some ⟨v.P,0,none⟩),.int .u8 c] W (yJ base W v' (bT q c))):=Hd (fun W v' q c ho e=>by rw[←e];exact xF ho c);have HO:=Hd h;generalize hN:rs.length=n at hz HR ⊢;have HN:=Hd hN;clear h hr hlo hr0 hN
 go_enter Tryz.func65,Tryz.ntmps65
 go_wp2_with fail
 go_loopw [5,10] (fun s5 s10 wr=>∃(k:Nat) (v':Zv) (X:List Ex),s10=.int .i64 k∧k≤n∧PrI base w v p rs wr s5 k v' X) (fun _ s10 _=>n-(intOf s10).toNat)
 case atStart=>exact⟨0,v,[],rfl,kM _,⟨rfl,HO.o,ExsO.nil _ _,Mod.refl _ _,fun _ hb=>.inl hb,fun b hb=>by cases hb⟩⟩
 case round=>
  obtain⟨k,v',X,rfl,hk,hI⟩:=hrel;obtain⟨bx,rfl⟩:∃bx:Value×Unit,u5=bx.1:=⟨(u5,()),rfl⟩;have HI:=Hd hI;have hwk:jE.wrap ((k:Int)+1)=(k:Int)+1:=jF _ qJ;clear hI
  by_cases hlt:k<n
  · have hltI:(k:Int)<(n:Int):=by omega
    obtain⟨b,r,rfl,hrk,hc,hr0,hr1⟩:=HR.o wr HI.o.m k hlt
    by_cases h1:r<32
    · have hw8:IntKind.u8.wrap r=r:=IntWalk.u8_in _ qJ;have e1:print1 (vZ p (rs.take k)).1 r=((vZ p (rs.take k)).1,[{evE with kind:=1,r:=0,byte:=r}]):=if_pos h1
      go_upto_region 7 with fail
      refine wp_region_lit ?_;refine jB (bx.1) qK qK ?_;simp only[Act.put,jZ,jX,jY];refine jB (.int .i32 r) qK qK ?_;simp only[Act.put,jZ,jX,jY];refine jB (.int .u8 r) qK qX ?_;simp only[Act.put,jZ,jX,jY];refine jB (.agg #[.int .i64 1,.int .i32 0,.int .u8 r,.int .u8 0,.slice none 0 0,.string ⟨#[]⟩,.string ⟨#[]⟩,.bool false]) qK qX ?_;simp only[Act.put,jZ,jX,jY];have HL:=Hd (ExsO.lit (w:=wr) (lo:=w.heap.size) HI.o.m.size (mD wr w.heap.size (e:={evE with kind:=1,r:=0,byte:=r}) rfl));have HBA:=Hd (jH (jU wr.heap.size wr) (.cells (zA (ex0 {evE with kind:=1,r:=0,byte:=r})).toArray 83));refine uC (.slice (some ⟨wr.heap.size,0,none⟩) 1 1) (wr.alloc (.cells #[.int .i64 1,.int .i32 0,.int .u8 r,.int .u8 0,.slice none 0 0,.string ⟨#[]⟩,.string ⟨#[]⟩,.bool false] 83)) qK qX ?_;simp only[Act.put,jZ,jX,jY];refine cR rfl (.tmp 22) (.tmp 26) rfl (HI.o.x.below HBA.o) HL.o (jD _) (zR _ _).1 (.inl (fun e he=>by rw[jM.1 he];rfl)) (by have :=HI.o.len;simp;omega) (jI HI.o.m.size HBA.o.size) rfl rfl ?_;intro u' w2 hx hg hu _;have HX2:=Hd (HI.o.grew hrk HBA.o hg hu (by rw[e1]) (by rw[e1];exact hx));clear hx hg hu;simp only[Act.put,jZ,jX,jY]
      go_wp2
      go_roundw
      case rel=>exact⟨k+1,v',_,by go_num,by omega,HX2.o⟩
      case measure=>simp[intOf];omega
    by_cases h2:r=127
    · have e1:print1 (vZ p (rs.take k)).1 r=((vZ p (rs.take k)).1,[]):=by unfold print1;rw[if_neg h1,if_pos h2]
      have HX2:=Hd (HI.o.grew hrk (jU _ _) (w2:=wr) (u':=bx.1) (X':=X) ⟨rfl,rfl,rfl,jD _,fun _ _ _=>rfl⟩ (fun g hg=>.inl hg) (by rw[e1]) (by rw[e1,List.append_nil];exact HI.o.x));subst h2
      go_wp2
      go_roundw
      case rel=>exact⟨k+1,v',_,by go_num,by omega,HX2.o⟩
      case measure=>simp[intOf];omega
    have h1':32≤r:=by omega
    by_cases h3:128≤r∧r<160
    · have e1:print1 (vZ p (rs.take k)).1 r=bT (vZ p (rs.take k)).1 (r-64):=by unfold print1;rw[if_neg h1,if_neg h2,if_pos h3]
      obtain⟨h4,h5⟩:=h3;have hw8:IntKind.u8.wrap r=r:=IntWalk.u8_in _ qJ;have hw9:IntKind.u8.wrap (r-64)=r-64:=IntWalk.u8_in _ qJ
      go_upto_region 10 with fail
      refine wp_region_lit ?_;refine jB (bx.1) qK qK ?_;simp only[Act.put,jZ,jX,jY];refine jB (.pointer (some ⟨v.P,0,none⟩)) qK qK ?_;simp only[Act.put,jZ,jX,jY];refine jB (.int .i32 r) qK qK ?_;simp only[Act.put,jZ,jX,jY];refine jB (.int .u8 r) qK qX ?_;simp only[Act.put,jZ,jX,jY];refine jB (.int .u8 (r-64)) qK qX ?_;simp only[Act.put,jZ,jX,jY];refine pD rfl 115 #[.pointer (some ⟨v.P,0,none⟩),.int .u8 (r-64)] qX (R:=fun u w'=>∃L,ExsO w' wr.heap.size u L (bT (vZ p (rs.take k)).1 (r-64)).2∧yS base wr v' (bT (vZ p (rs.take k)).1 (r-64)).1 w') ((HF.o wr v' _ (r-64) HI.o.o HI.o.P).mono (fun e w' ⟨u,L,he,h1,h2⟩=>⟨u,he,L,h1,h2⟩)) ?_;rintro u2 w2 ⟨L,hL,v2,e2,hO2,hm2,hx2⟩;simp only[Act.put,jZ,jX,jY];refine cR rfl (.tmp 38) (.tmp 43) rfl (HI.o.x.keepB (zR _ _).1 hm2 HI.o.d) hL HI.o.m.size (zR _ _).1 (.inl (rG _ _).1) (by have :=HI.o.len;have :=(rG (vZ p (rs.take k)).1 (r-64)).2;have :=hL.len;omega) (jI HI.o.m.size hm2.size) rfl rfl ?_;intro u' w3 hx hg hu _;have HX2:=Hd (HI.o.moved hrk e2 hm2 hx2 (by rw[e1];exact hO2) hg hu (by rw[e1];exact hx));clear hx hg hu hL hO2 hm2 hx2 e2;simp only[Act.put,jZ,jX,jY]
      go_wp2
      go_roundw
      case rel=>exact⟨k+1,v2,_,by go_num,by omega,HX2.o⟩
      case measure=>simp[intOf];omega
    · have e1:print1 (vZ p (rs.take k)).1 r=((vZ p (rs.take k)).1,[{evE with kind:=0,r:=r,byte:=0}]):=by unfold print1;rw[if_neg h1,if_neg h2,if_neg h3];rfl
      have h3I:r<128∨160≤r:=by omega
      rcases h3I with h3I|h3I
      all_goals
       go_upto_region 5 with fail
       refine wp_region_lit ?_;refine jB (bx.1) qK qK ?_;simp only[Act.put,jZ,jX,jY];refine jB (.int .i32 r) qK qK ?_;simp only[Act.put,jZ,jX,jY];refine jB (.agg #[.int .i64 0,.int .i32 r,.int .u8 0,.int .u8 0,.slice none 0 0,.string ⟨#[]⟩,.string ⟨#[]⟩,.bool false]) qK qX ?_;simp only[Act.put,jZ,jX,jY];have HL:=Hd (ExsO.lit (w:=wr) (lo:=w.heap.size) HI.o.m.size (mD wr w.heap.size (e:={evE with kind:=0,r:=r,byte:=0}) rfl));have HBA:=Hd (jH (jU wr.heap.size wr) (.cells (zA (ex0 {evE with kind:=0,r:=r,byte:=0})).toArray 83));refine uC (.slice (some ⟨wr.heap.size,0,none⟩) 1 1) (wr.alloc (.cells #[.int .i64 0,.int .i32 r,.int .u8 0,.int .u8 0,.slice none 0 0,.string ⟨#[]⟩,.string ⟨#[]⟩,.bool false] 83)) qK qX ?_;simp only[Act.put,jZ,jX,jY];refine cR rfl (.tmp 14) (.tmp 17) rfl (HI.o.x.below HBA.o) HL.o (jD _) (zR _ _).1 (.inl (fun e he=>by rw[jM.1 he];rfl)) (by have :=HI.o.len;simp;omega) (jI HI.o.m.size HBA.o.size) rfl rfl ?_;intro u' w2 hx hg hu _;have HX2:=Hd (HI.o.grew hrk HBA.o hg hu (by rw[e1]) (by rw[e1];exact hx));clear hx hg hu;simp only[Act.put,jZ,jX,jY]
       go_wp2
       go_roundw
       case rel=>exact⟨k+1,v',_,by go_num,by omega,HX2.o⟩
       case measure=>simp[intOf];omega
  · have hltI:¬(k:Int)<(n:Int):=by omega
    obtain rfl:k=n:=by omega
    have ht:rs.take k=rs:=vY (by rw[HN.o];omega);have HX:=Hd (show yJ base w v (vZ p rs) (.returned bx.1) wr from⟨bx.1,X,rfl,by have :=HI.o.x;rw[ht]at this;exact this,by have :=HI.o.res;rw[ht]at this;exact this⟩)
    go_wp2
    go_ret
    exact HX.o
end
def WhPost(w:World)(ev:Ev)(e:Ending)(w':World):Prop:=∃x:Ex,e=.returned (.agg #[.int .i64 x.e.kind,.int .i32 x.e.r,.int .u8 x.e.byte,.int .u8 x.e.pre,.slice x.A x.H.length x.ca,.string (strOfNums x.e.inter),.string (strOfNums x.e.text),.bool x.e.cut])∧x.e=ev∧ExOk w' w.heap.size x∧Below w.heap.size w w'
def eH:Prop:=∀(base:Nat) (w:World) (v:Zv) (p:Pz) (k c:Int),PzO base w v p→PzOk p→Calls jG 116 #[.pointer (some ⟨v.P,0,none⟩),.int .i64 k,.int .u8 c] w (WhPost w (oB p k c))
section
variable {base:Nat}{w:World}{v:Zv}{p:Pz}
theorem yJ.trans{w1 w2:World}{v1:Zv}{x:Pz×List Ev}{e:Ending}(h1:v1.P=v.P∧Mod (zvX v) w w1∧∀b∈zvX v1,b∈zvX v∨w.heap.size≤b)(h:yJ base w1 v1 x e w2):yJ base w v x e w2:=by
 obtain⟨u,L,he,hx,hr⟩:=h;exact⟨u,L,he,hx.weaken h1.2.1.size,yS.trans h1 hr⟩
theorem yS.at_{p':Pz}{w':World}(h:yS base w v p' w'):∃v1,PzO base w' v1 p'∧v1.P=v.P∧Mod (zvX v) w w'∧∀b∈zvX v1,b∈zvX v∨w.heap.size≤b:=by
 obtain⟨v1,e,h1,h2,h3⟩:=h;exact⟨v1,h1,e,h2,h3⟩
def qV2(w:World)(evs:List Ev)(e:Ending)(w':World):Prop:=∃u L,e=.returned u∧ExsO w' w.heap.size u L evs∧Below w.heap.size w w'
set_option maxHeartbeats 1600000 in
theorem JB(HW:eH)(h:PzO base w v p)(hok:PzOk p):Calls jG 68 #[.pointer (some ⟨v.P,0,none⟩)] w (qV2 w (mF p)):=by
 obtain⟨A2,cap2,hv2⟩:=uT (h.row 2 qJ);obtain⟨-,-,-,⟨c3,-⟩,⟨c4,-⟩,⟨c5,-⟩,⟨c6,-⟩,-,⟨c8,-⟩⟩:=h.blk.facts;have HCV:Hid (∀w',Below w.heap.size w w'→(convert 23 9 (.slice A2 (p.r 2).length cap2)).run jG w'=.ok (.string (strOfNums p.text)) w'):=Hd (fun w' hb=>by rw[←hv2];exact mE ((h.below hb).row 2 qJ));rw[hv2]at c3;have HO:=Hd h;have HWH:=Hd (HW base w v p 5 p.last h hok);generalize hN:(p.r 2).length=n at c3 HCV;clear h hv2 hok hN;unfold mF
 by_cases h4:p.state=4
 · rw[if_pos h4];rw[h4]at c8;clear h4 HWH c4 c5
   go_enter Tryz.func68,Tryz.ntmps68
   go_upto_region 2 with fail
   refine kW 11 (fun w'=>Below w.heap.size w w'∧w'.cell? ⟨v.P,3,none⟩=some (.slice A2 n cap2)∧w'.cell? ⟨v.P,6,none⟩=some (.bool p.cut)∧(convert 23 9 (.slice A2 n cap2)).run jG w'=.ok (.string (strOfNums p.text)) w') qQ qQ ?_ ?_
   · exact⟨(jU _ _).drew,c3,c6,HCV.o _ ((jU _ _).drew)⟩
   simp only[jS,kK,jL,jO]
   repeat(
    (first
     |refine kF qK ?_
     |(refine kT ?_ qK ?_ ?_;rotate_left;(focus(intro w' hS;obtain⟨_,_,_,_⟩:=hS;go_simp;first|done|with_reducible rfl))))
    simp only[Act.put,jZ,jX,jY])
   refine kE (fun w' hS=>?_);have HX:=Hd (ExsO.lit (w:=w') (lo:=w.heap.size) hS.1.size (mD w' w.heap.size (e:={evE with kind:=4,text:=p.text,cut:=p.cut}) rfl));have HB:=Hd hS.1
   go_wp2
   go_ret
   exact⟨_,_,rfl,HX.o,jH HB.o _⟩
 rw[if_neg h4]
 by_cases h3:p.state=3∧p.last≠0∧p.wrong=false
 · rw[if_pos h3];obtain⟨a1,a2,a3⟩:=h3;rw[a1]at c8;rw[a3]at c5;clear a1 h4 a3
   go_enter Tryz.func68,Tryz.ntmps68
   go_upto_region 4 with fail
   refine wp_region_lit ?_;refine jB (.pointer (some ⟨v.P,0,none⟩)) qK qK ?_;simp only[Act.put,jZ,jX,jY];refine jB (.pointer (some ⟨v.P,0,none⟩)) qK qK ?_;simp only[Act.put,jZ,jX,jY];refine jB (.pointer (some ⟨v.P,0,none⟩)) qK qX ?_;simp only[Act.put,jZ,jX,jY];refine jB (.pointer (some ⟨v.P,0,none⟩)) qK qX ?_;simp only[Act.put,jZ,jX,jY];refine jB (.pointer (some ⟨v.P,4,none⟩)) qK qX ?_;simp only[Act.put,jZ,jX,jY];refine jB (.int .u8 p.last) qK qX ?_;simp only[Act.put,jZ,jX,jY];refine pD rfl 116 #[.pointer (some ⟨v.P,0,none⟩),.int .i64 5,.int .u8 p.last] qX (R:=fun u w'=>∃x:Ex,u=.agg #[.int .i64 x.e.kind,.int .i32 x.e.r,.int .u8 x.e.byte,.int .u8 x.e.pre,.slice x.A x.H.length x.ca,.string (strOfNums x.e.inter),.string (strOfNums x.e.text),.bool x.e.cut]∧x.e=oB p 5 p.last∧ExOk w' w.heap.size x∧Below w.heap.size w w') (HWH.o.mono (fun e w' ⟨x,he,h1⟩=>⟨_,he,x,rfl,h1⟩)) ?_;rintro u w1 ⟨x,rfl,hx1,hx2,hb⟩;have HX:=Hd (ExsO.lit (w:=w1) (lo:=w.heap.size) hb.size hx2);have HB:=Hd hb;have HE:=Hd hx1;clear hx1 hx2 hb;simp only[Act.put,jZ,jX,jY];refine uC (.slice (some ⟨w1.heap.size,0,none⟩) 1 1) (w1.alloc (.cells (zA x).toArray 83)) qK (by go_simp;rfl) ?_;simp only[Act.put,jZ,jX,jY]
   go_wp2
   go_ret
   have h2:=HX.o;rw[HE.o]at h2;exact⟨_,_,rfl,h2,jH HB.o _⟩
 · rw[if_neg h3];have h3I:p.state=3∧p.last=0∨p.state=3∧p.wrong=true∨¬p.state=3:=by
    by_cases a1:p.state=3
    · by_cases a2:p.last=0
      · exact .inl ⟨a1,a2⟩
      · exact .inr (.inl ⟨a1,by cases hq:p.wrong with|false=>exact absurd ⟨a1,a2,hq⟩ h3|true=>rfl⟩)
    · exact .inr (.inr a1)
   clear h3 HWH;rcases h3I with⟨a1,a2⟩|⟨a1,a2⟩|a1
   · rw[a1]at c8;rw[a2]at c4;clear a1 a2 h4
     go_enter Tryz.func68,Tryz.ntmps68
     go_wp2
     all_goals(go_ret;exact⟨_,[],rfl,ExsO.nil _ _,jU _ _⟩)
   · rw[a1]at c8;rw[a2]at c5;clear a1 a2 h4
     go_enter Tryz.func68,Tryz.ntmps68
     go_wp2
     all_goals(go_ret;exact⟨_,[],rfl,ExsO.nil _ _,jU _ _⟩)
   · go_enter Tryz.func68,Tryz.ntmps68
     go_wp2
     all_goals(go_ret;exact⟨_,[],rfl,ExsO.nil _ _,jU _ _⟩)
set_option maxHeartbeats 1600000 in
theorem VF(h:PzO base w v p)(hok:PzOk p)(c:Int):Calls jG 119 #[.pointer (some ⟨v.P,0,none⟩),.int .u8 c] w (yJ base w v (cI p c)):=by
 have HB:=Hd (rL h hok.inter.1 c);have HF:=Hd (xF h c);have hP:=h.blk.lt;clear h hok;unfold cI
 by_cases h1:c<48
 · rw[if_pos h1];clear HF
   go_enter Tryz.func119,Tryz.ntmps119
   go_wp2_with(go_at_call 178;(with_reducible refine HB.o.mono ?_);rintro e w1 ⟨rfl,hr⟩;have HR:=Hd hr;clear hr)
   go_ret
   exact yQ.ev HR.o
 · rw[if_neg h1];have h1':48≤c:=by omega
   clear HB
   go_enter Tryz.func119,Tryz.ntmps119
   go_wp2_with(go_at_call 115;(with_reducible refine HF.o.mono ?_);rintro e w1 ⟨u,L,rfl,h2,h3⟩;have HX:=Hd h2;have HR:=Hd h3;clear h2 h3)
   go_ret
   exact⟨u,L,rfl,HX.o,HR.o⟩
set_option maxHeartbeats 1600000 in
theorem Qt(HW:eH)(h:PzO base w v p)(hok:PzOk p)(c:Int):Calls jG 120 #[.pointer (some ⟨v.P,0,none⟩),.int .u8 c] w (yJ base w v (mM p c)):=by
 have HB:=Hd (rL h hok.inter.1 c);have HN:=Hd (VD h hok.head.1 c);have HWH:=Hd (HW base w v p 3 c h hok);have HE:Hid (∀W,Below w.heap.size w W→∀s:Int,Calls jG 67 #[.pointer (some ⟨v.P,0,none⟩),.int .i64 s] W (yQ base W v (gV p s))):=Hd (fun W hb s=>eN (h.below hb) s);obtain⟨-,-,-,-,⟨c4,f4⟩,⟨c5,-⟩,-,-,⟨c8,-⟩⟩:=h.blk.facts;have HO:=Hd h;have hP:=h.blk.lt;clear h hok;unfold mM
 by_cases h1:c<48
 · rw[if_pos h1];clear HN HWH HE
   go_enter Tryz.func120,Tryz.ntmps120
   go_wp2_with(go_at_call 178;(with_reducible refine HB.o.mono ?_);rintro e w1 ⟨rfl,hr⟩;have HR:=Hd hr;clear hr)
   go_ret
   exact yQ.ev HR.o
 rw[if_neg h1];have h1':48≤c:=by omega
 by_cases h2:c<64
 · rw[if_pos h2];clear HB HWH HE
   go_enter Tryz.func120,Tryz.ntmps120
   go_wp2_with(go_at_call 179;(with_reducible refine HN.o.mono ?_);rintro e w1 ⟨rfl,hr⟩;have HR:=Hd hr;clear hr)
   go_ret
   exact yQ.ev HR.o
 rw[if_neg h2];have h2':64≤c:=by omega
 by_cases h3:p.state=3
 · rw[if_pos h3];rw[h3]at c8;clear HB HN HWH HE h3
   go_enter Tryz.func120,Tryz.ntmps120
   go_wp2
   go_ret
   exact yQ.ev (HO.o.one 4 (.int .u8 c) rfl (fun k hk=>by match k,hk with|0,_=>rfl|1,_=>rfl|2,_=>rfl))
 rw[if_neg h3];unfold csiE;clear HB HN
 by_cases hw:p.wrong=true
 · rw[if_pos hw];rw[hw]at c5;have HB0:Hid (Below w.heap.size w w):=Hd (jU _ _);clear HWH hw
   go_enter Tryz.func120,Tryz.ntmps120
   go_wp2_with(go_at_call 67;(with_reducible refine(HE.o _ HB0.o _).mono ?_);rintro e w1 ⟨rfl,hr⟩;have HR:=Hd hr;clear hr)
   go_ret
   exact yQ.ev HR.o
 · rw[if_neg hw];rw[show p.wrong=false by cases hq:p.wrong<;>simp_all]at c5;clear hw
   go_enter Tryz.func120,Tryz.ntmps120
   go_upto_region 12 with fail
   refine wp_region_lit ?_;refine jB (.pointer (some ⟨v.P,0,none⟩)) qK qK ?_;simp only[Act.put,jZ,jX,jY];refine jB (.int .u8 c) qK qK ?_;simp only[Act.put,jZ,jX,jY];refine pD rfl 116 #[.pointer (some ⟨v.P,0,none⟩),.int .i64 3,.int .u8 c] qX (R:=fun u w'=>∃x:Ex,u=.agg #[.int .i64 x.e.kind,.int .i32 x.e.r,.int .u8 x.e.byte,.int .u8 x.e.pre,.slice x.A x.H.length x.ca,.string (strOfNums x.e.inter),.string (strOfNums x.e.text),.bool x.e.cut]∧x.e=oB p 3 c∧ExOk w' w.heap.size x∧Below w.heap.size w w') (HWH.o.mono (fun e w' ⟨x,he,h1⟩=>⟨_,he,x,rfl,h1⟩)) ?_;rintro u w1 ⟨x,rfl,hx1,hx2,hb⟩;have HX:=Hd (ExsO.lit (w:=w1) (lo:=w.heap.size) hb.size hx2);have HB:=Hd (jH hb (.cells (zA x).toArray 83));have HX1:=Hd hx1;clear hx1 hx2 hb;simp only[Act.put,jZ,jX,jY];refine uC (.slice (some ⟨w1.heap.size,0,none⟩) 1 1) (w1.alloc (.cells (zA x).toArray 83)) qK (by go_simp;rfl) ?_;simp only[Act.put,jZ,jX,jY]
   go_wp2_with(go_at_call 67;(with_reducible refine(HE.o _ HB.o _).mono ?_);rintro e w2 ⟨rfl,hr⟩;have HR:=Hd hr;clear hr)
   go_ret
   have :=yJ.mk HO.o HB.o HX.o HR.o;rw[HX1.o]at this;exact this
end
theorem nT{d:Dk}{c:Int}(hc:0≤c∧c≤255):(pB d c).1.length≤1∧∀r∈(pB d c).1,0≤r∧r<2147483648:=by
 unfold pB
 split
 · exact qX1
 split
 · exact qX1
 · exact⟨by simp,fun r h=>by simp at h⟩
theorem JS{d:Dk}{c:Int}(hd:DkOk d)(hc:0≤c∧c≤255):(gG d c).1.length≤1000∧∀r∈(gG d c).1,0≤r∧r<2147483648:=by
 unfold gG
 split
 · exact⟨by have :=(nT (d:=d) hc).1;omega,(nT hc).2⟩
 split
 · refine⟨by have :=(nT (d:=cF d) hc).1;simp;omega,fun r h=>?_⟩;rcases kJ.1 h with rfl|h
   · omega
   · exact(nT hc).2 r h
 split
 · next h0 _ h1=>
   refine⟨by simp,fun r h=>?_⟩;rw[jM.1 h];rcases hd.n with h2|⟨h2,h3,-⟩
   · exact absurd h2 h0
   · have :=h3 h1;omega
 · exact⟨by simp,fun r h=>by simp at h⟩
theorem Ur(d:Dk):(dU d).1.length≤1000∧∀r∈(dU d).1,0≤r∧r<2147483648:=by
 unfold dU
 split
 · exact⟨by simp,fun r h=>by simp at h⟩
 · exact qX1
section
variable {base:Nat}{w:World}{v:Zv}{p:Pz}
theorem PzO.decd{d:Dk}{w':World}(h:PzO base w v p)(hp:zX w' v {p with dec:=d})(hg:w.grownBy w' (some v.P)):PzO base w' v {p with dec:=d}∧Mod (zvX v) w w':=by
 have hm:Mod [v.P] w w':=Mod.of_grown (X:=[v.P]) hg (fun g hg=>by injection hg with hg;simp[hg]);exact⟨⟨hp,h.hb,fun k hk=>kD (h.row k hk) hm (fun g hg hx=>h.np ⟨k,hk,by rw[←jM.1 hx];exact hg⟩),h.nd⟩,hm.mono (fun b hb=>bQ.2 (.inl (jM.1 hb)))⟩
theorem lS(h:PzO base w v p){x:List Int×Dk}{u:Value}{w':World}(hx:x.1.length≤1000∧∀r∈x.1,0≤r∧r<2147483648)(hr:Qn w' w.heap.size u x.1)(hp:zX w' v {p with dec:=x.2})(hg:w.grownBy w' (some v.P)):
 Calls jG 65 #[.pointer (some ⟨v.P,0,none⟩),u] w' (yJ base w v (vZ {p with dec:=x.2} x.1)):=by
 obtain⟨hO,hm⟩:=h.decd hp hg;exact(VC hO hr (fun b hb=>(h.lt b hb).2) hx.1 hx.2).mono (fun e w2 hq=>hq.trans ⟨rfl,hm,fun _ hb=>.inl hb⟩)
set_option maxHeartbeats 1600000 in
theorem VP(HW:eH)(h:PzO base w v p)(hok:PzOk p)(c:Int):Calls jG 70 #[.pointer (some ⟨v.P,0,none⟩),.int .u8 c] w (yJ base w v (eG p c)):=by
 have HPt:=Hd (qQw h (by have :=hok.text.1;have :=hok.most;omega) c);have HEn:=Hd (JB HW h hok);have HE:Hid (∀W v' (q:Pz),PzO base W v' q→v'.P=v.P→∀s:Int,Calls jG 67 #[.pointer (some ⟨v.P,0,none⟩),.int .i64 s] W (yQ base W v' (gV q s))):=Hd (fun W v' q ho e s=>by rw[←e];exact eN ho s);obtain⟨-,-,-,-,-,⟨c5,-⟩,-,-,⟨c8,-⟩⟩:=h.blk.facts;have HO:=Hd h;clear h hok;unfold eG
 by_cases h1:p.state=3∧p.wrong=false
 · rw[if_pos h1];rw[h1.1]at c8;rw[h1.2]at c5;clear HEn HE h1
   go_enter Tryz.func70,Tryz.ntmps70
   go_wp2_with(go_at_call 118;(with_reducible refine HPt.o.mono ?_);rintro e w1 ⟨rfl,hr⟩;have HR:=Hd hr;clear hr)
   go_ret
   exact yQ.ev HR.o
 rw[if_neg h1]
 by_cases h2:p.state=4
 rotate_left
 · rw[if_pos h2];have h1I:¬p.state=3∨p.state=3∧p.wrong=true:=by
    by_cases a1:p.state=3
    · exact .inr ⟨a1,by cases hq:p.wrong with|false=>exact absurd ⟨a1,hq⟩ h1|true=>rfl⟩
    · exact .inl a1
   clear HEn HE HPt h1;rcases h1I with a1|⟨a1,a2⟩
   · go_enter Tryz.func70,Tryz.ntmps70
     go_wp2
     all_goals(go_ret;exact yQ.ev HO.o.res)
   · rw[a1]at c8;rw[a2]at c5;clear a1 a2 h2
     go_enter Tryz.func70,Tryz.ntmps70
     go_wp2
     all_goals(go_ret;exact yQ.ev HO.o.res)
 rw[if_neg (by rw[h2];decide)];rw[h2]at c8;clear h1 h2
 by_cases h3:c=7
 · subst h3;rw[if_pos rfl];clear HPt
   go_enter Tryz.func70,Tryz.ntmps70
   go_wp2_with(first
    |(go_at_call 68;(with_reducible refine HEn.o.mono ?_);rintro e w1 ⟨u,L,rfl,h2,h3⟩;have HX:=Hd h2;have HB1:=Hd h3;have HO1:=Hd (HO.o.below h3);clear h2 h3)
    |(go_at_call 67;(with_reducible refine(HE.o _ _ _ HO1.o rfl _).mono ?_);rintro e w2 ⟨rfl,hr⟩;have HR:=Hd hr;clear hr))
   go_ret
   exact yJ.mk HO.o HB1.o HX.o HR.o
 rw[if_neg h3]
 by_cases h4:32≤c∧c≠127
 · rw[if_pos h4];obtain⟨h5,h6⟩:=h4;have h5':¬c<32:=by omega
   clear HEn HE
   go_enter Tryz.func70,Tryz.ntmps70
   go_wp2_with(go_at_call 118;(with_reducible refine HPt.o.mono ?_);rintro e w1 ⟨rfl,hr⟩;have HR:=Hd hr;clear hr)
   go_ret
   exact yQ.ev HR.o
 · rw[if_neg h4];have h4I:c<32∨32≤c∧c=127:=by omega
   clear HEn HE HPt h4;rcases h4I with a1|⟨a1,rfl⟩
   · go_enter Tryz.func70,Tryz.ntmps70
     go_wp2
     all_goals(go_ret;exact yQ.ev HO.o.res)
   · go_enter Tryz.func70,Tryz.ntmps70
     go_wp2
     all_goals(go_ret;exact yQ.ev HO.o.res)
set_option maxHeartbeats 1600000 in
theorem WN(HW:eH)(h:PzO base w v p)(hok:PzOk p)(c:Int)(hc:0≤c∧c≤255):Calls jG 71 #[.pointer (some ⟨v.P,0,none⟩),.int .u8 c] w (yJ base w v (dO p c)):=by
 have HE:=Hd (eN h 0);have HS:Hid (∀W v' (q:Pz),PzO base W v' q→v'.P=v.P→DkOk q.dec→Calls jG 69 #[.pointer (some ⟨v.P,9,none⟩),.int .u8 c] W (tK v' q (gG q.dec c) W)):=Hd (fun W v' q ho e hd=>by rw[←e];exact xL ho.blk hd c hc);have HPr:Hid (∀(W W':World) (v':Zv) (q:Pz) (u:Value),PzO base W v' q→v'.P=v.P→DkOk q.dec→Qn W' W.heap.size u (gG q.dec c).1→zX W' v' {q with dec:=(gG q.dec c).2}→W.grownBy W' (some v'.P)→Calls jG 65 #[.pointer (some ⟨v.P,0,none⟩),u] W' (yJ base W v' (U6 q c))):=Hd (fun W W' v' q u ho e hd h1 h2 h3=>by rw[←e];exact lS ho (JS hd hc) h1 h2 h3);have HEs:=Hd (VF h hok c);have HSq:=Hd (Qt HW h hok c);obtain⟨-,-,-,-,-,-,-,-,⟨c8,-⟩⟩:=h.blk.facts;have HO:=Hd h;have HD:Hid (DkOk (gV p 0).dec):=Hd hok.dec;clear h hok;unfold dO
 by_cases h1:128≤c
 · rw[if_pos h1];clear HEs HSq
   go_enter Tryz.func71,Tryz.ntmps71
   go_wp2_with(first
    |(go_at_call 67;(with_reducible refine HE.o.mono ?_);rintro e w1 ⟨rfl,hr⟩;obtain⟨v1,hO1,e1,hm1,hx1⟩:=hr.at_;have HO1:=Hd hO1;have HE1:=Hd e1;have HM1:=Hd hm1;have HX1:=Hd hx1;clear hr hO1 e1 hm1 hx1)
    |(go_at_call 69;(with_reducible refine(HS.o _ _ _ HO1.o HE1.o HD.o).mono ?_);rintro e w2 ⟨u,rfl,h1,h2,h3⟩;have H1:=Hd h1;have H2:=Hd h2;have H3:=Hd h3;clear h1 h2 h3)
    |(go_at_call 65;(with_reducible refine(HPr.o _ _ _ _ _ HO1.o HE1.o HD.o H1.o H2.o H3.o).mono ?_);rintro e w3 ⟨u3,L,rfl,h2,h3⟩;have HX:=Hd h2;have HR:=Hd h3;clear h2 h3))
   go_ret
   exact yJ.trans ⟨HE1.o,HM1.o,HX1.o⟩ ⟨u3,L,rfl,HX.o,HR.o⟩
 rw[if_neg h1];clear HE HS HPr;have h1':c<128:=by omega
 by_cases h2:c=127∨(c<32∧p.state=3)
 · rw[if_pos h2];clear HEs HSq;rcases h2 with rfl|⟨a1,a2⟩
   · go_enter Tryz.func71,Tryz.ntmps71
     go_wp2
     all_goals(go_ret;exact yQ.ev HO.o.res)
   · rw[a2]at c8;have a3:¬c=127:=by omega
     clear a2
     go_enter Tryz.func71,Tryz.ntmps71
     go_wp2
     all_goals(go_ret;exact yQ.ev HO.o.res)
 rw[if_neg h2];have a3:¬c=127:=fun e=>h2 (.inl e)
 by_cases h3:c<32
 · rw[if_pos h3];have a4:¬p.state=3:=fun e=>h2 (.inr ⟨h3,e⟩);have a5:(p.state==3)=false:=by simpa using a4
   have a6:(c==127)=false:=by simpa using a3
   have HX:=Hd (ExsO.lit (w:=w) (jD _) (mD w w.heap.size (e:=sL c) rfl));clear HEs HSq h2
   go_enter Tryz.func71,Tryz.ntmps71
   go_wp2
   go_ret
   exact⟨_,_,rfl,HX.o,HO.o.res_below (jH (jU _ _) _)⟩
 rw[if_neg h3];have h3':32≤c:=by omega
 clear h2
 by_cases h4:p.state=1
 · rw[if_pos h4];rw[h4]at c8;clear HSq h4
   go_enter Tryz.func71,Tryz.ntmps71
   go_wp2_with(go_at_call 119;(with_reducible refine HEs.o.mono ?_);rintro e w1 ⟨u,L,rfl,h2,h3⟩;have HX:=Hd h2;have HR:=Hd h3;clear h2 h3)
   go_ret
   exact⟨u,L,rfl,HX.o,HR.o⟩
 · rw[if_neg h4];clear HEs
   go_enter Tryz.func71,Tryz.ntmps71
   go_wp2_with(go_at_call 120;(with_reducible refine HSq.o.mono ?_);rintro e w1 ⟨u,L,rfl,h2,h3⟩;have HX:=Hd h2;have HR:=Hd h3;clear h2 h3)
   go_ret
   exact⟨u,L,rfl,HX.o,HR.o⟩
end
end Go.Proofs.YtaefcahblmopfaaGreatDoor
