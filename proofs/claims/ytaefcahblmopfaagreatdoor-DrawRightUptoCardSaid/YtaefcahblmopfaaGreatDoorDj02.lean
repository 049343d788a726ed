/- Joined by a tool of this claim out of smaller texts. Conditions: as stated. -/
import Derived.Test.YtaefcahblmopfaaGreatDoorDj01
import Derived.Deep.MidRow
import Derived.Laws.IdiomCopy
import Derived.Deep.CutBlock
import Derived.Deep.DeepCutAuto
import Derived.StillTail
import Derived.OwnWalk
set_option linter.unusedVariables false
set_option linter.unusedSimpArgs false
set_option maxRecDepth 100000
open Go.Lib renaming hid → Hd
open List renaming setIfInBounds_toArray → jZ, set_cons_zero → jX, set_cons_succ → jY, getElem?_eq_getElem → jN, getElem?_eq_some_iff → jP, take_succ_eq_append_getElem → kQ, mem_cons → kJ, take_zero → kK, append_assoc → kG, length_set → uV, take_of_length_le → vY, drop_eq_nil_of_le → gU, getElem?_drop → gN
open Go.Proofs.Tryz renaming prog → jG
open Go.RowKit.Below renaming refl → jU
open Nat renaming le_refl → jD, zero_le → kM, zero_add → kP
open Go.World renaming ownsRow → kL
namespace Go.Proofs.YtaefcahblmopfaaGreatDoor
open Go.RowKit
def Zg(r:Int)(x:Int×Int):Bool:=decide (x.1≤r)&&decide (r≤x.2)
theorem lM{l:List (Int×Int)}{r:Int}{k:Nat}{x:Int×Int}(hx:l[k]? =some x):yA (l.take (k+1)) r=(yA (l.take k) r||Zg r x):=by
 have hk:=jP.1 hx;rw[kQ hk.1,hk.2];unfold yA Zg;simp
theorem oY{l:List (Int×Int)}{r:Int}{k:Nat}(h:yA (l.take k) r=true):yA l r=true:=by
 unfold yA at h ⊢;rw[List.any_eq_true]at h ⊢;obtain⟨x,hx,h⟩:=h;exact⟨x,List.mem_of_mem_take hx,h⟩
def IxPost(l:List (Int×Int))(r:Int)(w:World)(e:Ending)(w':World):Prop:=∃n:Int,e=.returned (.int .i64 n)∧decide (0≤n)=yA l r∧Below w.heap.size w w'
set_option maxHeartbeats 1600000 in
theorem Zu(r:Int)(g a:Nat)(l:List (Int×Int))(w:World)(hg:w.cell? ⟨g,0,none⟩=some (.int .i32 r))(hl:pT QE 2 w (some ⟨a,0,none⟩) l)(hz:l.length≤1000):
 Calls jG 375 #[.slice (some ⟨a,0,none⟩) l.length l.length,.func (.func 329) #[] #[.pointer (some ⟨g,0,none⟩)]] w (IxPost l r w):=by
 have HG:=Hd hg;have HL:=Hd hl;clear hg hl
 go_enter Tryz.func375,Tryz.ntmps375
 go_wp2_with fail
 go_loopw [8] (fun s8 wr=>∃k:Nat,k≤l.length∧s8=.int .i64 k∧yA (l.take k) r=false∧Below w.heap.size w wr) (fun s8 _=>l.length-(intOf s8).toNat)
 case atStart=>exact⟨0,kM _,rfl,rfl,jU _ _⟩
 case round=>
  obtain⟨k,hk,rfl,hno,hb⟩:=hrel;have HNO:=Hd hno;have HB:=Hd hb;clear hno hb
  by_cases hlt:k<l.length
  rotate_left
  · have hge:¬(k:Int)<(l.length:Int):=by omega
    go_wp2
    go_ret
    refine⟨-1,rfl,?_,HB.o⟩;have :=HNO.o;rw[vY qJ]at this;rw[this];rfl
  · have hltI:(k:Int)<(l.length:Int):=by omega
    obtain⟨b,off,x,hA,hx,cx⟩:=(HL.o.below HB.o).at_ hlt;simp only[Option.some.injEq,Addr.mk.injEq,and_true]at hA;obtain⟨rfl,rfl⟩:=hA;have c0:wr.cell? ⟨a,k*2,none⟩=some (.int .i32 x.1):=by have :=cx 0 _ rfl;rwa[kP]at this
    have c1:wr.cell? ⟨a,k*2+1,none⟩=some (.int .i32 x.2):=by have :=cx 1 _ rfl;rwa[kP]at this
    have HT:=Hd (lM (r:=r) hx);have HC:=Hd (UC r g x wr (kZ HB.o HG.o));have HO:=Hd (fun h=>oY (l:=l) (r:=r) (k:=k+1) h);cases hp:Zg r x with
    |false=>
     have HP:=Hd hp;have HC2:Hid (Calls jG 329 #[.agg #[.int .i32 x.1,.int .i32 x.2],.pointer (some ⟨g,0,none⟩)] wr fun e w'=>e=.returned (.bool false)∧Below wr.heap.size wr w'):=Hd (HC.o.mono fun e w' ⟨he,hb⟩=>⟨by rw[he];unfold Zg at hp;rw[hp],hb⟩);clear hx cx hp
     go_wp2_with(go_at_call 329;refine HC2.o.mono ?_;rintro e w1 ⟨rfl,hb1⟩)
     go_roundw
     case rel=>exact⟨k+1,by omega,by go_num,by rw[HT.o,HNO.o,HP.o];rfl,jW HB.o hb1⟩
     case measure=>simp[intOf];omega
    |true=>
     have HP:=Hd hp;have HC2:Hid (Calls jG 329 #[.agg #[.int .i32 x.1,.int .i32 x.2],.pointer (some ⟨g,0,none⟩)] wr fun e w'=>e=.returned (.bool true)∧Below wr.heap.size wr w'):=Hd (HC.o.mono fun e w' ⟨he,hb⟩=>⟨by rw[he];unfold Zg at hp;rw[hp],hb⟩);clear hx cx hp
     go_wp2_with(go_at_call 329;refine HC2.o.mono ?_;rintro e w1 ⟨rfl,hb1⟩)
     go_ret
     refine⟨k,rfl,?_,jW HB.o hb1⟩;rw[HO.o (by rw[HT.o,HP.o];simp)];simp
def UI(l:List (Int×Int))(r:Int)(w:World)(e:Ending)(w':World):Prop:=e=.returned (.bool (yA l r))∧Below w.heap.size w w'
theorem Qu(r:Int)(g a:Nat)(l:List (Int×Int))(w:World)(hg:w.cell? ⟨g,0,none⟩=some (.int .i32 r))(hl:pT QE 2 w (some ⟨a,0,none⟩) l)(hz:l.length≤1000):
 Calls jG 328 #[.slice (some ⟨a,0,none⟩) l.length l.length,.func (.func 329) #[] #[.pointer (some ⟨g,0,none⟩)]] w (UI l r w):=by
 have HI:=Hd (Zu r g a l w hg hl hz);clear hg hl
 go_enter Tryz.func328,Tryz.ntmps328
 go_wp2_with(go_at_call 375;refine HI.o.mono ?_;rintro e w1 ⟨n,rfl,hn,hb⟩;have HN:=Hd hn;clear hn)
 go_ret
 exact⟨by rw[HN.o];rfl,hb⟩
theorem KR(r:Int)(a:Nat)(l:List (Int×Int))(w:World)(hl:pT QE 2 w (some ⟨a,0,none⟩) l)(hz:l.length≤1000):
 Calls jG 253 #[.slice (some ⟨a,0,none⟩) l.length l.length,.int .i32 r] w (UI l r w):=by
 have hb0:=jH (jU w.heap.size w) (.cells #[.int .i32 r] 21);have HC:=Hd (Qu r w.heap.size a l _ (at_ (jT rfl) 0 _ rfl).1 (hl.below hb0) hz);have HB0:=Hd hb0;clear hl hb0
 go_enter Tryz.func253,Tryz.ntmps253
 go_wp2_with(go_at_call 328;refine HC.o.mono ?_;rintro e w1 ⟨rfl,hb⟩)
 go_ret
 exact⟨rfl,jW HB0.o hb⟩
set_option maxHeartbeats 1600000 in
theorem cT(r:Int)(w:World):Calls jG 162 #[.int .i32 r] w fun e w'=>e=.returned (.int .i64 (vB r))∧Below w.heap.size w w':=by
 have HN:=Hd (fun w=>WC r w)
 by_cases h0:r<768
 · have hw:=WF h0;rw[hw];clear hw;cases hn:bY r with
   |true=>
    rw[hn]at HN;clear hn
    go_enter Tryz.func162,Tryz.ntmps162
    go_wp2_with(go_at_call 252;refine(HN.o _).mono ?_;rintro e w1 ⟨rfl,rfl⟩)
    go_ret
    exact⟨rfl,jU _ _⟩
   |false=>
    rw[hn]at HN;clear hn
    go_enter Tryz.func162,Tryz.ntmps162
    go_wp2_with(go_at_call 252;refine(HN.o _).mono ?_;rintro e w1 ⟨rfl,rfl⟩)
    go_ret
    exact⟨rfl,jU _ _⟩
 · have HM:=Hd (fun w=>Xk w);have HW:=Hd (fun w=>Xq w);have HA1:=Hd (fun a w hl=>KR r a eS w hl qZ);have HA2:=Hd (fun a w hl=>KR r a eC w hl qZ);unfold vB;unfold UI at HA1 HA2;generalize bY r=b0 at HN;generalize yA eS r=b1 at HA1;generalize yA eC r=b2 at HA2;cases b0<;>cases b1<;>cases b2
   all_goals
    go_enter Tryz.func162,Tryz.ntmps162
    go_wp2_with(first
     |(go_at_call 252;refine(HN.o _).mono ?_;rintro e w1 ⟨rfl,rfl⟩)
     |(go_at_call 254;refine(HM.o _).mono ?_;rintro e w2 ⟨g,rfl,hg,hb2⟩;have HG:=Hd hg;have HB:=Hd hb2;clear hg hb2)
     |(go_at_call 255;refine(HW.o _).mono ?_;rintro e w4 ⟨g2,rfl,hg,hb2⟩;have HG2:=Hd hg;have HB3:=Hd (jW HB2.o hb2);clear hg hb2)
     |(go_at_call 253;first
        |(have hpv:=HB3.o;clear hpv;refine(HA2.o _ _ HG2.o).mono ?_;rintro e w5 ⟨rfl,hb3⟩;have HB4:=Hd (jW HB3.o hb3);clear hb3)
        |(refine(HA1.o _ _ HG.o).mono ?_;rintro e w3 ⟨rfl,hb3⟩;have HB2:=Hd (jW HB.o hb3);clear hb3)))
    go_ret
    exact⟨rfl,by first|exact HB4.o|exact HB2.o|exact jU _ _⟩
theorem VO{w w1:World}{b o n:Nat}(h:w.there b o n)(hb:Below w.heap.size w w1):w1.there b o n:=fun j hj=>by
 obtain⟨h1,h2⟩:=h j hj;obtain⟨u,hu⟩:=Option.isSome_iff_exists.1 h1;have :=iH hb ⟨hu,h2⟩;exact⟨by rw[this.1];rfl,this.2⟩
theorem gW{B:Nat}{W w1:World}(h:Below B W w1){b:Nat}(hb:B≤b):∀(vs:List Value) (o:Nat),Below B W (w1.setCells b o vs)
 |[],o=>h
 |v::vs,o=>by
  rw[World.setCells];exact gW (below_set' h hb v) hb vs (o+1)
where below_set' {B:Nat} {W w1:World} (h:Below B W w1) {b o:Nat} (hb:B≤b) (v:Value):Below B W (w1.setCell ⟨b,o,none⟩ v):=h.setCell (p:=⟨b,o,none⟩) hb v
theorem pW{w:World}{g:Nat}{cs:Array Value}{t:TypeId}(h:w.heap[g]? =some (.cells cs t (0,0))):w.there g 0 cs.size:=fun j hj=>by
 rw[kP];exact⟨by rw[cell_of_row w g j cs t (0,0) h,Array.getElem?_eq_getElem hj];rfl,frozen_of_row w g j cs t h⟩
theorem yM{w w1:World}{b o:Nat}{cs:List Value}(h:w.rangeAt b o cs)(hb:Below w.heap.size w w1):w1.rangeAt b o cs:=fun j v hj=>kZ hb (h j v hj)
section
variable {P:Program}
theorem aF(w:World)(dT sT ty elem:TypeId)(b o dLen dCap:Nat)(a:Addr)(sLen sCap k:Nat)(cs:List Value)(hu:P.underlying dT=some (.slice elem))(hs:(P.info? elem).map (·.size)=some k)(hn:cs.length=Nat.min sLen dLen*k)
 (hsrc:∀j v,cs[j]? =some v→w.cell? (a.add j)=some v) (hc:∀j,j<cs.length→(w.cell? ⟨b,o+j,none⟩).isSome=true) (hf:∀j,j<cs.length→w.frozen? ⟨b,o+j,none⟩=false) (h1:∀v∈cs,v.oneCell'=true):
 (Builtin.copy_ #[dT,sT] ty #[.slice (some ⟨b,o,none⟩) dLen dCap,.slice (some a) sLen sCap]).run P w=.ok (goInt (Nat.min sLen dLen)) (w.setCells b o cs):=by
 have hl:=run_loadCells_list (P:=P) w a cs hsrc;have hst:=run_storeCells_cells (P:=P) b o cs 0 w (by simpa using hc) (by simpa using hf) h1;cases hq:P.info? elem with
 |none=>simp[hq]at hs
 |some i=>
  have hi:i.size=k:=by simpa[hq]using hs
  simp[Builtin.copy_,run_underlying hu,Builtin.lenOf,Builtin.firstCells,sizeOf,typeInfo,hq,hi,←hn,hl,hst]
theorem fL{fn:Func}{p:Tmp}{ty:TypeId}(h:fn.results=#[.cell p ty])(tmps:Array Value)(P:Program)(w:World):
 (results fn tmps).run P w=((asAddr (tmps.getD p undef)).run P w).andThen fun a w₁=>(loadVar ty a).run P w₁:=by
 simp only[results,h];simp[Sem.run_bind,Result.andThen]
end
theorem uF{b:Nat}{t:TypeId}:∀(vs:List Value) (o:Nat) (cs:List Value) (w:World),w.heap[b]? =some (.cells cs.toArray t (0,0))→o+vs.length≤cs.length→(w.setCells b o vs).heap[b]? =some (.cells (cs.take o++(vs++cs.drop (o+vs.length))).toArray t (0,0))
 |[],o,cs,w,h,_=>by simpa[World.setCells]using h
 |v::vs,o,cs,w,h,hl=>by
  rw[List.length_cons]at hl;have h1:=kA h o v rfl;have ih:=uF vs (o+1) (cs.set o v) (w.setCell ⟨b,o,none⟩ v) h1 (by rw[uV];omega);have hlt:o<(cs.set o v).length:=by rw[uV];omega
  rw[kQ hlt,List.getElem_set_self,List.take_set_of_le (jD o),List.drop_set_of_lt qJ,kG]at ih;rw[World.setCells,List.length_cons,show o+(vs.length+1)=o+1+vs.length by omega];exact ih
theorem vN{X:List Nat}{w:World}{g:Nat}(hg:g∈X∨w.heap.size≤g):∀(cs:List Value) (o:Nat) (w1:World),Mod X w w1→Mod X w (w1.setCells g o cs)
 |[],_,_,h=>h
 |v::r,o,_,h=>vN hg r (o+1) _ (h.setCell (a:=⟨g,o,none⟩) hg v)
theorem cA{w:World}{base g:Nat}{e:TypeId}{size n cap:Nat}{xs:List Value}(h:w.ownsRow base e size (.slice (some ⟨g,0,none⟩) n cap) n xs)(o:Nat)(v:Value):
 (w.setCell ⟨g,o,none⟩ v).ownsRow base e size (.slice (some ⟨g,0,none⟩) n cap) n (xs.set o v):=by
 obtain⟨h1,h2|⟨g',cap',cur,hv,e2,e3,e4,e5,e6,e7⟩⟩:=h
 · exact absurd h2.1 qV
 · simp only[Value.slice.injEq,Option.some.injEq,Addr.mk.injEq,and_true,true_and]at hv;obtain⟨rfl,rfl⟩:=hv;refine⟨by simpa using h1,.inr ⟨g,cap,cur.setIfInBounds o v,rfl,e2,vR e3,e4,e5,by simpa using e6,?_⟩⟩;rw[←e7,Array.toList_setIfInBounds];rw[List.take_set]
theorem gS{w:World}{base g:Nat}{e:TypeId}{size n cap:Nat}{xs:List Value}(h:w.ownsRow base e size (.slice (some ⟨g,0,none⟩) n cap) n xs){i:Nat}{v:Value}(hi:xs[i]? =some v):nV w g i v:=by
 obtain⟨-,h2|⟨g',cap',cur,hv,-,e3,-,-,-,e7⟩⟩:=h
 · exact absurd h2.1 qV
 · simp only[Value.slice.injEq,Option.some.injEq,Addr.mk.injEq,and_true,true_and]at hv;obtain⟨rfl,rfl⟩:=hv;refine at_ e3 i v ?_;rw[←e7,List.getElem?_take]at hi
   split at hi
   · simpa using hi
   · cases hi
theorem cO{α:Type}{enc:α→List Value}{K:Nat}(hl:∀x,(enc x).length=K):∀(X:List α) (k:Nat) (x x':α) (j:Nat) (v:Value),X[k]? =some x→j<K→(enc x).set j v=enc x'→(uM enc X).set (k*K+j) v=uM enc (X.set k x')
 |[],k,x,x',j,v,h,_,_=>by simp at h
 |y::X,0,x,x',j,v,h,hj,he=>by
  obtain rfl:y=x:=by simpa using h
  have e:uM enc (y::X)=enc y++uM enc X:=rfl;have e2:uM enc ((y::X).set 0 x')=enc x'++uM enc X:=rfl;rw[e,e2,Nat.zero_mul,kP,List.set_append_left _ _ (by rw[hl];exact hj),he]
 |y::X,k+1,x,x',j,v,h,hj,he=>by
  have e:uM enc (y::X)=enc y++uM enc X:=rfl;have e2:uM enc ((y::X).set (k+1) x')=enc y++uM enc (X.set k x'):=rfl;rw[e,e2,List.set_append_right _ _ qZv,hl,show(k+1)*K+j-K=k*K+j by rw[Nat.add_mul];omega,cO hl X k x x' j v qD hj he]
theorem dJ{base g:Nat}{e:TypeId}{size n cap:Nat}:∀(vs:List Value) (o:Nat) (xs:List Value) (w:World),w.ownsRow base e size (.slice (some ⟨g,0,none⟩) n cap) n xs→o+vs.length≤xs.length→
 (w.setCells g o vs).ownsRow base e size (.slice (some ⟨g,0,none⟩) n cap) n (xs.take o++(vs++xs.drop (o+vs.length)))
 |[],o,xs,w,h,_=>by simpa[World.setCells]using h
 |v::vs,o,xs,w,h,hl=>by
  rw[List.length_cons]at hl;have h1:=cA h o v;have ih:=dJ vs (o+1) (xs.set o v) (w.setCell ⟨g,o,none⟩ v) h1 (by rw[uV];omega);have e1:(xs.set o v).take (o+1)=xs.take o++[v]:=by
   rw[kQ (by rw[uV];omega),List.getElem_set_self,List.take_set_of_le (jD _)]
  have e2:(xs.set o v).drop (o+1+vs.length)=xs.drop (o+(v::vs).length):=by
   rw[List.drop_set_of_lt qJ,List.length_cons,show o+1+vs.length=o+(vs.length+1) by omega]
  rw[e1,e2,kG]at ih;exact ih
theorem vK{P:Program}{ops:Array Oper}{rest:List Oper}{op:Oper}{a:Act}{w:World}{Q:Exit→Act→World→Prop}(hw:Region.wanted op (yielded ops a.tmps)=true)(ty:TypeId)(x:Operand)(ho:op.op=.load ty x)
 (b o:Nat) (hx:a.eval x=.pointer (some ⟨b,o,none⟩)) (cs:List Value) (d:TypeDesc) (hc:w.rangeAt b o cs)
 (hu:P.underlying ty=some d) (hd:d.isRow=true) (hi:(P.info? ty).map (·.size)=some cs.length)
 (h:wpList P ops Q rest (a.put op.dst (.agg cs.toArray)) w):wpList P ops Q (op::rest) a w:=by
 unfold wpList;rw[if_pos hw];exact .inl (wp_load_mid ty x ho b o hx cs d hc hu hd hi h)
def kV(c:Cl):List Value:=[.int .i32 c.r,.string c.more,.int .i64 c.half,.int .i64 c.fk,.int .i64 c.fn,.int .i64 c.bk,.int .i64 c.bn,.int .i64 c.fl]
theorem vQ:∀c,(kV c).length=8:=fun _=>rfl
theorem yZ:∀c,∀v∈kV c,v.oneCell'=true:=fun c v hv=>by
 simp only[kV,kJ,List.not_mem_nil,or_false]at hv;rcases hv with rfl|rfl|rfl|rfl|rfl|rfl|rfl|rfl<;>rfl
theorem uP:(jG.info? 65).map (·.size)=some 8:=by kernel_rfl
theorem zV(c:Cl):(kV c).toArray.all (·.oneCell')=true:=all_oneCell_toArray (yZ c)
theorem Vr{fn:Func}{p:Tmp}(hr:fn.results=#[.cell p 65])(tmps:Array Value)(w:World)(b:Nat)(c:Cl)(hp:tmps.getD p undef=.pointer (some ⟨b,0,none⟩))(h:w.rangeAt b 0 (kV c)):
 (results fn tmps).run jG w=.ok (clV c) w:=by
 rw[fL hr,hp];have :=run_loadVar_mid (P:=jG) w b 0 65 (kV c) _ h Tryz.underlying65 rfl uP;simp only[asAddr,Sem.run_pure,Result.andThen_ok,this];rfl
theorem uH{w:World}{g:Nat}{cs:List Value}{t:TypeId}(h:w.heap[g]? =some (.cells cs.toArray t (0,0))):w.rangeAt g 0 cs:=fun j v hj=>by rw[kP];exact(uS h j v hj).1
def XA(c:Cl)(w:World)(e:Ending)(w':World):Prop:=e=.returned (clV c)∧Below w.heap.size w w'
set_option maxHeartbeats 1600000 in
theorem Qg(a:Atr)(w:World):Calls jG 263 #[.agg #[.int .i64 a.fk,.int .i64 a.fn,.int .i64 a.bk,.int .i64 a.bn,.int .i64 a.fl]] w (XA (gC a) w):=by
 go_enter Tryz.func263,Tryz.ntmps263
 go_wp2
 exact bodyPost_ret (Vr rfl _ _ (w.heap.size+1) (gC a) rfl (uH (jT qV))) rfl ⟨rfl,jH (jH (jU _ _) _) _⟩
set_option maxHeartbeats 1600000 in
theorem Qy(b:Col)(w:World):Calls jG 335 #[.agg #[.int .i64 b.k,.int .i64 b.n]] w (XA (pY b) w):=by
 have HE:=Hd (fun w=>Qg ⟨0,0,b.k,b.n,0⟩ w);have HB0:=Hd (jH (jH (jU w.heap.size w) (.cells #[.int .i64 b.k,.int .i64 b.n] 61)) (.cells (kV (gC ⟨0,0,0,0,0⟩)).toArray 65));have HT0:=Hd (pW (cs:=(kV (gC ⟨0,0,0,0,0⟩)).toArray) (w:=(w.alloc (.cells #[.int .i64 b.k,.int .i64 b.n] 61)).alloc (.cells (kV (gC ⟨0,0,0,0,0⟩)).toArray 65)) (g:=w.heap.size+1) (jT qV))
 go_enter Tryz.func335,Tryz.ntmps335
 go_wp2_with(first
  |(go_at_call 263;refine(HE.o _).mono ?_;rintro e w1 ⟨rfl,hb⟩;have HB1:=Hd hb;clear hb;have HT1:=Hd (VO HT0.o HB1.o))
  |(refine wpList_store_mid (op:=⟨none,.store 65 (.tmp 2) (.tmp 5),_,_,_,_⟩) rfl 65 (.tmp 2) (.tmp 5) rfl (w.heap.size+1) 0 (kV (pY b)).toArray rfl rfl HT1.o uP (zV (pY b)) ?_))
 exact bodyPost_ret (Vr rfl _ _ (w.heap.size+1) (pY b) rfl (World.rangeAt_setCells_same _ _ _ _ HT1.o)) rfl ⟨rfl,gW (jW HB0.o HB1.o) qJ _ _⟩
def wW(a b:Cl):Bool:=decide (a.half=1)&&decide (a={b with half:=1})
set_option maxHeartbeats 1600000 in
theorem qQb(a b:Cl)(w:World):Calls jG 262 #[clV a,clV b] w fun e w'=>e=.returned (.bool (wW a b))∧Below w.heap.size w w':=by
 unfold clV;have HB2:=Hd (jH (jH (jU w.heap.size w) (.cells (kV a).toArray 65)) (.cells (kV {b with half:=1}).toArray 65));have HA2:=Hd (show((w.alloc (.cells (kV a).toArray 65)).alloc (.cells (kV {b with half:=1}).toArray 65)).heap[w.heap.size]? =some (.cells (kV a).toArray 65 (0,0))from vJ (jT rfl));have HC2:=Hd (show((w.alloc (.cells (kV a).toArray 65)).alloc (.cells (kV {b with half:=1}).toArray 65)).heap[w.heap.size+1]? =some (.cells (kV {b with half:=1}).toArray 65 (0,0))from jT qV)
 by_cases h:a.half=1
 · have hv:wW a b=decide (a={b with half:=1}):=by unfold wW;rw[h];simp
   rw[hv];clear hv;obtain⟨ar,am,ah,a1,a2,a3,a4,a5⟩:=a;obtain rfl:ah=1:=h
   go_enter Tryz.func262,Tryz.ntmps262
   go_upto_region 2 with fail
   refine wp_region_lit ?_;refine jB (.pointer (some ⟨w.heap.size,2,none⟩)) qK qX ?_;simp only[Act.put,jZ,jX,jY];refine jB (.int .i64 1) qK qX ?_;simp only[Act.put,jZ,jX,jY];refine jB (.bool true) qK qX ?_;simp only[Act.put,jZ,jX,jY];refine jB (.bool true) qK qK ?_;simp only[Act.put,jZ,jX,jY];refine vK qK 65 (.tmp 2) rfl w.heap.size 0 rfl (kV ⟨ar,am,1,a1,a2,a3,a4,a5⟩) _ (uH HA2.o) Tryz.underlying65 rfl uP ?_;simp only[Act.put,jZ,jX,jY];refine vK qK 65 (.tmp 3) rfl (w.heap.size+1) 0 rfl (kV {b with half:=1}) _ (uH HC2.o) Tryz.underlying65 rfl uP ?_;simp only[Act.put,jZ,jX,jY];refine jB (.bool (decide ((⟨ar,am,1,a1,a2,a3,a4,a5⟩:Cl)={b with half:=1}))) qK (JG _ _ _ _ _ _ (.tmp 10) (.tmp 11) ⟨ar,am,1,a1,a2,a3,a4,a5⟩ {b with half:=1} rfl rfl _) ?_;simp only[Act.put,jZ,jX,jY];generalize hD:decide ((⟨ar,am,1,a1,a2,a3,a4,a5⟩:Cl)={b with half:=1})=D;have HD:=Hd hD;clear hD
   go_wp2
   go_ret
   exact⟨by rw[←HD.o];rfl,HB2.o⟩
 · have hv:wW a b=false:=by unfold wW;simp[h]
   rw[hv];have h1:(a.half==1)=false:=beq_eq_false_iff_ne.2 h;clear hv
   go_enter Tryz.func262,Tryz.ntmps262
   go_wp2
   go_ret
   exact⟨rfl,HB2.o⟩
theorem Ud(c d:Cl):yE c d=(wW c d&&decide (d.half=2)):=by
 unfold yE wW;cases decide (c.half=1)<;>cases decide (d.half=2)<;>cases decide (c={d with half:=1})<;>rfl
theorem rJ{c d:Cl}(h:yE c d=true)(l:List Cl):uJ (c::d::l)=c::d::uJ l:=by
 have h0:¬c.half=0:=fun e=>by unfold yE at h;simp[e]at h
 rw[bC,if_neg h0,if_pos h]
theorem zS{c:Cl}{l:List Cl}(h0:¬c.half=0)(h3:¬(c.half=3∧l=[]))(hp:∀d m,l=d::m→yE c d=false):uJ (c::l)=kR c::uJ l:=by
 match l with
 |[]=>rw[cE,if_neg (fun h=>h.elim h0 (fun h=>h3 ⟨h,rfl⟩))];rfl
 |d::m=>rw[bC,if_neg h0,hp d m rfl];rfl
theorem Jh{c:Cl}(h:c.half=3):uJ [c]=[c]:=by rw[cE,if_pos (.inr h)]
def CrO(w:World)(base g cap:Nat)(l:List Cl):Prop:=w.ownsRow base 65 8 (.slice (some ⟨g,0,none⟩) l.length cap) l.length (uM kV l)
theorem CrO.mod{w w':World}{base g cap:Nat}{l:List Cl}{X:List Nat}(h:CrO w base g cap l)(hm:Mod X w w')(hX:g∉X):CrO w' base g cap l:=kD h hm (fun k hk=>by simp[Value.ownBlock]at hk;rw[←hk];exact hX)
theorem CrO.below{w w':World}{base g cap:Nat}{l:List Cl}(h:CrO w base g cap l)(hb:Below w.heap.size w w'):CrO w' base g cap l:=h.mod (Mod.of_below (X:=[]) hb) (fun h=>by cases h)
theorem CrO.lt{w:World}{base g cap:Nat}{l:List Cl}(h:CrO w base g cap l):base≤g∧g<w.heap.size:=kL.lt h g rfl
theorem CrO.range{w:World}{base g cap:Nat}{l:List Cl}(h:CrO w base g cap l){i:Nat}{c:Cl}(hc:l[i]? =some c):w.rangeAt g (i*8) (kV c):=fun j v hj=>by
 have hj8:j<8:=by have :=(jP.1 hj).1;rwa[vQ]at this
 exact(gS h (i:=i*8+j) (v:=v) (by rw[yN vQ l i c j hc hj8];exact hj)).1
theorem CrO.there{w:World}{base g cap:Nat}{l:List Cl}(h:CrO w base g cap l){i:Nat}(hi:i<l.length):w.there g (i*8) 8:=fun j hj=>by
 obtain⟨c,hc⟩:∃c,l[i]? =some c:=⟨l[i],jN hi⟩;obtain⟨v,hv⟩:∃v,(kV c)[j]? =some v:=⟨_,jN (by rw[vQ];exact hj)⟩;have :=gS h (i:=i*8+j) (v:=v) (by rw[yN vQ l i c j hc hj];exact hv);exact⟨by rw[this.1];rfl,this.2⟩
theorem CrO.set{w:World}{base g cap:Nat}{l:List Cl}(h:CrO w base g cap l){i:Nat}(hi:i<l.length)(c:Cl):CrO (w.setCells g (i*8) (kV c)) base g cap (l.set i c)∧Mod [g] w (w.setCells g (i*8) (kV c)):=by
 refine⟨?_,vN (.inl qV) _ _ _ (Mod.refl _ _)⟩;have h1:=dJ (kV c) (i*8) (uM kV l) w h (by rw[pM vQ,vQ];omega);unfold CrO;rw[uV];have e:(uM kV l).take (i*8)++(kV c++(uM kV l).drop (i*8+(kV c).length))=uM kV (l.set i c):=by
  rw[vQ];clear h h1
  induction l generalizing i with
  |nil=>simp at hi
  |cons x l ih=>
   have e:uM kV (x::l)=kV x++uM kV l:=rfl
   match i with
   |0=>
    have e2:uM kV ((x::l).set 0 c)=kV c++uM kV l:=rfl;rw[e,e2,Nat.zero_mul,kK,List.nil_append,kP,List.drop_left' (vQ x)]
   |i+1=>
    have e2:uM kV ((x::l).set (i+1) c)=kV x++uM kV (l.set i c):=rfl;rw[e,e2,←ih (by simpa using hi),Nat.add_mul,Nat.one_mul];rw[List.take_append,List.drop_append,vQ,vY (by rw[vQ];omega),gU (by rw[vQ];omega)];rw[show i*8+8-8=i*8 by omega,show i*8+8+8-8=i*8+8 by omega,List.nil_append,kG]
 rw[e]at h1;exact h1
end Go.Proofs.YtaefcahblmopfaaGreatDoor
namespace Go
section
variable {P:Program}{ops:Array Oper}{md:Region.Mode}{S:World→Prop}
def pL(n:Nat)(dst:Option Tmp)(u v:Value):Prop:=∀a:Act,a.tmps.size=n→a.put dst u=a.put dst v
theorem pL.rfl'{n:Nat}{dst:Option Tmp}{v:Value}:pL n dst v v:=fun _ _=>rfl
def upU(P:Program)(S:World→Prop)(n:Nat)(dst:Option Tmp)(v:Value):Result Next→Prop
 | .ok (.value u) w'=>pL n dst u v∧S w'
 | .ok .skip w'=>pL n dst undef v∧S w'
 | .ok (.enter f args) w'=>Calls P f args w' fun e w''=>match e with
    | .returned u=>pL n dst u v∧S w''
    |_=>False
 | .ok (.row row args) w'=>Rows P row args w' fun u w''=>pL n dst u v∧S w''
 |_=>False
def nJ(P:Program)(ops:Array Oper)(S:World→Prop)(o:Oper)(v:Value)(a:Act):Prop:=
 (Region.wanted o (yielded ops a.tmps)=true∧∀w,S w→upU P S a.tmps.size o.dst v ((execOp a.eval o).run P w))∨
 (Region.wanted o (yielded ops a.tmps)=false∧v=undef)
theorem nJ.of_same{o:Oper}{v:Value}{a a':Act}(hy:nJ P ops S o v a)(he:execOp a'.eval o=execOp a.eval o)
 (hw:Region.wanted o (yielded ops a'.tmps)=Region.wanted o (yielded ops a.tmps)) (hs:a'.tmps.size=a.tmps.size):nJ P ops S o v a':=by
 unfold nJ at *;rw[he,hw,hs];exact hy
theorem Act.put_size(a:Act)(dst:Option Tmp)(v:Value):(a.put dst v).tmps.size=a.tmps.size:=by
 cases dst<;>simp[Act.put]
theorem nJ.wpOp{Q:Exit→Act→World→Prop}{i:Nat}{o:Oper}{v:Value}{a:Act}(hi:ops[i]? =some o)(hy:nJ P ops S o v a)
 {K:Act→World→Prop} {w:World} (hS:S w) (h:∀w',S w'→K (a.put o.dst v) w'):wpOp P ops Q i K a w:=by
 unfold Go.wpOp;simp only[hi];rcases hy with⟨hw,hv⟩|⟨hw,rfl⟩
 · simp only[hw,if_true,Oper.wp];refine .inl ?_;have hv:=hv w hS;generalize (execOp a.eval o).run P w=r at *;cases r with
   |ok n w'=>
    cases n<;>simp only[upU,Oper.upon]at hv ⊢
    case value u=>rw[hv.1 a rfl];exact h _ hv.2
    case skip=>rw[hv.1 a rfl];exact h _ hv.2
    case enter f args=>
     refine Calls.mono hv fun e w'' he=>?_;cases e with
     |returned u=>simp only at he ⊢;rw[he.1 a rfl];exact h _ he.2
     |panicked c=>exact he.elim
     |outgrown=>exact he.elim
    case row row args=>exact Rows.mono hv fun u w'' he=>(by rw[he.1 a rfl];exact h _ he.2)
   |halt x w'=>exact hv.elim
 · simp only[hw,Bool.false_eq_true,if_false];exact h _ hS
def xS(P:Program)(md:Region.Mode)(ops:Array Oper)(S:World→Prop)(n:Nat)(L:Array Bool→Act→Prop):Nat→Array Bool→Act→Prop
 |0,listed,a=>L listed a
 |f+1,listed,a=>
  Region.ready md ops listed≠[]∧∀i∈Region.ready md ops listed,i<n∧∃o v,ops[i]? =some o∧nJ P ops S o v a∧xS P md ops S n L f (listed.setIfInBounds i true) (a.put o.dst v)
theorem lT{n g:Nat}{L:Array Bool→Act→Prop}{Q':Exit→Act→World→Prop}(hL:∀listed a,L listed a→∀w,S w→wpAny P md ops Q' g listed a w):
 ∀(f:Nat) (listed:Array Bool) (a:Act),xS P md ops S n L f listed a→∀w,S w→wpAny P md ops Q' (f+g) listed a w
 |0,listed,a,h,w,hS=>by rw[kP];exact hL _ _ h w hS
 |f+1,listed,a,h,w,hS=>by
  rw[show f+1+g=(f+g)+1 by omega];refine⟨fun h0=>absurd h0 h.1,fun i hi=>?_⟩;obtain⟨_,o,v,ho,hy,hr⟩:=h.2 i hi;exact hy.wpOp ho hS (fun w' hS'=>lT hL f _ _ hr w' hS')
theorem oM{n i:Nat}{oi:Oper}{v:Value}{L:Array Bool→Act→Prop}(hi:ops[i]? =some oi)(hsel:∀(j:Nat) (o:Oper) cs b,ops[j]? =some o→o.op≠ .select cs b)
 (hs:Region.sinkB md ops n=true) (hc:Region.chainB md ops n=true) (hn:n<ops.size) (hin:i<n)
 (hdone:∀listed a,L listed a→∀j∈Region.ready md ops listed,n≤j):
 ∀(f:Nat) (listed:Array Bool) (a:Act),HeadInv md ops n listed→
  (∀j oj,ops[j]? =some oj→j≠i→listed.getD j true=false→(∀e∈oj.after,Region.binds md e=true→e.on≠i)→oi.apart ops oj=true)→
  i∈Region.ready md ops listed→nJ P ops S oi v a→
  xS P md ops S n L f (listed.setIfInBounds i true) (a.put oi.dst v)→xS P md ops S n L (f+1) listed a:=by
 intro f
 induction f with
 |zero=>
  intro listed a inv _ hr hy H;have hun:=(mem_ready.1 hr).1;refine⟨fun h=>qZg,fun j hj=>?_⟩;have hjn:j<n:=by
   rcases Nat.lt_or_ge j n with h|h
   · exact h
   · exact qXd
  refine⟨hjn,?_⟩
  by_cases hji:j=i
  · subst hji;exact⟨oi,v,hi,hy,H⟩
  · have :=hdone _ _ H j (ready_mono hj hji);omega
 |succ f ih=>
  intro listed a inv hfree hr hy H;have hun:=(mem_ready.1 hr).1;refine⟨fun h=>qZg,fun j hj=>?_⟩;have hjn:j<n:=by
   rcases Nat.lt_or_ge j n with h|h
   · exact h
   · exact qXd
  refine⟨hjn,?_⟩
  by_cases hji:j=i
  · subst hji;exact⟨oi,v,hi,hy,H⟩
  · obtain⟨_,oj',u,hoj',hyj,Hj⟩:=H.2 j (ready_mono hj hji);obtain⟨hjun,oj,hoj,hall⟩:=mem_ready.1 hj;obtain rfl:oj'=oj:=Option.some.inj (hoj'.symm.trans hoj);have hnot:∀e∈oj'.after,Region.binds md e=true→e.on≠i:=fun e he hb heq=>by
     have h1:=hall e he hb;rw[heq,getD_both hun]at h1;cases h1
    obtain⟨h1,h2,h3⟩:=Oper.apart_spec (hfree j oj' hoj hji hjun hnot);have hsi:=fun cs b=>hsel i oi cs b hi;have hsj:=fun cs b=>hsel j oj' cs b hoj;have hyj':nJ P ops S oj' u a:=hyj.of_same (execOp_put oj' hsj a oi.dst v h1).symm (wanted_put oj' a oi.dst v h1).symm (Act.put_size _ _ _).symm;have hyi':nJ P ops S oi v (a.put oj'.dst u):=hy.of_same (execOp_put oi hsi a oj'.dst u h3) (wanted_put oi a oj'.dst u h3) (Act.put_size _ _ _);have hfree':∀k ok,ops[k]? =some ok→k≠i→(listed.setIfInBounds j true).getD k true=false→
     (∀e∈ok.after,Region.binds md e=true→e.on≠i)→oi.apart ops ok=true:=fun k ok hk hki hun hno=>by
     refine hfree k ok hk hki ?_ hno
     by_cases hjk:j=k
     · subst hjk;exact hjun
     · rw[getD_set_ne true hjk]at hun;exact hun
    refine⟨oj',u,hoj,hyj',ih (listed.setIfInBounds j true) _ (inv.set hj hjn) hfree' (ready_mono hr (Ne.symm hji)) hyi' ?_⟩;rw[Array.setIfInBounds_comm _ _ hji,←Act.put_comm a v u h2];exact Hj
def JQ(P:Program)(ops:Array Oper)(S:World→Prop)(Lq:Act→Prop):List Oper→Act→Prop
 |[],a=>Lq a
 |o::l,a=>∃v,nJ P ops S o v a∧JQ P ops S Lq l (a.put o.dst v)
theorem VL{n g:Nat}{Lq:Act→Prop}(hsel:Region.noSelect ops=true)(hs:Region.sinkB md ops n=true)(hc:Region.chainB md ops n=true)(hn:n<ops.size):
 ∀(l:List Oper) (k:Nat) (listed:Array Bool) (a:Act),(∀j,j<l.length→l[j]? =ops[k+j]?)→k+l.length=n→HeadInv md ops n listed→
 Region.lexHead md ops g l.length k listed=true→JQ P ops S Lq l a→
 xS P md ops S n (fun listed' a'=>Region.seqB md ops g n listed'=true∧Lq a') l.length listed a
 |[],k,listed,a,_,hk,_,hB,h=>by
  have :k=n:=by simpa using hk
  subst this;exact⟨by simpa[Region.lexHead]using hB,h⟩
 |o::l,k,listed,a,hl,hk,inv,hB,h=>by
  have h0:ops[k]? =some o:=by simpa using(hl 0 qV).symm
  simp only[List.length_cons,Region.lexHead,Bool.and_eq_true]at hB;obtain⟨⟨hr,hf⟩,hB'⟩:=hB;have hkn:k<n:=by simp only[List.length_cons]at hk;omega
  have hr':k∈Region.ready md ops listed:=by simpa using hr
  obtain⟨v,hy,hK⟩:=h;exact oM h0 (Region.noSelect_spec hsel) hs hc hn hkn (fun listed' a' hL=>seqB_ready hL.1) l.length listed a inv (Region.free_spec h0 hf) hr' hy
   (VL hsel hs hc hn l (k+1) _ _ (fun j hj=>by have :=hl (j+1) qY;simpa[Nat.add_assoc,Nat.add_comm 1 j]using this) (by simp only[List.length_cons]at hk;omega) (inv.set hr' hkn) hB' hK)
theorem kW{id:Nat}{Q:Exit→Act→World→Prop}{a:Act}{w:World}{l:List Oper}(n:Nat)(S:World→Prop)(hm:P.follows .mixedOrders=true)(hB:Region.lexTailB .any l.toArray n=true)
 (hS:S w.drew) (h:JQ P l.toArray S (fun a'=>∀w',S w'→wpList P l.toArray Q (l.drop n) a' w') (l.take n) a):(Code.region id l.toArray true).wp P Q a w:=by
 simp only[Region.lexTailB,Bool.and_eq_true,decide_eq_true_eq]at hB;obtain⟨⟨⟨⟨hsel,hn⟩,hs⟩,hc⟩,hlex⟩:=hB;have htl:(l.take n).length=n:=by
  have hn':n<l.length:=by simpa using hn
  simp;omega
 have hdl:(l.drop n).length=l.toArray.size-n:=by simp
 have inv0:HeadInv .any l.toArray n (Array.replicate l.toArray.size false):=
  ⟨by simp,fun j oj _ hl=>qZs,fun t _ ht=>getD_in (by simpa using ht) (getD_replicate_false _ _)⟩
 have H:=VL (md:=.any) (g:=l.toArray.size-n) hsel hs hc hn (l.take n) 0 _ a (fun j hj=>by
  have hj':j<n:=by rw[htl]at hj;exact hj
  simp[hj']) (by simpa using htl) inv0 (by rw[htl];exact hlex) h
 refine wp_region_any hm ?_;have :=lT (Q':=Q) (g:=l.toArray.size-n) (fun listed a' hL w' hS'=>by
  have :=wpAny_of_seq (md:=.any) (Q':=Q) (l.drop n) n listed a' w' (fun j=>by simp[gN]) (by rw[hdl];exact hL.1) (hL.2 w' hS')
  rwa[hdl]at this) _ _ _ H w.drew hS
 rw[htl,show n+(l.toArray.size-n)=l.toArray.size by simp at hn;simp;omega]at this;exact this
variable {Lq:Act→Prop}
theorem kE{a:Act}(h:Lq a):JQ P ops S Lq [] a:=h
theorem kF{o:Oper}{l:List Oper}{a:Act}(hw:Region.wanted o (yielded ops a.tmps)=false)(hr:JQ P ops S Lq l (a.put o.dst undef)):JQ P ops S Lq (o::l) a:=
 ⟨undef,.inr ⟨hw,rfl⟩,hr⟩
theorem kT{o:Oper}{l:List Oper}{a:Act}(v:Value)(hw:Region.wanted o (yielded ops a.tmps)=true)(h:∀w,S w→(execOp a.eval o).run P w=.ok (.value v) w)
 (hr:JQ P ops S Lq l (a.put o.dst v)):JQ P ops S Lq (o::l) a:=
 ⟨v,.inl ⟨hw,fun w hS=>by rw[h w hS];exact⟨pL.rfl',hS⟩⟩,hr⟩
theorem uO{o:Oper}{l:List Oper}{a:Act}(f:FuncId)(args:Array Value)(v:Value)(hw:Region.wanted o (yielded ops a.tmps)=true)(h:∀w,(execOp a.eval o).run P w=.ok (.enter f args) w)
 (hc:∀w,S w→Calls P f args w fun e w'=>e=.returned v∧S w')
 (hr:JQ P ops S Lq l (a.put o.dst v)):JQ P ops S Lq (o::l) a:=
 ⟨v,.inl ⟨hw,fun w hS=>by
  rw[h w];refine(hc w hS).mono fun e w' he=>?_;rw[he.1];exact⟨pL.rfl',he.2⟩⟩,hr⟩
end
end Go
