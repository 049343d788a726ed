/- Joined by a tool of this claim out of smaller texts. Conditions: as stated. -/
import Derived.Test.YtaefcahblmopfaaGreatDoorDg01
import Derived.Lib.SlicesCompact
import Derived.Laws.ResultCell
import Derived.Deep.MidRow
import Derived.Tactics
import Derived.Laws.IdiomCopy
import Derived.Deep.CutBlock
import Derived.Deep.DeepCutAuto
import Derived.StillTail
import Derived.OwnWalk
set_option linter.unusedVariables false
set_option linter.unusedSimpArgs false
set_option maxRecDepth 100000
open Go.Lib renaming hid → Hd
open List renaming setIfInBounds_toArray → jZ, set_cons_zero → jX, set_cons_succ → jY, getElem?_eq_getElem → jN, getElem?_eq_some_iff → jP, mem_cons → kJ, take_zero → kK, take_succ_eq_append_getElem → kY, append_assoc → kG, getElem?_append_right → kT, length_set → kI, getElem?_append_left → uM, take_of_length_le → vV, getElem?_drop → gH, drop_eq_nil_of_le → gN
open Go.Proofs.Tryz renaming prog → jG
open Go.RowKit.Below renaming refl → jU
open Nat renaming le_refl → jD, le_trans → jI, zero_le → kB, zero_add → kP
open Go.World renaming ownsRow → kR, setCell → uB
namespace Go.Proofs.YtaefcahblmopfaaGreatDoor
open Go.RowKit
structure Mod(X:List Nat)(w w':World):Prop where
 os:w'.os=w.os
 tape:w'.tape=w.tape
 output:w'.output=w.output
 size:w.heap.size≤w'.heap.size
 block:∀k,k<w.heap.size→k∉X→w'.heap[k]? =w.heap[k]?
theorem Mod.refl(X:List Nat)(w:World):Mod X w w:=⟨rfl,rfl,rfl,jD _,fun _ _ _=>rfl⟩
theorem Mod.trans{X Y:List Nat}{a b c:World}(h:Mod X a b)(k:Mod Y b c)(hY:∀g∈Y,g∈X∨a.heap.size≤g):Mod X a c:=
 ⟨k.os.trans h.os,k.tape.trans h.tape,k.output.trans h.output,jI h.size k.size,fun i hi hx=>(k.block i (Nat.lt_of_lt_of_le hi h.size) (fun hy=>by
  rcases hY i hy with h1|h1
  · exact hx h1
  · omega)).trans (h.block i hi hx)⟩
theorem Mod.of_below{X:List Nat}{w w':World}(h:Below w.heap.size w w'):Mod X w w':=⟨h.os,h.tape,h.output,h.size,fun k hk _=>h.block k hk⟩
theorem Mod.below{X:List Nat}{w w':World}{B:Nat}(h:Mod X w w')(hX:∀g∈X,B≤g)(hB:B≤w.heap.size):Below B w w':=⟨h.os,h.tape,h.output,h.size,fun k hk=>h.block k qJ (fun hx=>by have :=hX k hx;omega)⟩
theorem Mod.mono{X Y:List Nat}{w w':World}(h:Mod X w w')(hXY:∀g∈X,g∈Y):Mod Y w w':=⟨h.os,h.tape,h.output,h.size,fun k hk hy=>h.block k hk (fun hx=>hy (hXY k hx))⟩
theorem Mod.then_below{X:List Nat}{a b c:World}(h:Mod X a b)(k:Below b.heap.size b c):Mod X a c:=h.trans (Mod.of_below (X:=[]) k) (fun g hg=>by cases hg)
theorem Mod.of_grown{X:List Nat}{w w':World}{row:Option Nat}(h:w.grownBy w' row)(hX:∀g,row=some g→g∈X):Mod X w w':=
 ⟨h.os,h.tape,h.output,h.size,fun k hk hx=>h.block k hk (fun e=>hx (hX k e.symm))⟩
theorem Mod.setCell{X:List Nat}{w w1:World}(h:Mod X w w1){a:Addr}(ha:a.block∈X∨w.heap.size≤a.block)(v:Value):Mod X w (w1.setCell a v):=
 ⟨h.os,h.tape,h.output,by simpa[uB]using h.size,fun k hk hx=>by
  rw[Below.heap_setCell _ _ _ _ (fun e=>by subst e;rcases ha with h1|h1;exact hx h1;omega)];exact h.block k hk hx⟩
theorem Mod.cell{X:List Nat}{w w1:World}(h:Mod X w w1){b o:Nat}{v:Value}(hb:b∉X)(hc:w.cell? ⟨b,o,none⟩=some v):w1.cell? ⟨b,o,none⟩=some v:=
 (World.cell?_of_block (w:=w) (h.block b (vG hc) hb)).trans hc
theorem Mod.hold{X:List Nat}{w w1:World}(h:Mod X w w1){b o:Nat}{v:Value}(hb:b∉X)(hc:w.cell? ⟨b,o,none⟩=some v∧w.frozen? ⟨b,o,none⟩=false):w1.cell? ⟨b,o,none⟩=some v∧w1.frozen? ⟨b,o,none⟩=false:=
 ⟨h.cell hb hc.1,(World.frozen?_of_block (w:=w) (h.block b (vG hc.1) hb)).trans hc.2⟩
theorem kC{X:List Nat}{w w':World}{base:Nat}{e:TypeId}{size:Nat}{v:Value}{n:Nat}{xs:List Value}(h:w.ownsRow base e size v n xs)(hm:Mod X w w')(hX:∀g,v.ownBlock=some g→g∉X):w'.ownsRow base e size v n xs:=by
 obtain⟨h1,h2|⟨g,cap,cur,rfl,e2,e3,e4⟩⟩:=h
 · exact⟨h1,.inl h2⟩
 · refine⟨h1,.inr ⟨g,cap,cur,rfl,e2,?_,e4⟩⟩;rw[hm.block g ?_ (hX g rfl)];exact e3;rcases Nat.lt_or_ge g w.heap.size with h|h
   · exact h
   · rw[Array.getElem?_eq_none h]at e3;cases e3
theorem KD{w w':World}{base:Nat}{e:TypeId}{size:Nat}{v:Value}{n:Nat}{xs:List Value}(h:w.ownsRow base e size v n xs)(hb:Below w.heap.size w w'):w'.ownsRow base e size v n xs:=
 kC h (Mod.of_below (X:=[]) hb) (fun _ _ h=>by cases h)
theorem oO{α:Type}{enc:α→List Value}{k:Nat}{X:List Nat}{w w1:World}{b off:Nat}{l:List α}(h:pZ enc k w (some ⟨b,off,none⟩) l)(hm:Mod X w w1)(hX:b∉X):pZ enc k w1 (some ⟨b,off,none⟩) l:=fun hl=>by
 obtain⟨b',off',e,hc⟩:=h hl;simp only[Option.some.injEq,Addr.mk.injEq]at e;obtain⟨rfl,rfl,-⟩:=e;exact⟨b,off,rfl,fun i x hx j v hv=>hm.cell hX (hc i x hx j v hv)⟩
theorem pS{w:World}{base base':Nat}{e:TypeId}{size:Nat}{v:Value}{n:Nat}{xs:List Value}(h:w.ownsRow base e size v n xs)(hb:base'≤base):w.ownsRow base' e size v n xs:=by
 obtain⟨h1,h2|⟨g,cap,cur,rfl,e2,e3⟩⟩:=h
 · exact⟨h1,.inl h2⟩
 · exact⟨h1,.inr ⟨g,cap,cur,rfl,jI hb e2,e3⟩⟩
theorem wQ{w w':World}(hg:w.grownBy w' (Value.ownBlock (.slice none 0 0))){b o:Nat}{v:Value}(h:w.cell? ⟨b,o,none⟩=some v)(hf:w.frozen? ⟨b,o,none⟩=false):w'.frozen? ⟨b,o,none⟩=false:=
 (World.frozen?_of_block (w:=w) (hg.block b (vG h) (fun e=>by cases e))).trans hf
section
variable {P:Program}
theorem mB{w w':World}{ρ:Operand→Value}{o:Oper}(s x:Operand)(t:TypeId)(ho:o.op=.call {callee:=.builtin .append,args:=#[s,x],argTypes:=#[t,t]})(vs vx v':Value)(hs:ρ s=vs)(hx:ρ x=vx)
 (hr:(Builtin.append_ #[t,t] o.type #[vs,vx]).run P w=.ok v' w'):(execOp ρ o).run P w=.ok (.value v') w':=by
 unfold execOp;simp only[ho,resolve,invoke,builtin,Sem.run_bind,Sem.run_pure,Result.andThen_ok,List.map_toArray,List.map_cons,List.map_nil,hs,hx,hr]
end
def nJ(W:World)(b i:Nat)(v:Value):Prop:=W.cell? ⟨b,i,none⟩=some v∧W.frozen? ⟨b,i,none⟩=false
theorem vL{w:World}{b o:Nat}{v:Value}{cs:Array Value}{e:TypeId}{fz:Nat×Nat}(h:w.heap[b]? =some (.cells cs e fz)):(w.setCell ⟨b,o,none⟩ v).heap[b]? =some (.cells (cs.setIfInBounds o v) e fz):=by
 unfold uB;simp only[Array.getElem?_modify,if_true,h];rfl
theorem fJ{W:World}{b:Nat}{u v u' v':Value}(h0:W.cell? ⟨b,0,none⟩=some u∧W.frozen? ⟨b,0,none⟩=false)(h1:W.cell? ⟨b,1,none⟩=some v∧W.frozen? ⟨b,1,none⟩=false):
 (((W.setCell ⟨b,0,none⟩ u').setCell ⟨b,1,none⟩ v').cell? ⟨b,0,none⟩=some u'∧((W.setCell ⟨b,0,none⟩ u').setCell ⟨b,1,none⟩ v').frozen? ⟨b,0,none⟩=false)∧((W.setCell ⟨b,0,none⟩ u').setCell ⟨b,1,none⟩ v').cell? ⟨b,1,none⟩=some v'∧((W.setCell ⟨b,0,none⟩ u').setCell ⟨b,1,none⟩ v').frozen? ⟨b,1,none⟩=false:=by
 have k0:=cO (u:=u') h0;have k1:(W.setCell ⟨b,0,none⟩ u').cell? ⟨b,1,none⟩=some v∧(W.setCell ⟨b,0,none⟩ u').frozen? ⟨b,1,none⟩=false:=⟨(World.cell?_setCell_other W _ _ _ (fun e=>by injection e with e1 e2;omega)).trans h1.1,by rw[World.frozen?_setCell];exact h1.2⟩;exact⟨⟨(World.cell?_setCell_other _ _ _ _ (fun e=>by injection e with e1 e2;omega)).trans k0.1,by rw[World.frozen?_setCell];exact k0.2⟩,cO k1⟩
theorem uI{w:World}{base n:Nat}{e:TypeId}{v:Value}{xs:List Value}{size:Nat}(h:w.ownsRow base e size v n xs):∃A c,v=.slice A n c:=by
 rcases h.2 with⟨rfl,rfl⟩|⟨g,cap,cur,rfl,_⟩
 · exact⟨none,0,rfl⟩
 · exact⟨_,cap,rfl⟩
theorem kA{w:World}{b:Nat}{cs cs':List Value}{t:TypeId}(h:w.heap[b]? =some (.cells cs.toArray t (0,0)))(i:Nat)(v:Value)(hc:cs.set i v=cs'):(w.setCell ⟨b,i,none⟩ v).heap[b]? =some (.cells cs'.toArray t (0,0)):=by
 rw[vL h,←hc];simp
theorem uL{w:World}{b:Nat}{cs:List Value}{t:TypeId}(h:w.heap[b]? =some (.cells cs.toArray t (0,0)))(i:Nat)(v:Value)(hc:cs[i]? =some v):nJ w b i v:=
 at_ h i v (by simpa using hc)
theorem vR{w:World}{b k i:Nat}{v:Value}(h:k≠b):(w.setCell ⟨b,i,none⟩ v).heap[k]? =w.heap[k]? :=Below.heap_setCell _ _ _ _ h
section
variable {P:Program}
end
end Go.Proofs.YtaefcahblmopfaaGreatDoor
namespace Go
variable {P:Program}
theorem jB{ops:Array Oper}{rest:List Oper}{op:Oper}{a:Act}{w:World}{Q:Exit→Act→World→Prop}(v:Value)(hw:Region.wanted op (yielded ops a.tmps)=true)(hr:(execOp a.eval op).run P w=.ok (.value v) w)
 (h:wpList P ops Q rest (a.put op.dst v) w):wpList P ops Q (op::rest) a w:=by
 unfold wpList;rw[if_pos hw];refine .inl ?_;unfold Oper.wp;rw[hr];exact h
theorem uP{ops:Array Oper}{rest:List Oper}{op:Oper}{a:Act}{w:World}{Q:Exit→Act→World→Prop}(v:Value)(w':World)(hw:Region.wanted op (yielded ops a.tmps)=true)(hr:(execOp a.eval op).run P w=.ok (.value v) w')
 (h:wpList P ops Q rest (a.put op.dst v) w'):wpList P ops Q (op::rest) a w:=by
 unfold wpList;rw[if_pos hw];refine .inl ?_;unfold Oper.wp;rw[hr];exact h
end Go
namespace Go.Proofs.YtaefcahblmopfaaGreatDoor
open Go.RowKit
def QK(x:Int×Int):List Value:=[.int .i32 x.1,.int .i32 x.2]
theorem nM:∀x,(QK x).length=2:=fun _=>rfl
theorem yQ{α:Type}{enc:α→List Value}{K:Nat}(hl:∀x,(enc x).length=K):∀(X:List α) (k:Nat) (x:α) (j:Nat),X[k]? =some x→j<K→(uY enc X)[k*K+j]? =(enc x)[j]?
 |[],k,x,j,h,_=>by simp at h
 |y::X,0,x,j,h,hj=>by
  obtain rfl:y=x:=by simpa using h
  have e:uY enc (y::X)=enc y++uY enc X:=rfl;rw[e,Nat.zero_mul,kP,uM (by rw[hl];exact hj)]
 |y::X,k+1,x,j,h,hj=>by
  have e:uY enc (y::X)=enc y++uY enc X:=rfl;rw[e,kT qVn,hl,show(k+1)*K+j-K=k*K+j by rw[Nat.add_mul];omega];exact yQ hl X k x j qT hj
theorem Kk{α:Type}{enc:α→List Value}{K:Nat}(hl:∀x,(enc x).length=K){w:World}{g:Nat}{t:TypeId}{l:List α}(h:w.heap[g]? =some (.cells (uY enc l).toArray t (0,0))):pZ enc K w (some ⟨g,0,none⟩) l:=fun _=>by
 refine⟨g,0,rfl,fun i x hx j v hv=>?_⟩;have hj:j<K:=by have :=(jP.1 hv).1;rwa[hl]at this
 have :=yQ hl l i x j hx hj;rw[kP];exact(uL h _ _ (this.trans hv)).1
set_option maxHeartbeats 800000 in
theorem Um(r:Int)(w:World):Calls jG 252 #[.int .i32 r] w fun e w'=>e=.returned (.bool (bK r))∧w=w':=by
 by_cases h1:r<32
 · skip
   have hv:bK r=true:=by simp[bK];omega
   rw[hv];clear hv
   go_enter Tryz.func252,Tryz.ntmps252
   go_wp2
   go_ret
   exact⟨rfl,rfl⟩
 by_cases h2:127≤r
 · by_cases h3:r<160
   · skip
     have hv:bK r=true:=by simp[bK];omega
     rw[hv];clear hv
     go_enter Tryz.func252,Tryz.ntmps252
     go_wp2
     go_ret
     exact⟨rfl,rfl⟩
   · by_cases h4:55296≤r
     · by_cases h5:r<57344
       · skip
         have hv:bK r=true:=by simp[bK];omega
         rw[hv];clear hv
         go_enter Tryz.func252,Tryz.ntmps252
         go_wp2
         go_ret
         exact⟨rfl,rfl⟩
       · by_cases h6:1114111<r
         · skip
           have hv:bK r=true:=by simp[bK];omega
           rw[hv];clear hv
           go_enter Tryz.func252,Tryz.ntmps252
           go_wp2
           go_ret
           exact⟨rfl,rfl⟩
         · skip
           have hv:bK r=false:=by simp[bK];omega
           rw[hv];clear hv
           go_enter Tryz.func252,Tryz.ntmps252
           go_wp2
           go_ret
           exact⟨rfl,rfl⟩
     · have h6:¬1114111<r:=by omega
       have hv:bK r=false:=by simp[bK];omega
       rw[hv];clear hv
       go_enter Tryz.func252,Tryz.ntmps252
       go_wp2
       go_ret
       exact⟨rfl,rfl⟩
 · have h4:¬55296≤r:=by omega
   have h6:¬1114111<r:=by omega
   have hv:bK r=false:=by simp[bK];omega
   rw[hv];clear hv
   go_enter Tryz.func252,Tryz.ntmps252
   go_wp2
   go_ret
   exact⟨rfl,rfl⟩
def Uv(l:List (Int×Int))(w:World)(e:Ending)(w':World):Prop:=∃g,e=.returned (.slice (some ⟨g,0,none⟩) l.length l.length)∧pZ QK 2 w' (some ⟨g,0,none⟩) l∧Below w.heap.size w w'
set_option maxHeartbeats 1600000 in
theorem XX(w:World):Calls jG 254 #[] w (Uv eB w):=by
 go_enter Tryz.func254,Tryz.ntmps254
 go_wp2
 go_ret
 exact⟨w.heap.size,rfl,Kk nM (l:=eB) (jA rfl),jH (jU _ _) _⟩
set_option maxHeartbeats 1600000 in
theorem XK(w:World):Calls jG 255 #[] w (Uv eU w):=by
 go_enter Tryz.func255,Tryz.ntmps255
 go_wp2
 go_ret
 exact⟨w.heap.size,rfl,Kk nM (l:=eU) (jA rfl),jH (jU _ _) _⟩
def PrPost(r:Int)(x:Int×Int)(w:World)(e:Ending)(w':World):Prop:=e=.returned (.bool (decide (x.1≤r)&&decide (r≤x.2)))∧Below w.heap.size w w'
set_option maxHeartbeats 800000 in
theorem Yr(r:Int)(g:Nat)(x:Int×Int)(w:World)(hg:w.cell? ⟨g,0,none⟩=some (.int .i32 r)):Calls jG 329 #[.agg #[.int .i32 x.1,.int .i32 x.2],.pointer (some ⟨g,0,none⟩)] w (PrPost r x w):=by
 have hgl:=vG hg
 by_cases h1:x.1≤r<;>by_cases h2:r≤x.2
 all_goals
  go_enter Tryz.func329,Tryz.ntmps329
  go_wp2
  go_ret
  exact⟨by simp[h1,h2],jH (jU _ _) _⟩
def ZY(r:Int)(x:Int×Int):Bool:=decide (x.1≤r)&&decide (r≤x.2)
theorem lH{l:List (Int×Int)}{r:Int}{k:Nat}{x:Int×Int}(hx:l[k]? =some x):yL (l.take (k+1)) r=(yL (l.take k) r||ZY r x):=by
 have hk:=jP.1 hx;rw[kY hk.1,hk.2];unfold yL ZY;simp
theorem oJ{l:List (Int×Int)}{r:Int}{k:Nat}(h:yL (l.take k) r=true):yL l r=true:=by
 unfold yL at h ⊢;rw[List.any_eq_true]at h ⊢;obtain⟨x,hx,h⟩:=h;exact⟨x,List.mem_of_mem_take hx,h⟩
def IxPost(l:List (Int×Int))(r:Int)(w:World)(e:Ending)(w':World):Prop:=∃n:Int,e=.returned (.int .i64 n)∧decide (0≤n)=yL l r∧Below w.heap.size w w'
set_option maxHeartbeats 1600000 in
theorem ZX(r:Int)(g a:Nat)(l:List (Int×Int))(w:World)(hg:w.cell? ⟨g,0,none⟩=some (.int .i32 r))(hl:pZ QK 2 w (some ⟨a,0,none⟩) l)(hz:l.length≤1000):
 Calls jG 375 #[.slice (some ⟨a,0,none⟩) l.length l.length,.func (.func 329) #[] #[.pointer (some ⟨g,0,none⟩)]] w (IxPost l r w):=by
 have HG:=Hd hg;have HL:=Hd hl;clear hg hl
 go_enter Tryz.func375,Tryz.ntmps375
 go_wp2_with fail
 go_loopw [8] (fun s8 wr=>∃k:Nat,k≤l.length∧s8=.int .i64 k∧yL (l.take k) r=false∧Below w.heap.size w wr) (fun s8 _=>l.length-(intOf s8).toNat)
 case atStart=>exact⟨0,kB _,rfl,rfl,jU _ _⟩
 case round=>
  obtain⟨k,hk,rfl,hno,hb⟩:=hrel;have HNO:=Hd hno;have HB:=Hd hb;clear hno hb
  by_cases hlt:k<l.length
  rotate_left
  · have hge:¬(k:Int)<(l.length:Int):=by omega
    go_wp2
    go_ret
    refine⟨-1,rfl,?_,HB.o⟩;have :=HNO.o;rw[vV qJ]at this;rw[this];rfl
  · have hltI:(k:Int)<(l.length:Int):=by omega
    obtain⟨b,off,x,hA,hx,cx⟩:=(HL.o.below HB.o).at_ hlt;simp only[Option.some.injEq,Addr.mk.injEq,and_true]at hA;obtain⟨rfl,rfl⟩:=hA;have c0:wr.cell? ⟨a,k*2,none⟩=some (.int .i32 x.1):=by have :=cx 0 _ rfl;rwa[kP]at this
    have c1:wr.cell? ⟨a,k*2+1,none⟩=some (.int .i32 x.2):=by have :=cx 1 _ rfl;rwa[kP]at this
    have HT:=Hd (lH (r:=r) hx);have HC:=Hd (Yr r g x wr (kZ HB.o HG.o));have HO:=Hd (fun h=>oJ (l:=l) (r:=r) (k:=k+1) h);cases hp:ZY r x with
    |false=>
     have HP:=Hd hp;have HC2:Hid (Calls jG 329 #[.agg #[.int .i32 x.1,.int .i32 x.2],.pointer (some ⟨g,0,none⟩)] wr fun e w'=>e=.returned (.bool false)∧Below wr.heap.size wr w'):=Hd (HC.o.mono fun e w' ⟨he,hb⟩=>⟨by rw[he];unfold ZY at hp;rw[hp],hb⟩);clear hx cx hp
     go_wp2_with(go_at_call 329;refine HC2.o.mono ?_;rintro e w1 ⟨rfl,hb1⟩)
     go_roundw
     case rel=>exact⟨k+1,by omega,by go_num,by rw[HT.o,HNO.o,HP.o];rfl,jM HB.o hb1⟩
     case measure=>simp[intOf];omega
    |true=>
     have HP:=Hd hp;have HC2:Hid (Calls jG 329 #[.agg #[.int .i32 x.1,.int .i32 x.2],.pointer (some ⟨g,0,none⟩)] wr fun e w'=>e=.returned (.bool true)∧Below wr.heap.size wr w'):=Hd (HC.o.mono fun e w' ⟨he,hb⟩=>⟨by rw[he];unfold ZY at hp;rw[hp],hb⟩);clear hx cx hp
     go_wp2_with(go_at_call 329;refine HC2.o.mono ?_;rintro e w1 ⟨rfl,hb1⟩)
     go_ret
     refine⟨k,rfl,?_,jM HB.o hb1⟩;rw[HO.o (by rw[HT.o,HP.o];simp)];simp
def UK(l:List (Int×Int))(r:Int)(w:World)(e:Ending)(w':World):Prop:=e=.returned (.bool (yL l r))∧Below w.heap.size w w'
theorem QW(r:Int)(g a:Nat)(l:List (Int×Int))(w:World)(hg:w.cell? ⟨g,0,none⟩=some (.int .i32 r))(hl:pZ QK 2 w (some ⟨a,0,none⟩) l)(hz:l.length≤1000):
 Calls jG 328 #[.slice (some ⟨a,0,none⟩) l.length l.length,.func (.func 329) #[] #[.pointer (some ⟨g,0,none⟩)]] w (UK l r w):=by
 have HI:=Hd (ZX r g a l w hg hl hz);clear hg hl
 go_enter Tryz.func328,Tryz.ntmps328
 go_wp2_with(go_at_call 375;refine HI.o.mono ?_;rintro e w1 ⟨n,rfl,hn,hb⟩;have HN:=Hd hn;clear hn)
 go_ret
 exact⟨by rw[HN.o];rfl,hb⟩
theorem Jw(r:Int)(a:Nat)(l:List (Int×Int))(w:World)(hl:pZ QK 2 w (some ⟨a,0,none⟩) l)(hz:l.length≤1000):
 Calls jG 253 #[.slice (some ⟨a,0,none⟩) l.length l.length,.int .i32 r] w (UK l r w):=by
 have hb0:=jH (jU w.heap.size w) (.cells #[.int .i32 r] 21);have HC:=Hd (QW r w.heap.size a l _ (at_ (jA rfl) 0 _ rfl).1 (hl.below hb0) hz);have HB0:=Hd hb0;clear hl hb0
 go_enter Tryz.func253,Tryz.ntmps253
 go_wp2_with(go_at_call 328;refine HC.o.mono ?_;rintro e w1 ⟨rfl,hb⟩)
 go_ret
 exact⟨rfl,jM HB0.o hb⟩
set_option maxHeartbeats 1600000 in
theorem hZ(r:Int)(w:World):Calls jG 162 #[.int .i32 r] w fun e w'=>e=.returned (.int .i64 (gZ r))∧Below w.heap.size w w':=by
 have HN:=Hd (fun w=>Um r w)
 by_cases h0:r<768
 · have hw:=Uo h0;rw[hw];clear hw;cases hn:bK r with
   |true=>
    rw[hn]at HN;clear hn
    go_enter Tryz.func162,Tryz.ntmps162
    go_wp2_with(go_at_call 252;refine(HN.o _).mono ?_;rintro e w1 ⟨rfl,rfl⟩)
    go_ret
    exact⟨rfl,jU _ _⟩
   |false=>
    rw[hn]at HN;clear hn
    go_enter Tryz.func162,Tryz.ntmps162
    go_wp2_with(go_at_call 252;refine(HN.o _).mono ?_;rintro e w1 ⟨rfl,rfl⟩)
    go_ret
    exact⟨rfl,jU _ _⟩
 · have HM:=Hd (fun w=>XX w);have HW:=Hd (fun w=>XK w);have HA1:=Hd (fun a w hl=>Jw r a eB w hl qZ);have HA2:=Hd (fun a w hl=>Jw r a eU w hl qZ);unfold gZ;unfold UK at HA1 HA2;generalize bK r=b0 at HN;generalize yL eB r=b1 at HA1;generalize yL eU r=b2 at HA2;cases b0<;>cases b1<;>cases b2
   all_goals
    go_enter Tryz.func162,Tryz.ntmps162
    go_wp2_with(first
     |(go_at_call 252;refine(HN.o _).mono ?_;rintro e w1 ⟨rfl,rfl⟩)
     |(go_at_call 254;refine(HM.o _).mono ?_;rintro e w2 ⟨g,rfl,hg,hb2⟩;have HG:=Hd hg;have HB:=Hd hb2;clear hg hb2)
     |(go_at_call 255;refine(HW.o _).mono ?_;rintro e w4 ⟨g2,rfl,hg,hb2⟩;have HG2:=Hd hg;have HB3:=Hd (jM HB2.o hb2);clear hg hb2)
     |(go_at_call 253;first
        |(have hpv:=HB3.o;clear hpv;refine(HA2.o _ _ HG2.o).mono ?_;rintro e w5 ⟨rfl,hb3⟩;have HB4:=Hd (jM HB3.o hb3);clear hb3)
        |(refine(HA1.o _ _ HG.o).mono ?_;rintro e w3 ⟨rfl,hb3⟩;have HB2:=Hd (jM HB.o hb3);clear hb3)))
    go_ret
    exact⟨rfl,by first|exact HB4.o|exact HB2.o|exact jU _ _⟩
theorem VV{w w1:World}{b o n:Nat}(h:w.there b o n)(hb:Below w.heap.size w w1):w1.there b o n:=fun j hj=>by
 obtain⟨h1,h2⟩:=h j hj;obtain⟨u,hu⟩:=Option.isSome_iff_exists.1 h1;have :=lQ hb ⟨hu,h2⟩;exact⟨by rw[this.1];rfl,this.2⟩
theorem gG{B:Nat}{W w1:World}(h:Below B W w1){b:Nat}(hb:B≤b):∀(vs:List Value) (o:Nat),Below B W (w1.setCells b o vs)
 |[],o=>h
 |v::vs,o=>by
  rw[World.setCells];exact gG (below_set' h hb v) hb vs (o+1)
where below_set' {B:Nat} {W w1:World} (h:Below B W w1) {b o:Nat} (hb:B≤b) (v:Value):Below B W (w1.setCell ⟨b,o,none⟩ v):=h.setCell (p:=⟨b,o,none⟩) hb v
theorem pX{w:World}{g:Nat}{cs:Array Value}{t:TypeId}(h:w.heap[g]? =some (.cells cs t (0,0))):w.there g 0 cs.size:=fun j hj=>by
 rw[kP];exact⟨by rw[cell_of_row w g j cs t (0,0) h,Array.getElem?_eq_getElem hj];rfl,frozen_of_row w g j cs t h⟩
theorem yY{w w1:World}{b o:Nat}{cs:List Value}(h:w.rangeAt b o cs)(hb:Below w.heap.size w w1):w1.rangeAt b o cs:=fun j v hj=>kZ hb (h j v hj)
section
variable {P:Program}
theorem xA(w:World)(dT sT ty elem:TypeId)(b o dLen dCap:Nat)(a:Addr)(sLen sCap k:Nat)(cs:List Value)(hu:P.underlying dT=some (.slice elem))(hs:(P.info? elem).map (·.size)=some k)(hn:cs.length=Nat.min sLen dLen*k)
 (hsrc:∀j v,cs[j]? =some v→w.cell? (a.add j)=some v) (hc:∀j,j<cs.length→(w.cell? ⟨b,o+j,none⟩).isSome=true) (hf:∀j,j<cs.length→w.frozen? ⟨b,o+j,none⟩=false) (h1:∀v∈cs,v.oneCell'=true):
 (Builtin.copy_ #[dT,sT] ty #[.slice (some ⟨b,o,none⟩) dLen dCap,.slice (some a) sLen sCap]).run P w=.ok (goInt (Nat.min sLen dLen)) (w.setCells b o cs):=by
 have hl:=run_loadCells_list (P:=P) w a cs hsrc;have hst:=run_storeCells_cells (P:=P) b o cs 0 w (by simpa using hc) (by simpa using hf) h1;cases hq:P.info? elem with
 |none=>simp[hq]at hs
 |some i=>
  have hi:i.size=k:=by simpa[hq]using hs
  simp[Builtin.copy_,run_underlying hu,Builtin.lenOf,Builtin.firstCells,sizeOf,typeInfo,hq,hi,←hn,hl,hst]
theorem fC{fn:Func}{p:Tmp}{ty:TypeId}(h:fn.results=#[.cell p ty])(tmps:Array Value)(P:Program)(w:World):
 (results fn tmps).run P w=((asAddr (tmps.getD p undef)).run P w).andThen fun a w₁=>(loadVar ty a).run P w₁:=by
 simp only[results,h];simp[Sem.run_bind,Result.andThen]
end
theorem uC{b:Nat}{t:TypeId}:∀(vs:List Value) (o:Nat) (cs:List Value) (w:World),w.heap[b]? =some (.cells cs.toArray t (0,0))→o+vs.length≤cs.length→(w.setCells b o vs).heap[b]? =some (.cells (cs.take o++(vs++cs.drop (o+vs.length))).toArray t (0,0))
 |[],o,cs,w,h,_=>by simpa[World.setCells]using h
 |v::vs,o,cs,w,h,hl=>by
  rw[List.length_cons]at hl;have h1:=kA h o v rfl;have ih:=uC vs (o+1) (cs.set o v) (w.setCell ⟨b,o,none⟩ v) h1 (by rw[kI];omega);have hlt:o<(cs.set o v).length:=by rw[kI];omega
  rw[kY hlt,List.getElem_set_self,List.take_set_of_le (jD o),List.drop_set_of_lt qJ,kG]at ih;rw[World.setCells,List.length_cons,show o+(vs.length+1)=o+1+vs.length by omega];exact ih
theorem vM{X:List Nat}{w:World}{g:Nat}(hg:g∈X∨w.heap.size≤g):∀(cs:List Value) (o:Nat) (w1:World),Mod X w w1→Mod X w (w1.setCells g o cs)
 |[],_,_,h=>h
 |v::r,o,_,h=>vM hg r (o+1) _ (h.setCell (a:=⟨g,o,none⟩) hg v)
theorem cD{w:World}{base g:Nat}{e:TypeId}{size n cap:Nat}{xs:List Value}(h:w.ownsRow base e size (.slice (some ⟨g,0,none⟩) n cap) n xs)(o:Nat)(v:Value):
 (w.setCell ⟨g,o,none⟩ v).ownsRow base e size (.slice (some ⟨g,0,none⟩) n cap) n (xs.set o v):=by
 obtain⟨h1,h2|⟨g',cap',cur,hv,e2,e3,e4,e5,e6,e7⟩⟩:=h
 · exact absurd h2.1 qV
 · simp only[Value.slice.injEq,Option.some.injEq,Addr.mk.injEq,and_true,true_and]at hv;obtain⟨rfl,rfl⟩:=hv;refine⟨by simpa using h1,.inr ⟨g,cap,cur.setIfInBounds o v,rfl,e2,vL e3,e4,e5,by simpa using e6,?_⟩⟩;rw[←e7,Array.toList_setIfInBounds];rw[List.take_set]
theorem gR{w:World}{base g:Nat}{e:TypeId}{size n cap:Nat}{xs:List Value}(h:w.ownsRow base e size (.slice (some ⟨g,0,none⟩) n cap) n xs){i:Nat}{v:Value}(hi:xs[i]? =some v):nJ w g i v:=by
 obtain⟨-,h2|⟨g',cap',cur,hv,-,e3,-,-,-,e7⟩⟩:=h
 · exact absurd h2.1 qV
 · simp only[Value.slice.injEq,Option.some.injEq,Addr.mk.injEq,and_true,true_and]at hv;obtain⟨rfl,rfl⟩:=hv;refine at_ e3 i v ?_;rw[←e7,List.getElem?_take]at hi
   split at hi
   · simpa using hi
   · cases hi
theorem cR{α:Type}{enc:α→List Value}{K:Nat}(hl:∀x,(enc x).length=K):∀(X:List α) (k:Nat) (x x':α) (j:Nat) (v:Value),X[k]? =some x→j<K→(enc x).set j v=enc x'→(uY enc X).set (k*K+j) v=uY enc (X.set k x')
 |[],k,x,x',j,v,h,_,_=>by simp at h
 |y::X,0,x,x',j,v,h,hj,he=>by
  obtain rfl:y=x:=by simpa using h
  have e:uY enc (y::X)=enc y++uY enc X:=rfl;have e2:uY enc ((y::X).set 0 x')=enc x'++uY enc X:=rfl;rw[e,e2,Nat.zero_mul,kP,List.set_append_left _ _ (by rw[hl];exact hj),he]
 |y::X,k+1,x,x',j,v,h,hj,he=>by
  have e:uY enc (y::X)=enc y++uY enc X:=rfl;have e2:uY enc ((y::X).set (k+1) x')=enc y++uY enc (X.set k x'):=rfl;rw[e,e2,List.set_append_right _ _ qVn,hl,show(k+1)*K+j-K=k*K+j by rw[Nat.add_mul];omega,cR hl X k x x' j v qT hj he]
theorem cA{base g:Nat}{e:TypeId}{size n cap:Nat}:∀(vs:List Value) (o:Nat) (xs:List Value) (w:World),w.ownsRow base e size (.slice (some ⟨g,0,none⟩) n cap) n xs→o+vs.length≤xs.length→
 (w.setCells g o vs).ownsRow base e size (.slice (some ⟨g,0,none⟩) n cap) n (xs.take o++(vs++xs.drop (o+vs.length)))
 |[],o,xs,w,h,_=>by simpa[World.setCells]using h
 |v::vs,o,xs,w,h,hl=>by
  rw[List.length_cons]at hl;have h1:=cD h o v;have ih:=cA vs (o+1) (xs.set o v) (w.setCell ⟨g,o,none⟩ v) h1 (by rw[kI];omega);have e1:(xs.set o v).take (o+1)=xs.take o++[v]:=by
   rw[kY (by rw[kI];omega),List.getElem_set_self,List.take_set_of_le (jD _)]
  have e2:(xs.set o v).drop (o+1+vs.length)=xs.drop (o+(v::vs).length):=by
   rw[List.drop_set_of_lt qJ,List.length_cons,show o+1+vs.length=o+(vs.length+1) by omega]
  rw[e1,e2,kG]at ih;exact ih
theorem uO{P:Program}{ops:Array Oper}{rest:List Oper}{op:Oper}{a:Act}{w:World}{Q:Exit→Act→World→Prop}(hw:Region.wanted op (yielded ops a.tmps)=true)(ty:TypeId)(x:Operand)(ho:op.op=.load ty x)
 (b o:Nat) (hx:a.eval x=.pointer (some ⟨b,o,none⟩)) (cs:List Value) (d:TypeDesc) (hc:w.rangeAt b o cs)
 (hu:P.underlying ty=some d) (hd:d.isRow=true) (hi:(P.info? ty).map (·.size)=some cs.length)
 (h:wpList P ops Q rest (a.put op.dst (.agg cs.toArray)) w):wpList P ops Q (op::rest) a w:=by
 unfold wpList;rw[if_pos hw];exact .inl (wp_load_mid ty x ho b o hx cs d hc hu hd hi h)
def kQ(c:Cl):List Value:=[.int .i32 c.r,.string c.more,.int .i64 c.half,.int .i64 c.fk,.int .i64 c.fn,.int .i64 c.bk,.int .i64 c.bn,.int .i64 c.fl]
theorem uF:∀c,(kQ c).length=8:=fun _=>rfl
theorem yJ:∀c,∀v∈kQ c,v.oneCell'=true:=fun c v hv=>by
 simp only[kQ,kJ,List.not_mem_nil,or_false]at hv;rcases hv with rfl|rfl|rfl|rfl|rfl|rfl|rfl|rfl<;>rfl
theorem uG:(jG.info? 65).map (·.size)=some 8:=by kernel_rfl
theorem pA(c:Cl):(kQ c).toArray.all (·.oneCell')=true:=all_oneCell_toArray (yJ c)
theorem aQ{fn:Func}{p:Tmp}(hr:fn.results=#[.cell p 65])(tmps:Array Value)(w:World)(b:Nat)(c:Cl)(hp:tmps.getD p undef=.pointer (some ⟨b,0,none⟩))(h:w.rangeAt b 0 (kQ c)):
 (results fn tmps).run jG w=.ok (clV c) w:=by
 rw[fC hr,hp];have :=run_loadVar_mid (P:=jG) w b 0 65 (kQ c) _ h Tryz.underlying65 rfl uG;simp only[asAddr,Sem.run_pure,Result.andThen_ok,this];rfl
theorem uU{w:World}{g:Nat}{cs:List Value}{t:TypeId}(h:w.heap[g]? =some (.cells cs.toArray t (0,0))):w.rangeAt g 0 cs:=fun j v hj=>by rw[kP];exact(uL h j v hj).1
def QI(c:Cl)(w:World)(e:Ending)(w':World):Prop:=e=.returned (clV c)∧Below w.heap.size w w'
set_option maxHeartbeats 1600000 in
theorem QN(a:Atr)(w:World):Calls jG 263 #[.agg #[.int .i64 a.fk,.int .i64 a.fn,.int .i64 a.bk,.int .i64 a.bn,.int .i64 a.fl]] w (QI (gM a) w):=by
 go_enter Tryz.func263,Tryz.ntmps263
 go_wp2
 exact bodyPost_ret (aQ rfl _ _ (w.heap.size+1) (gM a) rfl (uU (jA qV))) rfl ⟨rfl,jH (jH (jU _ _) _) _⟩
set_option maxHeartbeats 1600000 in
theorem QC(b:Col)(w:World):Calls jG 335 #[.agg #[.int .i64 b.k,.int .i64 b.n]] w (QI (vE b) w):=by
 have HE:=Hd (fun w=>QN ⟨0,0,b.k,b.n,0⟩ w);have HB0:=Hd (jH (jH (jU w.heap.size w) (.cells #[.int .i64 b.k,.int .i64 b.n] 61)) (.cells (kQ (gM ⟨0,0,0,0,0⟩)).toArray 65));have HT0:=Hd (pX (cs:=(kQ (gM ⟨0,0,0,0,0⟩)).toArray) (w:=(w.alloc (.cells #[.int .i64 b.k,.int .i64 b.n] 61)).alloc (.cells (kQ (gM ⟨0,0,0,0,0⟩)).toArray 65)) (g:=w.heap.size+1) (jA qV))
 go_enter Tryz.func335,Tryz.ntmps335
 go_wp2_with(first
  |(go_at_call 263;refine(HE.o _).mono ?_;rintro e w1 ⟨rfl,hb⟩;have HB1:=Hd hb;clear hb;have HT1:=Hd (VV HT0.o HB1.o))
  |(refine wpList_store_mid (op:=⟨none,.store 65 (.tmp 2) (.tmp 5),_,_,_,_⟩) rfl 65 (.tmp 2) (.tmp 5) rfl (w.heap.size+1) 0 (kQ (vE b)).toArray rfl rfl HT1.o uG (pA (vE b)) ?_))
 exact bodyPost_ret (aQ rfl _ _ (w.heap.size+1) (vE b) rfl (World.rangeAt_setCells_same _ _ _ _ HT1.o)) rfl ⟨rfl,gG (jM HB0.o HB1.o) qJ _ _⟩
def tO(a b:Cl):Bool:=decide (a.half=1)&&decide (a={b with half:=1})
set_option maxHeartbeats 1600000 in
theorem Z3(a b:Cl)(w:World):Calls jG 262 #[clV a,clV b] w fun e w'=>e=.returned (.bool (tO a b))∧Below w.heap.size w w':=by
 unfold clV;have HB2:=Hd (jH (jH (jU w.heap.size w) (.cells (kQ a).toArray 65)) (.cells (kQ {b with half:=1}).toArray 65));have HA2:=Hd (show((w.alloc (.cells (kQ a).toArray 65)).alloc (.cells (kQ {b with half:=1}).toArray 65)).heap[w.heap.size]? =some (.cells (kQ a).toArray 65 (0,0))from uA (jA rfl));have HC2:=Hd (show((w.alloc (.cells (kQ a).toArray 65)).alloc (.cells (kQ {b with half:=1}).toArray 65)).heap[w.heap.size+1]? =some (.cells (kQ {b with half:=1}).toArray 65 (0,0))from jA qV)
 by_cases h:a.half=1
 · have hv:tO a b=decide (a={b with half:=1}):=by unfold tO;rw[h];simp
   rw[hv];clear hv;obtain⟨ar,am,ah,a1,a2,a3,a4,a5⟩:=a;obtain rfl:ah=1:=h
   go_enter Tryz.func262,Tryz.ntmps262
   go_upto_region 2 with fail
   refine wp_region_lit ?_;refine jB (.pointer (some ⟨w.heap.size,2,none⟩)) qK qX ?_;simp only[Act.put,jZ,jX,jY];refine jB (.int .i64 1) qK qX ?_;simp only[Act.put,jZ,jX,jY];refine jB (.bool true) qK qX ?_;simp only[Act.put,jZ,jX,jY];refine jB (.bool true) qK qK ?_;simp only[Act.put,jZ,jX,jY];refine uO qK 65 (.tmp 2) rfl w.heap.size 0 rfl (kQ ⟨ar,am,1,a1,a2,a3,a4,a5⟩) _ (uU HA2.o) Tryz.underlying65 rfl uG ?_;simp only[Act.put,jZ,jX,jY];refine uO qK 65 (.tmp 3) rfl (w.heap.size+1) 0 rfl (kQ {b with half:=1}) _ (uU HC2.o) Tryz.underlying65 rfl uG ?_;simp only[Act.put,jZ,jX,jY];refine jB (.bool (decide ((⟨ar,am,1,a1,a2,a3,a4,a5⟩:Cl)={b with half:=1}))) qK (Qe _ _ _ _ _ _ (.tmp 10) (.tmp 11) ⟨ar,am,1,a1,a2,a3,a4,a5⟩ {b with half:=1} rfl rfl _) ?_;simp only[Act.put,jZ,jX,jY];generalize hD:decide ((⟨ar,am,1,a1,a2,a3,a4,a5⟩:Cl)={b with half:=1})=D;have HD:=Hd hD;clear hD
   go_wp2
   go_ret
   exact⟨by rw[←HD.o];rfl,HB2.o⟩
 · have hv:tO a b=false:=by unfold tO;simp[h]
   rw[hv];have h1:(a.half==1)=false:=beq_eq_false_iff_ne.2 h;clear hv
   go_enter Tryz.func262,Tryz.ntmps262
   go_wp2
   go_ret
   exact⟨rfl,HB2.o⟩
theorem UC(c d:Cl):yR c d=(tO c d&&decide (d.half=2)):=by
 unfold yR tO;cases decide (c.half=1)<;>cases decide (d.half=2)<;>cases decide (c={d with half:=1})<;>rfl
theorem iI{c d:Cl}(h:yR c d=true)(l:List Cl):uQ (c::d::l)=c::d::uQ l:=by
 have h0:¬c.half=0:=fun e=>by unfold yR at h;simp[e]at h
 rw[bW,if_neg h0,if_pos h]
theorem zC{c:Cl}{l:List Cl}(h0:¬c.half=0)(h3:¬(c.half=3∧l=[]))(hp:∀d m,l=d::m→yR c d=false):uQ (c::l)=kL c::uQ l:=by
 match l with
 |[]=>rw[cY,if_neg (fun h=>h.elim h0 (fun h=>h3 ⟨h,rfl⟩))];rfl
 |d::m=>rw[bW,if_neg h0,hp d m rfl];rfl
theorem JF{c:Cl}(h:c.half=3):uQ [c]=[c]:=by rw[cY,if_pos (.inr h)]
def CrO(w:World)(base g cap:Nat)(l:List Cl):Prop:=w.ownsRow base 65 8 (.slice (some ⟨g,0,none⟩) l.length cap) l.length (uY kQ l)
theorem CrO.mod{w w':World}{base g cap:Nat}{l:List Cl}{X:List Nat}(h:CrO w base g cap l)(hm:Mod X w w')(hX:g∉X):CrO w' base g cap l:=kC h hm (fun k hk=>by simp[Value.ownBlock]at hk;rw[←hk];exact hX)
theorem CrO.below{w w':World}{base g cap:Nat}{l:List Cl}(h:CrO w base g cap l)(hb:Below w.heap.size w w'):CrO w' base g cap l:=h.mod (Mod.of_below (X:=[]) hb) (fun h=>by cases h)
theorem CrO.lt{w:World}{base g cap:Nat}{l:List Cl}(h:CrO w base g cap l):base≤g∧g<w.heap.size:=kR.lt h g rfl
theorem CrO.range{w:World}{base g cap:Nat}{l:List Cl}(h:CrO w base g cap l){i:Nat}{c:Cl}(hc:l[i]? =some c):w.rangeAt g (i*8) (kQ c):=fun j v hj=>by
 have hj8:j<8:=by have :=(jP.1 hj).1;rwa[uF]at this
 exact(gR h (i:=i*8+j) (v:=v) (by rw[yQ uF l i c j hc hj8];exact hj)).1
theorem CrO.there{w:World}{base g cap:Nat}{l:List Cl}(h:CrO w base g cap l){i:Nat}(hi:i<l.length):w.there g (i*8) 8:=fun j hj=>by
 obtain⟨c,hc⟩:∃c,l[i]? =some c:=⟨l[i],jN hi⟩;obtain⟨v,hv⟩:∃v,(kQ c)[j]? =some v:=⟨_,jN (by rw[uF];exact hj)⟩;have :=gR h (i:=i*8+j) (v:=v) (by rw[yQ uF l i c j hc hj];exact hv);exact⟨by rw[this.1];rfl,this.2⟩
theorem CrO.set{w:World}{base g cap:Nat}{l:List Cl}(h:CrO w base g cap l){i:Nat}(hi:i<l.length)(c:Cl):CrO (w.setCells g (i*8) (kQ c)) base g cap (l.set i c)∧Mod [g] w (w.setCells g (i*8) (kQ c)):=by
 refine⟨?_,vM (.inl qV) _ _ _ (Mod.refl _ _)⟩;have h1:=cA (kQ c) (i*8) (uY kQ l) w h (by rw[pW uF,uF];omega);unfold CrO;rw[kI];have e:(uY kQ l).take (i*8)++(kQ c++(uY kQ l).drop (i*8+(kQ c).length))=uY kQ (l.set i c):=by
  rw[uF];clear h h1
  induction l generalizing i with
  |nil=>simp at hi
  |cons x l ih=>
   have e:uY kQ (x::l)=kQ x++uY kQ l:=rfl
   match i with
   |0=>
    have e2:uY kQ ((x::l).set 0 c)=kQ c++uY kQ l:=rfl;rw[e,e2,Nat.zero_mul,kK,List.nil_append,kP,List.drop_left' (uF x)]
   |i+1=>
    have e2:uY kQ ((x::l).set (i+1) c)=kQ x++uY kQ (l.set i c):=rfl;rw[e,e2,←ih (by simpa using hi),Nat.add_mul,Nat.one_mul];rw[List.take_append,List.drop_append,uF,vV (by rw[uF];omega),gN (by rw[uF];omega)];rw[show i*8+8-8=i*8 by omega,show i*8+8+8-8=i*8+8 by omega,List.nil_append,kG]
 rw[e]at h1;exact h1
end Go.Proofs.YtaefcahblmopfaaGreatDoor
namespace Go
section
variable {P:Program}{ops:Array Oper}{md:Region.Mode}{S:World→Prop}
def pC(n:Nat)(dst:Option Tmp)(u v:Value):Prop:=∀a:Act,a.tmps.size=n→a.put dst u=a.put dst v
theorem pC.rfl'{n:Nat}{dst:Option Tmp}{v:Value}:pC n dst v v:=fun _ _=>rfl
def upU(P:Program)(S:World→Prop)(n:Nat)(dst:Option Tmp)(v:Value):Result Next→Prop
 | .ok (.value u) w'=>pC n dst u v∧S w'
 | .ok .skip w'=>pC n dst undef v∧S w'
 | .ok (.enter f args) w'=>Calls P f args w' fun e w''=>match e with
    | .returned u=>pC n dst u v∧S w''
    |_=>False
 | .ok (.row row args) w'=>Rows P row args w' fun u w''=>pC n dst u v∧S w''
 |_=>False
def mO(P:Program)(ops:Array Oper)(S:World→Prop)(o:Oper)(v:Value)(a:Act):Prop:=
 (Region.wanted o (yielded ops a.tmps)=true∧∀w,S w→upU P S a.tmps.size o.dst v ((execOp a.eval o).run P w))∨
 (Region.wanted o (yielded ops a.tmps)=false∧v=undef)
theorem mO.of_same{o:Oper}{v:Value}{a a':Act}(hy:mO P ops S o v a)(he:execOp a'.eval o=execOp a.eval o)
 (hw:Region.wanted o (yielded ops a'.tmps)=Region.wanted o (yielded ops a.tmps)) (hs:a'.tmps.size=a.tmps.size):mO P ops S o v a':=by
 unfold mO at *;rw[he,hw,hs];exact hy
theorem Act.put_size(a:Act)(dst:Option Tmp)(v:Value):(a.put dst v).tmps.size=a.tmps.size:=by
 cases dst<;>simp[Act.put]
theorem mO.wpOp{Q:Exit→Act→World→Prop}{i:Nat}{o:Oper}{v:Value}{a:Act}(hi:ops[i]? =some o)(hy:mO P ops S o v a)
 {K:Act→World→Prop} {w:World} (hS:S w) (h:∀w',S w'→K (a.put o.dst v) w'):wpOp P ops Q i K a w:=by
 unfold Go.wpOp;simp only[hi];rcases hy with⟨hw,hv⟩|⟨hw,rfl⟩
 · simp only[hw,if_true,Oper.wp];refine .inl ?_;have hv:=hv w hS;generalize (execOp a.eval o).run P w=r at *;cases r with
   |ok n w'=>
    cases n<;>simp only[upU,Oper.upon]at hv ⊢
    case value u=>rw[hv.1 a rfl];exact h _ hv.2
    case skip=>rw[hv.1 a rfl];exact h _ hv.2
    case enter f args=>
     refine Calls.mono hv fun e w'' he=>?_;cases e with
     |returned u=>simp only at he ⊢;rw[he.1 a rfl];exact h _ he.2
     |panicked c=>exact he.elim
     |outgrown=>exact he.elim
    case row row args=>exact Rows.mono hv fun u w'' he=>(by rw[he.1 a rfl];exact h _ he.2)
   |halt x w'=>exact hv.elim
 · simp only[hw,Bool.false_eq_true,if_false];exact h _ hS
def xY(P:Program)(md:Region.Mode)(ops:Array Oper)(S:World→Prop)(n:Nat)(L:Array Bool→Act→Prop):Nat→Array Bool→Act→Prop
 |0,listed,a=>L listed a
 |f+1,listed,a=>
  Region.ready md ops listed≠[]∧∀i∈Region.ready md ops listed,i<n∧∃o v,ops[i]? =some o∧mO P ops S o v a∧xY P md ops S n L f (listed.setIfInBounds i true) (a.put o.dst v)
theorem lT{n g:Nat}{L:Array Bool→Act→Prop}{Q':Exit→Act→World→Prop}(hL:∀listed a,L listed a→∀w,S w→wpAny P md ops Q' g listed a w):
 ∀(f:Nat) (listed:Array Bool) (a:Act),xY P md ops S n L f listed a→∀w,S w→wpAny P md ops Q' (f+g) listed a w
 |0,listed,a,h,w,hS=>by rw[kP];exact hL _ _ h w hS
 |f+1,listed,a,h,w,hS=>by
  rw[show f+1+g=(f+g)+1 by omega];refine⟨fun h0=>absurd h0 h.1,fun i hi=>?_⟩;obtain⟨_,o,v,ho,hy,hr⟩:=h.2 i hi;exact hy.wpOp ho hS (fun w' hS'=>lT hL f _ _ hr w' hS')
theorem oY{n i:Nat}{oi:Oper}{v:Value}{L:Array Bool→Act→Prop}(hi:ops[i]? =some oi)(hsel:∀(j:Nat) (o:Oper) cs b,ops[j]? =some o→o.op≠ .select cs b)
 (hs:Region.sinkB md ops n=true) (hc:Region.chainB md ops n=true) (hn:n<ops.size) (hin:i<n)
 (hdone:∀listed a,L listed a→∀j∈Region.ready md ops listed,n≤j):
 ∀(f:Nat) (listed:Array Bool) (a:Act),HeadInv md ops n listed→
  (∀j oj,ops[j]? =some oj→j≠i→listed.getD j true=false→(∀e∈oj.after,Region.binds md e=true→e.on≠i)→oi.apart ops oj=true)→
  i∈Region.ready md ops listed→mO P ops S oi v a→
  xY P md ops S n L f (listed.setIfInBounds i true) (a.put oi.dst v)→xY P md ops S n L (f+1) listed a:=by
 intro f
 induction f with
 |zero=>
  intro listed a inv _ hr hy H;have hun:=(mem_ready.1 hr).1;refine⟨fun h=>qVc,fun j hj=>?_⟩;have hjn:j<n:=by
   rcases Nat.lt_or_ge j n with h|h
   · exact h
   · exact qV7
  refine⟨hjn,?_⟩
  by_cases hji:j=i
  · subst hji;exact⟨oi,v,hi,hy,H⟩
  · have :=hdone _ _ H j (ready_mono hj hji);omega
 |succ f ih=>
  intro listed a inv hfree hr hy H;have hun:=(mem_ready.1 hr).1;refine⟨fun h=>qVc,fun j hj=>?_⟩;have hjn:j<n:=by
   rcases Nat.lt_or_ge j n with h|h
   · exact h
   · exact qV7
  refine⟨hjn,?_⟩
  by_cases hji:j=i
  · subst hji;exact⟨oi,v,hi,hy,H⟩
  · obtain⟨_,oj',u,hoj',hyj,Hj⟩:=H.2 j (ready_mono hj hji);obtain⟨hjun,oj,hoj,hall⟩:=mem_ready.1 hj;obtain rfl:oj'=oj:=Option.some.inj (hoj'.symm.trans hoj);have hnot:∀e∈oj'.after,Region.binds md e=true→e.on≠i:=fun e he hb heq=>by
     have h1:=hall e he hb;rw[heq,getD_both hun]at h1;cases h1
    obtain⟨h1,h2,h3⟩:=Oper.apart_spec (hfree j oj' hoj hji hjun hnot);have hsi:=fun cs b=>hsel i oi cs b hi;have hsj:=fun cs b=>hsel j oj' cs b hoj;have hyj':mO P ops S oj' u a:=hyj.of_same (execOp_put oj' hsj a oi.dst v h1).symm (wanted_put oj' a oi.dst v h1).symm (Act.put_size _ _ _).symm;have hyi':mO P ops S oi v (a.put oj'.dst u):=hy.of_same (execOp_put oi hsi a oj'.dst u h3) (wanted_put oi a oj'.dst u h3) (Act.put_size _ _ _);have hfree':∀k ok,ops[k]? =some ok→k≠i→(listed.setIfInBounds j true).getD k true=false→
     (∀e∈ok.after,Region.binds md e=true→e.on≠i)→oi.apart ops ok=true:=fun k ok hk hki hun hno=>by
     refine hfree k ok hk hki ?_ hno
     by_cases hjk:j=k
     · subst hjk;exact hjun
     · rw[getD_set_ne true hjk]at hun;exact hun
    refine⟨oj',u,hoj,hyj',ih (listed.setIfInBounds j true) _ (inv.set hj hjn) hfree' (ready_mono hr (Ne.symm hji)) hyi' ?_⟩;rw[Array.setIfInBounds_comm _ _ hji,←Act.put_comm a v u h2];exact Hj
def Qu(P:Program)(ops:Array Oper)(S:World→Prop)(Lq:Act→Prop):List Oper→Act→Prop
 |[],a=>Lq a
 |o::l,a=>∃v,mO P ops S o v a∧Qu P ops S Lq l (a.put o.dst v)
theorem Kw{n g:Nat}{Lq:Act→Prop}(hsel:Region.noSelect ops=true)(hs:Region.sinkB md ops n=true)(hc:Region.chainB md ops n=true)(hn:n<ops.size):
 ∀(l:List Oper) (k:Nat) (listed:Array Bool) (a:Act),(∀j,j<l.length→l[j]? =ops[k+j]?)→k+l.length=n→HeadInv md ops n listed→
 Region.lexHead md ops g l.length k listed=true→Qu P ops S Lq l a→
 xY P md ops S n (fun listed' a'=>Region.seqB md ops g n listed'=true∧Lq a') l.length listed a
 |[],k,listed,a,_,hk,_,hB,h=>by
  have :k=n:=by simpa using hk
  subst this;exact⟨by simpa[Region.lexHead]using hB,h⟩
 |o::l,k,listed,a,hl,hk,inv,hB,h=>by
  have h0:ops[k]? =some o:=by simpa using(hl 0 qV).symm
  simp only[List.length_cons,Region.lexHead,Bool.and_eq_true]at hB;obtain⟨⟨hr,hf⟩,hB'⟩:=hB;have hkn:k<n:=by simp only[List.length_cons]at hk;omega
  have hr':k∈Region.ready md ops listed:=by simpa using hr
  obtain⟨v,hy,hK⟩:=h;exact oY h0 (Region.noSelect_spec hsel) hs hc hn hkn (fun listed' a' hL=>seqB_ready hL.1) l.length listed a inv (Region.free_spec h0 hf) hr' hy
   (Kw hsel hs hc hn l (k+1) _ _ (fun j hj=>by have :=hl (j+1) qY;simpa[Nat.add_assoc,Nat.add_comm 1 j]using this) (by simp only[List.length_cons]at hk;omega) (inv.set hr' hkn) hB' hK)
theorem kH{id:Nat}{Q:Exit→Act→World→Prop}{a:Act}{w:World}{l:List Oper}(n:Nat)(S:World→Prop)(hm:P.follows .mixedOrders=true)(hB:Region.lexTailB .any l.toArray n=true)
 (hS:S w.drew) (h:Qu P l.toArray S (fun a'=>∀w',S w'→wpList P l.toArray Q (l.drop n) a' w') (l.take n) a):(Code.region id l.toArray true).wp P Q a w:=by
 simp only[Region.lexTailB,Bool.and_eq_true,decide_eq_true_eq]at hB;obtain⟨⟨⟨⟨hsel,hn⟩,hs⟩,hc⟩,hlex⟩:=hB;have htl:(l.take n).length=n:=by
  have hn':n<l.length:=by simpa using hn
  simp;omega
 have hdl:(l.drop n).length=l.toArray.size-n:=by simp
 have inv0:HeadInv .any l.toArray n (Array.replicate l.toArray.size false):=
  ⟨by simp,fun j oj _ hl=>qVl,fun t _ ht=>getD_in (by simpa using ht) (getD_replicate_false _ _)⟩
 have H:=Kw (md:=.any) (g:=l.toArray.size-n) hsel hs hc hn (l.take n) 0 _ a (fun j hj=>by
  have hj':j<n:=by rw[htl]at hj;exact hj
  simp[hj']) (by simpa using htl) inv0 (by rw[htl];exact hlex) h
 refine wp_region_any hm ?_;have :=lT (Q':=Q) (g:=l.toArray.size-n) (fun listed a' hL w' hS'=>by
  have :=wpAny_of_seq (md:=.any) (Q':=Q) (l.drop n) n listed a' w' (fun j=>by simp[gH]) (by rw[hdl];exact hL.1) (hL.2 w' hS')
  rwa[hdl]at this) _ _ _ H w.drew hS
 rw[htl,show n+(l.toArray.size-n)=l.toArray.size by simp at hn;simp;omega]at this;exact this
variable {Lq:Act→Prop}
theorem kO{a:Act}(h:Lq a):Qu P ops S Lq [] a:=h
theorem kF{o:Oper}{l:List Oper}{a:Act}(hw:Region.wanted o (yielded ops a.tmps)=false)(hr:Qu P ops S Lq l (a.put o.dst undef)):Qu P ops S Lq (o::l) a:=
 ⟨undef,.inr ⟨hw,rfl⟩,hr⟩
theorem kE{o:Oper}{l:List Oper}{a:Act}(v:Value)(hw:Region.wanted o (yielded ops a.tmps)=true)(h:∀w,S w→(execOp a.eval o).run P w=.ok (.value v) w)
 (hr:Qu P ops S Lq l (a.put o.dst v)):Qu P ops S Lq (o::l) a:=
 ⟨v,.inl ⟨hw,fun w hS=>by rw[h w hS];exact⟨pC.rfl',hS⟩⟩,hr⟩
theorem uT{o:Oper}{l:List Oper}{a:Act}(f:FuncId)(args:Array Value)(v:Value)(hw:Region.wanted o (yielded ops a.tmps)=true)(h:∀w,(execOp a.eval o).run P w=.ok (.enter f args) w)
 (hc:∀w,S w→Calls P f args w fun e w'=>e=.returned v∧S w')
 (hr:Qu P ops S Lq l (a.put o.dst v)):Qu P ops S Lq (o::l) a:=
 ⟨v,.inl ⟨hw,fun w hS=>by
  rw[h w];refine(hc w hS).mono fun e w' he=>?_;rw[he.1];exact⟨pC.rfl',he.2⟩⟩,hr⟩
end
end Go
