/- Joined by a tool of this claim out of smaller texts. Conditions: as stated. -/
import Derived.Test.YtaefcahblmopfaaGreatDoorDg18
set_option linter.unusedVariables false
set_option linter.unusedSimpArgs false
set_option maxRecDepth 100000
open Go.Lib renaming hid → Hd
open List renaming setIfInBounds_toArray → jZ, set_cons_zero → jX, set_cons_succ → jY, mem_singleton → jW, getElem?_eq_getElem → jN, getElem?_eq_some_iff → jP, mem_cons → kJ, getD_eq_getElem?_getD → kV, take_succ_eq_append_getElem → kY, mem_append → kM, map_append → uE, take_of_length_le → vV, getElem?_drop → gH
open Go.Proofs.Tryz renaming prog → jG
open Go.RowKit.Below renaming refl → jU
open Nat renaming le_refl → jD, zero_le → kB, zero_add → kP
open Go.IntWalk renaming i64_in → jF
open Go.IntKind renaming i64 → jE
open Go.World renaming ownsRow_nil → kD, ownsRow → kR
namespace Go.Proofs.YtaefcahblmopfaaGreatDoor
open Go.RowKit
def aA:List Int:=[1,2,3,5,6,7,8,9,21,22,23,24,25,27,28,29,53,55]
theorem Q9:∀f:Fin 1024,∀v∈aA,aT (f.val:Int) v=cK (f.val:Int) v []:=by decide +kernel
theorem YY:∀f:Fin 1024,bits .andNot .i64 (bits .or .i64 (f.val:Int) 0) 0=(f.val:Int):=by decide +kernel
theorem YG:∀f:Fin 1024,bits .or .i64 (bits .andNot .i64 (f.val:Int) 264) 0=yA (yA f.val 256 false) 8 false∧bits .or .i64 (bits .andNot .i64 (f.val:Int) 264) 8=yA (yA f.val 256 false) 8 true∧bits .or .i64 (bits .andNot .i64 (f.val:Int) 264) 256=yA (yA f.val 256 true) 8 false:=by decide +kernel
theorem qQa:∀f:Fin 1024,∀k∈([1,2,4,8,16,32,64,128,256,512]:List Int),∀b:Bool,0≤yA (f.val:Int) k b∧yA (f.val:Int) k b<1024:=by decide +kernel
theorem cN.with{f:Int}(h:cN f)(k:Int)(hk:k∈([1,2,4,8,16,32,64,128,256,512]:List Int))(b:Bool):cN (yA f k b):=by
 obtain⟨h0,h1⟩:=h;have :=qQa ⟨f.toNat,by omega⟩ k hk b;rw[show(((⟨f.toNat,by omega⟩:Fin 1024).val:Nat):Int)=f from by show((f.toNat:Nat):Int)=f;omega]at this;exact this
theorem qJ3{f:Int}(h:cN f)(v:Int)(hv:v≠4)(g:List Int):aT f v=cK f v g:=by
 obtain⟨h0,h1⟩:=h;have e:(((⟨f.toNat,by omega⟩:Fin 1024).val:Nat):Int)=f:=by show((f.toNat:Nat):Int)=f;omega
 have hg:cK f v g=cK f v []:=by unfold cK;simp only[if_neg hv]
 rw[hg]
 by_cases hm:v∈aA
 · have :=Q9 ⟨f.toNat,by omega⟩ v hm;rw[e]at this;exact this
 · simp only[aA,kJ,List.not_mem_nil,or_false,not_or]at hm;obtain⟨a1,a2,a3,a5,a6,a7,a8,a9,a21,a22,a23,a24,a25,a27,a28,a29,a53,a55⟩:=hm;have s0:JJ v=0:=by unfold JJ;simp[*]
   have c0:nP v=0:=by unfold nP;simp[*]
   have f0:cK f v []=f:=by unfold cK;simp[*]
   have b0:f21 f v=f:=by unfold f21;simp[*]
   unfold aT;rw[s0,c0,f0,b0];have :=YY ⟨f.toNat,by omega⟩;rw[e]at this;exact this
theorem flags4{f:Int}(h:cN f)(g:List Int):bits .or .i64 (bits .andNot .i64 f 264) (aH g)=cK f 4 g:=by
 obtain⟨h0,h1⟩:=h;have e:(((⟨f.toNat,by omega⟩:Fin 1024).val:Nat):Int)=f:=by show((f.toNat:Nat):Int)=f;omega
 have :=YG ⟨f.toNat,by omega⟩;rw[e]at this;obtain⟨t0,t8,t256⟩:=this;unfold cK aH;simp only[Int.reduceEq,if_false,if_true]
 by_cases h1:1<g.length
 · by_cases h2:g.getD 1 0=0
   · rw[if_pos ⟨h1,h2⟩];simp only[h1,h2,decide_true,Bool.true_and,show decide ((0:Int)=2)=false from rfl,show decide ((0:Int)=0)=true from rfl,Bool.not_false,Bool.not_true,Bool.and_false];exact t0
   · rw[if_neg qJ]
     by_cases h3:g.getD 1 0=2
     · rw[if_pos ⟨h1,h3⟩];simp only[h1,h3,decide_true,Bool.true_and,Bool.not_true,Bool.false_and];exact t256
     · rw[if_neg qJ];simp only[h1,h2,h3,decide_true,decide_false,Bool.and_false,Bool.not_false,Bool.and_true];exact t8
 · rw[if_neg qJ,if_neg qJ];simp only[h1,decide_false,Bool.false_and,Bool.not_false,Bool.and_true];exact t8
theorem qJj(c:Col)(v:Int)(h:0≤v):(if(cG v 30 90).2 then(cG v 30 90).1 else c)=Jq c v:=by
 by_cases h1:30≤v∧v<30+8
 · have e:cG v 30 90=(⟨1,v-30⟩,true):=by unfold cG;rw[if_pos h1]
   rw[e];show(⟨1,v-30⟩:Col)=_;unfold Jq;rw[if_neg qJ,if_pos qJ]
 by_cases h2:90≤v∧v<90+8
 · have e:cG v 30 90=(⟨1,v-90+8⟩,true):=by unfold cG;rw[if_neg h1,if_pos h2]
   rw[e];show(⟨1,v-90+8⟩:Col)=_;unfold Jq;rw[if_neg qJ,if_neg qJ,if_pos qJ,show v-90+8=v-82 by omega]
 · have e:cG v 30 90=(⟨0,0⟩,v==30+9):=by unfold cG;rw[if_neg h1,if_neg h2]
   rw[e];unfold Jq
   by_cases h3:v=30+9
   · rw[if_pos (show v=39 by omega),h3];rfl
   · rw[if_neg (show ¬v=39 by omega),if_neg (show ¬(30≤v∧v≤37) by omega),if_neg (show ¬(90≤v∧v≤97) by omega)];rw[show(v==30+9)=false from beq_eq_false_iff_ne.2 h3];rfl
theorem qJk(c:Col)(v:Int)(h:0≤v):(if(cG v 40 100).2 then(cG v 40 100).1 else c)=Js c v:=by
 by_cases h1:40≤v∧v<40+8
 · have e:cG v 40 100=(⟨1,v-40⟩,true):=by unfold cG;rw[if_pos h1]
   rw[e];show(⟨1,v-40⟩:Col)=_;unfold Js;rw[if_neg qJ,if_pos qJ]
 by_cases h2:100≤v∧v<100+8
 · have e:cG v 40 100=(⟨1,v-100+8⟩,true):=by unfold cG;rw[if_neg h1,if_pos h2]
   rw[e];show(⟨1,v-100+8⟩:Col)=_;unfold Js;rw[if_neg qJ,if_neg qJ,if_pos qJ,show v-100+8=v-92 by omega]
 · have e:cG v 40 100=(⟨0,0⟩,v==40+9):=by unfold cG;rw[if_neg h1,if_neg h2]
   rw[e];unfold Js
   by_cases h3:v=40+9
   · rw[if_pos (show v=49 by omega),h3];rfl
   · rw[if_neg (show ¬v=49 by omega),if_neg (show ¬(40≤v∧v≤47) by omega),if_neg (show ¬(100≤v∧v≤107) by omega)];rw[show(v==40+9)=false from beq_eq_false_iff_ne.2 h3];rfl
theorem simpB_A{a:Atr}(h:cN a.fl)(v:Int)(hv:0≤v)(h0:v≠0)(h4:v≠4)(g:List Int):UU a v=dM a v g:=by
 unfold UU dM;rw[if_neg h0,qJ3 h v h4 g,←qJj ⟨a.fk,a.fn⟩ v hv,←qJk ⟨a.bk,a.bn⟩ v hv]
 congr 1
 all_goals(split<;>rfl)
section
variable {P:Program}
theorem sO{fn:Func}{p u u2:Tmp}{ty:TypeId}(h:fn.results=#[.cell p ty,.tmp u,.tmp u2])(tmps:Array Value)(w:World):
 (results fn tmps).run P w=((asAddr (tmps.getD p undef)).run P w).andThen fun a w1=>((loadVar ty a).run P w1).andThen fun v w2=>.ok (.tuple #[v,tmps.getD u undef,tmps.getD u2 undef]) w2:=by
 simp only[results,h];simp[Sem.run_bind,Result.andThen]
theorem cX{fn:Func}{u u2 p:Tmp}{ty:TypeId}{d:TypeDesc}(hr:fn.results=#[.cell p ty,.tmp u,.tmp u2])(tmps:Array Value)(w:World)(b:Nat)(cs:List Value)(hp:tmps.getD p undef=.pointer (some ⟨b,0,none⟩))(h:w.rangeAt b 0 cs)
 (hu:P.underlying ty=some d) (hd:d.isRow=true) (hi:(P.info? ty).map (·.size)=some cs.length):(results fn tmps).run P w=.ok (.tuple #[.agg cs.toArray,tmps.getD u undef,tmps.getD u2 undef]) w:=by
 rw[sO hr,hp];have :=run_loadVar_mid (P:=P) w b 0 ty cs _ h hu hd hi;simp only[asAddr,Sem.run_pure,Result.andThen_ok,this]
end
theorem cN.ite{c:Prop}[Decidable c]{a b:Int}(ha:cN a)(hb:cN b):cN (if c then a else b):=by
 by_cases h:c
 · rw[if_pos h];exact ha
 · rw[if_neg h];exact hb
theorem cN.flags{f:Int}(h:cN f)(v:Int)(g:List Int):cN (cK f v g):=by
 unfold cK
 repeat' (first|(with_reducible exact h)|(with_reducible refine cN.ite ?_ ?_)|(with_reducible refine cN.with ?_ _ qZ _))
def rY(l:List Int):Int:=l.foldl (fun n x=>256*n+max 0 x) 0
def b3V(g:List Int):Option Col:=if ∀x∈g,x≤255 then some (if g.length=1 then⟨1,rY g⟩else⟨2,rY g⟩)else none
def ocK(c:Option Col):Int:=(c.getD ⟨0,0⟩).k
def ocN(c:Option Col):Int:=(c.getD ⟨0,0⟩).n
def rM(c:Option Col)(w:World)(e:Ending)(w':World):Prop:=e=.returned (.tuple #[.agg #[.int .i64 (ocK c),.int .i64 (ocN c)],.bool c.isSome])∧Below w.heap.size w w'
theorem shl8_or{n x:Int}(h0:0≤n)(h1:n<16777216)(x0:0≤x)(x1:x<256):bits .or .i64 (n*256) x=256*n+x:=by
 obtain⟨a,rfl⟩:=Int.eq_ofNat_of_zero_le h0;obtain⟨b,rfl⟩:=Int.eq_ofNat_of_zero_le x0;have ha:a<16777216:=by omega
 have hb:b<256:=by omega
 have e1:(((a:Int)*256))=((a*256:Nat):Int):=by simp
 have key:(BitVec.ofInt 64 ((a:Int)*256) ||| BitVec.ofInt 64 (b:Int)).toNat=a*256+b:=by
  rw[e1,BitVec.ofInt_natCast,BitVec.ofInt_natCast,BitVec.toNat_or,BitVec.toNat_ofNat,BitVec.toNat_ofNat,Nat.mod_eq_of_lt qJ,Nat.mod_eq_of_lt qJ];rw[show a*256=a <<< 8 by rw[Nat.shiftLeft_eq],←Nat.shiftLeft_add_eq_or_of_lt (by omega:b<2 ^ 8)]
 have e2:bits .or .i64 ((a:Int)*256) (b:Int)=jE.wrap (((BitVec.ofInt 64 ((a:Int)*256) ||| BitVec.ofInt 64 (b:Int)).toNat:Nat):Int):=rfl;rw[e2,key,jF _ qJ];omega
theorem Y7{g:List Int}{i:Nat}(hi:i<g.length):rY (g.take (i+1))=256*rY (g.take i)+max 0 (g.getD i 0):=by
 unfold rY;rw[kY hi,List.foldl_append];simp only[List.foldl_cons,List.foldl_nil];rw[kV,jN hi];rfl
theorem Yt{g:List Int}(hg:∀x∈g,x≤255)(h3:g.length≤3):0≤rY g∧rY g<16777216:=by
 unfold rY
 match g,h3 with
 |[],_=>exact⟨by decide,by decide⟩
 |[a],_=>have :=hg a qV;simp only[List.foldl_cons,List.foldl_nil];omega
 |[a,b],_=>have :=hg a qV;have :=hg b qV;simp only[List.foldl_cons,List.foldl_nil];omega
 |[a,b,c],_=>have :=hg a qV;have :=hg b qV;have :=hg c qV;simp only[List.foldl_cons,List.foldl_nil];omega
section
variable {w:World}
theorem lW{B:Option Addr}{g:List Int}(hG:pZ pT 1 w B g)(ca:Nat)(h3:g.length≤3):Calls jG 384 #[.slice B g.length ca] w (rM (b3V g) w):=by
 have HGE:Hid (∀i,i<g.length→∃b off,B=some ⟨b,off,none⟩∧w.cell? ⟨b,off+i,none⟩=some (.int .i64 (g.getD i 0))):=Hd (fun i hi=>fF hG hi);obtain⟨W,hW⟩:∃W,w.alloc (.cells #[.int .i64 0,.int .i64 0] 61)=W:=⟨_,rfl⟩;have hb:Below w.heap.size w W:=by rw[←hW];exact jH (jU _ _) _
 have hc:W.heap[w.heap.size]? =some (.cells #[.int .i64 0,.int .i64 0] 61 (0,0)):=by rw[←hW];exact jA rfl
 have HB:=Hd hb;have HC:=Hd hc;have HW:=Hd hW;obtain⟨c0,f0⟩:=at_ hc 0 (.int .i64 0) rfl;obtain⟨c1,f1⟩:=at_ hc 1 (.int .i64 0) rfl;obtain⟨K,hK⟩:∃K,g.length=K:=⟨_,rfl⟩;rw[hK]at h3 HGE ⊢;have HK:=Hd hK;obtain⟨co,hco⟩:∃co,b3V g=co:=⟨_,rfl⟩;rw[hco];have HV:=Hd hco;clear hG hb hc hW hK hco
 go_enter Tryz.func384,Tryz.ntmps384
 go_upto_region 1 with fail
 rw[HW.o]
 go_wp2_with fail
 go_loopw [4,9] (fun s4 s9 wr=>∃i:Nat,s4=.int .i64 (rY (g.take i))∧s9=.int .i64 i∧i≤K∧(∀x∈g.take i,x≤255)∧W=wr) (fun _ s9 _=>K-(intOf s9).toNat)
 case atStart=>exact⟨0,rfl,rfl,kB _,fun x hx=>by simp at hx,rfl⟩
 case round=>
  obtain⟨i,rfl,rfl,hi,hall,rfl⟩:=hrel;have hwi:jE.wrap ((i:Int)+1)=(i:Int)+1:=jF _ qJ;have hbn:=Yt (g:=g.take i) hall qY
  by_cases hlt:i<K
  rotate_left
  · obtain rfl:i=K:=by omega
    have hltI:¬(i:Int)<(i:Int):=by omega
    have ht:g.take i=g:=vV (by rw[HK.o];exact jD _);rw[ht]at hall hbn ⊢;have hv:b3V g=some (if g.length=1 then⟨1,rY g⟩else⟨2,rY g⟩):=by unfold b3V;rw[if_pos hall]
    obtain⟨N,hN⟩:∃N,rY g=N:=⟨_,rfl⟩;rw[hN,HK.o]at hv;have HVV:=Hd (HV.o.symm.trans hv);rw[hN];clear hall hbn hv ht hN
    by_cases h1:i=1
    · subst h1
      go_wp2
      have hz:=kA (kA HC.o 0 (.int .i64 1) rfl) 1 (.int .i64 N) rfl;exact bodyPost_ret (pH rfl _ _ w.heap.size [.int .i64 1,.int .i64 N] rfl (uU hz) Tryz.underlying61 rfl gB) rfl ⟨by rw[HVV.o];rfl,uK (uK HB.o (jD _) _) (jD _) _⟩
    · have h1q:((i:Int)==1)=false:=beq_eq_false_iff_ne.2 qJ;have h1I:¬(i:Int)=1:=by omega
      go_wp2
      have hz:=kA (kA HC.o 0 (.int .i64 2) rfl) 1 (.int .i64 N) rfl;exact bodyPost_ret (pH rfl _ _ w.heap.size [.int .i64 2,.int .i64 N] rfl (uU hz) Tryz.underlying61 rfl gB) rfl ⟨by rw[HVV.o,if_neg h1];rfl,uK (uK HB.o (jD _) _) (jD _) _⟩
  · have hltI:(i:Int)<(K:Int):=by omega
    obtain⟨b,off,hBe,hcell⟩:=HGE.o i hlt;subst hBe;have hcell2:=kZ HB.o hcell;have hsu:=Y7 (g:=g) (i:=i) qVq;obtain⟨x,hx⟩:∃x,g.getD i 0=x:=⟨_,rfl⟩;obtain⟨n,hn⟩:∃n,rY (g.take i)=n:=⟨_,rfl⟩;rw[hx,hn]at hsu;rw[hn]at hbn ⊢;rw[hx]at hcell2;have HSU:=Hd hsu;have HXG:=Hd hx;have HALL:=Hd hall;clear hsu hx hn hall hcell
    by_cases hgt:255<x
    · have hv:b3V g=none:=by
       unfold b3V;rw[if_neg];intro h;have :=h x (by rw[←HXG.o,kV,jN qVq];exact List.getElem_mem _);omega
      have HVV:=Hd (HV.o.symm.trans hv);clear hv
      go_wp2
      have hz:=kA (kA HC.o 0 (.int .i64 0) rfl) 1 (.int .i64 0) rfl;exact qZq
    · have hwn:jE.wrap (n*256)=n*256:=jF _ qJ;have HOR:=Hd (shl8_or hbn.1 hbn.2 (x:=max 0 x) qJ qJ);have HMX:Hid ((if 0<x then x else 0)=max 0 x):=Hd (by split<;>omega);have hsh:(Op.shift .shl .i64 n .u64 8).run jG W=.ok (.int .i64 (n*256)) W:=by
       have e:=shift_shl .i64 .u64 n 8 qZ qZ;rw[e];show Result.ok (Value.int .i64 (jE.wrap (n*2 ^ (8:Int).toNat))) W=_;rw[show n*2 ^ (8:Int).toNat=n*256 from rfl,hwn]
      go_wp2
      go_roundw
      case rel=>
       refine⟨i+1,?_,by go_num,by omega,?_,by first|rfl|trivial⟩
       · rw[HSU.o,HMX.o,HOR.o]
       · intro y hy;rw[kY qVq]at hy;rcases kM.1 hy with hy|hy
         · exact HALL.o y hy
         · rw[jW.1 hy];have :g[i]'qVq=x:=by rw[←HXG.o,kV,jN qVq];rfl
           omega
      case measure=>simp[intOf];omega
end
def tG(g:List Int):Option Col:=if g.getD 1 0=5∧g.length=3 then b3V [g.getD 2 0]else if g.getD 1 0=2∧(g.length=5∨g.length=6)then b3V (g.drop (g.length-3))else none
theorem gr_drop{w:World}{b off k:Nat}{g:List Int}(h:pZ pT 1 w (some ⟨b,off,none⟩) g):pZ pT 1 w (some ⟨b,off+k,none⟩) (g.drop k):=fun h0=>by
 have hl:k<g.length:=by simp at h0;omega
 obtain⟨b',off',hA,hg⟩:=h qJ;injection hA with hA
 injection hA with h1 h2
 subst h1 h2;refine⟨b,off+k,rfl,fun i x hi j v hv=>?_⟩;rw[gH]at hi;have :=hg (k+i) x hi j v hv;rw[Nat.mul_one]at this ⊢;rw[show off+k+i+j=off+(k+i)+j by omega];exact this
section
variable {w:World}
set_option maxHeartbeats 3200000 in
theorem Zf{B:Option Addr}{g:List Int}(hG:pZ pT 1 w B g)(ca:Nat)(h1:1<g.length)(h8:g.length≤8)(hca:g.length≤ca):Calls jG 360 #[.slice B g.length ca] w (rM (tG g) w):=by
 obtain⟨b,off,rfl,hc1⟩:=fF hG h1;have HGG:=Hd hG;obtain⟨W,hW⟩:∃W,w.alloc (.cells #[.int .i64 0,.int .i64 0] 61)=W:=⟨_,rfl⟩;have hb:Below w.heap.size w W:=by rw[←hW];exact jH (jU _ _) _
 have hcz:W.heap[w.heap.size]? =some (.cells #[.int .i64 0,.int .i64 0] 61 (0,0)):=by rw[←hW];exact jA rfl
 have HB:=Hd hb;have HC:=Hd hcz;have HW:=Hd hW;have hc1':=kZ hb hc1;obtain⟨co,hco⟩:∃co,tG g=co:=⟨_,rfl⟩;rw[hco];have HV:=Hd hco;clear hb hcz hW hc1 hco
 by_cases hA:g.getD 1 0=5∧g.length=3
 · obtain⟨ha1,ha2⟩:=hA;obtain⟨b',off',hbe,hc2⟩:=fF hG (i:=2) qJ;injection hbe with hbe
   injection hbe with e1 e2
   subst e1 e2;have hc2':=kZ HB.o hc2;have HVV:Hid (co=b3V [g.getD 2 0]):=Hd (by rw[←HV.o];unfold tG;rw[if_pos ⟨ha1,ha2⟩]);rw[ha1]at hc1';rw[ha2];obtain⟨x,hx⟩:∃x,g.getD 2 0=x:=⟨_,rfl⟩;rw[hx]at hc2' HVV;have H3:Hid (∀W2,Below W.heap.size W W2→Calls jG 384 #[.slice (some ⟨W2.heap.size,0,none⟩) 1 1] (W2.alloc (.cells #[.int .i64 x] 3)) (rM co (W2.alloc (.cells #[.int .i64 x] 3)))):=Hd (fun W2 hb2=>by
    rw[HVV.o];refine lW (B:=some ⟨W2.heap.size,0,none⟩) (g:=[x]) (fun _=>⟨W2.heap.size,0,rfl,fun i y hi j v hv=>?_⟩) 1 qV;have hi0:i=0:=by have :=(jP.1 hi).1;simpa using this
    subst hi0;obtain rfl:x=y:=by simpa using hi
    have hj0:j=0:=by have :=(jP.1 hv).1;simpa[pT]using this
    subst hj0;obtain rfl:Value.int .i64 x=v:=by simpa[pT]using hv
    exact(at_ (jA (W:=W2) (b:=W2.heap.size) (o:=.cells #[.int .i64 x] 3) rfl) 0 _ rfl).1)
   clear hG h1 h8 hca ha1 ha2 hc2 hx
   go_enter Tryz.func360,Tryz.ntmps360
   go_upto_region 1 with fail
   rw[HW.o]
   go_upto_region 2 with fail
   have hbx:=jH (jU W.heap.size W) (.cells #[.int .i64 x] 3);have HBX:=Hd hbx;clear hbx;refine wp_region_lit ?_;refine jB (.slice (some ⟨b,off,none⟩) 3 ca) qK qK ?_;simp only[Act.put,jZ,jX,jY];refine jB (.pointer (some ⟨b,off+2,none⟩)) qK qX ?_;simp only[Act.put,jZ,jX,jY];refine jB (.int .i64 x) qK qX ?_;simp only[Act.put,jZ,jX,jY];refine uP (.slice (some ⟨W.heap.size,0,none⟩) 1 1) (W.alloc (.cells #[.int .i64 x] 3)) qK qX ?_;simp only[Act.put,jZ,jX,jY];refine zX rfl 384 #[.slice (some ⟨W.heap.size,0,none⟩) 1 1] qX (H3.o W (jU _ _)) (.tuple #[.agg #[.int .i64 (ocK co),.int .i64 (ocN co)],.bool co.isSome]) (fun e w' h=>h.1) ?_;rintro w5 ⟨-,hb5⟩;have HB5:=Hd hb5;clear hb5;have hb6:=jM HBX.o HB5.o;have hz6:=(hb6.block _ (jL HC.o)).trans HC.o;have hbz:=jM HB.o hb6;obtain⟨z0,z0f⟩:=at_ hz6 0 (.int .i64 0) rfl;obtain⟨z1,z1f⟩:=at_ hz6 1 (.int .i64 0) rfl;have HZ6:=Hd hz6;have HBZ:=Hd hbz;clear hb6 hz6 hbz hc1' hc2';simp only[Act.put,jZ,jX,jY]
   go_wp2
   have hz:=kA (kA HZ6.o 0 (.int .i64 (ocK co)) rfl) 1 (.int .i64 (ocN co)) rfl;exact qZr
 have hA':g.getD 1 0≠5∨(g.getD 1 0=5∧g.length≠3):=by omega
 obtain⟨v1,hv1⟩:∃v1,g.getD 1 0=v1:=⟨_,rfl⟩;obtain⟨L,hL⟩:∃L,g.length=L:=⟨_,rfl⟩
 by_cases hBc:v1=2∧(L=5∨L=6)
 · obtain⟨hb1,hb2⟩:=hBc;have HVV:Hid (co=b3V (g.drop (L-3))):=Hd (by rw[←HV.o];unfold tG;rw[if_neg hA,hv1,hL,if_pos ⟨hb1,hb2⟩]);obtain⟨M,hM⟩:∃M,L=M+3:=⟨L-3,by omega⟩;have hMI:(L:Int)-3=(M:Int):=by omega
   have hwM:jE.wrap (M:Int)=(M:Int):=jF _ qJ;have H3:Hid (Calls jG 384 #[.slice (some ⟨b,off+M,none⟩) 3 (ca-M)] W (rM co W)):=Hd (by
    rw[HVV.o,show L-3=M by omega];have :=lW (w:=W) (g:=g.drop M) (gr_drop (HGG.o.below HB.o)) (ca-M) qY;rw[show(g.drop M).length=3 by simp;omega]at this;exact this)
   rw[hL]at h1 h8 hca ⊢;rw[hv1,hb1]at hc1';have hge:M≤L:=by omega
   have hLc:L≤ca:=hca;have hL3:L-M=3:=by omega
   have hML:(M:Int)≤(L:Int):=by omega
   have hLca:(L:Int)≤(ca:Int):=by omega
   have hor:(L==5)=true∨((L==5)=false∧(L==6)=true):=by
    rcases hb2 with rfl|rfl
    · exact .inl rfl
    · exact .inr ⟨rfl,rfl⟩
   subst hb1;clear hG hA hA' hv1 hL hMI h1 h8;rcases hb2 with rfl|rfl
   · obtain rfl:M=2:=by omega
     have hwk:jE.wrap (2:Int)=2:=jF _ qJ;have h2c:2≤ca:=by omega
     have hnc:¬ca=2:=by omega
     have h2cI:(2:Int)≤(ca:Int):=by omega
     have hncI:¬(ca:Int)=2:=by omega
     go_enter Tryz.func360,Tryz.ntmps360
     go_upto_region 1 with fail
     rw[HW.o]
     go_upto_region 4 with fail
     refine wp_region_lit ?_;refine jB (.slice (some ⟨b,off,none⟩) 5 ca) qK qK ?_;simp only[Act.put,jZ,jX,jY];refine jB (.slice (some ⟨b,off,none⟩) 5 ca) qK qK ?_;simp only[Act.put,jZ,jX,jY];refine jB (.int .i64 5) qK qX ?_;simp only[Act.put,jZ,jX,jY];refine jB (.int .i64 2) qK qX ?_;simp only[Act.put,jZ,jX,jY];refine jB (.slice (some ⟨b,off+2,none⟩) 3 (ca-2)) qK qX ?_;simp only[Act.put,jZ,jX,jY];refine zX rfl 384 #[.slice (some ⟨b,off+2,none⟩) 3 (ca-2)] qX H3.o (.tuple #[.agg #[.int .i64 (ocK co),.int .i64 (ocN co)],.bool co.isSome]) (fun e w' h=>h.1) ?_;rintro w5 ⟨-,hb5⟩;have HB5:=Hd hb5;clear hb5;have hz6:=(HB5.o.block _ (jL HC.o)).trans HC.o;have hbz:=jM HB.o HB5.o;obtain⟨z0,z0f⟩:=at_ hz6 0 (.int .i64 0) rfl;obtain⟨z1,z1f⟩:=at_ hz6 1 (.int .i64 0) rfl;have HZ6:=Hd hz6;have HBZ:=Hd hbz;clear hz6 hbz hc1';simp only[Act.put,jZ,jX,jY]
     go_wp2
     have hz:=kA (kA HZ6.o 0 (.int .i64 (ocK co)) rfl) 1 (.int .i64 (ocN co)) rfl;exact qZr
   · obtain rfl:M=3:=by omega
     have hwk:jE.wrap (3:Int)=3:=jF _ qJ;have h2c:3≤ca:=by omega
     have hnc:¬ca=3:=by omega
     have h2cI:(3:Int)≤(ca:Int):=by omega
     have hncI:¬(ca:Int)=3:=by omega
     go_enter Tryz.func360,Tryz.ntmps360
     go_upto_region 1 with fail
     rw[HW.o]
     go_upto_region 4 with fail
     refine wp_region_lit ?_;refine jB (.slice (some ⟨b,off,none⟩) 6 ca) qK qK ?_;simp only[Act.put,jZ,jX,jY];refine jB (.slice (some ⟨b,off,none⟩) 6 ca) qK qK ?_;simp only[Act.put,jZ,jX,jY];refine jB (.int .i64 6) qK qX ?_;simp only[Act.put,jZ,jX,jY];refine jB (.int .i64 3) qK qX ?_;simp only[Act.put,jZ,jX,jY];refine jB (.slice (some ⟨b,off+3,none⟩) 3 (ca-3)) qK qX ?_;simp only[Act.put,jZ,jX,jY];refine zX rfl 384 #[.slice (some ⟨b,off+3,none⟩) 3 (ca-3)] qX H3.o (.tuple #[.agg #[.int .i64 (ocK co),.int .i64 (ocN co)],.bool co.isSome]) (fun e w' h=>h.1) ?_;rintro w5 ⟨-,hb5⟩;have HB5:=Hd hb5;clear hb5;have hz6:=(HB5.o.block _ (jL HC.o)).trans HC.o;have hbz:=jM HB.o HB5.o;obtain⟨z0,z0f⟩:=at_ hz6 0 (.int .i64 0) rfl;obtain⟨z1,z1f⟩:=at_ hz6 1 (.int .i64 0) rfl;have HZ6:=Hd hz6;have HBZ:=Hd hbz;clear hz6 hbz hc1';simp only[Act.put,jZ,jX,jY]
     go_wp2
     have hz:=kA (kA HZ6.o 0 (.int .i64 (ocK co)) rfl) 1 (.int .i64 (ocN co)) rfl;exact qZr
 · have HVV:Hid (co=none):=Hd (by rw[←HV.o];unfold tG;rw[if_neg hA,hv1,hL,if_neg hBc]);obtain⟨z0,z0f⟩:=at_ HC.o 0 (.int .i64 0) rfl;obtain⟨z1,z1f⟩:=at_ HC.o 1 (.int .i64 0) rfl;rw[hv1]at hc1' hA';rw[hL]at hA' h1 h8 hca ⊢;clear hG hv1 hL hA HGG;have h31:(v1==5)=false∨(v1=5∧((L:Int)==3)=false∧¬(L:Int)=3):=by
    rcases hA' with h|⟨h,h'⟩
    · exact .inl (beq_eq_false_iff_ne.2 h)
    · exact .inr ⟨h,beq_eq_false_iff_ne.2 qJ,by omega⟩
   have h32:(v1==2)=false∨(v1=2∧(((L:Int)==5)=false∧((L:Int)==6)=false)∧¬L=5∧¬L=6):=by
    by_cases h:v1=2
    · exact .inr ⟨h,⟨beq_eq_false_iff_ne.2 qJ,beq_eq_false_iff_ne.2 qJ⟩,by omega,by omega⟩
    · exact .inl (beq_eq_false_iff_ne.2 h)
   clear hA' hBc;rcases h31 with h31|⟨rfl,h31,h31'⟩
   · rcases h32 with h32|⟨rfl,⟨h32,h33⟩,h34,h35⟩
     · go_enter Tryz.func360,Tryz.ntmps360
       go_upto_region 1 with fail
       rw[HW.o]
       go_wp2
       have hz:=kA (kA HC.o 0 (.int .i64 0) rfl) 1 (.int .i64 0) rfl;exact qZq
     · go_enter Tryz.func360,Tryz.ntmps360
       go_upto_region 1 with fail
       rw[HW.o]
       go_wp2
       have hz:=kA (kA HC.o 0 (.int .i64 0) rfl) 1 (.int .i64 0) rfl;exact qZq
   · clear h32
     go_enter Tryz.func360,Tryz.ntmps360
     go_upto_region 1 with fail
     rw[HW.o]
     go_wp2
     have hz:=kA (kA HC.o 0 (.int .i64 0) rfl) 1 (.int .i64 0) rfl;exact qZq
end
theorem eF{α:Type}{enc:α→List Value}{K:Nat}(hl:∀x,(enc x).length=K){w:World}{base:Nat}{e:TypeId}{A:Option Addr}{n c:Nat}{X:List α}(h:w.ownsRow base e K (.slice A n c) X.length (uY enc X)):pZ enc K w A X:=fun h0=>by
 obtain⟨g,c',hv⟩:=gV h h0;simp only[Value.slice.injEq]at hv;obtain⟨rfl,rfl,rfl⟩:=hv;refine⟨g,0,rfl,fun i x hi j v hj=>?_⟩;rw[kP];exact(gR h (i:=i*K+j) qC).1
theorem aP:(jG.info? 3).map (fun i=>(i.zero,i.size,i.bytes))=some (some (.int .i64 0),1,8):=by kernel_rfl
def cU(G:List (List Int))(i:Nat):Nat:=if yP G (i+1)=5 then 1 else if yP G (i+1)=2 then 3 else 0
def zH(G:List (List Int))(i n:Nat):List Int:=(List.range n).map (fun k=>yP G (i+2+k))
theorem dE(G:List (List Int))(i n:Nat):(zH G i n).length=n:=by unfold zH;simp
theorem xH(G:List (List Int))(i n:Nat):zH G i (n+1)=zH G i n++[yP G (i+2+n)]:=by unfold zH;rw[List.range_succ,uE];rfl
def lL(G:List (List Int))(i:Nat):Option Col×Int:=
 if G.length≤i+1+cU G i then(none,(G.length:Int)-1-i)else if cU G i=0 then(none,1)else(b3V (zH G i (cU G i)),1+(cU G i:Int))
def Ud(c:Option Col×Int)(w:World)(e:Ending)(w':World):Prop:=e=.returned (.tuple #[.agg #[.int .i64 (ocK c.1),.int .i64 (ocN c.1)],.bool c.1.isSome,.int .i64 c.2])∧Below w.heap.size w w'
section
variable {w:World}{A:Option Addr}{H:List Gh}
set_option maxHeartbeats 6400000 in
theorem Zl(hG:dU w A H)(ca i:Nat)(hi:i<H.length)(hz:H.length≤1000):Calls jG 361 #[.slice A H.length ca,.int .i64 i] w (Ud (lL (vZ H) i) w):=by
 obtain⟨j0,hj,gz0,gz1,gz2⟩:=info_parts aP;obtain⟨W,hW⟩:∃W,w.alloc (.cells #[.int .i64 0,.int .i64 0] 61)=W:=⟨_,rfl⟩;have hb:Below w.heap.size w W:=by rw[←hW];exact jH (jU _ _) _
 have hcz:W.heap[w.heap.size]? =some (.cells #[.int .i64 0,.int .i64 0] 61 (0,0)):=by rw[←hW];exact jA rfl
 have hlW:w.heap.size<W.heap.size:=jL hcz;have HB:=Hd hb;have HC:=Hd hcz;have HW:=Hd hW;have HLW:=Hd hlW;have HGW:Hid (∀W',Below W.heap.size W W'→∀k:Nat,Calls jG 358 #[.slice A H.length ca,.int .i64 k] W' fun e w'=>e=.returned (.int .i64 (yP (vZ H) k))∧W'=w'):=Hd (fun W' hb' k=>QR (hG.below (jM hb hb')) ca k qJ);have hgl:(vZ H).length=H.length:=by unfold vZ;simp
 obtain⟨co,hco⟩:∃co,lL (vZ H) i=co:=⟨_,rfl⟩;rw[hco];have hbe:co=if H.length≤i+1+cU (vZ H) i then(none,(H.length:Int)-1-i)else if cU (vZ H) i=0 then(none,1)else(b3V (zH (vZ H) i (cU (vZ H) i)),1+(cU (vZ H) i:Int)):=by rw[←hco];unfold lL;rw[hgl]
 have HV:=Hd hbe;generalize vZ H=G at HGW HV;obtain⟨L,hL⟩:∃L,H.length=L:=⟨_,rfl⟩;rw[hL]at HGW HV hi hz ⊢;have hi1:(i:Int)+1=((i+1:Nat):Int):=by omega
 obtain⟨i1,hi1e⟩:∃i1:Nat,i1=i+1:=⟨_,rfl⟩;have hi1I:(i:Int)+1=(i1:Int):=by omega
 have hw1:jE.wrap (i1:Int)=(i1:Int):=jF _ qJ;have HF1:=Hd (HGW.o W (jU _ _) i1);obtain⟨v1,hv1⟩:∃v1,yP G i1=v1:=⟨_,rfl⟩;rw[hv1]at HF1;have HN:Hid (cU G i=if v1=5 then 1 else if v1=2 then 3 else 0):=Hd (by unfold cU;rw[←hi1e,hv1]);have HI1:=Hd hi1e;clear hG hb hcz hW hlW hgl hco hbe hL hi1 hi1e hv1;have cend:∀W5,Below W.heap.size W W5→∀(c:Option Col) (n:Int),co=(c,n)→∀W6,W6=(W5.setCell ⟨w.heap.size,0,none⟩ (.int .i64 (ocK c))).setCell ⟨w.heap.size,1,none⟩ (.int .i64 (ocN c))→W6.rangeAt w.heap.size 0 [.int .i64 (ocK co.1),.int .i64 (ocN co.1)]∧Below w.heap.size w W6:=fun W5 hb5 c n hc W6 h6=>by
  have hz:=(hb5.block _ HLW.o).trans HC.o;rw[hc,h6];exact⟨uU (kA (kA hz 0 (.int .i64 (ocK c)) rfl) 1 (.int .i64 (ocN c)) rfl),uK (uK (jM HB.o (jM (jU _ _) hb5)) (jD _) _) (jD _) _⟩
 have HEND:=Hd cend;clear cend
 by_cases h5:v1=5
 · subst h5;have HNV:Hid (cU G i=1):=Hd (by rw[HN.o];rw[if_pos rfl]);have hwn:jE.wrap ((i1:Int)+1)=(i1:Int)+1:=jF _ qJ
   by_cases hle:L≤i1+1
   · have hleI:(L:Int)≤(i1:Int)+1:=by omega
     have hwL:jE.wrap ((L:Int)-1)=(L:Int)-1:=jF _ qJ;have hwL2:jE.wrap ((L:Int)-1-(i:Int))=(L:Int)-1-(i:Int):=jF _ qJ;have HVV:Hid (co=(none,(L:Int)-1-i)):=Hd qVa;clear hle;have hz5:=(((jU W.heap.size W).block _ HLW.o)).trans HC.o;obtain⟨z0,z0f⟩:=at_ hz5 0 (.int .i64 0) rfl;obtain⟨z1,z1f⟩:=at_ hz5 1 (.int .i64 0) rfl;clear hz5
     go_enter Tryz.func361,Tryz.ntmps361
     go_upto_region 1 with fail
     rw[HW.o]
     go_wp2_with(go_at_call 358;(with_reducible refine HF1.o.mono ?_);rintro e w2 ⟨rfl,rfl⟩)
     obtain⟨hr,hbe⟩:=HEND.o W (jU _ _) none (((L:Int)-1-i)) HVV.o _ rfl;exact qZs
   · have hleI:¬(L:Int)≤(i1:Int)+1:=by omega
     have HVV:Hid (co=(b3V (zH G i 1),1+(1:Int))):=Hd qVb;clear hle
     go_enter Tryz.func361,Tryz.ntmps361
     go_upto_region 1 with fail
     rw[HW.o]
     go_wp2_with(go_at_call 358;(with_reducible refine HF1.o.mono ?_);rintro e w2 ⟨rfl,rfl⟩)
     go_loopw [8,37] (fun s8 s37 wr=>∃k:Nat,s37=.int .i64 k∧k≤1∧wr.ownsRow W.heap.size 3 1 s8 k (uY pT (zH G i k))∧Below W.heap.size W wr) (fun _ s37 _=>1-(intOf s37).toNat)
     case atStart=>exact⟨0,rfl,kB _,kD _ _ _ _,jU _ _⟩
     case round=>
      obtain⟨k,rfl,hk,hO,hB⟩:=hrel;obtain⟨bx,rfl⟩:∃bx:Value×Unit,u8=bx.1:=⟨(u8,()),rfl⟩;have HO:=Hd hO;have HBk:=Hd hB;have hwk:jE.wrap ((k:Int)+1)=(k:Int)+1:=jF _ qJ;have hwi2:jE.wrap ((i:Int)+2)=(i:Int)+2:=jF _ qJ;obtain⟨j,hje⟩:∃j:Nat,j=i+2+k:=⟨_,rfl⟩;have hjI:(i:Int)+2+(k:Int)=(j:Int):=by omega
      have hwj:jE.wrap (j:Int)=(j:Int):=jF _ qJ;have HJ:=Hd hje;clear hO hB hje
      by_cases hlt:k<1
      · have hltI:(k:Int)<1:=by omega
        have HFJ:=Hd (HGW.o wr HBk.o j);obtain⟨vj,hvj⟩:∃vj,yP G j=vj:=⟨_,rfl⟩;rw[hvj]at HFJ;have HVJ:Hid (zH G i (k+1)=zH G i k++[vj]):=Hd (by rw[xH,←hvj,HJ.o]);clear hvj;have HSZ:=Hd HBk.o.size
        go_upto_region 15 with fail
        refine wp_region_lit ?_;refine jB (bx.1) qK qK ?_;simp only[Act.put,jZ,jX,jY];refine jB (.slice A L ca) qK qK ?_;simp only[Act.put,jZ,jX,jY];refine jB (.int .i64 i) qK qK ?_;simp only[Act.put,jZ,jX,jY];refine jB (.int .i64 ((i:Int)+2)) qK qX ?_;simp only[Act.put,jZ,jX,jY];refine jB (.int .i64 k) qK qK ?_;simp only[Act.put,jZ,jX,jY];refine jB (.int .i64 j) qK qX ?_;simp only[Act.put,jZ,jX,jY];refine zX rfl 358 #[.slice A L ca,.int .i64 j] qX HFJ.o (.int .i64 vj) (fun e w' h=>h.1) ?_;rintro w5 ⟨-,rfl⟩;simp only[Act.put,jZ,jX,jY];have HO3:=Hd (kC HO.o (Mod.of_below (X:=[]) (jH (jU wr.heap.size wr) (.cells #[.int .i64 vj] 3))) (fun _ _ h=>by cases h));have HBX:=Hd (jH HBk.o (.cells #[.int .i64 vj] 3));refine uP (.slice (some ⟨wr.heap.size,0,none⟩) 1 1) (wr.alloc (.cells #[.int .i64 vj] 3)) qK qX ?_;simp only[Act.put,jZ,jX,jY];refine vW (o:=⟨some 48,_,_,_,_,_⟩) rfl (.tmp 40) (.tmp 47) 241 rfl W.heap.size 3 j0 _ 1 8 Tryz.underlying241 hj gz0 gz1 gz2 rfl qZ bx.1 k (uY pT (zH G i k)) rfl HO3.o ⟨wr.heap.size,0,none⟩ 1 1 [.int .i64 vj] rfl rfl (fun j u hj=>by rw[vC,kP];exact(at_ (jA rfl) j u qH).1) (mD _) qO qJ qVk ?_;intro v' w7 ho hg hv'
        have HO7:Hid (w7.ownsRow W.heap.size 3 1 v' (k+1) (uY pT (zH G i (k+1)))):=Hd (by rw[HVJ.o,uR];exact ho);have HB7:=Hd (HBX.o.grown hg HBX.o.size (fun b hb=>(kR.lt (show kR _ _ _ _ _ _ _ from HO3.o) b hb).1));simp only[Act.put,jZ,jX,jY];clear ho hg hv'
        go_wp2
        go_roundw
        case rel=>exact⟨k+1,by go_num,by omega,HO7.o,HB7.o⟩
        case measure=>simp[intOf];omega
      · have hltI:¬(k:Int)<1:=by omega
        obtain rfl:k=1:=by omega
        obtain⟨A8,c8,hv8⟩:=uI HO.o;obtain⟨bv,bu⟩:=bx;simp only at hv8;subst hv8;have H3:Hid (Calls jG 384 #[.slice A8 1 c8] wr (rM (b3V (zH G i 1)) wr)):=Hd (by
         have hgr:=eF (X:=zH G i 1) mF (by rw[dE];exact HO.o);have :=lW hgr c8 (by rw[dE];omega);rw[dE]at this;exact this)
        obtain⟨cc,hcc⟩:∃cc,b3V (zH G i 1)=cc:=⟨_,rfl⟩;rw[hcc]at H3 HVV;clear hcc
        go_upto_region 18 with(go_at_call 384;(with_reducible refine H3.o.mono ?_);rintro e w6 ⟨rfl,hb6⟩;have HB6:=Hd (jM HBk.o hb6);clear hb6)
        generalize hW7:World.alloc _ _=W7;have hb7:Below w6.heap.size w6 W7:=by rw[←hW7];exact jH (jU _ _) _
        have hc7:W7.heap[w6.heap.size]? =some (.cells #[.int .i64 (ocK cc),.int .i64 (ocN cc)] 61 (0,0)):=by rw[←hW7];exact jA rfl
        have HB7:=Hd (jM HB6.o hb7);obtain⟨d0,-⟩:=at_ hc7 0 (.int .i64 (ocK cc)) rfl;obtain⟨d1,-⟩:=at_ hc7 1 (.int .i64 (ocN cc)) rfl;clear hW7 hb7 hc7;have hz5:=((HB7.o.block _ HLW.o)).trans HC.o;obtain⟨z0,z0f⟩:=at_ hz5 0 (.int .i64 0) rfl;obtain⟨z1,z1f⟩:=at_ hz5 1 (.int .i64 0) rfl;clear hz5
        go_wp2
        obtain⟨hr,hbe⟩:=HEND.o W7 HB7.o cc ((1+(1:Int))) HVV.o _ rfl;exact qZs
 have e5:(v1==5)=false:=beq_eq_false_iff_ne.2 h5
 by_cases h2:v1=2
 · subst h2;clear h5 e5;have HNV:Hid (cU G i=3):=Hd (by rw[HN.o];rw[if_neg qZ,if_pos rfl]);have hwn:jE.wrap ((i1:Int)+3)=(i1:Int)+3:=jF _ qJ
   by_cases hle:L≤i1+3
   · have hleI:(L:Int)≤(i1:Int)+3:=by omega
     have hwL:jE.wrap ((L:Int)-1)=(L:Int)-1:=jF _ qJ;have hwL2:jE.wrap ((L:Int)-1-(i:Int))=(L:Int)-1-(i:Int):=jF _ qJ;have HVV:Hid (co=(none,(L:Int)-1-i)):=Hd qVa;clear hle;have hz5:=(((jU W.heap.size W).block _ HLW.o)).trans HC.o;obtain⟨z0,z0f⟩:=at_ hz5 0 (.int .i64 0) rfl;obtain⟨z1,z1f⟩:=at_ hz5 1 (.int .i64 0) rfl;clear hz5
     go_enter Tryz.func361,Tryz.ntmps361
     go_upto_region 1 with fail
     rw[HW.o]
     go_wp2_with(go_at_call 358;(with_reducible refine HF1.o.mono ?_);rintro e w2 ⟨rfl,rfl⟩)
     obtain⟨hr,hbe⟩:=HEND.o W (jU _ _) none (((L:Int)-1-i)) HVV.o _ rfl;exact qZs
   · have hleI:¬(L:Int)≤(i1:Int)+3:=by omega
     have HVV:Hid (co=(b3V (zH G i 3),1+(3:Int))):=Hd qVb;clear hle
     go_enter Tryz.func361,Tryz.ntmps361
     go_upto_region 1 with fail
     rw[HW.o]
     go_wp2_with(go_at_call 358;(with_reducible refine HF1.o.mono ?_);rintro e w2 ⟨rfl,rfl⟩)
     go_loopw [8,37] (fun s8 s37 wr=>∃k:Nat,s37=.int .i64 k∧k≤3∧wr.ownsRow W.heap.size 3 1 s8 k (uY pT (zH G i k))∧Below W.heap.size W wr) (fun _ s37 _=>3-(intOf s37).toNat)
     case atStart=>exact⟨0,rfl,kB _,kD _ _ _ _,jU _ _⟩
     case round=>
      obtain⟨k,rfl,hk,hO,hB⟩:=hrel;obtain⟨bx,rfl⟩:∃bx:Value×Unit,u8=bx.1:=⟨(u8,()),rfl⟩;have HO:=Hd hO;have HBk:=Hd hB;have hwk:jE.wrap ((k:Int)+1)=(k:Int)+1:=jF _ qJ;have hwi2:jE.wrap ((i:Int)+2)=(i:Int)+2:=jF _ qJ;obtain⟨j,hje⟩:∃j:Nat,j=i+2+k:=⟨_,rfl⟩;have hjI:(i:Int)+2+(k:Int)=(j:Int):=by omega
      have hwj:jE.wrap (j:Int)=(j:Int):=jF _ qJ;have HJ:=Hd hje;clear hO hB hje
      by_cases hlt:k<3
      · have hltI:(k:Int)<3:=by omega
        have HFJ:=Hd (HGW.o wr HBk.o j);obtain⟨vj,hvj⟩:∃vj,yP G j=vj:=⟨_,rfl⟩;rw[hvj]at HFJ;have HVJ:Hid (zH G i (k+1)=zH G i k++[vj]):=Hd (by rw[xH,←hvj,HJ.o]);clear hvj;have HSZ:=Hd HBk.o.size
        go_upto_region 15 with fail
        refine wp_region_lit ?_;refine jB (bx.1) qK qK ?_;simp only[Act.put,jZ,jX,jY];refine jB (.slice A L ca) qK qK ?_;simp only[Act.put,jZ,jX,jY];refine jB (.int .i64 i) qK qK ?_;simp only[Act.put,jZ,jX,jY];refine jB (.int .i64 ((i:Int)+2)) qK qX ?_;simp only[Act.put,jZ,jX,jY];refine jB (.int .i64 k) qK qK ?_;simp only[Act.put,jZ,jX,jY];refine jB (.int .i64 j) qK qX ?_;simp only[Act.put,jZ,jX,jY];refine zX rfl 358 #[.slice A L ca,.int .i64 j] qX HFJ.o (.int .i64 vj) (fun e w' h=>h.1) ?_;rintro w5 ⟨-,rfl⟩;simp only[Act.put,jZ,jX,jY];have HO3:=Hd (kC HO.o (Mod.of_below (X:=[]) (jH (jU wr.heap.size wr) (.cells #[.int .i64 vj] 3))) (fun _ _ h=>by cases h));have HBX:=Hd (jH HBk.o (.cells #[.int .i64 vj] 3));refine uP (.slice (some ⟨wr.heap.size,0,none⟩) 1 1) (wr.alloc (.cells #[.int .i64 vj] 3)) qK qX ?_;simp only[Act.put,jZ,jX,jY];refine vW (o:=⟨some 48,_,_,_,_,_⟩) rfl (.tmp 40) (.tmp 47) 241 rfl W.heap.size 3 j0 _ 1 8 Tryz.underlying241 hj gz0 gz1 gz2 rfl qZ bx.1 k (uY pT (zH G i k)) rfl HO3.o ⟨wr.heap.size,0,none⟩ 1 1 [.int .i64 vj] rfl rfl (fun j u hj=>by rw[vC,kP];exact(at_ (jA rfl) j u qH).1) (mD _) qO qJ qVk ?_;intro v' w7 ho hg hv'
        have HO7:Hid (w7.ownsRow W.heap.size 3 1 v' (k+1) (uY pT (zH G i (k+1)))):=Hd (by rw[HVJ.o,uR];exact ho);have HB7:=Hd (HBX.o.grown hg HBX.o.size (fun b hb=>(kR.lt (show kR _ _ _ _ _ _ _ from HO3.o) b hb).1));simp only[Act.put,jZ,jX,jY];clear ho hg hv'
        go_wp2
        go_roundw
        case rel=>exact⟨k+1,by go_num,by omega,HO7.o,HB7.o⟩
        case measure=>simp[intOf];omega
      · have hltI:¬(k:Int)<3:=by omega
        obtain rfl:k=3:=by omega
        obtain⟨A8,c8,hv8⟩:=uI HO.o;obtain⟨bv,bu⟩:=bx;simp only at hv8;subst hv8;have H3:Hid (Calls jG 384 #[.slice A8 3 c8] wr (rM (b3V (zH G i 3)) wr)):=Hd (by
         have hgr:=eF (X:=zH G i 3) mF (by rw[dE];exact HO.o);have :=lW hgr c8 (by rw[dE];omega);rw[dE]at this;exact this)
        obtain⟨cc,hcc⟩:∃cc,b3V (zH G i 3)=cc:=⟨_,rfl⟩;rw[hcc]at H3 HVV;clear hcc
        go_upto_region 18 with(go_at_call 384;(with_reducible refine H3.o.mono ?_);rintro e w6 ⟨rfl,hb6⟩;have HB6:=Hd (jM HBk.o hb6);clear hb6)
        generalize hW7:World.alloc _ _=W7;have hb7:Below w6.heap.size w6 W7:=by rw[←hW7];exact jH (jU _ _) _
        have hc7:W7.heap[w6.heap.size]? =some (.cells #[.int .i64 (ocK cc),.int .i64 (ocN cc)] 61 (0,0)):=by rw[←hW7];exact jA rfl
        have HB7:=Hd (jM HB6.o hb7);obtain⟨d0,-⟩:=at_ hc7 0 (.int .i64 (ocK cc)) rfl;obtain⟨d1,-⟩:=at_ hc7 1 (.int .i64 (ocN cc)) rfl;clear hW7 hb7 hc7;have hz5:=((HB7.o.block _ HLW.o)).trans HC.o;obtain⟨z0,z0f⟩:=at_ hz5 0 (.int .i64 0) rfl;obtain⟨z1,z1f⟩:=at_ hz5 1 (.int .i64 0) rfl;clear hz5
        go_wp2
        obtain⟨hr,hbe⟩:=HEND.o W7 HB7.o cc ((1+(3:Int))) HVV.o _ rfl;exact qZs
 have e2:(v1==2)=false:=beq_eq_false_iff_ne.2 h2;have HNV:Hid (cU G i=0):=Hd (by rw[HN.o];rw[if_neg h5,if_neg h2]);have hwn:jE.wrap ((i1:Int)+0)=(i1:Int)+0:=jF _ qJ
 by_cases hle:L≤i1+0
 · have hleI:(L:Int)≤(i1:Int)+0:=by omega
   have hwL:jE.wrap ((L:Int)-1)=(L:Int)-1:=jF _ qJ;have hwL2:jE.wrap ((L:Int)-1-(i:Int))=(L:Int)-1-(i:Int):=jF _ qJ;have HVV:Hid (co=(none,(L:Int)-1-i)):=Hd qVa;clear hle;have hz5:=(((jU W.heap.size W).block _ HLW.o)).trans HC.o;obtain⟨z0,z0f⟩:=at_ hz5 0 (.int .i64 0) rfl;obtain⟨z1,z1f⟩:=at_ hz5 1 (.int .i64 0) rfl;clear hz5
   go_enter Tryz.func361,Tryz.ntmps361
   go_upto_region 1 with fail
   rw[HW.o]
   go_wp2_with(go_at_call 358;(with_reducible refine HF1.o.mono ?_);rintro e w2 ⟨rfl,rfl⟩)
   obtain⟨hr,hbe⟩:=HEND.o W (jU _ _) none (((L:Int)-1-i)) HVV.o _ rfl;exact qZs
 · have hleI:¬(L:Int)≤(i1:Int)+0:=by omega
   have HVV:Hid (co=(none,1)):=Hd (by rw[HV.o,HNV.o,if_neg qVh,if_pos rfl]);clear hle;have hz5:=(((jU W.heap.size W).block _ HLW.o)).trans HC.o;obtain⟨z0,z0f⟩:=at_ hz5 0 (.int .i64 0) rfl;obtain⟨z1,z1f⟩:=at_ hz5 1 (.int .i64 0) rfl;clear hz5
   go_enter Tryz.func361,Tryz.ntmps361
   go_upto_region 1 with fail
   rw[HW.o]
   go_wp2_with(go_at_call 358;(with_reducible refine HF1.o.mono ?_);rintro e w2 ⟨rfl,rfl⟩)
   obtain⟨hr,hbe⟩:=HEND.o W (jU _ _) none (1) HVV.o _ rfl;exact qZs
end
def qJg(l:List (List Int))(i:Nat):Option Col:=if 1<(l.getD i []).length then tG (l.getD i [])else(lL l i).1
def qJf(l:List (List Int))(i:Nat):Int:=if 1<(l.getD i []).length then(i:Int)+1 else(i:Int)+(lL l i).2+1
theorem US{x:Int}:x≤255↔x<256:=by omega
theorem b3V_1(x:Int):b3V [x]=if x<256 then some ⟨1,max 0 x⟩else none:=by
 unfold b3V rY
 by_cases h:x<256
 · rw[if_pos h,if_pos (fun y hy=>by rw[jW.1 hy];omega)];simp
 · rw[if_neg h,if_neg (fun h'=>h (US.1 (h' _ (jW.2 rfl))))]
theorem b3V_3(x y z:Int):b3V [x,y,z]=if x<256∧y<256∧z<256 then some ⟨2,65536*max 0 x+256*max 0 y+max 0 z⟩else none:=by
 unfold b3V rY
 by_cases h:x<256∧y<256∧z<256
 · rw[if_pos h,if_pos (fun u hu=>by simp at hu;rcases hu with rfl|rfl|rfl<;>omega),if_neg qV];simp only[List.foldl]
   congr 2
   omega
 · rw[if_neg h,if_neg (fun h'=>h ⟨US.1 (h' _ qV),US.1 (h' _ qV),US.1 (h' _ qV)⟩)]
theorem drop3(g:List Int)(hl:g.length=5∨g.length=6):g.drop (g.length-3)=[g.getD (g.length-3) 0,g.getD (g.length-2) 0,g.getD (g.length-1) 0]:=by
 rcases hl with hl|hl
 · match g,hl with
   |[a,b,c,d,e],_=>rfl
 · match g,hl with
   |[a,b,c,d,e,f],_=>rfl
theorem and3{a b c:Prop}:(a∧b∧c)↔(c∧b∧a):=⟨fun h=>⟨h.2.2,h.2.1,h.1⟩,fun h=>⟨h.2.2,h.2.1,h.1⟩⟩
theorem qJy(l:List (List Int))(i:Nat)(h:1<(l.getD i []).length):nS l i=(tG (l.getD i []),i+1):=by
 unfold nS tG;simp only[];rw[if_pos h];generalize l.getD i []=g at h ⊢;rw[b3V_1]
 by_cases h5:g.getD 1 0=5∧g.length=3
 · obtain⟨h5,hl⟩:=h5;have h2:¬g.getD 1 0=2:=by omega
   rw[if_pos (c:=g.getD 1 0=5∧g.length=3) ⟨h5,hl⟩]
   by_cases h9:g.getD 2 0<256
   · rw[if_pos (c:=g.getD 1 0=5∧g.length=3∧g.getD 2 0<256) ⟨h5,hl,h9⟩,if_pos h9];rfl
   · rw[if_neg (c:=g.getD 1 0=5∧g.length=3∧g.getD 2 0<256) (fun h=>h9 h.2.2),if_neg h9,if_neg (fun h=>h2 h.1)]
 · rw[if_neg (c:=g.getD 1 0=5∧g.length=3∧g.getD 2 0<256) (fun h=>h5 ⟨h.1,h.2.1⟩),if_neg h5]
   by_cases h2:g.getD 1 0=2∧(g.length=5∨g.length=6)
   · rw[if_pos h2,drop3 g h2.2,b3V_3]
     by_cases h9:g.getD (g.length-3) 0<256∧g.getD (g.length-2) 0<256∧g.getD (g.length-1) 0<256
     · rw[if_pos ⟨h2.1,h2.2,and3.1 h9⟩,if_pos h9];rfl
     · rw[if_neg (fun h=>h9 (and3.1 h.2.2)),if_neg h9]
   · rw[if_neg h2,if_neg (fun h=>h2 ⟨h.1,h.2.1⟩)]
theorem sY(l:List (List Int))(i:Nat):0≤yP l i:=by unfold yP;omega
theorem qKr(l:List (List Int))(i:Nat)(hi:i<l.length)(h:¬1<(l.getD i []).length):
 (nS l i).1=(lL l i).1∧((((nS l i).2:Nat):Int)=i+(lL l i).2+1∨(l.length≤(nS l i).2∧(i:Int)+(lL l i).2+1=l.length)):=by
 unfold nS lL;simp only[];rw[if_neg h];have p2:=sY l (i+2);have p3:=sY l (i+3);have p4:=sY l (i+4)
 by_cases h5:yP l (i+1)=5
 · rw[if_pos h5];have hn:cU l i=1:=by unfold cU;rw[if_pos h5]
   rw[hn]
   by_cases hl:l.length≤i+1+1
   · rw[if_pos hl,if_neg (fun h=>by omega)];exact⟨rfl,.inr ⟨by omega,by simp only[];omega⟩⟩
   · rw[if_neg hl,if_neg (c:=(1:Nat)=0) qZ];have hv:zH l i 1=[yP l (i+2)]:=rfl;rw[hv];refine⟨?_,.inl (by simp only[];omega)⟩;rw[b3V_1]
     by_cases h9:yP l (i+2)<256
     · rw[if_pos ⟨by omega,h9⟩,if_pos h9];show some _=some _
       congr 2
       omega
     · rw[if_neg (fun h=>h9 h.2),if_neg h9]
 · rw[if_neg h5]
   by_cases h2:yP l (i+1)=2
   · rw[if_pos h2];have hn:cU l i=3:=by unfold cU;rw[if_neg h5,if_pos h2]
     rw[hn]
     by_cases hl:l.length≤i+1+3
     · rw[if_pos hl,if_neg (fun h=>by omega)];exact⟨rfl,.inr ⟨by omega,by simp only[];omega⟩⟩
     · rw[if_neg hl,if_neg (c:=(3:Nat)=0) qZ];have hv:zH l i 3=[yP l (i+2),yP l (i+3),yP l (i+4)]:=rfl;rw[hv];refine⟨?_,.inl (by simp only[];omega)⟩;rw[b3V_3]
       by_cases h9:yP l (i+2)<256∧yP l (i+3)<256∧yP l (i+4)<256
       · rw[if_pos ⟨by omega,h9⟩,if_pos h9];show some _=some _
         congr 2
         omega
       · rw[if_neg (fun h=>h9 h.2),if_neg h9]
   · rw[if_neg h2];have hn:cU l i=0:=by unfold cU;rw[if_neg h5,if_neg h2]
     rw[hn]
     by_cases hl:l.length≤i+1+0
     · rw[if_pos hl];exact⟨rfl,.inr ⟨by simp only[];omega,by simp only[];omega⟩⟩
     · rw[if_neg hl,if_pos rfl];exact⟨rfl,.inl (by simp only[];omega)⟩
def rC(a:Atr)(l:List (List Int))(i:Nat):Atr×Int:=
 if yP l i=38∨yP l i=48 then(wL a (yP l i) (qJg l i),qJf l i)else(dM a (yP l i) (l.getD i []),(i:Int)+1)
theorem XM(a:Atr)(l:List (List Int))(i:Nat)(hi:i<l.length):∃j:Nat,(rC a l i).2=j∧i<j∧j≤l.length∧bU l.length (rC a l i).1 l j=bU l.length a l i:=by
 rw[iA l a i hi];unfold rC eM
 by_cases h:yP l i=38∨yP l i=48
 · rw[if_pos h,if_pos h];unfold qJg qJf;simp only[]
   by_cases hg:1<(l.getD i []).length
   · rw[if_pos hg,if_pos hg,qJy l i hg];exact⟨i+1,by omega,by omega,by omega,rfl⟩
   · rw[if_neg hg,if_neg hg];obtain⟨e1,e2⟩:=qKr l i hi hg;rw[e1];have hm:i<(nS l i).2:=by
      have :=oM a l i;unfold eM at this;rw[if_pos h]at this;exact this
     rcases e2 with e2|⟨e2,e3⟩
     · by_cases hle:(nS l i).2≤l.length
       · exact⟨(nS l i).2,e2.symm,hm,hle,rfl⟩
       · exfalso;have hb:(i:Int)+(lL l i).2+1≤l.length:=by
          unfold lL
          split
          · simp only[];omega
          · split
            · simp only[];omega
            · simp only[];omega
         omega
     · exact⟨l.length,e3,hi,jD _,by rw[dI l _ _ _ (jD _),dI l _ _ _ e2]⟩
 · rw[if_neg h,if_neg h];exact⟨i+1,by simp only[];omega,by omega,by omega,rfl⟩
theorem putA_fl(a:Atr)(v:Int)(c:Option Col):(wL a v c).fl=a.fl:=by
 unfold wL;cases c with
 |none=>rfl
 |some c=>simp only[];split<;>rfl
theorem qQu{a:Atr}(h:cN a.fl)(v:Int)(g:List Int):cN (dM a v g).fl:=by
 unfold dM
 split
 · exact⟨by decide,by decide⟩
 · exact h.flags v g
theorem qQh{a:Atr}(h:cN a.fl)(l:List (List Int))(i:Nat):cN (rC a l i).1.fl:=by
 unfold rC
 split
 · show cN (wL _ _ _).fl;rw[putA_fl];exact h
 · exact qQu h _ _
theorem simpA_4{a:Atr}(h:cN a.fl)(g:List Int):dM a 4 g={a with fl:=bits .or .i64 (bits .andNot .i64 a.fl 264) (aH g)}:=by
 rw[flags4 h];rfl
set_option maxHeartbeats 6400000 in
theorem Ke(a:Atr)(w:World):Calls jG 362 #[.agg (aL a).toArray,.int .i64 0] w (iR vI w):=by
 obtain⟨fk,fn,bk,bn,fl⟩:=a;unfold aL
 go_enter Tryz.func362,Tryz.ntmps362
 go_wp2
 exact bodyPost_ret (bY rfl _ _ (w.heap.size+1) (aL vI) rfl (uU (jA qV)) Tryz.underlying63 rfl pD) rfl ⟨rfl,jH (jH (jU _ _) _) _⟩
theorem qKu{a:Atr}(hf:cN a.fl)(v:Int)(g:List Int)(w:World)(h4:v≠4)(hv:0≤v)(hv2:v≤65535):Calls jG 362 #[.agg (aL a).toArray,.int .i64 v] w (iR (dM a v g) w):=by
 by_cases h0:v=0
 · subst h0;exact Ke a w
 · rw[←simpB_A hf v hv h0 h4 g];exact Zd a v w h0 hv hv2
end Go.Proofs.YtaefcahblmopfaaGreatDoor
