/- Joined by a tool of this claim out of smaller texts. Conditions: as stated. -/
import Derived.Test.YtaefcahblmopfaaGreatDoorDj19
import Derived.Laws.ShiftsVarLaws
import Derived.Laws.Shifts
set_option linter.unusedVariables false
set_option linter.unusedSimpArgs false
set_option maxRecDepth 100000
open Go.Lib renaming hid → Hd
open List renaming setIfInBounds_toArray → jZ, set_cons_zero → jX, set_cons_succ → jY, mem_singleton → jM, getElem?_eq_getElem → jN, getElem?_eq_some_iff → jP, length_append → jC, drop_succ_cons → jL, take_succ_cons → jS, drop_zero → jO, mem_cons → kJ, take_zero → kK, getD_eq_getElem?_getD → kX, replicate → kN, getElem?_append_right → kI, length_set → uV, getElem?_eq_none → uZ, getElem?_map → uX, getElem?_append_left → uD
open Go.Proofs.Tryz renaming prog → jG
open Go.RowKit.Below renaming refl → jU
open Nat renaming le_refl → jD, le_trans → jI, zero_le → kM, zero_add → kP, add_zero → uA
open Go.IntWalk renaming i64_in → jF
open Option renaming mem_toList → jA
open Go.IntKind renaming i64 → jE
open Array renaming getElem?_eq_some_iff → kB
open Go.World renaming ownsRow_nil → kS, setCell → uN
open Int renaming toNat_natCast → vV
namespace Go.Proofs.YtaefcahblmopfaaGreatDoor
def fI(n:Int):Int:=max (-1) (min n 65535)
def bE(g:List Int):List Int:=if g.length=0 then[-1]else(g.take 8).map fI
def yP(l:List (List Int)):List (List Int):=if l.length=0 then[[-1]]else(l.take 32).map bE
theorem qQc(n:Int): -1≤fI n∧fI n≤65535:=by unfold fI;omega
def qV9(l:List (List Int)):Prop:=∀g∈l,0<g.length∧g.length≤8∧∀n∈g,-1≤n∧n≤65535
theorem qQd(g:List Int):0<(bE g).length∧(bE g).length≤8∧∀n∈bE g,-1≤n∧n≤65535:=by
 unfold bE
 split
 · exact⟨by decide,by decide,fun n hn=>by rw[jM.1 hn];decide⟩
 · refine⟨by simp;omega,by simp;omega,fun n hn=>?_⟩;obtain⟨m,-,rfl⟩:=List.mem_map.1 hn;exact qQc m
theorem nS(l:List (List Int)):qV9 (yP l):=by
 unfold yP
 split
 · intro g hg;rw[jM.1 hg];exact⟨by decide,by decide,fun n hn=>by rw[jM.1 hn];decide⟩
 · intro g hg;obtain⟨m,-,rfl⟩:=List.mem_map.1 hg;exact qQd m
theorem rM(l:List (List Int)):0<(yP l).length∧(yP l).length≤32:=by
 unfold yP
 split
 · exact⟨by decide,by decide⟩
 · constructor
   · simp;omega
   · simp;omega
def JY(n f:Int):Bool:=if n<0 then false else decide (n/f%2=1)
def zQ(n f:Int)(on:Bool):Int:=if JY n f=on then n else if on then n+f else n-f
def yR(l:List (List Int))(i:Nat):Int:=max 0 ((l.getD i []).headD 0)
def Ue(n:Int):Int:=max 0 n
def nI(l:List (List Int))(i:Nat):Option Col×Nat:=
 let g:=l.getD i []
 if 1<g.length then
  if g.getD 1 0=5∧g.length=3∧g.getD 2 0<256 then(some ⟨1,Ue (g.getD 2 0)⟩,i+1)
  else if g.getD 1 0=2∧(g.length=5∨g.length=6)∧g.getD (g.length-1) 0<256∧g.getD (g.length-2) 0<256∧g.getD (g.length-3) 0<256 then
   (some ⟨2,65536*Ue (g.getD (g.length-3) 0)+256*Ue (g.getD (g.length-2) 0)+Ue (g.getD (g.length-1) 0)⟩,i+1)
  else(none,i+1)
 else if yR l (i+1)=5 then(if i+2<l.length∧yR l (i+2)<256 then some ⟨1,yR l (i+2)⟩else none,i+3)
 else if yR l (i+1)=2 then
  (if i+4<l.length∧yR l (i+2)<256∧yR l (i+3)<256∧yR l (i+4)<256 then some ⟨2,65536*yR l (i+2)+256*yR l (i+3)+yR l (i+4)⟩else none,i+5)
 else(none,i+2)
def cX(f v:Int)(g:List Int):Int:=
 if v=1 then zQ f 1 true else if v=2 then zQ f 2 true else if v=3 then zQ f 4 true
 else if v=4 then zQ (zQ f 256 (decide (1<g.length)&&decide (g.getD 1 0=2))) 8 (!(decide (1<g.length)&&decide (g.getD 1 0=2))&& !(decide (1<g.length)&&decide (g.getD 1 0=0)))
 else if v=5∨v=6 then zQ f 16 true else if v=7 then zQ f 32 true else if v=8 then zQ f 64 true else if v=9 then zQ f 128 true
 else if v=21 then zQ (zQ f 8 false) 256 true else if v=22 then zQ (zQ f 1 false) 2 false else if v=23 then zQ f 4 false
 else if v=24 then zQ (zQ f 8 false) 256 false else if v=25 then zQ f 16 false else if v=27 then zQ f 32 false else if v=28 then zQ f 64 false
 else if v=29 then zQ f 128 false else if v=53 then zQ f 512 true else if v=55 then zQ f 512 false else f
def Jr(c:Col)(v:Int):Col:=if v=39 then⟨0,0⟩else if 30≤v∧v≤37 then⟨1,v-30⟩else if 90≤v∧v≤97 then⟨1,v-82⟩else c
def KF(c:Col)(v:Int):Col:=if v=49 then⟨0,0⟩else if 40≤v∧v≤47 then⟨1,v-40⟩else if 100≤v∧v≤107 then⟨1,v-92⟩else c
def dF(a:Atr)(v:Int)(g:List Int):Atr:=
 if v=0 then vI else⟨(Jr ⟨a.fk,a.fn⟩ v).k,(Jr ⟨a.fk,a.fn⟩ v).n,(KF ⟨a.bk,a.bn⟩ v).k,(KF ⟨a.bk,a.bn⟩ v).n,cX a.fl v g⟩
def xG(a:Atr)(v:Int)(c:Option Col):Atr:=match c with
 |none=>a
 |some c=>if v=38 then{a with fk:=c.k,fn:=c.n}else{a with bk:=c.k,bn:=c.n}
def eL(a:Atr)(l:List (List Int))(i:Nat):Atr×Nat:=
 if yR l i=38∨yR l i=48 then(xG a (yR l i) (nI l i).1,(nI l i).2)else(dF a (yR l i) (l.getD i []),i+1)
theorem oF(a:Atr)(l:List (List Int))(i:Nat):i<(eL a l i).2:=by
 unfold eL
 split
 · unfold nI;simp only[]
   split
   · split
     · exact Nat.lt_succ_self _
     split
     · exact Nat.lt_succ_self _
     · exact Nat.lt_succ_self _
   split
   · show i<i+3;omega
   split
   · show i<i+5;omega
   · show i<i+2;omega
 · exact Nat.lt_succ_self _
def bB:Nat→Atr→List (List Int)→Nat→Atr
 |0,a,_,_=>a
 |n+1,a,l,i=>if i<l.length then bB n (eL a l i).1 l (eL a l i).2 else a
def fX(a:Atr)(l:List (List Int)):Atr:=bB l.length a l 0
theorem eV(l:List (List Int)):∀(n:Nat) (a:Atr) (i:Nat),l.length≤i→bB n a l i=a
 |0,_,_,_=>rfl
 |n+1,a,i,h=>by unfold bB;rw[if_neg qJ]
theorem aZ(l:List (List Int)):∀(n k:Nat) (a:Atr) (i:Nat),l.length≤n+i→bB (n+k) a l i=bB n a l i
 |0,k,a,i,h=>by rw[eV l _ a i qJ,eV l _ a i qJ]
 |n+1,k,a,i,h=>by
  rw[show n+1+k=(n+k)+1 by omega];unfold bB
  split
  · exact aZ l n k _ _ (by have :=oF a l i;omega)
  · rfl
theorem iO(l:List (List Int))(a:Atr)(i:Nat)(h:i<l.length):bB l.length a l i=bB l.length (eL a l i).1 l (eL a l i).2:=by
 obtain⟨n,hn⟩:∃n,l.length=n+1:=⟨l.length-1,by omega⟩;have e:=aZ l n 1 (eL a l i).1 (eL a l i).2 (by have :=oF a l i;omega);rw[hn,e];show(if i<l.length then bB n (eL a l i).1 l (eL a l i).2 else a)=_;rw[if_pos h]
def cP(f:Int):Prop:=0≤f∧f<1024
def sH(s:Sc)(y x:Int):Sc:=
 if s.pen.home then{s with y:=s.top+pP y 0 (s.bot-s.top),x:=pP x 0 (fP s-1)}
 else{s with y:=pP y 0 (Jj s-1),x:=pP x 0 (fP s-1)}
def qK1(s:Sc)(y x z:Int):Sc:={s with pg:=fT s.pg y x z (XY s)}
def inX(s:Sc):Sc:={s with x:=inS s}
def zT(s:Sc)(n:Int):Sc:=qK1 (inX s) s.y (inS s) (inS s+pP n 1 1000)
def lC(ws:List Nat)(st:List Bool):Prop:=
 st.length≤64*ws.length∧∀i n,ws[i]? =some n→n<18446744073709551616∧∀k,k<64→n.testBit k=st.getD (64*i+k) false
theorem VR{ws:List Nat}{st:List Bool}(h:lC ws st){x:Nat}(hx:x<st.length):∃w,ws[x/64]? =some w∧w<18446744073709551616∧∀k,k<64→w.testBit k=st.getD (64*(x/64)+k) false:=by
 have hl:x/64<ws.length:=by have :=h.1;omega
 have he:ws[x/64]? =some ws[x/64]:=jN hl;exact⟨_,he,h.2 _ _ he⟩
theorem iM{st:List Bool}{x y:Nat}{b:Bool}(hx:x<st.length):(st.set x b).getD y false=if x=y then b else st.getD y false:=by
 rw[kX,List.getElem?_set]
 by_cases h:x=y
 · subst h;rw[if_pos rfl,if_pos hx,if_pos rfl];rfl
 · rw[if_neg h,if_neg h,←kX]
theorem or_lt{w k:Nat}(hw:w<18446744073709551616)(hk:k<64):w ||| 2 ^ k<18446744073709551616:=
 Nat.or_lt_two_pow (n:=64) hw (Nat.pow_lt_pow_right qZ hk)
theorem wds_set{ws:List Nat}{st:List Bool}(h:lC ws st){x w:Nat}(hx:x<st.length)(hw:ws[x/64]? =some w):lC (ws.set (x/64) (w ||| 2 ^ (x%64))) (st.set x true):=by
 have hl:x/64<ws.length:=(jP.1 hw).1;refine⟨by rw[uV,uV];exact h.1,fun i n hn=>?_⟩;rw[List.getElem?_set]at hn
 by_cases hi:x/64=i
 · subst hi;rw[if_pos rfl,if_pos hl,Option.some.injEq]at hn;subst hn;obtain⟨h1,h2⟩:=h.2 _ _ hw;refine⟨or_lt h1 qJ,fun k hk=>?_⟩;rw[Nat.testBit_or,Nat.testBit_two_pow,h2 k hk,iM hx]
   by_cases hk2:x%64=k
   · rw[if_pos qJ,decide_eq_true hk2,Bool.or_true]
   · rw[if_neg qJ,decide_eq_false hk2,Bool.or_false]
 · rw[if_neg hi]at hn;obtain⟨h1,h2⟩:=h.2 _ _ hn;refine⟨h1,fun k hk=>?_⟩;rw[h2 k hk,iM hx,if_neg qJ]
theorem WL{ws:List Nat}{st:List Bool}(h:lC ws st){x w:Nat}(hx:x<st.length)(hw:ws[x/64]? =some w):lC (ws.set (x/64) (w &&& (18446744073709551615-2 ^ (x%64)))) (st.set x false):=by
 have hl:x/64<ws.length:=(jP.1 hw).1;refine⟨by rw[uV,uV];exact h.1,fun i n hn=>?_⟩;rw[List.getElem?_set]at hn
 by_cases hi:x/64=i
 · subst hi;rw[if_pos rfl,if_pos hl,Option.some.injEq]at hn;subst hn;obtain⟨h1,h2⟩:=h.2 _ _ hw;refine⟨Nat.lt_of_le_of_lt Nat.and_le_left h1,fun k hk=>?_⟩;have hp:2 ^ (x%64)<2 ^ 64:=Nat.pow_lt_pow_right qZ qJ;have e:18446744073709551615-2 ^ (x%64)=2 ^ 64-(2 ^ (x%64)+1):=by
    have :(2:Nat) ^ 64=18446744073709551616:=by decide
    omega
   rw[Nat.testBit_and,e,Nat.testBit_two_pow_sub_succ hp,Nat.testBit_two_pow,h2 k hk,iM hx,decide_eq_true hk,Bool.true_and]
   by_cases hk2:x%64=k
   · rw[if_pos qJ,decide_eq_true hk2,Bool.not_true,Bool.and_false]
   · rw[if_neg qJ,decide_eq_false hk2,Bool.not_false,Bool.and_true]
 · rw[if_neg hi]at hn;obtain⟨h1,h2⟩:=h.2 _ _ hn;refine⟨h1,fun k hk=>?_⟩;rw[h2 k hk,iM hx,if_neg qJ]
theorem QN{st:List Bool}{y:Nat}(h:st.length≤y):st.getD y false=false:=by
 rw[kX,uZ h];rfl
theorem qQz{ws:List Nat}{st:List Bool}(h:lC ws st):lC (ws++[0]) st:=by
 refine⟨by rw[jC];have :=h.1;omega,fun i n hn=>?_⟩
 by_cases hi:i<ws.length
 · rw[uD hi]at hn;exact h.2 i n hn
 · rw[kI qJ]at hn
   by_cases h0:i=ws.length
   · subst h0;rw[Nat.sub_self]at hn;obtain rfl:(0:Nat)=n:=by simpa using hn
     refine⟨by decide,fun k hk=>?_⟩;rw[QN (by have :=h.1;omega)];simp
   · rw[uZ qY]at hn;cases hn
open Go.RowKit
def Y3(n:Nat):List Value:=[.int .u64 n]
theorem Zn:∀n,(Y3 n).length=1:=fun _=>rfl
theorem Kw{ws:List Nat}{k n:Nat}(h:ws[k]? =some n):(uM Y3 ws)[k]? =some (.int .u64 n):=by
 have :=yN Zn ws k n 0 h qZ;rw[Nat.mul_one,uA]at this;exact this
theorem Jd{w:World}{base:Nat}{e:TypeId}{size n cap:Nat}{A:Option Addr}{xs:List Value}(h:w.ownsRow base e size (.slice A n cap) n xs)(hn:0<n):∃g,A=some ⟨g,0,none⟩:=by
 obtain⟨-,h2|⟨g',cap',cur,hv,-⟩⟩:=h
 · have :=h2.1;injection this with h1 h3;omega
 · injection hv with h1
   exact⟨g',h1⟩
theorem Uc{j:Nat}(h:j<64):2 ^ j<18446744073709551616:=Nat.lt_of_lt_of_le (Nat.pow_lt_pow_right qZ h:2 ^ j<2 ^ 64) qZ
theorem Vz(P:Program)(w:World){x j:Nat}(h:x%64=j):(Op.shift .shl .u64 1 .i64 ((x:Int).tmod 64)).run P w=.ok (.int .u64 ((2 ^ j:Nat):Int)) w:=by
 have hj:j<64:=by omega
 have e:(x:Int).tmod 64=(j:Int):=by rw[Int.tmod_eq_emod_of_nonneg qJ];omega
 have hp:2 ^ j<2 ^ 64:=Nat.pow_lt_pow_right qZ hj;rw[e,shift_shl_any _ _ _ _ qJ,vV,Int.one_mul];show Result.ok (Value.int .u64 (IntKind.u64.wrap (2 ^ min j 64))) w=_;rw[show min j 64=j by omega,IntKind.wrap_u64];have e2:(2:Int) ^ j=((2 ^ j:Nat):Int):=by simp
 have hp2:2 ^ j<18446744073709551616:=Nat.lt_of_lt_of_le hp qZ;have h3:((2 ^ j:Nat):Int)%18446744073709551616=((2 ^ j:Nat):Int):=Int.emod_eq_of_lt (Int.natCast_nonneg _) (show((2 ^ j:Nat):Int)<18446744073709551616 from Int.ofNat_lt.2 hp2);rw[e2,h3]
structure TbO(base:Nat)(w:World)(T:Nat)(vw:Value)(ws:List Nat)(st:List Bool):Prop where
 blk:w.heap[T]? =some (.cells #[vw,.int .i64 st.length] 179 (0,0))
 hb:base≤T
 own:w.ownsRow base 206 1 vw ws.length (uM Y3 ws)
 wds:lC ws st
 le:st.length≤1000
 few:ws.length≤16
def tbX(T:Nat)(vw:Value):List Nat:=T::vw.ownBlock.toList
section
variable {base:Nat}{w:World}{T:Nat}{vw:Value}{ws:List Nat}{st:List Bool}
theorem TbO.cells(h:TbO base w T vw ws st):(w.cell? ⟨T,0,none⟩=some vw∧w.frozen? ⟨T,0,none⟩=false)∧w.cell? ⟨T,1,none⟩=some (.int .i64 st.length)∧w.frozen? ⟨T,1,none⟩=false:=⟨at_ h.blk 0 _ rfl,at_ h.blk 1 _ rfl⟩
theorem TbO.vform(h:TbO base w T vw ws st):∃A c,vw=.slice A ws.length c:=uT h.own
theorem TbO.mod{X:List Nat}{w':World}(h:TbO base w T vw ws st)(hm:Mod X w w')(hd:∀b∈tbX T vw,b∉X):TbO base w' T vw ws st:=
 ⟨(hm.block T (kB.1 h.blk).1 (hd T (by simp[tbX]))).trans h.blk,h.hb,kD h.own hm (fun b hb=>hd b (by simp[tbX,hb])),h.wds,h.le,h.few⟩
theorem TbO.below{w':World}(h:TbO base w T vw ws st)(hb:Below w.heap.size w w'):TbO base w' T vw ws st:=h.mod (Mod.of_below (X:=[]) hb) (fun _ _ h=>by cases h)
theorem Wy(h:TbO base w T vw ws st):Calls jG 326 #[.pointer (some ⟨T,0,none⟩)] w fun e w'=>e=.returned (.int .i64 st.length)∧w=w':=by
 obtain⟨-,x1,-⟩:=h.cells;clear h
 go_enter Tryz.func326,Tryz.ntmps326
 go_wp2
 go_ret
 exact⟨rfl,rfl⟩
theorem xH(h:TbO base w T vw ws st)(x:Int):Calls jG 244 #[.pointer (some ⟨T,0,none⟩),.int .i64 x] w fun e w'=>e=.returned (.bool (decide (0≤x)&&decide (x<st.length)))∧w=w':=by
 have HR:=Hd (Wy h);clear h
 by_cases hy:0≤x
 · go_enter Tryz.func244,Tryz.ntmps244
   go_wp2_with(go_at_call 326;refine HR.o.mono ?_;rintro e w1 ⟨rfl,rfl⟩)
   go_ret
   simp[hy]
 · go_enter Tryz.func244,Tryz.ntmps244
   go_wp2_with(go_at_call 326;refine HR.o.mono ?_;rintro e w1 ⟨rfl,rfl⟩)
   go_ret
   simp;omega
def xV(base:Nat)(w:World)(T:Nat)(vw:Value)(st':List Bool)(w':World):Prop:=∃ws',TbO base w' T vw ws' st'∧Mod vw.ownBlock.toList w w'
theorem TbO.setW{g c k n:Nat}{st':List Bool}(h:TbO base w T vw ws st)(hv:vw=.slice (some ⟨g,0,none⟩) ws.length c)(hk:k<ws.length)(hw:lC (ws.set k n) st')(hl:st'.length=st.length):xV base w T vw st' (w.setCell ⟨g,k,none⟩ (.int .u64 n)):=by
 have hown:=h.own;rw[hv]at hown;have h1:=cA hown (k*1+0) (.int .u64 n);rw[cO Zn ws k ws[k] n 0 (.int .u64 n) (jN hk) qZ rfl,Nat.mul_one,uA]at h1;have hM:Mod vw.ownBlock.toList w (w.setCell ⟨g,k,none⟩ (.int .u64 n)):=(Mod.refl _ _).setCell (a:=⟨g,k,none⟩) (.inl qZ5) _;refine⟨ws.set k n,⟨?_,h.hb,by rw[uV,hv];exact h1,hw,by rw[hl];exact h.le,by rw[uV];exact h.few⟩,hM⟩;rw[hl];refine(hM.block T (kB.1 h.blk).1 (fun hb=>?_)).trans h.blk;obtain⟨cur,hc⟩:=uR h.own (jA.1 hb);exact qXn
theorem xV.trans{w1 w2:World}{st':List Bool}(h:xV base w1 T vw st' w2)(hb:Below w.heap.size w w1):xV base w T vw st' w2:=by
 obtain⟨ws',h1,h2⟩:=h;exact⟨ws',h1,(Mod.of_below hb).trans h2 (fun b hb=>.inl hb)⟩
def eW(base:Nat)(w:World)(T:Nat)(vw:Value)(st':List Bool)(e:Ending)(w':World):Prop:=e=.returned (.tuple #[])∧xV base w T vw st' w'
set_option maxHeartbeats 1600000 in
theorem tSet_in(h:TbO base w T vw ws st)(x:Nat)(hx:x<st.length):Calls jG 151 #[.pointer (some ⟨T,0,none⟩),.int .i64 x] w (eW base w T vw (st.set x true)):=by
 have HIN:=Hd (xH h x);have hin:(decide (0≤(x:Int))&&decide ((x:Int)<st.length))=true:=by simp;omega
 rw[hin]at HIN;clear hin;obtain⟨⟨x0,-⟩,-⟩:=h.cells;obtain⟨A,c,hv⟩:=h.vform;obtain⟨wd,hwd,hlt,hbit⟩:=VR h.wds hx;have hl:=(jP.1 hwd).1;have hle:=h.le;have hown:=h.own;rw[hv]at hown x0;obtain⟨g,rfl⟩:∃g,A=some ⟨g,0,none⟩:=Jd hown qJ;obtain⟨y,yf⟩:=gS hown (i:=x/64) (v:=.int .u64 wd) (Kw hwd);have hwds:=h.wds;generalize hk:x/64=k at *;have hq:jE.wrap ((x:Int)/64)=(k:Int):=by rw[jF _ qJ];omega
 have hkl:(k:Int)<(ws.length:Int):=by omega
 obtain⟨j,hj⟩:∃j,x%64=j:=⟨_,rfl⟩;have hsh:=fun w'=>Vz jG w' hj;have hor:=u64_or_nat wd (2 ^ j) hlt (Uc (show j<64 by omega))
 go_enter Tryz.func151,Tryz.ntmps151
 go_upto_region 1 with(go_at_call 244;refine HIN.o.mono ?_;rintro e w1 ⟨rfl,rfl⟩)
 refine kW 13 (fun w'=>Below w.heap.size w w'∧w'.cell? ⟨T,0,none⟩=some (.slice (some ⟨g,0,none⟩) ws.length c)∧w'.cell? ⟨g,k,none⟩=some (.int .u64 wd)) qQ qQ ?_ ?_
 · exact⟨(jU _ _).drew,x0,y⟩
 simp only[jS,kK,jL,jO]
 repeat(
  (first
   |refine kF qK ?_
   |(refine kT ?_ qK ?_ ?_;rotate_left;(focus(intro w' hS;obtain⟨_,_,_⟩:=hS;go_simp;first|done|with_reducible rfl))))
  simp only[Act.put,jZ,jX,jY])
 refine kE (fun w' hS=>?_);have hO:=h.below hS.1;have hown2:=hO.own;rw[hv]at hown2;obtain⟨z,zf⟩:=gS hown2 (i:=k) (v:=.int .u64 wd) (Kw hwd)
 go_wp2
 go_end0
 have e2:(2:Int) ^ j=((2 ^ j:Nat):Int):=by simp
 rw[e2,hor];have hs:=wds_set hO.wds hx (hk.symm▸hwd);rw[hk,hj]at hs;exact⟨rfl,(hO.setW hv qJ hs qV).trans hS.1⟩
theorem qJb(h:TbO base w T vw ws st)(x:Int)(hx:x<0∨(st.length:Int)≤x):Calls jG 151 #[.pointer (some ⟨T,0,none⟩),.int .i64 x] w (eW base w T vw st):=by
 have HIN:=Hd (xH h x);have hin:(decide (0≤x)&&decide (x<st.length))=false:=by simp;omega
 rw[hin]at HIN;have H:=Hd h;clear hin hx h
 go_enter Tryz.func151,Tryz.ntmps151
 go_wp2_with(go_at_call 244;refine HIN.o.mono ?_;rintro e w1 ⟨rfl,rfl⟩)
 go_end0
 exact⟨rfl,ws,H.o,Mod.refl _ _⟩
def Vp(st:List Bool)(x:Int)(b:Bool):List Bool:=if 0≤x∧x<st.length then st.set x.toNat b else st
theorem qJc(h:TbO base w T vw ws st)(x:Int):Calls jG 151 #[.pointer (some ⟨T,0,none⟩),.int .i64 x] w (eW base w T vw (Vp st x true)):=by
 unfold Vp
 by_cases hx:0≤x∧x<st.length
 · obtain⟨k,rfl⟩:=Int.eq_ofNat_of_zero_le hx.1;rw[if_pos hx,vV];exact tSet_in h k qJ
 · rw[if_neg hx];exact qJb h x qJ
set_option maxHeartbeats 1600000 in
theorem Wz(h:TbO base w T vw ws st)(x:Nat)(hx:x<st.length):Calls jG 150 #[.pointer (some ⟨T,0,none⟩),.int .i64 x] w (eW base w T vw (st.set x false)):=by
 have HIN:=Hd (xH h x);have hin:(decide (0≤(x:Int))&&decide ((x:Int)<st.length))=true:=by simp;omega
 rw[hin]at HIN;clear hin;obtain⟨⟨x0,-⟩,-⟩:=h.cells;obtain⟨A,c,hv⟩:=h.vform;obtain⟨wd,hwd,hlt,hbit⟩:=VR h.wds hx;have hl:=(jP.1 hwd).1;have hle:=h.le;have hown:=h.own;rw[hv]at hown x0;obtain⟨g,rfl⟩:∃g,A=some ⟨g,0,none⟩:=Jd hown qJ;obtain⟨y,yf⟩:=gS hown (i:=x/64) (v:=.int .u64 wd) (Kw hwd);have hwds:=h.wds;generalize hk:x/64=k at *;have hq:jE.wrap ((x:Int)/64)=(k:Int):=by rw[jF _ qJ];omega
 have hkl:(k:Int)<(ws.length:Int):=by omega
 obtain⟨j,hj⟩:∃j,x%64=j:=⟨_,rfl⟩;have hsh:=fun w'=>Vz jG w' hj;have hor:=u64_andNot_nat wd (2 ^ j) hlt (Uc (show j<64 by omega))
 go_enter Tryz.func150,Tryz.ntmps150
 go_upto_region 1 with(go_at_call 244;refine HIN.o.mono ?_;rintro e w1 ⟨rfl,rfl⟩)
 refine kW 13 (fun w'=>Below w.heap.size w w'∧w'.cell? ⟨T,0,none⟩=some (.slice (some ⟨g,0,none⟩) ws.length c)∧w'.cell? ⟨g,k,none⟩=some (.int .u64 wd)) qQ qQ ?_ ?_
 · exact⟨(jU _ _).drew,x0,y⟩
 simp only[jS,kK,jL,jO]
 repeat(
  (first
   |refine kF qK ?_
   |(refine kT ?_ qK ?_ ?_;rotate_left;(focus(intro w' hS;obtain⟨_,_,_⟩:=hS;go_simp;first|done|with_reducible rfl))))
  simp only[Act.put,jZ,jX,jY])
 refine kE (fun w' hS=>?_);have hO:=h.below hS.1;have hown2:=hO.own;rw[hv]at hown2;obtain⟨z,zf⟩:=gS hown2 (i:=k) (v:=.int .u64 wd) (Kw hwd)
 go_wp2
 go_end0
 have e2:(2:Int) ^ j=((2 ^ j:Nat):Int):=by simp
 rw[e2,hor];have hs:=WL hO.wds hx (hk.symm▸hwd);rw[hk,hj]at hs;exact⟨rfl,(hO.setW hv qJ hs qV).trans hS.1⟩
theorem Xe(h:TbO base w T vw ws st)(x:Int)(hx:x<0∨(st.length:Int)≤x):Calls jG 150 #[.pointer (some ⟨T,0,none⟩),.int .i64 x] w (eW base w T vw st):=by
 have HIN:=Hd (xH h x);have hin:(decide (0≤x)&&decide (x<st.length))=false:=by simp;omega
 rw[hin]at HIN;have H:=Hd h;clear hin hx h
 go_enter Tryz.func150,Tryz.ntmps150
 go_wp2_with(go_at_call 244;refine HIN.o.mono ?_;rintro e w1 ⟨rfl,rfl⟩)
 go_end0
 exact⟨rfl,ws,H.o,Mod.refl _ _⟩
theorem Xf(h:TbO base w T vw ws st)(x:Int):Calls jG 150 #[.pointer (some ⟨T,0,none⟩),.int .i64 x] w (eW base w T vw (Vp st x false)):=by
 unfold Vp
 by_cases hx:0≤x∧x<st.length
 · obtain⟨k,rfl⟩:=Int.eq_ofNat_of_zero_le hx.1;rw[if_pos hx,vV];exact Wz h k qJ
 · rw[if_neg hx];exact Xe h x qJ
end
def XP(base:Nat)(w:World)(T:Nat)(vw:Value)(st':List Bool)(w':World):Prop:=
 ∃vw' ws',TbO base w' T vw' ws' st'∧Mod (tbX T vw) w w'∧∀b∈tbX T vw',b∈tbX T vw∨w.heap.size≤b
theorem qKo:(jG.info? 206).map (fun i=>(i.zero,i.size,i.bytes))=some (some (.int .u64 0),1,8):=by kernel_rfl
theorem wds_any{ws:List Nat}{st st2:List Bool}(h:lC ws st)(hl:st2.length≤64*ws.length)(hg:∀y,st2.getD y false=st.getD y false):lC ws st2:=
 ⟨hl,fun i n hn=>⟨(h.2 i n hn).1,fun k hk=>by rw[(h.2 i n hn).2 k hk,hg]⟩⟩
theorem qKw{a b:List Bool}(hl:a.length=b.length)(h:∀y,y<a.length→a.getD y false=b.getD y false):a=b:=by
 apply List.ext_getElem hl;intro i h1 h2;have :=h i h1;rw[kX,kX,jN h1,jN h2]at this;exact this
theorem Zc{n y:Nat}(f:Nat→Bool):((List.range n).map f).getD y false=if y<n then f y else false:=by
 rw[kX,uX]
 by_cases h:y<n
 · rw[List.getElem?_range h,if_pos h];rfl
 · rw[uZ qD,if_neg h];rfl
def cY(st:List Bool)(cols:Nat):List Bool:=(List.range cols).map (fun y=>if y<st.length then st.getD y false else decide (y%8=0))
section
variable {base:Nat}{w:World}{T:Nat}{vw:Value}{ws:List Nat}{st:List Bool}
theorem XP.set{w1 w2:World}{st2:List Bool}{vw1:Value}(hm:Mod (tbX T vw) w w1)(hx:∀b∈tbX T vw1,b∈tbX T vw∨w.heap.size≤b)(h2:xV base w1 T vw1 st2 w2):XP base w T vw st2 w2:=by
 obtain⟨ws2,ho,hm2⟩:=h2;exact⟨vw1,ws2,ho,hm.trans hm2 (fun b hb=>hx b (by simp only[tbX,kJ];exact .inr hb)),hx⟩
theorem JD(c:Int)(w:World):Calls jG 113 #[.int .i64 c] w fun e w'=>e=.returned (.bool (decide (2≤c)&&decide (c≤1000)))∧w=w':=by
 by_cases h1:2≤c
 · go_enter Tryz.func113,Tryz.ntmps113
   go_wp2
   go_ret
   simp[h1]
 · go_enter Tryz.func113,Tryz.ntmps113
   go_wp2
   go_ret
   simp;omega
theorem TbO.ne(h:TbO base w T vw ws st):T∉vw.ownBlock.toList:=fun hb=>by
 obtain⟨cur,hc⟩:=uR h.own (jA.1 hb);exact qXn
theorem TbO.rewords{w1:World}{v':Value}{ws':List Nat}(h:TbO base w T vw ws st)(ho:w1.ownsRow base 206 1 v' ws'.length (uM Y3 ws'))(hm:Mod vw.ownBlock.toList w w1)(hv:∀b,v'.ownBlock=some b→vw.ownBlock=some b∨w.heap.size≤b)(hw:lC ws' st)(hf:ws'.length≤16):
 TbO base (w1.setCell ⟨T,0,none⟩ v') T v' ws' st∧Mod (tbX T vw) w (w1.setCell ⟨T,0,none⟩ v')∧∀b∈tbX T v',b∈tbX T vw∨w.heap.size≤b:=by
 have hT:=(hm.block T (kB.1 h.blk).1 h.ne).trans h.blk;have hTl:=(kB.1 h.blk).1;have hT2:∀b,v'.ownBlock=some b→b∉[T]:=fun b hb hx=>by
  rw[jM.1 hx]at hb;rcases hv T hb with h1|h1
  · exact h.ne (jA.2 h1)
  · omega
 have hM1:Mod [T] w1 (w1.setCell ⟨T,0,none⟩ v'):=(Mod.refl _ _).setCell (a:=⟨T,0,none⟩) (.inl qV) _;refine⟨⟨vR hT,h.hb,kD ho hM1 hT2,hw,h.le,hf⟩,(hm.mono (fun b hb=>by simp only[tbX,kJ];exact .inr hb)).setCell (a:=⟨T,0,none⟩) (.inl (by simp[tbX])) _,fun b hb=>?_⟩;rcases kJ.1 hb with rfl|hb
 · exact .inl (by simp[tbX])
 · rcases hv b (jA.1 hb)with h1|h1
   · exact .inl (by simp only[tbX,kJ,jA];exact .inr h1)
   · exact .inr h1
theorem TbO.recols{st':List Bool}(h:TbO base w T vw ws st)(hl:st'.length≤64*ws.length)(h3:st'.length≤1000)(hg:∀y,st'.getD y false=st.getD y false):
 TbO base (w.setCell ⟨T,1,none⟩ (.int .i64 st'.length)) T vw ws st'∧Mod (tbX T vw) w (w.setCell ⟨T,1,none⟩ (.int .i64 st'.length)):=by
 have hM1:Mod [T] w (w.setCell ⟨T,1,none⟩ (.int .i64 st'.length)):=(Mod.refl _ _).setCell (a:=⟨T,1,none⟩) (.inl qV) _;exact⟨⟨vR h.blk,h.hb,kD h.own hM1 (fun b hb hx=>h.ne (by rw[←jM.1 hx];exact jA.2 hb)),wds_any h.wds hl hg,h3,h.few⟩,hM1.mono (fun b hb=>by rw[jM.1 hb];simp[tbX])⟩
def UR(base:Nat)(w:World)(T:Nat)(vw:Value)(st':List Bool)(e:Ending)(w':World):Prop:=e=.returned (.int .i64 0)∧XP base w T vw st' w'
set_option maxHeartbeats 1600000 in
theorem qJa(h:TbO base w T vw ws st)(cols:Nat)(h2:2≤cols)(h3:cols≤1000):Calls jG 80 #[.pointer (some ⟨T,0,none⟩),.int .i64 cols] w (UR base w T vw (cY st cols)):=by
 obtain⟨j0,hj,gz0,gz1,gz2⟩:=info_parts qKo;have HF:=Hd (fun w=>JD cols w);have hf:(decide (2≤(cols:Int))&&decide ((cols:Int)≤1000))=true:=by simp;omega
 rw[hf]at HF;clear hf;obtain⟨-,x1,-⟩:=h.cells;have H:=Hd h;have hle:=h.le;have hTl:=uE x1;obtain⟨was,hwas⟩:∃was,st.length=was:=⟨_,rfl⟩;rw[hwas]at x1 hle;have HW:=Hd hwas;clear h hwas
 go_enter Tryz.func80,Tryz.ntmps80
 go_wp2_with(go_at_call 113;refine(HF.o _).mono ?_;rintro e w1 ⟨rfl,rfl⟩)
 go_loopw [6] (fun s6 wr=>∃x:Nat,s6=.int .i64 x∧cols≤x∧(x≤was∨x=cols)∧∃st1,xV base w T vw st1 wr∧st1.length=was∧∀y,st1.getD y false=if cols≤y∧y<x then false else st.getD y false) (fun s6 _=>was-(intOf s6).toNat)
 case atStart=>exact⟨cols,rfl,jD _,.inr rfl,st,⟨ws,H.o,Mod.refl _ _⟩,HW.o,fun y=>by rw[if_neg qJ]⟩
 case round=>
  obtain⟨x,rfl,hx1,hx2,st1,hs,hsl,hsg⟩:=hrel;have HS:=Hd hs;have HG:=Hd hsg;have HL:=Hd hsl;clear hs hsg hsl
  by_cases hlt:x<was
  · have hltI:(x:Int)<(was:Int):=by omega
    obtain⟨ws1,ho,hm⟩:=HS.o;have HC:=Hd (Xf ho x);have HM:=Hd hm;clear ho hm
    go_wp2_with(go_at_call 150;refine HC.o.mono ?_;rintro e w2 ⟨rfl,hs2⟩;have HS2:=Hd hs2;clear hs2)
    go_roundw
    case rel=>
     obtain⟨ws2,ho2,hm2⟩:=HS2.o;refine⟨x+1,by go_num,by omega,.inl qJ,_,⟨ws2,ho2,HM.o.trans hm2 (fun b hb=>.inl hb)⟩,?_,fun y=>?_⟩
     · unfold Vp;split
       · rw[uV];exact HL.o
       · exact HL.o
     · unfold Vp;rw[if_pos ⟨by omega,by rw[HL.o];omega⟩,vV,iM (by rw[HL.o];exact hlt),HG.o y]
       by_cases hxy:x=y
       · rw[if_pos hxy,if_pos qJ]
       · rw[if_neg hxy]
         by_cases hc:cols≤y∧y<x
         · rw[if_pos hc,if_pos qJ]
         · rw[if_neg hc,if_neg qJ]
    case measure=>simp[intOf];omega
  · have hltI:¬(x:Int)<(was:Int):=by omega
    have HG1:Hid (∀y,st1.getD y false=if cols≤y then false else st.getD y false):=Hd (fun y=>by
     rw[HG.o y]
     by_cases hc:cols≤y∧y<x
     · rw[if_pos hc,if_pos hc.1]
     · rw[if_neg hc]
       by_cases hy:cols≤y
       · rw[if_pos hy,QN (by rw[HW.o];omega)]
       · rw[if_neg hy])
    have HR0:Hid (XP base w T vw st1 wr):=Hd (by
     obtain⟨ws1,ho,hm⟩:=HS.o;exact⟨vw,ws1,ho,hm.mono (fun b hb=>by simp only[tbX,kJ];exact .inr hb),fun b hb=>.inl hb⟩)
    clear HG HS
    go_wp2_with fail
    go_loopg [35] 16 (fun k _ w2=>∃vw' ws',TbO base w2 T vw' ws' st1∧Mod (tbX T vw) w w2∧(∀b∈tbX T vw',b∈tbX T vw∨w.heap.size≤b)∧(16≤k+ws'.length))
    case atStart=>
     obtain⟨vw',ws',ho,hm,hx⟩:=HR0.o;exact⟨vw',ws',ho,hm,hx,by omega⟩
    case round=>
     obtain⟨vw1,ws1,ho1,hm1,hx1',hk1⟩:=hrel;obtain⟨A1,c1,hv1⟩:=ho1.vform;obtain⟨⟨z0,z0f⟩,z1,z1f⟩:=ho1.cells;rw[hv1]at z0;have hTw:=uE z1;have HO1:=Hd ho1;have HM1:=Hd hm1;have HX1:=Hd hx1';obtain⟨n1,hn1⟩:∃n1,ws1.length=n1:=⟨_,rfl⟩;have HN1:=Hd hn1;rw[hn1]at z0 hk1 hv1;have HV1:=Hd hv1;clear ho1 hm1 hx1' hn1 hv1 z1 z1f
     by_cases hlt2:64*n1<cols
     · have hn16:n1<16:=by omega
       have hw64:jE.wrap ((n1:Int)*64)=(n1:Int)*64:=jF _ qJ;have hltI2:(n1:Int)*64<(cols:Int):=by omega
       obtain⟨W2,hW2⟩:∃W2,wr.alloc (.cells #[.int .u64 0] 206)=W2:=⟨_,rfl⟩;have hb2:Below wr.heap.size wr W2:=by rw[←hW2];exact jH (jU _ _) _
       have HNW:=Hd (show W2.heap[wr.heap.size]? =some (.cells #[.int .u64 0] 206 (0,0))from by rw[←hW2];exact jT rfl);have HB2:=Hd hb2;have HOB:=Hd (show W2.ownsRow base 206 1 (.slice A1 n1 c1) n1 (uM Y3 ws1)from by have :=(HO1.o.below hb2).own;rw[HV1.o,HN1.o]at this;exact this);have hbw2:base≤W2.heap.size:=by have :=HO1.o.hb;have :=hb2.size;omega
       clear hb2
       go_wp2_with(refine vG rfl (.tmp 40) (.tmp 41) 177 rfl base 206 j0 _ 1 8 Tryz.underlying177 hj gz0 gz1 gz2 rfl qZ (.slice A1 n1 c1) n1 (uM Y3 ws1) rfl HOB.o ⟨wr.heap.size,0,none⟩ 1 1 [.int .u64 0] rfl rfl ?_ ?_ ?_ ?_ ?_ ?_)
       all_goals first
        |omega
        |(simp only[maxLen];omega)
        |skip
       · intro j u hj;rw[vF,kP];exact(at_ HNW.o j u qW).1
       · intro u hu;obtain rfl:=jM.1 hu;rfl
       · intro v' w' ho hg hv';have HMG:Hid (Mod vw1.ownBlock.toList wr w'):=Hd ((Mod.of_below (X:=vw1.ownBlock.toList) HB2.o).trans (Mod.of_grown (X:=vw1.ownBlock.toList) hg (fun g hg=>by rw[HV1.o,hg];simp)) (fun g hg=>.inl hg));have HR:=Hd (HO1.o.rewords (ws':=ws1++[0]) (by rw[jC,HN1.o,uI];exact ho) HMG.o (fun b hb=>(hv' b hb).imp (fun h=>by rw[HV1.o];exact h) (fun h=>by have :=HB2.o.size;omega)) (qQz HO1.o.wds) (by rw[jC,HN1.o];simp;omega));obtain⟨y0,y0f⟩:=HMG.o.hold HO1.o.ne HO1.o.cells.1;obtain⟨A',c',hvf⟩:=uT ho;clear ho hg hv' hW2;subst hvf
         go_wp2
         go_roundg (gk-1)
         case rel=>
          obtain⟨r1,r2,r3⟩:=HR.o;refine⟨_,ws1++[0],r1,HM1.o.trans r2 HX1.o,fun b hb=>?_,by rw[jC,HN1.o];simp;omega⟩;rcases r3 b hb with h|h
          · exact HX1.o b h
          · exact .inr (jI HM1.o.size h)
         case measure=>omega
     · have hn17:n1≤16:=by rw[←HN1.o];exact HO1.o.few
       have hw64:jE.wrap ((n1:Int)*64)=(n1:Int)*64:=jF _ qJ;have hltI2:¬(n1:Int)*64<(cols:Int):=by omega
       obtain⟨st2,hst2⟩:∃st2,(List.range cols).map (fun y=>st1.getD y false)=st2:=⟨_,rfl⟩;have hl2:st2.length=cols:=by rw[←hst2];simp
       have hg2:∀y,st2.getD y false=st1.getD y false:=fun y=>by
        rw[←hst2,Zc]
        by_cases hy:y<cols
        · rw[if_pos hy]
        · rw[if_neg hy,HG1.o y,if_pos qJ]
       have HRC:=Hd (HO1.o.recols (st':=st2) (by rw[hl2,HN1.o];omega) (by rw[hl2];exact h3) hg2);rw[hl2]at HRC;have HL2:=Hd hl2;have HG2:Hid (∀y,st2.getD y false=if cols≤y then false else st.getD y false):=Hd (fun y=>by rw[hg2 y];exact HG1.o y);obtain⟨-,z1,z1f⟩:=HO1.o.cells;clear hg2 hl2 hst2 HG1 HV1
       go_wp2_with fail
       generalize uN _ _ _=W3 at HRC ⊢;clear z0 z0f z1 z1f
       go_loopw [7] (fun s7 w4=>∃x:Nat,s7=.int .i64 x∧was≤x∧(x≤cols∨x=was)∧∃st3,xV base W3 T vw1 st3 w4∧st3.length=cols∧∀y,y<cols→st3.getD y false=if was≤y∧y<x then decide (y%8=0)else st2.getD y false) (fun s7 _=>cols-(intOf s7).toNat)
       case atStart=>exact⟨was,rfl,jD _,.inr rfl,st2,⟨ws1,HRC.o.1,Mod.refl _ _⟩,HL2.o,fun y _=>by rw[if_neg qJ]⟩
       case round=>
        obtain⟨x,rfl,hx1,hx2,st3,hs,hsl,hsg⟩:=hrel;have HS:=Hd hs;have HG:=Hd hsg;have HL:=Hd hsl;clear hs hsg hsl
        by_cases hlt3:x<cols
        · have hltI3:(x:Int)<(cols:Int):=by omega
          have h8:(x:Int).tmod 8=((x%8:Nat):Int):=by rw[Int.tmod_eq_emod_of_nonneg qJ];omega
          by_cases hx8:x%8=0
          · rw[hx8]at h8;obtain⟨ws3,ho,hm⟩:=HS.o;have HC:=Hd (qJc ho x);have HM:=Hd hm;clear ho hm
            go_wp2_with(go_at_call 151;refine HC.o.mono ?_;rintro e w5 ⟨rfl,hs2⟩;have HS2:=Hd hs2;clear hs2)
            go_roundw
            case rel=>
             obtain⟨ws4,ho4,hm4⟩:=HS2.o;refine⟨x+1,by go_num,by omega,.inl qJ,_,⟨ws4,ho4,HM.o.trans hm4 (fun b hb=>.inl hb)⟩,?_,fun y hy=>?_⟩
             · unfold Vp;split
               · rw[uV];exact HL.o
               · exact HL.o
             · unfold Vp;rw[if_pos ⟨by omega,by rw[HL.o];omega⟩,vV,iM (by rw[HL.o];exact hlt3),HG.o y hy]
               by_cases hxy:x=y
               · subst hxy;rw[if_pos rfl,if_pos qJ,decide_eq_true hx8]
               · rw[if_neg hxy]
                 by_cases hc:was≤y∧y<x
                 · rw[if_pos hc,if_pos qJ]
                 · rw[if_neg hc,if_neg qJ]
            case measure=>simp[intOf];omega
          · have h8':¬(x:Int).tmod 8=0:=by omega
            go_wp2_with fail
            go_roundw
            case rel=>
             refine⟨x+1,by go_num,by omega,.inl qJ,st3,HS.o,HL.o,fun y hy=>?_⟩;rw[HG.o y hy]
             by_cases hxy:x=y
             · subst hxy;rw[if_neg qJ,if_pos qJ,decide_eq_false hx8,HG2.o x,if_neg qJ,QN (by rw[HW.o];omega)]
             · by_cases hc:was≤y∧y<x
               · rw[if_pos hc,if_pos qJ]
               · rw[if_neg hc,if_neg qJ]
            case measure=>simp[intOf];omega
        · have hltI3:¬(x:Int)<(cols:Int):=by omega
          go_wp2
          go_ret
          have he:st3=cY st cols:=by
           refine qKw (by rw[HL.o];simp[cY]) (fun y hy=>?_);rw[HL.o]at hy;unfold cY;rw[HG.o y hy,Zc,if_pos hy,HW.o]
           by_cases hw:y<was
           · rw[if_neg qJ,if_pos hw,HG2.o y,if_neg qJ]
           · rw[if_pos qJ,if_neg hw]
          rw[he]at HS;exact⟨rfl,XP.set (HM1.o.trans HRC.o.2 HX1.o) HX1.o HS.o⟩
def qQr(cols:Nat)(w:World)(e:Ending)(w':World):Prop:=∃T vw ws,e=.returned (.tuple #[.pointer (some ⟨T,0,none⟩),.int .i64 0])∧TbO w.heap.size w' T vw ws (cY [] cols)∧Below w.heap.size w w'
set_option maxHeartbeats 1600000 in
theorem tnew_ok(cols:Nat)(w:World)(h2:2≤cols)(h3:cols≤1000):Calls jG 63 #[.int .i64 cols] w (qQr cols w):=by
 have HF:=Hd (fun w=>JD cols w);have hf:(decide (2≤(cols:Int))&&decide ((cols:Int)≤1000))=true:=by simp;omega
 rw[hf]at HF;clear hf;have hO:TbO w.heap.size (w.alloc (.cells #[.slice none 0 0,.int .i64 0] 179)) w.heap.size (.slice none 0 0) [] []:=
  ⟨jT rfl,jD _,kS _ _ _ _,⟨kM _,fun i n hn=>by simp at hn⟩,by simp,by simp⟩
 have HS:=Hd (qJa hO cols h2 h3);have HB:=Hd (jH (jU w.heap.size w) (.cells #[.slice none 0 0,.int .i64 0] 179));clear hO
 go_enter Tryz.func63,Tryz.ntmps63
 go_wp2_with(first
  |(go_at_call 113;refine(HF.o _).mono ?_;rintro e w1 ⟨rfl,rfl⟩)
  |(go_at_call 80;refine HS.o.mono ?_;rintro e w2 ⟨rfl,hs⟩;have HR:=Hd hs;clear hs))
 go_ret2
 obtain⟨vw,ws,h1,hm,-⟩:=HR.o;exact⟨w.heap.size,vw,ws,rfl,h1,HB.o.trans (hm.below (B:=w.heap.size) (fun b hb=>by simp[tbX,Value.ownBlock]at hb;omega) qV)⟩
end
def iF(c:Ch):List Value:=[.int .i64 c.g0,.int .i64 c.g1,.int .i64 c.g2,.int .i64 c.g3,.int .i64 c.use,.int .i64 c.once]
def chV(c:Ch):Value:=.agg #[.int .i64 c.g0,.int .i64 c.g1,.int .i64 c.g2,.int .i64 c.g3,.int .i64 c.use,.int .i64 c.once]
theorem Y6:∀c,∀v∈iF c,v.oneCell'=true:=fun c v hv=>by
 simp only[iF,kJ,List.not_mem_nil,or_false]at hv;rcases hv with rfl|rfl|rfl|rfl|rfl|rfl<;>rfl
theorem Ks:(jG.info? 99).map (·.size)=some 6:=by kernel_rfl
theorem QW:(jG.info? 321).map (·.size)=some 31:=by kernel_rfl
section
variable {P:Program}
theorem tH{fn:Func}{u p:Tmp}{ty:TypeId}(h:fn.results=#[.tmp u,.cell p ty])(tmps:Array Value)(w:World):
 (results fn tmps).run P w=((asAddr (tmps.getD p undef)).run P w).andThen fun a w1=>((loadVar ty a).run P w1).andThen fun v w2=>.ok (.tuple #[tmps.getD u undef,v]) w2:=by
 simp only[results,h];simp[Sem.run_bind,Result.andThen]
theorem mK(w:World)(t e:TypeId)(n:Nat)(cs:Array Value)(k:IntKind)(i:Int)(v:Value)(h:P.underlying t=some (.array n e))(h0:0≤i)(h1:i<n)(hs:(sizeOf e).run P w=.ok 1 w)(ha:(isAgg e).run P w=.ok false w)(hv:cs.toList[i.toNat]? =some v):
 (Instr.index t (.agg cs) (.int k i)).run P w=.ok v w:=by
 have hc:0≤i∧i<(n:Int):=⟨h0,h1⟩;have hv2:cs[i.toNat]? =some v:=by rw[←Array.getElem?_toList];exact hv
 simp[Instr.index,part,run_underlying h,asIntOf,hc,hs,ha,hv2,Result.andThen,go_sem]
theorem bW{fn:Func}{p:Tmp}{ty:TypeId}{d:TypeDesc}(hr:fn.results=#[.cell p ty])(tmps:Array Value)(w:World)(b:Nat)(cs:List Value)(hp:tmps.getD p undef=.pointer (some ⟨b,0,none⟩))(h:w.rangeAt b 0 cs)
 (hu:P.underlying ty=some d) (hd:d.isRow=true) (hi:(P.info? ty).map (·.size)=some cs.length):(results fn tmps).run P w=.ok (.agg cs.toArray) w:=by
 rw[fL hr,hp];have :=run_loadVar_mid (P:=P) w b 0 ty cs _ h hu hd hi;simp only[asAddr,Sem.run_pure,Result.andThen_ok,this]
theorem Vo{fn:Func}{u p:Tmp}{ty:TypeId}{d:TypeDesc}(hr:fn.results=#[.tmp u,.cell p ty])(tmps:Array Value)(w:World)(b:Nat)(cs:List Value)(hp:tmps.getD p undef=.pointer (some ⟨b,0,none⟩))(h:w.rangeAt b 0 cs)
 (hu:P.underlying ty=some d) (hd:d.isRow=true) (hi:(P.info? ty).map (·.size)=some cs.length):(results fn tmps).run P w=.ok (.tuple #[tmps.getD u undef,.agg cs.toArray]) w:=by
 rw[tH hr,hp];have :=run_loadVar_mid (P:=P) w b 0 ty cs _ h hu hd hi;simp only[asAddr,Sem.run_pure,Result.andThen_ok,this]
end
theorem yF{B:Nat}{W w1:World}(h:Below B W w1){b:Nat}(hb:B≤b):∀(vs:List Value) (o:Nat),Below B W (w1.setCells b o vs)
 |[],_=>h
 |v::vs,o=>yF (h.setCell (p:=⟨b,o,none⟩) hb v) hb vs (o+1)
theorem Wb(c:Ch):∃k:Nat,k<4∧VT c=k:=by
 unfold VT
 split
 · next h=>exact⟨c.once.toNat,by omega,by omega⟩
 split
 · exact⟨c.use.toNat,by omega,by omega⟩
 · exact⟨0,by decide,rfl⟩
theorem Zw(w:World):Calls jG 114 #[] w fun e w'=>e=.returned (chV gE)∧Below w.heap.size w w':=by
 go_enter Tryz.func114,Tryz.ntmps114
 go_wp2
 exact bodyPost_ret (bW rfl _ _ w.heap.size (iF gE) rfl (uH (jT rfl)) Tryz.underlying99 rfl Ks) rfl ⟨rfl,jH (jU _ _) _⟩
theorem U8(c:Ch)(w:World):Calls jG 275 #[chV c] w fun e w'=>e=.returned (.int .i64 (VT c))∧Below w.heap.size w w':=by
 obtain⟨g0,g1,g2,g3,u,o⟩:=c;unfold VT chV;simp only[]
 by_cases h2:o=2
 · subst h2;rw[if_pos (Or.inl rfl)]
   go_enter Tryz.func275,Tryz.ntmps275
   go_wp2
   go_ret
   exact qXx
 by_cases h3:o=3
 · subst h3;rw[if_pos (Or.inr rfl)]
   go_enter Tryz.func275,Tryz.ntmps275
   go_wp2
   go_ret
   exact qXx
 have e2:(o==2)=false:=by simpa using h2
 have e3:(o==3)=false:=by simpa using h3
 rw[if_neg qJ]
 by_cases hu:0≤u
 · by_cases hu3:u≤3
   · rw[if_pos ⟨hu,hu3⟩]
     go_enter Tryz.func275,Tryz.ntmps275
     go_wp2
     go_ret
     exact qXx
   · rw[if_neg qJ]
     go_enter Tryz.func275,Tryz.ntmps275
     go_wp2
     go_ret
     exact qXx
 · rw[if_neg qJ]
   go_enter Tryz.func275,Tryz.ntmps275
   go_wp2
   go_ret
   exact qXx
def fA:List Value:=[.int .i32 9670,.int .i32 9618,.int .i32 9225,.int .i32 9228,.int .i32 9229,.int .i32 9226,.int .i32 176,.int .i32 177,.int .i32 9252,.int .i32 9227,.int .i32 9496,.int .i32 9488,.int .i32 9484,.int .i32 9492,.int .i32 9532,.int .i32 9146,.int .i32 9147,.int .i32 9472,.int .i32 9148,.int .i32 9149,.int .i32 9500,.int .i32 9508,.int .i32 9524,.int .i32 9516,.int .i32 9474,.int .i32 8804,.int .i32 8805,.int .i32 960,.int .i32 8800,.int .i32 163,.int .i32 183]
theorem Ym(k:Nat)(hk:k<31):fA[k]? =some (.int .i32 (Qq.getD k 0)):=by
 have e:fA=Qq.map (fun r=>Value.int .i32 r):=rfl;rw[e,uX,kX,jN (show k<Qq.length from hk)];rfl
theorem Yl:∀v∈fA,v.oneCell'=true:=by
 intro v hv;rw[show fA=Qq.map (fun r=>Value.int .i32 r)from rfl]at hv;obtain⟨r,-,rfl⟩:=List.mem_map.1 hv;rfl
set_option maxHeartbeats 1600000 in
theorem UU(w:World):Calls jG 338 #[] w fun e w'=>e=.returned (.agg fA.toArray)∧Below w.heap.size w w':=by
 go_enter Tryz.func338,Tryz.ntmps338
 go_upto_region 1 with fail
 generalize hW:World.alloc _ _=W;have hb2:Below w.heap.size w W:=by rw[←hW];exact jH (jU _ _) _
 have hc2:W.heap[w.heap.size]? =some (.cells (kN 31 (Value.int .i32 0)).toArray 321 (0,0)):=by rw[←hW];exact jT rfl
 refine wp_region_lit ?_;refine jB (.agg fA.toArray) qK (by go_simp;rfl) ?_;simp only[Act.put,jZ,jX,jY];refine wpList_store_mid rfl 321 (.tmp 0) (.tmp 1) rfl (w.heap.size) (0) (fA.toArray) rfl rfl ((show W.there w.heap.size 0 31 from pW hc2)) QW (all_oneCell_toArray Yl) ?_;simp only[Act.put]
 go_wp2
 have hw:=uF fA 0 _ W hc2 qZ;exact bodyPost_ret (bW rfl _ _ w.heap.size fA rfl (uH hw) Tryz.underlying321 rfl QW) rfl ⟨rfl,yF hb2 (jD _) _ _⟩
def KS(kind r:Int)(w:World)(e:Ending)(w':World):Prop:=e=.returned (.int .i32 (aN kind r))∧Below w.heap.size w w'
set_option maxHeartbeats 1600000 in
theorem Yt(kind r:Int)(w:World):Calls jG 274 #[.int .i64 kind,.int .i32 r] w (KS kind r w):=by
 have HD:=Hd (fun w=>UU w);unfold KS aN
 by_cases k1:kind=65
 · subst k1
   by_cases r1:r=35
   · subst r1
     go_enter Tryz.func274,Tryz.ntmps274
     go_wp2
     go_ret
     exact⟨rfl,jU _ _⟩
   · have e1:(r==35)=false:=by simpa using r1
     rw[if_neg qJ,if_neg qJ,if_neg qJ];clear r1
     go_enter Tryz.func274,Tryz.ntmps274
     go_wp2
     go_ret
     exact⟨rfl,jU _ _⟩
 have e1:(kind==65)=false:=by simpa using k1
 rw[if_neg (fun h=>k1 h.1)]
 by_cases k2:kind=48
 · subst k2
   by_cases r1:r=95
   · subst r1;clear e1
     go_enter Tryz.func274,Tryz.ntmps274
     go_wp2
     go_ret
     exact⟨rfl,jU _ _⟩
   · have e2:(r==95)=false:=by simpa using r1
     rw[if_neg qJ];clear e1 k1
     by_cases h1:96≤r
     · by_cases h2:r≤126
       · rw[if_pos ⟨rfl,h1,h2⟩];have hk:=Ym (r-96).toNat qJ;have hw:IntKind.i32.wrap (r-96)=r-96:=IntWalk.i32_in _ qJ;have HK:=Hd hk;clear hk
         go_enter Tryz.func274,Tryz.ntmps274
         go_wp2_with(go_at_call 338;refine(HD.o _).mono ?_;rintro e w1 ⟨rfl,hb⟩;have HB:=Hd hb;clear hb)
         rw[mK w1 _ _ 31 fA.toArray _ _ _ Tryz.underlying321 qJ qJ (Tryz.sizeOf21 _) (Tryz.isAgg21 _) HK.o]
         go_wp2
         go_ret
         exact⟨rfl,HB.o⟩
       · rw[if_neg qJ]
         go_enter Tryz.func274,Tryz.ntmps274
         go_wp2
         go_ret
         exact⟨rfl,jU _ _⟩
     · rw[if_neg qJ]
       go_enter Tryz.func274,Tryz.ntmps274
       go_wp2
       go_ret
       exact⟨rfl,jU _ _⟩
 · have e2:(kind==48)=false:=by simpa using k2
   rw[if_neg qJ,if_neg qJ]
   go_enter Tryz.func274,Tryz.ntmps274
   go_wp2
   go_ret
   exact⟨rfl,jU _ _⟩
def VM(c:Ch)(r:Int)(w:World)(e:Ending)(w':World):Prop:=e=.returned (.tuple #[.int .i32 (qKl c r),chV (Jf c)])∧Below w.heap.size w w'
set_option maxHeartbeats 1600000 in
theorem qVg(c:Ch)(r:Int)(w:World):Calls jG 180 #[chV c,.int .i32 r] w (VM c r w):=by
 have HU:=Hd (fun w=>U8 c w);have HS:=Hd (fun k w=>Yt k r w);obtain⟨k,hk,hku⟩:=Wb c;unfold VM qKl;rw[hku]at HU ⊢;clear hku;obtain⟨g0,g1,g2,g3,u,o⟩:=c;unfold chV setC Jf at *;simp only[]at HU ⊢;have HX:=Hd (vJ (o:=.cells (iF ⟨0,0,0,0,0,0⟩).toArray 99) (jT (W:=w) (b:=w.heap.size) (o:=.cells (iF ⟨g0,g1,g2,g3,u,o⟩).toArray 99) rfl));have HY:=Hd (jT (W:=w.alloc (.cells (iF ⟨g0,g1,g2,g3,u,o⟩).toArray 99)) (b:=w.heap.size+1) (o:=.cells (iF ⟨0,0,0,0,0,0⟩).toArray 99) qV);have HB0:=Hd (jH (jH (jU w.heap.size w) (.cells (iF ⟨g0,g1,g2,g3,u,o⟩).toArray 99)) (.cells (iF ⟨0,0,0,0,0,0⟩).toArray 99));obtain rfl|rfl|rfl|rfl:k=0∨k=1∨k=2∨k=3:=by omega
 all_goals
  go_enter Tryz.func180,Tryz.ntmps180
  go_upto_region 3 with(first
   |(go_at_call 275;refine(HU.o _).mono ?_;rintro e w1 ⟨rfl,hb1⟩;have HX1:=Hd ((hb1.block _ (jR HX.o)).trans HX.o);have HY1:=Hd ((hb1.block _ (jR HY.o)).trans HY.o);have HB1:=Hd (jW HB0.o hb1);clear hb1;obtain⟨c0,f0⟩:=at_ HX1.o 0 _ rfl;obtain⟨c1,f1⟩:=at_ HX1.o 1 _ rfl;obtain⟨c2,f2⟩:=at_ HX1.o 2 _ rfl;obtain⟨c3,f3⟩:=at_ HX1.o 3 _ rfl)
   |(go_at_call 274;refine(HS.o _ _).mono ?_;rintro e w2 ⟨rfl,hb2⟩;have HX2:=Hd ((hb2.block _ (jR HX1.o)).trans HX1.o);have HY2:=Hd ((hb2.block _ (jR HY1.o)).trans HY1.o);have HB2:=Hd (jW HB1.o hb2);clear hb2 c0 f0 c1 f1 c2 f2 c3 f3;obtain⟨c5,f5⟩:=at_ HX2.o 5 _ rfl))
  have hx3:=kA HX2.o 5 (.int .i64 0) rfl;have hy3:=(vT (w:=w2) (b:=w.heap.size) (i:=5) (v:=.int .i64 0) (show w.heap.size+1≠w.heap.size by omega)).trans HY2.o;have hb3:=uK HB2.o (jD w.heap.size) (o:=5) (.int .i64 0);clear c5 f5;generalize uN _ _ _=W3 at hx3 hy3 hb3 ⊢;obtain⟨x0,-⟩:=at_ hx3 0 _ rfl;obtain⟨x1,-⟩:=at_ hx3 1 _ rfl;obtain⟨x2,-⟩:=at_ hx3 2 _ rfl;obtain⟨x3,-⟩:=at_ hx3 3 _ rfl;obtain⟨x4,-⟩:=at_ hx3 4 _ rfl;obtain⟨x5,-⟩:=at_ hx3 5 _ rfl;refine kW 3 (fun w'=>Below W3.heap.size W3 w'∧w'.cell? ⟨w.heap.size,0,none⟩=some (.int .i64 g0)∧w'.cell? ⟨w.heap.size,1,none⟩=some (.int .i64 g1)∧w'.cell? ⟨w.heap.size,2,none⟩=some (.int .i64 g2)∧w'.cell? ⟨w.heap.size,3,none⟩=some (.int .i64 g3)∧w'.cell? ⟨w.heap.size,4,none⟩=some (.int .i64 u)∧w'.cell? ⟨w.heap.size,5,none⟩=some (.int .i64 0)) qQ qQ ?_ ?_
  · exact⟨(jU _ _).drew,x0,x1,x2,x3,x4,x5⟩
  simp only[jS,kK,jL,jO]
  repeat(
   (first
    |refine kF qK ?_
    |(refine kT ?_ qK ?_ ?_;rotate_left;(focus(intro w' hS;obtain⟨_,_,_,_,_,_,_⟩:=hS;go_simp;first|done|with_reducible rfl))))
   simp only[Act.put,jZ,jX,jY])
  refine kE (fun w' hS=>?_);have hy4:=(hS.1.block _ (jR hy3)).trans hy3;have hb4:=jW hb3 hS.1;refine wpList_store_mid rfl 99 (.tmp 5) (.tmp 16) rfl (w.heap.size+1) (0) ((iF ⟨g0,g1,g2,g3,u,0⟩).toArray) rfl rfl ((show World.there _ (w.heap.size+1) 0 6 from pW hy4)) Ks (all_oneCell_toArray (Y6 _)) ?_;simp only[Act.put]
  go_wp2
  have hw:=uF (iF ⟨g0,g1,g2,g3,u,0⟩) 0 _ _ hy4 (by simp[iF]);exact bodyPost_ret (Vo rfl _ _ (w.heap.size+1) (iF ⟨g0,g1,g2,g3,u,0⟩) rfl (uH hw) Tryz.underlying99 rfl Ks) rfl ⟨rfl,yF hb4 qJ _ _⟩
end Go.Proofs.YtaefcahblmopfaaGreatDoor
