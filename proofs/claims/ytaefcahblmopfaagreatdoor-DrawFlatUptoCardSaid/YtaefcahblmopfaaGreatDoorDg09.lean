/- Joined by a tool of this claim out of smaller texts. Conditions: as stated. -/
import Derived.Test.YtaefcahblmopfaaGreatDoorDg08
import Derived.Laws.Shifts
set_option linter.unusedVariables false
set_option linter.unusedSimpArgs false
set_option maxRecDepth 100000
open Go.Lib renaming hid → Hd
open List renaming setIfInBounds_toArray → jZ, set_cons_zero → jX, set_cons_succ → jY, mem_singleton → jW, getElem?_eq_getElem → jN, getElem?_eq_some_iff → jP, length_append → jC, drop_succ_cons → jR, take_succ_cons → jS, drop_zero → jO, mem_cons → kJ, take_zero → kK, take_succ_eq_append_getElem → kY, append_assoc → kG, replicate → kW, mem_append → kM, length_set → kI, length_replicate → uX, getElem?_drop → gH
open Go.Proofs.Tryz renaming prog → jG
open Go.RowKit.Below renaming refl → jU
open Nat renaming le_refl → jD, zero_add → kP, add_zero → uS
open Go.IntWalk renaming i64_in → jF
open Option renaming mem_toList → jT
open Go.IntKind renaming i64 → jE
open And renaming intro → kX
open Array renaming getElem?_eq_some_iff → kN
open Int renaming toNat_natCast → vQ
namespace Go.Proofs.YtaefcahblmopfaaGreatDoor
open Go.RowKit
def J8(n:Nat):List Value:=[.int .u64 n]
theorem ZE:∀n,(J8 n).length=1:=fun _=>rfl
theorem Ku{ws:List Nat}{k n:Nat}(h:ws[k]? =some n):(uY J8 ws)[k]? =some (.int .u64 n):=by
 have :=yQ ZE ws k n 0 h qZ;rw[Nat.mul_one,uS]at this;exact this
theorem JP{w:World}{base:Nat}{e:TypeId}{size n cap:Nat}{A:Option Addr}{xs:List Value}(h:w.ownsRow base e size (.slice A n cap) n xs)(hn:0<n):∃g,A=some ⟨g,0,none⟩:=by
 obtain⟨-,h2|⟨g',cap',cur,hv,-⟩⟩:=h
 · have :=h2.1;injection this with h1 h3;omega
 · injection hv with h1
   exact⟨g',h1⟩
theorem UP{j:Nat}(h:j<64):2 ^ j<18446744073709551616:=Nat.lt_of_lt_of_le (Nat.pow_lt_pow_right qZ h:2 ^ j<2 ^ 64) qZ
theorem VN(P:Program)(w:World){x j:Nat}(h:x%64=j):(Op.shift .shl .u64 1 .i64 ((x:Int).tmod 64)).run P w=.ok (.int .u64 ((2 ^ j:Nat):Int)) w:=by
 have hj:j<64:=by omega
 have e:(x:Int).tmod 64=(j:Int):=by rw[Int.tmod_eq_emod_of_nonneg qJ];omega
 have hp:2 ^ j<2 ^ 64:=Nat.pow_lt_pow_right qZ hj;rw[e,shift_shl_any _ _ _ _ qJ,vQ,Int.one_mul];show Result.ok (Value.int .u64 (IntKind.u64.wrap (2 ^ min j 64))) w=_;rw[show min j 64=j by omega,IntKind.wrap_u64];have e2:(2:Int) ^ j=((2 ^ j:Nat):Int):=by simp
 have hp2:2 ^ j<18446744073709551616:=Nat.lt_of_lt_of_le hp qZ;have h3:((2 ^ j:Nat):Int)%18446744073709551616=((2 ^ j:Nat):Int):=Int.emod_eq_of_lt (Int.natCast_nonneg _) (show((2 ^ j:Nat):Int)<18446744073709551616 from Int.ofNat_lt.2 hp2);rw[e2,h3]
structure TbO(base:Nat)(w:World)(T:Nat)(vw:Value)(ws:List Nat)(st:List Bool):Prop where
 blk:w.heap[T]? =some (.cells #[vw,.int .i64 st.length] 179 (0,0))
 hb:base≤T
 own:w.ownsRow base 206 1 vw ws.length (uY J8 ws)
 wds:lB ws st
 le:st.length≤1000
 few:ws.length≤16
def tbX(T:Nat)(vw:Value):List Nat:=T::vw.ownBlock.toList
section
variable {base:Nat}{w:World}{T:Nat}{vw:Value}{ws:List Nat}{st:List Bool}
theorem TbO.cells(h:TbO base w T vw ws st):(w.cell? ⟨T,0,none⟩=some vw∧w.frozen? ⟨T,0,none⟩=false)∧w.cell? ⟨T,1,none⟩=some (.int .i64 st.length)∧w.frozen? ⟨T,1,none⟩=false:=⟨at_ h.blk 0 _ rfl,at_ h.blk 1 _ rfl⟩
theorem TbO.vform(h:TbO base w T vw ws st):∃A c,vw=.slice A ws.length c:=uI h.own
theorem TbO.mod{X:List Nat}{w':World}(h:TbO base w T vw ws st)(hm:Mod X w w')(hd:∀b∈tbX T vw,b∉X):TbO base w' T vw ws st:=
 ⟨(hm.block T (kN.1 h.blk).1 (hd T (by simp[tbX]))).trans h.blk,h.hb,kC h.own hm (fun b hb=>hd b (by simp[tbX,hb])),h.wds,h.le,h.few⟩
theorem TbO.below{w':World}(h:TbO base w T vw ws st)(hb:Below w.heap.size w w'):TbO base w' T vw ws st:=h.mod (Mod.of_below (X:=[]) hb) (fun _ _ h=>by cases h)
theorem WX(h:TbO base w T vw ws st):Calls jG 326 #[.pointer (some ⟨T,0,none⟩)] w fun e w'=>e=.returned (.int .i64 st.length)∧w=w':=by
 obtain⟨-,x1,-⟩:=h.cells;clear h
 go_enter Tryz.func326,Tryz.ntmps326
 go_wp2
 go_ret
 exact⟨rfl,rfl⟩
theorem wE(h:TbO base w T vw ws st)(x:Int):Calls jG 244 #[.pointer (some ⟨T,0,none⟩),.int .i64 x] w fun e w'=>e=.returned (.bool (decide (0≤x)&&decide (x<st.length)))∧w=w':=by
 have HR:=Hd (WX h);clear h
 by_cases hy:0≤x
 · go_enter Tryz.func244,Tryz.ntmps244
   go_wp2_with(go_at_call 326;refine HR.o.mono ?_;rintro e w1 ⟨rfl,rfl⟩)
   go_ret
   simp[hy]
 · go_enter Tryz.func244,Tryz.ntmps244
   go_wp2_with(go_at_call 326;refine HR.o.mono ?_;rintro e w1 ⟨rfl,rfl⟩)
   go_ret
   simp;omega
def wC(base:Nat)(w:World)(T:Nat)(vw:Value)(st':List Bool)(w':World):Prop:=∃ws',TbO base w' T vw ws' st'∧Mod vw.ownBlock.toList w w'
theorem TbO.setW{g c k n:Nat}{st':List Bool}(h:TbO base w T vw ws st)(hv:vw=.slice (some ⟨g,0,none⟩) ws.length c)(hk:k<ws.length)(hw:lB (ws.set k n) st')(hl:st'.length=st.length):wC base w T vw st' (w.setCell ⟨g,k,none⟩ (.int .u64 n)):=by
 have hown:=h.own;rw[hv]at hown;have h1:=cD hown (k*1+0) (.int .u64 n);rw[cR ZE ws k ws[k] n 0 (.int .u64 n) (jN hk) qZ rfl,Nat.mul_one,uS]at h1;have hM:Mod vw.ownBlock.toList w (w.setCell ⟨g,k,none⟩ (.int .u64 n)):=(Mod.refl _ _).setCell (a:=⟨g,k,none⟩) (.inl qVz) _;refine⟨ws.set k n,⟨?_,h.hb,by rw[kI,hv];exact h1,hw,by rw[hl];exact h.le,by rw[kI];exact h.few⟩,hM⟩;rw[hl];refine(hM.block T (kN.1 h.blk).1 (fun hb=>?_)).trans h.blk;obtain⟨cur,hc⟩:=uD h.own (jT.1 hb);exact qZe
theorem wC.trans{w1 w2:World}{st':List Bool}(h:wC base w1 T vw st' w2)(hb:Below w.heap.size w w1):wC base w T vw st' w2:=by
 obtain⟨ws',h1,h2⟩:=h;exact⟨ws',h1,(Mod.of_below hb).trans h2 (fun b hb=>.inl hb)⟩
def eZ(base:Nat)(w:World)(T:Nat)(vw:Value)(st':List Bool)(e:Ending)(w':World):Prop:=e=.returned (.tuple #[])∧wC base w T vw st' w'
set_option maxHeartbeats 1600000 in
theorem tSet_in(h:TbO base w T vw ws st)(x:Nat)(hx:x<st.length):Calls jG 151 #[.pointer (some ⟨T,0,none⟩),.int .i64 x] w (eZ base w T vw (st.set x true)):=by
 have HIN:=Hd (wE h x);have hin:(decide (0≤(x:Int))&&decide ((x:Int)<st.length))=true:=by simp;omega
 rw[hin]at HIN;clear hin;obtain⟨⟨x0,-⟩,-⟩:=h.cells;obtain⟨A,c,hv⟩:=h.vform;obtain⟨wd,hwd,hlt,hbit⟩:=Kx h.wds hx;have hl:=(jP.1 hwd).1;have hle:=h.le;have hown:=h.own;rw[hv]at hown x0;obtain⟨g,rfl⟩:∃g,A=some ⟨g,0,none⟩:=JP hown qJ;obtain⟨y,yf⟩:=gR hown (i:=x/64) (v:=.int .u64 wd) (Ku hwd);have hwds:=h.wds;generalize hk:x/64=k at *;have hq:jE.wrap ((x:Int)/64)=(k:Int):=by rw[jF _ qJ];omega
 have hkl:(k:Int)<(ws.length:Int):=by omega
 obtain⟨j,hj⟩:∃j,x%64=j:=⟨_,rfl⟩;have hsh:=fun w'=>VN jG w' hj;have hor:=u64_or_nat wd (2 ^ j) hlt (UP (show j<64 by omega))
 go_enter Tryz.func151,Tryz.ntmps151
 go_upto_region 1 with(go_at_call 244;refine HIN.o.mono ?_;rintro e w1 ⟨rfl,rfl⟩)
 refine kH 13 (fun w'=>Below w.heap.size w w'∧w'.cell? ⟨T,0,none⟩=some (.slice (some ⟨g,0,none⟩) ws.length c)∧w'.cell? ⟨g,k,none⟩=some (.int .u64 wd)) qQ qQ ?_ ?_
 · exact⟨(jU _ _).drew,x0,y⟩
 simp only[jS,kK,jR,jO]
 repeat(
  (first
   |refine kF qK ?_
   |(refine kE ?_ qK ?_ ?_;rotate_left;(focus(intro w' hS;obtain⟨_,_,_⟩:=hS;go_simp;first|done|with_reducible rfl))))
  simp only[Act.put,jZ,jX,jY])
 refine kO (fun w' hS=>?_);have hO:=h.below hS.1;have hown2:=hO.own;rw[hv]at hown2;obtain⟨z,zf⟩:=gR hown2 (i:=k) (v:=.int .u64 wd) (Ku hwd)
 go_wp2
 go_end0
 have e2:(2:Int) ^ j=((2 ^ j:Nat):Int):=by simp
 rw[e2,hor];have hs:=wds_set hO.wds hx (hk.symm▸hwd);rw[hk,hj]at hs;exact⟨rfl,(hO.setW hv qJ hs qV).trans hS.1⟩
theorem qQp(h:TbO base w T vw ws st)(x:Int)(hx:x<0∨(st.length:Int)≤x):Calls jG 151 #[.pointer (some ⟨T,0,none⟩),.int .i64 x] w (eZ base w T vw st):=by
 have HIN:=Hd (wE h x);have hin:(decide (0≤x)&&decide (x<st.length))=false:=by simp;omega
 rw[hin]at HIN;have H:=Hd h;clear hin hx h
 go_enter Tryz.func151,Tryz.ntmps151
 go_wp2_with(go_at_call 244;refine HIN.o.mono ?_;rintro e w1 ⟨rfl,rfl⟩)
 go_end0
 exact⟨rfl,ws,H.o,Mod.refl _ _⟩
def VW(st:List Bool)(x:Int)(b:Bool):List Bool:=if 0≤x∧x<st.length then st.set x.toNat b else st
theorem qQq(h:TbO base w T vw ws st)(x:Int):Calls jG 151 #[.pointer (some ⟨T,0,none⟩),.int .i64 x] w (eZ base w T vw (VW st x true)):=by
 unfold VW
 by_cases hx:0≤x∧x<st.length
 · obtain⟨k,rfl⟩:=Int.eq_ofNat_of_zero_le hx.1;rw[if_pos hx,vQ];exact tSet_in h k qJ
 · rw[if_neg hx];exact qQp h x qJ
set_option maxHeartbeats 1600000 in
theorem WY(h:TbO base w T vw ws st)(x:Nat)(hx:x<st.length):Calls jG 150 #[.pointer (some ⟨T,0,none⟩),.int .i64 x] w (eZ base w T vw (st.set x false)):=by
 have HIN:=Hd (wE h x);have hin:(decide (0≤(x:Int))&&decide ((x:Int)<st.length))=true:=by simp;omega
 rw[hin]at HIN;clear hin;obtain⟨⟨x0,-⟩,-⟩:=h.cells;obtain⟨A,c,hv⟩:=h.vform;obtain⟨wd,hwd,hlt,hbit⟩:=Kx h.wds hx;have hl:=(jP.1 hwd).1;have hle:=h.le;have hown:=h.own;rw[hv]at hown x0;obtain⟨g,rfl⟩:∃g,A=some ⟨g,0,none⟩:=JP hown qJ;obtain⟨y,yf⟩:=gR hown (i:=x/64) (v:=.int .u64 wd) (Ku hwd);have hwds:=h.wds;generalize hk:x/64=k at *;have hq:jE.wrap ((x:Int)/64)=(k:Int):=by rw[jF _ qJ];omega
 have hkl:(k:Int)<(ws.length:Int):=by omega
 obtain⟨j,hj⟩:∃j,x%64=j:=⟨_,rfl⟩;have hsh:=fun w'=>VN jG w' hj;have hor:=u64_andNot_nat wd (2 ^ j) hlt (UP (show j<64 by omega))
 go_enter Tryz.func150,Tryz.ntmps150
 go_upto_region 1 with(go_at_call 244;refine HIN.o.mono ?_;rintro e w1 ⟨rfl,rfl⟩)
 refine kH 13 (fun w'=>Below w.heap.size w w'∧w'.cell? ⟨T,0,none⟩=some (.slice (some ⟨g,0,none⟩) ws.length c)∧w'.cell? ⟨g,k,none⟩=some (.int .u64 wd)) qQ qQ ?_ ?_
 · exact⟨(jU _ _).drew,x0,y⟩
 simp only[jS,kK,jR,jO]
 repeat(
  (first
   |refine kF qK ?_
   |(refine kE ?_ qK ?_ ?_;rotate_left;(focus(intro w' hS;obtain⟨_,_,_⟩:=hS;go_simp;first|done|with_reducible rfl))))
  simp only[Act.put,jZ,jX,jY])
 refine kO (fun w' hS=>?_);have hO:=h.below hS.1;have hown2:=hO.own;rw[hv]at hown2;obtain⟨z,zf⟩:=gR hown2 (i:=k) (v:=.int .u64 wd) (Ku hwd)
 go_wp2
 go_end0
 have e2:(2:Int) ^ j=((2 ^ j:Nat):Int):=by simp
 rw[e2,hor];have hs:=Ur hO.wds hx (hk.symm▸hwd);rw[hk,hj]at hs;exact⟨rfl,(hO.setW hv qJ hs qV).trans hS.1⟩
theorem XD(h:TbO base w T vw ws st)(x:Int)(hx:x<0∨(st.length:Int)≤x):Calls jG 150 #[.pointer (some ⟨T,0,none⟩),.int .i64 x] w (eZ base w T vw st):=by
 have HIN:=Hd (wE h x);have hin:(decide (0≤x)&&decide (x<st.length))=false:=by simp;omega
 rw[hin]at HIN;have H:=Hd h;clear hin hx h
 go_enter Tryz.func150,Tryz.ntmps150
 go_wp2_with(go_at_call 244;refine HIN.o.mono ?_;rintro e w1 ⟨rfl,rfl⟩)
 go_end0
 exact⟨rfl,ws,H.o,Mod.refl _ _⟩
theorem XF(h:TbO base w T vw ws st)(x:Int):Calls jG 150 #[.pointer (some ⟨T,0,none⟩),.int .i64 x] w (eZ base w T vw (VW st x false)):=by
 unfold VW
 by_cases hx:0≤x∧x<st.length
 · obtain⟨k,rfl⟩:=Int.eq_ofNat_of_zero_le hx.1;rw[if_pos hx,vQ];exact WY h k qJ
 · rw[if_neg hx];exact XD h x qJ
end
def U7(cols:Nat)(b:Col)(w:World)(e:Ending)(w':World):Prop:=
 ∃g cap,e=.returned (.agg #[.slice (some ⟨g,0,none⟩) cols cap,.bool false])∧yO w' ⟨some ⟨g,0,none⟩,kW cols (vE b),cap,false⟩∧Below w.heap.size w w'
set_option maxHeartbeats 1600000 in
theorem oB(P cols:Nat)(b:Col)(w:World)(x2:w.cell? ⟨P,2,none⟩=some (.int .i64 cols))(h2:2≤cols)(h3:cols≤1000):
 Calls jG 174 #[.pointer (some ⟨P,0,none⟩),.agg #[.int .i64 b.k,.int .i64 b.n]] w (U7 cols b w):=by
 have HBL:=Hd (fun w=>Zg cols b w qJ h3);have x:=uA (o:=.cells #[.slice none 0 0,.bool false] 52) (jA (W:=w) (b:=w.heap.size) (o:=.cells #[.int .i64 b.k,.int .i64 b.n] 61) rfl);have y:=jA (W:=w.alloc (.cells #[.int .i64 b.k,.int .i64 b.n] 61)) (b:=w.heap.size+1) (o:=.cells #[.slice none 0 0,.bool false] 52) qV;have hb0:=jH (jH (jU w.heap.size w) (.cells #[.int .i64 b.k,.int .i64 b.n] 61)) (.cells #[.slice none 0 0,.bool false] 52);have HB:=Hd hb0;have X2:=Hd (kZ hb0 x2);have X0:=Hd (at_ x 0 _ rfl).1;have X1:=Hd (at_ x 1 _ rfl).1;have Y:=Hd y;clear x y hb0 x2
 go_enter Tryz.func174,Tryz.ntmps174
 go_upto_region 1 with fail
 generalize World.alloc _ _=W at HB X2 X0 X1 Y ⊢;have x2:=X2.o;have x0:=X0.o;have x1:=X1.o;refine kH 5 (fun w'=>Below W.heap.size W w'∧w'.cell? ⟨P,2,none⟩=some (.int .i64 cols)∧w'.cell? ⟨w.heap.size,0,none⟩=some (.int .i64 b.k)∧w'.cell? ⟨w.heap.size,1,none⟩=some (.int .i64 b.n)) qQ qQ ?_ ?_
 · exact⟨(jU _ _).drew,x2,x0,x1⟩
 simp only[jS,kK,jR,jO]
 repeat(
  (first
   |refine kF qK ?_
   |(refine kE ?_ qK ?_ ?_;rotate_left;(focus(intro w' hS;obtain⟨_,_,_,_⟩:=hS;go_simp;first|done|with_reducible rfl))))
  simp only[Act.put,jZ,jX,jY])
 refine kO (fun w' hS=>?_);have HB1:=Hd (jM HB.o hS.1);have HY:=Hd ((hS.1.block _ (jL Y.o)).trans Y.o);clear hS x2 x0 x1 X2 X0 X1 Y
 go_wp2_with(go_at_call 267;refine(HBL.o _).mono ?_;rintro e w2 ⟨g,cap,rfl,hc,hb⟩;rw[uX];have HC:=Hd hc;have HB2:=Hd hb
             have HY2:=Hd ((hb.block _ (jL HY.o)).trans HY.o);obtain⟨y0,y0f⟩:=at_ HY2.o 0 _ rfl;obtain⟨y1,y1f⟩:=at_ HY2.o 1 _ rfl;clear hc hb)
 have hset:=fJ (u':=.slice (some ⟨g,0,none⟩) cols cap) (v':=.bool false) ⟨y0,y0f⟩ ⟨y1,y1f⟩;have HB3:=uK (uK (jM HB1.o HB2.o) (show w.heap.size≤w.heap.size+1 by omega) (o:=0) (.slice (some ⟨g,0,none⟩) cols cap)) (show w.heap.size≤w.heap.size+1 by omega) (o:=1) (.bool false);refine bodyPost_ret (wI rfl _ _ (w.heap.size+1) _ _ rfl hset.1.1 hset.2.1) rfl ⟨g,cap,rfl,(yO.of_own HC.o qY (ZL _ _) false).mod (X:=[w.heap.size+1]) (pO (Mod.refl _ _) (.inl qV)) ?_,HB3⟩;intro x hx cs' f he;rw[jW.1 hx]at he;exact vX HY2.o he qZ rfl
section
variable {P:Program}
theorem vW{ops:Array Oper}{rest:List Oper}{o:Oper}{a:Act}{w:World}{Q:Exit→Act→World→Prop}(hgd:o.guard=none)(s x:Operand)(t:TypeId)
 (ho:o.op=.call {callee:=.builtin .append,args:=#[s,x],argTypes:=#[t,t]}) (base:Nat) (e:TypeId) (i:TypeInfo) (z:Value) (size bytes:Nat) (ht:P.underlying t=some (.slice e)) (hi:P.info? e=some i) (hz:i.zero=some z) (hsize:i.size=size) (hby:i.bytes=bytes) (hzs:z.cells.size=size) (hsz:0<size)
 (v:Value) (n:Nat) (xs:List Value) (hs:a.eval s=v) (hown:w.ownsRow base e size v n xs) (ad:Addr) (m c:Nat) (news:List Value) (hx:a.eval x=.slice (some ad) m c) (hl:news.length=m*size) (hnews:∀j u,news[j]? =some u→w.cell? (ad.add j)=some u) (h1:∀u∈news,u.oneCell'=true)
 (h63:n+m≤maxLen) (hbytes:(n+m)*bytes≤140737488355328) (hbase:base≤w.heap.size)
 (h:∀v' w',w'.ownsRow base e size v' (n+m) (xs++news)→w.grownBy w' v.ownBlock→(∀g,v'.ownBlock=some g→v.ownBlock=some g∨w.heap.size≤g)→wpList P ops Q rest (a.put o.dst v') w'):wpList P ops Q (o::rest) a w:=by
 obtain⟨v',w',hr,h2,h3,-,h4⟩:=run_append_own_at (P:=P) w base t o.type e i z size bytes ht hi hz hsize hby hzs hsz v n xs hown ad m c news hl hnews h1 h63 hbytes hbase;refine wpList_plain hgd fun K hK=>?_;unfold Oper.wp execOp;simp only[ho,resolve,invoke,builtin,Sem.run_bind,Sem.run_pure,Result.andThen_ok,List.map_toArray,List.map_cons,List.map_nil,hs,hx,hr];exact hK _ _ (h _ _ h2 h3 (fun g hg=>by
  rcases h4 with h4|h4
  · exact .inl (by rw[←h4];exact hg)
  · rw[h4]at hg;injection hg with hg;exact .inr qJ))
end
theorem ZV:(jG.info? 94).map (fun i=>(i.zero,i.size,i.bytes))=some (some (.agg #[.int .i64 0,.int .i64 0,.int .i64 0]),3,24):=by kernel_rfl
section
variable {base:Nat}{w:World}{q:Pv}{g:Pg}
theorem PgO.retold{w1:World}{vt':Value}{t':List Tl}(h:PgO base w q g)(ho:w1.ownsRow base 94 3 vt' t'.length (uY sW t'))(hm:Mod q.vt.ownBlock.toList w w1)(hv:∀b,vt'.ownBlock=some b→q.vt.ownBlock=some b∨w.heap.size≤b):
 pJ base w q {g with told:=t'} (w1.setCell ⟨q.P,3,none⟩ vt'):=by
 have hvt:∀b,q.vt.ownBlock=some b→∃cur:Array Value,w.heap[b]? =some (.cells cur 94 (0,0)):=fun b hb=>uD h.told hb;have hPv:q.P∉q.vt.ownBlock.toList:=fun hb=>by
  obtain⟨cur,hc⟩:=hvt _ (jT.1 hb);exact qZe
 have hPl:=(kN.1 h.blk).1;have hm2:Mod (q.P::q.vt.ownBlock.toList) w (w1.setCell ⟨q.P,3,none⟩ vt'):=(hm.mono (fun b hb=>by simp[jT.1 hb])).setCell (a:=⟨q.P,3,none⟩) (.inl qV) _;have hX:yH w (q.P::q.vt.ownBlock.toList):=fun b hb cs f he=>by
  refine h.nocel b ?_ cs f he;rcases kJ.1 hb with rfl|hb
  · simp[pgX]
  · simp[pgX,jT.1 hb]
 have hblk:=kA (cs:=[.pointer (some ⟨q.R,0,none⟩),q.vs,.int .i64 g.cols,q.vt]) ((hm.block q.P hPl hPv).trans h.blk) 3 vt' (cs':=[.pointer (some ⟨q.R,0,none⟩),q.vs,.int .i64 g.cols,vt']) rfl;have hne:∀(b:Nat) (cur:Array Value) (t:TypeId),w.heap[b]? =some (.cells cur t (0,0))→t≠175→t≠94→b∉q.P::q.vt.ownBlock.toList:=fun b cur t hb h1 h2 hx=>by
  rcases kJ.1 hx with rfl|hx
  · exact vX h.blk hb h1.symm rfl
  · obtain⟨cur2,hc⟩:=hvt _ (jT.1 hx);exact vX hc hb h2.symm rfl
 refine⟨{q with vt:=vt'},rfl,rfl,⟨hblk,h.hb,h.ring.mod hm2 hX (fun b hb=>?_),kC h.own hm2 (fun b hb=>?_),?_,h.apart,h.scr,h.hist,fun r hr=>⟨(h.rows r hr).1.mod hm2 hX,(h.rows r hr).2⟩,h.cols2,h.cols1000,h.rows1000,h.gone0⟩,hm2.mono (fun b hb=>?_),fun b hb=>?_⟩
 · rcases kJ.1 hb with rfl|hb
   · exact hne _ _ _ h.ring.blk qZ qZ
   · obtain⟨cur,hc⟩:=uD h.ring.own (jT.1 hb);exact hne _ _ _ hc qZ qZ
 · obtain⟨cur,hc⟩:=uD h.own hb;exact hne _ _ _ hc qZ qZ
 · refine kC ho ((Mod.refl [q.P] w1).setCell (a:=⟨q.P,3,none⟩) (.inl qV) vt') (fun b hb hx=>?_);have e:=jW.1 hx;rcases hv b hb with h1|h1
   · exact hPv (by rw[←e];simp[h1])
   · omega
 · rcases kJ.1 hb with rfl|hb
   · simp[pgX]
   · simp[pgX,jT.1 hb]
 · rcases kJ.1 hb with rfl|hb
   · exact .inl qVr
   rcases kM.1 hb with hb|hb
   · exact .inl (by simp[pgX,jT.1 hb])
   rcases kM.1 hb with hb|hb
   · rcases hv b (jT.1 hb)with h1|h1
     · exact .inl (by simp[pgX,h1])
     · exact .inr h1
   · exact .inl (by simp[pgX,hb])
set_option maxHeartbeats 1600000 in
theorem WO(h:PgO base w q g)(k a n:Int)(ht:g.told.length≤1000000)(hbw:base≤w.heap.size):Calls jG 149 #[.pointer (some ⟨q.P,0,none⟩),.int .i64 k,.int .i64 a,.int .i64 n] w (gO base w q (pL g k a n)):=by
 obtain⟨j0,hj,gz0,gz1,gz2⟩:=info_parts ZV;obtain⟨-,-,-,x3,x3f⟩:=h.cells;have H:=Hd h;obtain⟨W,hW⟩:∃W,w.alloc (.cells #[.int .i64 k,.int .i64 a,.int .i64 n] 94)=W:=⟨_,rfl⟩;have hb:Below w.heap.size w W:=by rw[←hW];exact jH (jU _ _) _
 have HN:=Hd (show W.heap[w.heap.size]? =some (.cells #[.int .i64 k,.int .i64 a,.int .i64 n] 94 (0,0))from by rw[←hW];exact jA rfl);have HB:=Hd hb;have HO:=Hd (h.below hb);have hsz:W.heap.size=w.heap.size+1:=by rw[←hW];simp
 clear h hb
 go_enter Tryz.func149,Tryz.ntmps149
 go_wp2_with(refine vW rfl (.tmp 12) (.tmp 17) 147 rfl base 94 j0 _ 3 24 Tryz.underlying147 hj gz0 gz1 gz2 rfl qZ q.vt g.told.length (uY sW g.told) rfl HO.o.told ⟨w.heap.size,0,none⟩ 1 1 (sW ⟨k,a,n⟩) rfl rfl ?_ (J9 _) ?_ ?_ ?_ ?_)
 all_goals first
  |omega
  |(simp only[maxLen];omega)
  |skip
 · intro j u hj;rw[vC,kP];exact(at_ HN.o j u (by simpa[sW]using hj)).1
 · intro v' w' ho hg hv';have HM:=Hd ((Mod.of_below (X:=q.vt.ownBlock.toList) HB.o).trans (Mod.of_grown (X:=q.vt.ownBlock.toList) hg (fun g hg=>by rw[hg];simp)) (fun g hg=>.inl hg));have HOW:=Hd (show w'.ownsRow base 94 3 v' (g.told++[Tl.mk k a n]).length (uY sW (g.told++[Tl.mk k a n]))from by rw[uR,jC];exact ho);have HV:=Hd (show ∀b,v'.ownBlock=some b→q.vt.ownBlock=some b∨w.heap.size≤b from fun b hb=>(hv' b hb).imp id (fun h=>by omega));obtain⟨A',c',hvf⟩:=uI ho;have hPv:q.P∉q.vt.ownBlock.toList:=fun hb=>by
    obtain⟨cur,hc⟩:=uD H.o.told (jT.1 hb);exact vX H.o.blk hc qZ rfl
   have hx3:w.cell? ⟨q.P,3,none⟩=some q.vt∧w.frozen? ⟨q.P,3,none⟩=false:=⟨x3,x3f⟩;obtain⟨z3,z3f⟩:=HM.o.hold hPv hx3;clear hx3;clear ho hg hv' x3 x3f hW;subst hvf;obtain⟨A0,c0,hv0⟩:=uI H.o.told
   go_wp2
   go_end0
   exact⟨rfl,H.o.retold HOW.o HM.o HV.o⟩
end
theorem Wf{α:Type}{enc:α→List Value}{K:Nat}(hl:∀x,(enc x).length=K){w:World}{base g cap:Nat}{e:TypeId}{l:List α}(h:w.ownsRow base e K (.slice (some ⟨g,0,none⟩) l.length cap) l.length (uY enc l))(off:Nat)(cs:List α)(hi:off+cs.length≤l.length):
 (w.setCells g (off*K) (uY enc cs)).ownsRow base e K (.slice (some ⟨g,0,none⟩) l.length cap) l.length (uY enc (l.take off++cs++l.drop (off+cs.length)))∧Mod [g] w (w.setCells g (off*K) (uY enc cs)):=by
 refine⟨?_,vM (.inl qV) _ _ _ (Mod.refl _ _)⟩;have h1:=cA (uY enc cs) (off*K) (uY enc l) w h (by rw[pW hl,pW hl,←Nat.add_mul];exact Nat.mul_le_mul_right _ hi);rw[iG hl,pW hl,←Nat.add_mul,iH hl,←uR,←uR,←kG]at h1;exact h1
theorem JB{α:Type}{enc:α→List Value}{K:Nat}(hl:∀x,(enc x).length=K)(h1:∀x,∀v∈enc x,v.oneCell'=true)(st e:TypeId)(hu:jG.underlying st=some (.slice e))(hsz:(jG.info? e).map (·.size)=some K)
 {w:World} {base g cap:Nat} {l:List α} (h:w.ownsRow base e K (.slice (some ⟨g,0,none⟩) l.length cap) l.length (uY enc l)) (i k n oi ok dl sl dc sc:Nat) (hi:i+n≤l.length) (hk:k+n≤l.length) (hmin:Nat.min sl dl=n) (hoi:0<n→oi=i*K) (hok:0<n→ok=k*K):
 ∃w',(Builtin.copy_ #[st,st] 3 #[.slice (some ⟨g,oi,none⟩) dl dc,.slice (some ⟨g,ok,none⟩) sl sc]).run jG w=.ok (goInt n) w'∧w'.ownsRow base e K (.slice (some ⟨g,0,none⟩) l.length cap) l.length (uY enc (l.take i++(l.drop k).take n++l.drop (i+n)))∧Mod [g] w w':=by
 have hlen:((l.drop k).take n).length=n:=by simp;omega
 have hcl:(uY enc ((l.drop k).take n)).length=n*K:=by rw[pW hl,hlen]
 have bd:∀o j,0<n→j<n*K→o+n≤l.length→o*K+j<l.length*K:=fun o j hn hj ho=>by
  have :(o+n)*K≤l.length*K:=Nat.mul_le_mul_right _ ho;rw[Nat.add_mul]at this;omega
 have hn0:∀j,j<n*K→0<n:=fun j hj=>by
  rcases Nat.eq_zero_or_pos n with h|h
  · rw[h]at hj;simp at hj
  · exact h
 have key:(Builtin.copy_ #[st,st] 3 #[.slice (some ⟨g,oi,none⟩) dl dc,.slice (some ⟨g,ok,none⟩) sl sc]).run jG w=.ok (goInt n) (w.setCells g oi (uY enc ((l.drop k).take n))):=by
  have :=xA (P:=jG) w st st 3 e g oi dl dc ⟨g,ok,none⟩ sl sc K (uY enc ((l.drop k).take n)) hu hsz (by rw[hmin,hcl]) (fun j v hj=>?_) (fun j hj=>?_) (fun j hj=>?_) (sG h1 _)
  · rw[hmin]at this;exact this
  · have hj':=(jP.1 hj).1;rw[hcl]at hj';rw[vC,hok (hn0 j hj')];rw[←iG hl,List.getElem?_take,if_pos hj',←iH hl,gH]at hj;exact(gR h hj).1
  · rw[hcl]at hj;have hb:=bd i j (hn0 j hj) hj hi;rw[hoi (hn0 j hj)];obtain⟨v,hv⟩:∃v,(uY enc l)[i*K+j]? =some v:=⟨_,jN (by rw[pW hl];exact hb)⟩;rw[(gR h hv).1];rfl
  · rw[hcl]at hj;have hb:=bd i j (hn0 j hj) hj hi;rw[hoi (hn0 j hj)];obtain⟨v,hv⟩:∃v,(uY enc l)[i*K+j]? =some v:=⟨_,jN (by rw[pW hl];exact hb)⟩;exact(gR h hv).2
 refine⟨_,key,?_⟩;rcases Nat.eq_zero_or_pos n with hn|hn
 · subst hn;simp only[kK,List.append_nil,uS,List.take_append_drop];exact⟨h,Mod.refl _ _⟩
 · rw[hoi hn];have :=Wf hl h i ((l.drop k).take n) (by rw[hlen];exact hi)
   rwa[hlen]at this
theorem qQs{S:List Rh}{t b:Nat}(h:t≤b)(hb:b<S.length)(r:Rh):((S.take t++(S.drop (t+1)).take (b-t)++S.drop (t+(b-t))).set b r).map yW=yX (S.map yW) t b (yW r):=by
 rw[show t+(b-t)=b by omega,List.set_append_right _ _ qY];have e:b-(S.take t++(S.drop (t+1)).take (b-t)).length=0:=by simp;omega
 rw[e,List.drop_eq_getElem_cons hb,jX];unfold yX;simp[List.map_take,List.map_drop]
theorem qQt{S:List Rh}{t b:Nat}(h:t≤b)(hb:b<S.length)(r:Rh):((S.take (t+1)++(S.drop t).take (b-t)++S.drop (t+1+(b-t))).set t r).map yW=rL (S.map yW) t b (yW r):=by
 rw[show t+1+(b-t)=b+1 by omega,kG,List.set_append_left _ _ qY];have e:(S.take (t+1)).set t r=S.take t++[r]:=by
  rw[kY qJ,List.set_append_right _ _ qY];have :t-(S.take t).length=0:=by simp;omega
  rw[this];rfl
 rw[e];unfold rL;simp[List.map_take,List.map_drop]
theorem Vw{S:List Rh}{i k n j:Nat}{r x:Rh}(h:x∈(S.take i++(S.drop k).take n++S.drop (i+n)).set j r):x∈S∨x=r:=by
 rcases List.mem_or_eq_of_mem_set h with h|h
 · refine .inl ?_;rcases kM.1 h with h|h
   · rcases kM.1 h with h|h
     · exact List.mem_of_mem_take h
     · exact List.mem_of_mem_drop (List.mem_of_mem_take h)
   · exact List.mem_of_mem_drop h
 · exact .inr h
section
variable {base:Nat}{w:World}{q:Pv}{g:Pg}
theorem Qa(h:PgO base w q g){gs c t:Nat}(hv:q.vs=.slice (some ⟨gs,0,none⟩) q.S.length c)(ht:t<q.S.length){S1:List Rh}{w1:World}(hl:S1.length=q.S.length)(ho:w1.ownsRow base 52 2 (.slice (some ⟨gs,0,none⟩) q.S.length c) q.S.length (uY gI S1))(hm:Mod [gs] w w1)
 {w2:World} (hb:Below w1.heap.size w1 w2) {r:Rh} (hr:yO w2 r) (hrl:r.cs.length=g.cols) (hmem:∀x∈S1.set t r,x∈q.S∨x=r) {scr':List Ro} (hs:(S1.set t r).map yW=scr'):
 pJ base w q {g with scr:=scr'} ((w2.setCell ⟨gs,t*2,none⟩ (.slice r.A r.cs.length r.cap)).setCell ⟨gs,t*2+1,none⟩ (.bool r.cont)):=by
 have hX:yH w q.vs.ownBlock.toList:=fun x hx cs f he=>h.nocel x (by simp[pgX,(jT.1 hx)]) cs f he;have hvs:q.vs.ownBlock.toList=[gs]:=by rw[hv];simp[Value.ownBlock]
 have hM:Mod q.vs.ownBlock.toList w ((w2.setCell ⟨gs,t*2,none⟩ (.slice r.A r.cs.length r.cap)).setCell ⟨gs,t*2+1,none⟩ (.bool r.cont)):=by
  rw[hvs];exact pO (hm.then_below hb) (.inl qV)
 rw[←hl]at ho;have ho2:=kC ho (Mod.of_below (X:=[]) hb) (fun _ _ h=>by cases h);have ho3:=fZ ho2 (show t<S1.length by omega) r;have hgl:gs<w2.heap.size:=(ho2.lt gs rfl).2;refine h.screen (S':=S1.set t r) (by simpa using hl) ?_ hM hs (fun x hx=>?_)
 · rw[kI,hv,←hl];exact ho3
 · rcases hmem x hx with hx|rfl
   · exact⟨(h.rows x hx).1.mod hM hX,(h.rows x hx).2⟩
   · refine⟨hr.mod (X:=[gs]) (pO (Mod.refl _ _) (.inl qV)) (fun b hb' cs f he=>?_),hrl⟩;rw[jW.1 hb']at he;obtain⟨cur,hc⟩:=uD ho2 (g:=gs) rfl;exact vX hc he qZ rfl
set_option maxHeartbeats 3200000 in
theorem pslideA(h:PgO base w q g)(f t:Nat)(b:Col)(hft:f<t)(ht:t<q.S.length):
 Calls jG 382 #[.pointer (some ⟨q.P,0,none⟩),.int .i64 f,.int .i64 t,.agg #[.int .i64 b.k,.int .i64 b.n]] w (gO base w q {g with scr:=yX g.scr f t (zN g.cols b)}):=by
 obtain⟨gs,c,hv⟩:=gV h.own qJ;have hr1:=h.rows1000;have hc2:=h.cols2;have hc3:=h.cols1000;have H:=Hd h;have HV:=Hd hv;obtain⟨W,hW⟩:∃W,w.alloc (.cells #[.int .i64 b.k,.int .i64 b.n] 61)=W:=⟨_,rfl⟩;have hb0:Below w.heap.size w W:=by rw[←hW];exact jH (jU _ _) _
 have HN:=Hd (show W.heap[w.heap.size]? =some (.cells #[.int .i64 b.k,.int .i64 b.n] 61 (0,0))from by rw[←hW];exact jA rfl);have HB:=Hd hb0;have hO:=h.below hb0;have HO:=Hd hO;obtain⟨-,⟨x1,-⟩,-,-⟩:=hO.cells;have hown:=hO.own;rw[hv]at x1 hown;have hcap:q.S.length≤c:=by
  rcases hown.2 with⟨e,-⟩|⟨g',c',cur,e,_,_,hc,_⟩
  · cases e
  · simp only[Value.slice.injEq]at e;omega
 have HOWN:=Hd hown;obtain⟨f1,hf1⟩:∃f1:Nat,f1=f+1:=⟨_,rfl⟩;obtain⟨t1,ht1⟩:∃t1:Nat,t1=t+1:=⟨_,rfl⟩;have hf1I:(f:Int)+1=(f1:Int):=by omega
 have ht1I:(t:Int)+1=(t1:Int):=by omega
 have hwf:jE.wrap (f1:Int)=(f1:Int):=jF _ qJ;have hwt:jE.wrap (t1:Int)=(t1:Int):=jF _ qJ;have hftI:(f:Int)<(t:Int):=by omega
 have c1:t≤c:=by omega
 have c2:f≤t:=by omega
 have c3:¬c=f:=by omega
 have c4:t1≤c:=by omega
 have c5:f1≤t1:=by omega
 have c6:¬c=f1:=by omega
 have HF:=Hd (kX hf1 ht1);have HFT:=Hd (kX hft ht);clear h hO hown hv hb0 hf1 ht1 hft ht
 go_enter Tryz.func382,Tryz.ntmps382
 go_upto_region 2 with fail
 clear hW;refine kH 16 (fun w'=>Below W.heap.size W w'∧w'.cell? ⟨q.P,1,none⟩=some (.slice (some ⟨gs,0,none⟩) q.S.length c)) qQ qQ ?_ ?_
 · exact⟨(jU _ _).drew,x1⟩
 simp only[jS,kK,jR,jO]
 repeat(
  (first
   |refine kF qK ?_
   |(refine kE ?_ qK ?_ ?_;rotate_left;(focus(intro w' hS;obtain⟨_,_⟩:=hS;go_simp;first|done|with_reducible rfl))))
  simp only[Act.put,jZ,jX,jY])
 refine kO (fun w' hS=>?_);have HB1:=Hd hS.1;obtain⟨w2,hcp,hO2,hM2⟩:=JB zM iN 46 52 Tryz.underlying46 sZ (kC HOWN.o (Mod.of_below (X:=[]) hS.1) (fun _ _ h=>by cases h)) f f1 (t-f) (f*2) (f1*2) (t-f) (t1-f1) (c-f) (c-f1) (by have :=HFT.o;omega) (by have :=HFT.o;have :=HF.o;omega) (by rw[show t1-f1=t-f by have :=HF.o;omega];exact Nat.min_self _) (fun _=>rfl) (fun _=>rfl);rw[HF.o.1]at hO2;have HO2:=Hd hO2;have HM2:=Hd (((Mod.of_below (X:=[gs]) HB.o).then_below HB1.o).trans hM2 (fun x hx=>.inl hx));have hP:=H.o.lt q.P qVr;have hgsw:=H.o.own.lt gs (by rw[HV.o];rfl);have hne:q.P≠gs:=by
  obtain⟨cur,hc⟩:=uD H.o.own (g:=gs) (by rw[HV.o];rfl);exact vX H.o.blk hc qZ
 have x1':=HM2.o.cell (by simpa using hne) (show w.cell? ⟨q.P,1,none⟩=some (.slice (some ⟨gs,0,none⟩) q.S.length c)from by rw[H.o.cells.2.1.1,HV.o]);have x2':=HM2.o.cell (by simpa using hne) H.o.cells.2.2.1.1;have HNB:=Hd ((hM2.block _ (Nat.lt_of_lt_of_le (jL HN.o) HB1.o.size) qY).trans ((HB1.o.block _ (jL HN.o)).trans HN.o));clear hS hO2 hM2 x1
 go_upto_region 4 with fail
 clear hcp;obtain⟨b0,-⟩:=at_ HNB.o 0 _ rfl;obtain⟨b1,-⟩:=at_ HNB.o 1 _ rfl;have HBK:=Hd (fun w' (x2:w'.cell? ⟨q.P,2,none⟩=some (.int .i64 g.cols))=>oB q.P g.cols b w' x2 hc2 hc3);refine pV 8 (fun w'=>Below w2.heap.size w2 w'∧w'.cell? ⟨q.P,1,none⟩=some (.slice (some ⟨gs,0,none⟩) q.S.length c)∧w'.cell? ⟨q.P,2,none⟩=some (.int .i64 g.cols)∧w'.cell? ⟨w.heap.size,0,none⟩=some (.int .i64 b.k)∧w'.cell? ⟨w.heap.size,1,none⟩=some (.int .i64 b.n)) qQ qQ (fun w1 w2 hS hb=>⟨jM hS.1 hb,kZ hb hS.2.1,kZ hb hS.2.2.1,kZ hb hS.2.2.2.1,kZ hb hS.2.2.2.2⟩) ⟨(jU _ _).drew,x1',x2',b0,b1⟩ ?_;refine AtN.go 0 ?_
 iterate 7 (refine AtC.take (o:=⟨_,_,_,_,_,_⟩) (v:=?_) qQ rfl qV qQ qQ ?_ ?_;rotate_left;(focus(first|exact uJ.skip qK|(refine uJ.val qK ?_;intro w' hS;obtain⟨_,_,_,_,_⟩:=hS;go_simp;first|done|with_reducible rfl)));simp only[Act.put,jZ,jX,jY])
 refine AtC.back ?_;refine AtN.one 7 (o:=⟨_,_,_,_,_,_⟩) (fun v=>∃g1 cap,v=.agg #[.slice (some ⟨g1,0,none⟩) g.cols cap,.bool false]) (fun v w'=>∃g1 cap,v=.agg #[.slice (some ⟨g1,0,none⟩) g.cols cap,.bool false]∧yO w' ⟨some ⟨g1,0,none⟩,kW g.cols (vE b),cap,false⟩) qV qQ rfl (fun v w1 w2 ⟨g1,cap,hv,hr⟩ hb=>⟨g1,cap,hv,hr.below hb⟩) (uJ.call 174 #[.pointer (some ⟨q.P,0,none⟩),.agg #[.int .i64 b.k,.int .i64 b.n]] _ _ qK ?_ (fun w' hS=>?_)) ?_
 · intro w'
   go_simp
 · refine(HBK.o w' hS.2.2.1).mono ?_;rintro e w3 ⟨g1,cap,rfl,hr,hb⟩;exact⟨_,rfl,⟨⟨g1,cap,rfl⟩,g1,cap,rfl,hr⟩,hb⟩
 rintro v ⟨g1,cap,rfl⟩;simp only[Act.put,jZ,jX,jY];refine AtN.done qQ (fun w' hS=>?_);obtain⟨⟨hb2,-,-,-,-⟩,g1',cap',hv',hrc'⟩:=hS;simp only[Value.agg.injEq,Array.mk.injEq,List.cons.injEq,Value.slice.injEq,Option.some.injEq,Addr.mk.injEq,and_true,true_and]at hv';obtain⟨rfl,rfl⟩:=hv';have HB2:=Hd hb2;have HRC:=Hd hrc';have hS1:(q.S.take f++(q.S.drop (f+1)).take (t-f)++q.S.drop (f+(t-f))).length=q.S.length:=by have :=HFT.o;simp;omega
 have htS:t<(q.S.take f++(q.S.drop (f+1)).take (t-f)++q.S.drop (f+(t-f))).length:=by rw[hS1];exact HFT.o.2
 have hO3:=kC HO2.o (Mod.of_below (X:=[]) hb2) (fun _ _ h=>by cases h);rw[←hS1]at hO3;obtain⟨rt,hrt⟩:∃rt,(q.S.take f++(q.S.drop (f+1)).take (t-f)++q.S.drop (f+(t-f)))[t]? =some rt:=⟨_,jN htS⟩;obtain⟨⟨q0,q0f⟩,q1,q1f⟩:=yI hO3 hrt;clear hrt;have htI:(t:Int)<(q.S.length:Int):=by have :=HFT.o;omega
 have HS1:=Hd hS1;have HFT2:=Hd (show f≤t∧t<q.S.length from⟨by have :=HFT.o;omega,HFT.o.2⟩);clear hb2 hrc' x1' x2' b0 b1 hO3 hS1 htS c1 c2 c3 c4 c5 c6
 go_wp2
 go_end0
 have key:=Qa (H.o) HV.o HFT.o.2 HS1.o HO2.o HM2.o HB2.o HRC.o qV (fun x hx=>Vw hx) (qQs HFT2.o.1 HFT2.o.2 ⟨some ⟨g1,0,none⟩,kW g.cols (vE b),cap,false⟩);rw[H.o.scr]at key;simp only[uX]at key;exact⟨rfl,key⟩
set_option maxHeartbeats 3200000 in
theorem pslideB(h:PgO base w q g)(f t:Nat)(b:Col)(hft:t≤f)(ht:f<q.S.length):
 Calls jG 382 #[.pointer (some ⟨q.P,0,none⟩),.int .i64 f,.int .i64 t,.agg #[.int .i64 b.k,.int .i64 b.n]] w (gO base w q {g with scr:=rL g.scr t f (zN g.cols b)}):=by
 obtain⟨gs,c,hv⟩:=gV h.own qJ;have hr1:=h.rows1000;have hc2:=h.cols2;have hc3:=h.cols1000;have H:=Hd h;have HV:=Hd hv;obtain⟨W,hW⟩:∃W,w.alloc (.cells #[.int .i64 b.k,.int .i64 b.n] 61)=W:=⟨_,rfl⟩;have hb0:Below w.heap.size w W:=by rw[←hW];exact jH (jU _ _) _
 have HN:=Hd (show W.heap[w.heap.size]? =some (.cells #[.int .i64 b.k,.int .i64 b.n] 61 (0,0))from by rw[←hW];exact jA rfl);have HB:=Hd hb0;have hO:=h.below hb0;have HO:=Hd hO;obtain⟨-,⟨x1,-⟩,-,-⟩:=hO.cells;have hown:=hO.own;rw[hv]at x1 hown;have hcap:q.S.length≤c:=by
  rcases hown.2 with⟨e,-⟩|⟨g',c',cur,e,_,_,hc,_⟩
  · cases e
  · simp only[Value.slice.injEq]at e;omega
 have HOWN:=Hd hown;obtain⟨f1,hf1⟩:∃f1:Nat,f1=f+1:=⟨_,rfl⟩;obtain⟨t1,ht1⟩:∃t1:Nat,t1=t+1:=⟨_,rfl⟩;have hf1I:(f:Int)+1=(f1:Int):=by omega
 have ht1I:(t:Int)+1=(t1:Int):=by omega
 have hwf:jE.wrap (f1:Int)=(f1:Int):=jF _ qJ;have hwt:jE.wrap (t1:Int)=(t1:Int):=jF _ qJ;have hftI:¬(f:Int)<(t:Int):=by omega
 have c1:f1≤c:=by omega
 have c2:t1≤f1:=by omega
 have c4:f≤c:=by omega
 have c5:t≤f:=by omega
 have c6:¬c=t:=by omega
 obtain⟨off,hoff⟩:∃off,(if c=t1 then(some ⟨gs,0,none⟩:Option Addr)else some ⟨gs,t1*2,none⟩)=some ⟨gs,off,none⟩:=by
  by_cases h:c=t1
  · exact⟨0,if_pos h⟩
  · exact⟨t1*2,if_neg h⟩
 have HOFF:Hid (0<f-t→off=t1*2):=Hd (fun h=>by rw[if_neg qJ]at hoff;simp at hoff;omega);have HF:=Hd (kX hf1 ht1);have HFT:=Hd (kX hft ht);clear h hO hown hv hb0 hf1 ht1 hft ht
 go_enter Tryz.func382,Tryz.ntmps382
 go_upto_region 3 with fail
 clear hW;refine kH 16 (fun w'=>Below W.heap.size W w'∧w'.cell? ⟨q.P,1,none⟩=some (.slice (some ⟨gs,0,none⟩) q.S.length c)) qQ qQ ?_ ?_
 · exact⟨(jU _ _).drew,x1⟩
 simp only[jS,kK,jR,jO]
 repeat(
  (first
   |refine kF qK ?_
   |(refine kE ?_ qK ?_ ?_;rotate_left;(focus(intro w' hS;obtain⟨_,_⟩:=hS;go_simp;first|done|with_reducible rfl))))
  simp only[Act.put,jZ,jX,jY])
 refine kO (fun w' hS=>?_);have HB1:=Hd hS.1;obtain⟨w2,hcp,hO2,hM2⟩:=JB zM iN 46 52 Tryz.underlying46 sZ (kC HOWN.o (Mod.of_below (X:=[]) hS.1) (fun _ _ h=>by cases h)) t1 t (f-t) off (t*2) (f1-t1) (f-t) (c-t1) (c-t) (by have :=HFT.o;have :=HF.o;omega) (by have :=HFT.o;omega) (by rw[show f1-t1=f-t by have :=HF.o;omega];exact Nat.min_self _) HOFF.o (fun _=>rfl);rw[HF.o.2]at hO2;have HO2:=Hd hO2;have HM2:=Hd (((Mod.of_below (X:=[gs]) HB.o).then_below HB1.o).trans hM2 (fun x hx=>.inl hx));have hP:=H.o.lt q.P qVr;have hgsw:=H.o.own.lt gs (by rw[HV.o];rfl);have hne:q.P≠gs:=by
  obtain⟨cur,hc⟩:=uD H.o.own (g:=gs) (by rw[HV.o];rfl);exact vX H.o.blk hc qZ
 have x1':=HM2.o.cell (by simpa using hne) (show w.cell? ⟨q.P,1,none⟩=some (.slice (some ⟨gs,0,none⟩) q.S.length c)from by rw[H.o.cells.2.1.1,HV.o]);have x2':=HM2.o.cell (by simpa using hne) H.o.cells.2.2.1.1;have HNB:=Hd ((hM2.block _ (Nat.lt_of_lt_of_le (jL HN.o) HB1.o.size) qY).trans ((HB1.o.block _ (jL HN.o)).trans HN.o));clear hS hO2 hM2 x1
 go_upto_region 4 with fail
 clear hcp hoff;obtain⟨b0,-⟩:=at_ HNB.o 0 _ rfl;obtain⟨b1,-⟩:=at_ HNB.o 1 _ rfl;have HBK:=Hd (fun w' (x2:w'.cell? ⟨q.P,2,none⟩=some (.int .i64 g.cols))=>oB q.P g.cols b w' x2 hc2 hc3);refine pV 8 (fun w'=>Below w2.heap.size w2 w'∧w'.cell? ⟨q.P,1,none⟩=some (.slice (some ⟨gs,0,none⟩) q.S.length c)∧w'.cell? ⟨q.P,2,none⟩=some (.int .i64 g.cols)∧w'.cell? ⟨w.heap.size,0,none⟩=some (.int .i64 b.k)∧w'.cell? ⟨w.heap.size,1,none⟩=some (.int .i64 b.n)) qQ qQ (fun w1 w2 hS hb=>⟨jM hS.1 hb,kZ hb hS.2.1,kZ hb hS.2.2.1,kZ hb hS.2.2.2.1,kZ hb hS.2.2.2.2⟩) ⟨(jU _ _).drew,x1',x2',b0,b1⟩ ?_;refine AtN.go 0 ?_
 iterate 7 (refine AtC.take (o:=⟨_,_,_,_,_,_⟩) (v:=?_) qQ rfl qV qQ qQ ?_ ?_;rotate_left;(focus(first|exact uJ.skip qK|(refine uJ.val qK ?_;intro w' hS;obtain⟨_,_,_,_,_⟩:=hS;go_simp;first|done|with_reducible rfl)));simp only[Act.put,jZ,jX,jY])
 refine AtC.back ?_;refine AtN.one 7 (o:=⟨_,_,_,_,_,_⟩) (fun v=>∃g1 cap,v=.agg #[.slice (some ⟨g1,0,none⟩) g.cols cap,.bool false]) (fun v w'=>∃g1 cap,v=.agg #[.slice (some ⟨g1,0,none⟩) g.cols cap,.bool false]∧yO w' ⟨some ⟨g1,0,none⟩,kW g.cols (vE b),cap,false⟩) qV qQ rfl (fun v w1 w2 ⟨g1,cap,hv,hr⟩ hb=>⟨g1,cap,hv,hr.below hb⟩) (uJ.call 174 #[.pointer (some ⟨q.P,0,none⟩),.agg #[.int .i64 b.k,.int .i64 b.n]] _ _ qK ?_ (fun w' hS=>?_)) ?_
 · intro w'
   go_simp
 · refine(HBK.o w' hS.2.2.1).mono ?_;rintro e w3 ⟨g1,cap,rfl,hr,hb⟩;exact⟨_,rfl,⟨⟨g1,cap,rfl⟩,g1,cap,rfl,hr⟩,hb⟩
 rintro v ⟨g1,cap,rfl⟩;simp only[Act.put,jZ,jX,jY];refine AtN.done qQ (fun w' hS=>?_);obtain⟨⟨hb2,-,-,-,-⟩,g1',cap',hv',hrc'⟩:=hS;simp only[Value.agg.injEq,Array.mk.injEq,List.cons.injEq,Value.slice.injEq,Option.some.injEq,Addr.mk.injEq,and_true,true_and]at hv';obtain⟨rfl,rfl⟩:=hv';have HB2:=Hd hb2;have HRC:=Hd hrc';have hS1:(q.S.take (t+1)++(q.S.drop t).take (f-t)++q.S.drop (t+1+(f-t))).length=q.S.length:=by have :=HFT.o;simp;omega
 have htS:t<(q.S.take (t+1)++(q.S.drop t).take (f-t)++q.S.drop (t+1+(f-t))).length:=by rw[hS1];have :=HFT.o;omega
 have hO3:=kC HO2.o (Mod.of_below (X:=[]) hb2) (fun _ _ h=>by cases h);rw[←hS1]at hO3;obtain⟨rt,hrt⟩:∃rt,(q.S.take (t+1)++(q.S.drop t).take (f-t)++q.S.drop (t+1+(f-t)))[t]? =some rt:=⟨_,jN htS⟩;obtain⟨⟨q0,q0f⟩,q1,q1f⟩:=yI hO3 hrt;clear hrt;have htI:(t:Int)<(q.S.length:Int):=by have :=HFT.o;omega
 have HS1:=Hd hS1;have HFT2:=Hd (show t≤f∧f<q.S.length from HFT.o);clear hb2 hrc' x1' x2' b0 b1 hO3 hS1 htS c1 c2 c4 c5 c6
 go_wp2
 go_end0
 have key:=Qa (H.o) HV.o (by have :=HFT.o;omega) HS1.o HO2.o HM2.o HB2.o HRC.o qV (fun x hx=>Vw hx) (qQt HFT2.o.1 HFT2.o.2 ⟨some ⟨g1,0,none⟩,kW g.cols (vE b),cap,false⟩);rw[H.o.scr]at key;simp only[uX]at key;exact⟨rfl,key⟩
theorem XR(l:List Ro)(t:Nat)(b:Ro):yX l t t b=rL l t t b:=by
 unfold yX rL;simp
theorem Wq(h:PgO base w q g)(f t:Nat)(b:Col)(hft:f≤t)(ht:t<q.S.length):
 Calls jG 382 #[.pointer (some ⟨q.P,0,none⟩),.int .i64 f,.int .i64 t,.agg #[.int .i64 b.k,.int .i64 b.n]] w (gO base w q {g with scr:=yX g.scr f t (zN g.cols b)}):=by
 rcases Nat.lt_or_ge f t with h1|h1
 · exact pslideA h f t b h1 ht
 · obtain rfl:f=t:=by omega
   rw[XR];exact pslideB h f f b (jD _) ht
end
section
variable {base:Nat}{w w1:World}{q:Pv}{g g1:Pg}
theorem wO{f:FuncId}{args:Array Value}{g2:Pg}(hs:pJ base w q g1 w1)(hc:∀q1,q1.P=q.P→PgO base w1 q1 g1→Calls jG f args w1 (gO base w1 q1 g2)):Calls jG f args w1 (gO base w q g2):=by
 obtain⟨q1,e1,e2,h1,h2,h3⟩:=hs;exact(hc q1 e1 h1).mono fun e w2 ⟨he,hr⟩=>⟨he,pJ.trans ⟨e1,e2,h2,h3⟩ hr⟩
theorem pJ.hold(hs:pJ base w q g1 w1){b o:Nat}{v:Value}(hb:b∉pgX q)(hc:w.cell? ⟨b,o,none⟩=some v):w1.cell? ⟨b,o,none⟩=some v:=by
 obtain⟨q1,-,-,-,h2,-⟩:=hs;exact h2.cell hb hc
theorem tD(hs:pJ base w q g1 w1):Calls jG 91 #[.pointer (some ⟨q.P,0,none⟩)] w1 fun e w2=>e=.returned (.int .i64 g1.hist.length)∧w1=w2:=by
 obtain⟨q1,e1,e2,h1,-⟩:=hs;rw[←e1];exact JN h1
theorem nK(hs:pJ base w q g1 w1)(k a n:Int)(ht:g1.told.length≤1000000):Calls jG 149 #[.pointer (some ⟨q.P,0,none⟩),.int .i64 k,.int .i64 a,.int .i64 n] w1 (gO base w q (pL g1 k a n)):=
 wO hs fun q1 e h=>by
  rw[←e];exact WO h k a n ht (by have :=h.lt q1.P qVr;omega)
theorem tZ(hs:pJ base w q g1 w1)(y:Int):Calls jG 293 #[.pointer (some ⟨q.P,0,none⟩),.int .i64 y] w1 (gO base w q (yG g1 y false)):=
 wO hs fun q1 e h=>by rw[←e];exact Wk h y
theorem tS(hs:pJ base w q g1 w1)(f t:Nat)(b:Col)(hft:f≤t)(ht:t<g1.scr.length):Calls jG 382 #[.pointer (some ⟨q.P,0,none⟩),.int .i64 f,.int .i64 t,.agg #[.int .i64 b.k,.int .i64 b.n]] w1 (gO base w q {g1 with scr:=yX g1.scr f t (zN g1.cols b)}):=
 wO hs fun q1 e h=>by rw[←e];exact Wq h f t b hft (by rw[h.len];exact ht)
theorem PgO.hist100k(h:PgO base w q g):g.hist.length≤100000:=by have :=h.hlen;have :=h.ring.hn;have :=h.ring.hm;have :=h.ring.hroom;omega
set_option maxHeartbeats 3200000 in
theorem qJi(h:PgO base w q g)(top bottom:Nat)(b:Col)(h1:top≤bottom)(h2:bottom<g.scr.length)(ht:g.told.length≤999990):
 Calls jG 355 #[.pointer (some ⟨q.P,0,none⟩),.int .i64 top,.int .i64 bottom,.agg #[.int .i64 b.k,.int .i64 b.n]] w (gO base w q (YI g top bottom b)):=by
 have hrows:=h.rows1000;have hlen:=h.len;have hh:=h.hist100k;obtain⟨W,hW⟩:∃W,w.alloc (.cells #[.int .i64 b.k,.int .i64 b.n] 61)=W:=⟨_,rfl⟩;have hb0:Below w.heap.size w W:=by rw[←hW];exact jH (jU _ _) _
 have HN:=Hd (show W.heap[w.heap.size]? =some (.cells #[.int .i64 b.k,.int .i64 b.n] 61 (0,0))from by rw[←hW];exact jA rfl);have HB:=Hd hb0;have HX:w.heap.size∉pgX q:=fun hx=>by have :=h.lt _ hx;omega
 have H0:=Hd (h.below hb0).res;have hwa:jE.wrap ((g.hist.length:Int)+(top:Int))=(g.hist.length:Int)+(top:Int):=jF _ qJ;have hwb:jE.wrap ((g.hist.length:Int)+(bottom:Int))=(g.hist.length:Int)+(bottom:Int):=jF _ qJ;have hwc:jE.wrap ((bottom:Int)+1)=(bottom:Int)+1:=jF _ qJ;have HBA:=Hd (tD H0.o);have HBA2:Hid (∀w1,pJ base W q (pL g 1 ((g.hist.length:Int)+top) 1) w1→Calls jG 91 #[.pointer (some ⟨q.P,0,none⟩)] w1 fun e w2=>e=.returned (.int .i64 g.hist.length)∧w1=w2):=Hd (fun w1 hs=>by have :=tD hs;exact this);have HT1:=Hd (nK H0.o 1 ((g.hist.length:Int)+top) 1 qJ);have HT2:Hid (∀w1,pJ base W q (pL g 1 ((g.hist.length:Int)+top) 1) w1→Calls jG 149 #[.pointer (some ⟨q.P,0,none⟩),.int .i64 0,.int .i64 ((g.hist.length:Int)+bottom),.int .i64 1] w1 (gO base W q (pL (pL g 1 ((g.hist.length:Int)+top) 1) 0 ((g.hist.length:Int)+bottom) 1))):=Hd (fun w1 hs=>nK hs _ _ _ (by simp[pL];omega))
 have HSL:Hid (∀w1,pJ base W q (pL (pL g 1 ((g.hist.length:Int)+top) 1) 0 ((g.hist.length:Int)+bottom) 1) w1→Calls jG 382 #[.pointer (some ⟨q.P,0,none⟩),.int .i64 top,.int .i64 bottom,.agg #[.int .i64 b.k,.int .i64 b.n]] w1 (gO base W q {(pL (pL g 1 ((g.hist.length:Int)+top) 1) 0 ((g.hist.length:Int)+bottom) 1)with scr:=yX g.scr top bottom (zN g.cols b)})):=Hd (fun w1 hs=>tS hs top bottom b h1 h2);have HPA:=Hd (fun(g1:Pg) (y:Int) (w1:World) (hs:pJ base W q g1 w1)=>tZ hs y);obtain⟨b0,-⟩:=at_ HN.o 0 _ rfl;obtain⟨b1,-⟩:=at_ HN.o 1 _ rfl;have HB0:=Hd b0;have HB1:=Hd b1;have HG:Hid (YI g top bottom b=yG (yG {(pL (pL g 1 ((g.hist.length:Int)+top) 1) 0 ((g.hist.length:Int)+bottom) 1)with scr:=yX g.scr top bottom (zN g.cols b)} top false) ((bottom:Int)+1) false):=Hd rfl;rw[HG.o];clear hb0 h b0 b1
 go_enter Tryz.func355,Tryz.ntmps355
 go_wp2_with(first
  |(go_at_call 91;first
     |(have hpv:=HS1.o;clear hpv;(with_reducible refine(HBA2.o _ HS1.o).mono ?_);rintro e w9 ⟨rfl,rfl⟩)
     |((with_reducible refine HBA.o.mono ?_);rintro e w9 ⟨rfl,rfl⟩))
  |(go_at_call 149;first
     |(have hpv:=HS1.o;clear hpv;(with_reducible refine(HT2.o _ HS1.o).mono ?_);rintro e w2 ⟨rfl,hs⟩;have HS2:=Hd hs;have y0:=hs.hold HX HB0.o;have y1:=hs.hold HX HB1.o;clear hs)
     |((with_reducible refine HT1.o.mono ?_);rintro e w2 ⟨rfl,hs⟩;have HS1:=Hd hs;clear hs))
  |(go_at_call 382;(with_reducible refine(HSL.o _ HS2.o).mono ?_);rintro e w3 ⟨rfl,hs⟩;have HS3:=Hd hs;clear hs)
  |(go_at_call 293;first
     |(have hpv:=HS4.o;clear hpv;(with_reducible refine(HPA.o _ _ _ HS4.o).mono ?_);rintro e w4 ⟨rfl,hs⟩;have HS5:=Hd hs;clear hs)
     |((with_reducible refine(HPA.o _ _ _ HS3.o).mono ?_);rintro e w4 ⟨rfl,hs⟩;have HS4:=Hd hs;clear hs)))
 go_end0
 exact⟨rfl,HS5.o.pre HB.o⟩
end
end Go.Proofs.YtaefcahblmopfaaGreatDoor
