/- Joined by a tool of this claim out of smaller texts. Conditions: as stated. -/
import Derived.Test.YtaefcahblmopfaaGreatDoorDj10
import Derived.RangeFuncKeeps
import Derived.RangeFuncNested
import Derived.RangeFuncBound
import Derived.RangeFuncCalls
import Derived.RangeFuncLeaves
import Derived.RangeFuncBox
import Derived.OwnWalkIn
import Derived.TacticsInMore
import Derived.LoopNIn
import Derived.LoopIn
set_option linter.unusedVariables false
set_option linter.unusedSimpArgs false
set_option maxRecDepth 100000
open Go.Lib renaming hid → Hd
open List renaming setIfInBounds_toArray → jZ, set_cons_zero → jX, set_cons_succ → jY, mem_singleton → jM, getElem?_eq_getElem → jN
open Go.Proofs.Tryz renaming prog → jG
open Go.RowKit.Below renaming refl → jU
open Nat renaming le_refl → jD, le_trans → jI, zero_le → kM
open Go.IntWalk renaming i64_in → jF
open Go.IntKind renaming i64 → jE
open And renaming intro → kY
open Array renaming getElem?_eq_some_iff → kB
open Go.World renaming ownsRow → kL, setCell → uN
namespace Go.Proofs.YtaefcahblmopfaaGreatDoor
open Go.RowKit
theorem qKr{w w2 w3:World}{r:Option Nat}{g:Option Nat}(h1:w.grownBy w2 r)(h2:w2.grownBy w3 g)(hg:∀b,g=some b→w.heap.size≤b):w.grownBy w3 r:=
 ⟨h2.os.trans h1.os,h2.tape.trans h1.tape,h2.output.trans h1.output,jI h1.size h2.size,fun k hk hr=>(h2.block k (Nat.lt_of_lt_of_le hk h1.size) (fun e=>by have :=hg k e.symm;omega)).trans (h1.block k hk hr)⟩
section
variable {w:World}{v:Zv}{p:Pz}
set_option maxHeartbeats 1600000 in
theorem WB(h:zX w v p):Calls jG 66 #[.pointer (some ⟨v.P,9,none⟩)] w (tK v p (dU p.dec) w):=by
 obtain⟨c0,f0⟩:=at_ h 9 (.int .i32 p.dec.n) rfl;obtain⟨c1,f1⟩:=at_ h 10 (.int .i64 p.dec.need) rfl;obtain⟨c2,f2⟩:=at_ h 11 (.int .i64 p.dec.hv) rfl;obtain⟨c3,f3⟩:=at_ h 12 (.int .u8 p.dec.lo) rfl;obtain⟨c4,f4⟩:=at_ h 13 (.int .u8 p.dec.hi) rfl;have HD:=Hd h;clear h;unfold dU
 by_cases hz:p.dec.hv=0
 · rw[if_pos hz];rw[hz]at c2;clear hz
   go_enter Tryz.func66,Tryz.ntmps66
   go_wp2
   go_ret
   exact⟨_,rfl,fF _ _,HD.o,gA _ _⟩
 · rw[if_neg hz];generalize hq:p.dec.hv=q at c2 hz;clear hq
   go_enter Tryz.func66,Tryz.ntmps66
   go_upto_region 4 with fail
   have HP:=Hd (((((HD.o.d0 0).d1 0).d2 0).d3 0).d4 0);have HG:=Hd (uU (uU (uU (uU (uU (gA w (some v.P)) (i:=9) (.int .i32 0)) (i:=10) (.int .i64 0)) (i:=11) (.int .i64 0)) (i:=12) (.int .u8 0)) (i:=13) (.int .u8 0));generalize hW:((((w.setCell ⟨v.P,9,none⟩ (.int .i32 0)).setCell ⟨v.P,10,none⟩ (.int .i64 0)).setCell ⟨v.P,11,none⟩ (.int .i64 0)).setCell ⟨v.P,12,none⟩ (.int .u8 0)).setCell ⟨v.P,13,none⟩ (.int .u8 0)=w1 at HP HG ⊢;clear hW
   go_wp2
   go_ret
   exact⟨_,rfl,oL HG.o.size,HP.o.below ((jU _ w1).alloc (jD _) _),zN HG.o _⟩
theorem pD{P:Program}{ops:Array Oper}{rest:List Oper}{o:Oper}{a:Act}{w:World}{Q:Exit→Act→World→Prop}(hg:o.guard=none)(f:FuncId)(args:Array Value)(hrun:(execOp a.eval o).run P w=.ok (.enter f args) w)
 {R:Value→World→Prop} (hc:Calls P f args w (fun e w'=>∃v,e=.returned v∧R v w')) (h:∀v w',R v w'→wpList P ops Q rest (a.put o.dst v) w'):wpList P ops Q (o::rest) a w:=by
 refine wpList_plain hg fun K hK=>?_;unfold Oper.wp;rw[hrun,Oper.upon_enter];refine hc.mono fun e w'' hh=>?_;obtain⟨v,rfl,hr⟩:=hh;exact hK _ _ (h _ _ hr)
theorem bS{P:Program}{ops:Array Oper}{rest:List Oper}{o:Oper}{a:Act}{w:World}{Q:Exit→Act→World→Prop}(hgd:o.guard=none)(s x:Operand)(t:TypeId)
 (ho:o.op=.call {callee:=.builtin .append,args:=#[s,x],argTypes:=#[t,t]}) {e:TypeId} {i:TypeInfo} (ht:P.underlying t=some (.slice e)) (hi:P.info? e=some i) (g:Option Addr) (n cap:Nat) (hn:n≤cap) (hng:g=none→n=0∧cap=0) (X:Option Addr) (c:Nat)
 (hs:a.eval s=.slice g n cap) (hx:a.eval x=.slice X 0 c) (h:wpList P ops Q rest (a.put o.dst (.slice g n cap)) w):wpList P ops Q (o::rest) a w:=by
 refine wpList_plain hgd fun K hK=>?_;have hr:(Builtin.append_ #[t,t] o.type #[.slice g n cap,.slice X 0 c]).run P w=.ok (.slice g n cap) w:=by
  cases g with
  |none=>obtain⟨rfl,rfl⟩:=hng rfl;cases X<;>simp[Builtin.append_,run_underlying ht,sizeOf,typeInfo,hi,Builtin.lenOf,Builtin.firstCells,loadCells,loadCellsFrom,storeCells]
  |some g=>cases X<;>simp[Builtin.append_,run_underlying ht,sizeOf,typeInfo,hi,Builtin.lenOf,Builtin.firstCells,loadCells,loadCellsFrom,hn,storeCells]
 unfold Oper.wp execOp;simp only[ho,resolve,invoke,builtin,Sem.run_bind,Sem.run_pure,Result.andThen_ok,List.map_toArray,List.map_cons,List.map_nil,hs,hx,hr];exact hK _ _ h
theorem qJn{w:World}{r:Int}{lo k:Nat}(hk:w.heap.size=k)(h:lo≤k):Qn (w.alloc (.cells #[.int .i32 r] 21)) lo (.slice (some ⟨k,0,none⟩) 1 1) [r]:=by subst hk;exact oL h
theorem Qe(d:Dk)(c:Int):(pB d c).1=[]∨∃r,(pB d c).1=[r]:=by
 unfold pB
 split
 · exact .inr ⟨_,rfl⟩
 split
 · exact .inr ⟨_,rfl⟩
 · exact .inl rfl
theorem Zk:(jG.info? 21).map (fun i=>(i.zero,i.size,i.bytes))=some (some (.int .i32 0),1,4):=by kernel_rfl
set_option maxHeartbeats 1600000 in
theorem xL(h:zX w v p)(hd:DkOk p.dec)(c:Int)(hc:0≤c∧c≤255):
 Calls jG 69 #[.pointer (some ⟨v.P,9,none⟩),.int .u8 c] w (tK v p (gG p.dec c) w):=by
 obtain⟨c0,f0⟩:=at_ h 9 (.int .i32 p.dec.n) rfl;obtain⟨c1,f1⟩:=at_ h 10 (.int .i64 p.dec.need) rfl;obtain⟨c2,f2⟩:=at_ h 11 (.int .i64 p.dec.hv) rfl;obtain⟨c3,f3⟩:=at_ h 12 (.int .u8 p.dec.lo) rfl;obtain⟨c4,f4⟩:=at_ h 13 (.int .u8 p.dec.hi) rfl;have HD:=Hd h;have hP:=h.lt;unfold gG
 by_cases h0:p.dec.need=0
 · rw[if_pos h0];rw[h0]at c1;have HB:=Hd (xR h c hc);generalize pB p.dec c=X at HB ⊢;clear h h0 hd hc
   go_enter Tryz.func69,Tryz.ntmps69
   go_wp2_with(go_at_call 117;(with_reducible refine HB.o.mono ?_);rintro e w1 ⟨u,rfl,hu⟩;have HU:=Hd hu;clear hu)
   go_ret
   exact⟨u,rfl,HU.o⟩
 rw[if_neg h0]
 by_cases hb:c<p.dec.lo∨p.dec.hi<c
 · rw[if_pos hb];obtain⟨w1,hw1⟩:∃w1,(w.setCell ⟨v.P,10,none⟩ (.int .i64 0)).setCell ⟨v.P,11,none⟩ (.int .i64 0)=w1:=⟨_,rfl⟩;have hP1:zX w1 v {p with dec:=cF p.dec}:=by rw[←hw1];exact(h.d1 0).d2 0
   have hg1:w.grownBy w1 (some v.P):=by rw[←hw1];exact uU (uU (gA w (some v.P)) _) _
   have hs1:w1.heap.size=w.heap.size:=by rw[←hw1];simp[uN]
   have hA:Below w1.heap.size w1 (w1.alloc (.cells #[.int .i32 65533] 21)):=(jU _ w1).alloc (jD _) _;have HB:=Hd (xR (hP1.below hA) c hc);have hl:=Qe (cF p.dec) c;have hX:∀p':Pz,p'={p with dec:=cF p.dec}→pB p'.dec c=pB (cF p.dec) c:=fun p' e=>by rw[e]
   have HB2:Hid (Calls jG 117 #[.pointer (some ⟨v.P,9,none⟩),.int .u8 c] (w1.alloc (.cells #[.int .i32 65533] 21)) (tK v p (pB (cF p.dec) c) (w1.alloc (.cells #[.int .i32 65533] 21)))):=HB;clear HB hX;generalize pB (cF p.dec) c=X at HB2 hl ⊢;have HL0:Hid ((w1.alloc (.cells #[.int .i32 65533] 21)).ownsRow w.heap.size 21 1 (.slice (some ⟨w1.heap.size,0,none⟩) 1 1) 1 [.int .i32 65533]):=Hd (sY (n:=1) (cs:=[.int .i32 65533]) rfl qJ qG);have HGA:Hid (w.grownBy (w1.alloc (.cells #[.int .i32 65533] 21)) (some v.P)):=Hd (zN hg1 _);have hsA:(w1.alloc (.cells #[.int .i32 65533] 21)).heap.size=w1.heap.size+1:=World.size_alloc _ _;generalize p.dec.need=q at c1 h0;generalize p.dec.lo=lo at c3 hb;generalize p.dec.hi=hi at c4 hb;clear h hd hc hP1 hg1 hA;obtain⟨i0,hi0,hz0,hz1,hz2⟩:=info_parts Zk;have hne:=Hd (show v.P≠w1.heap.size by omega);have hle:=Hd (show w.heap.size≤w1.heap.size by omega);clear hs1 hsA;obtain⟨X1,X2⟩:=X;have hl:X1=[]∨∃r,X1=[r]:=hl;rcases hl with rfl|⟨r,rfl⟩
   · go_enter Tryz.func69,Tryz.ntmps69
     go_upto_region 7 with fail
     all_goals
      refine wp_region_lit ?_;refine uC (.slice (some ⟨w1.heap.size,0,none⟩) 1 1) (w1.alloc (.cells #[.int .i32 65533] 21)) qK qX ?_;simp only[Act.put,jZ,jX,jY];refine jB (.pointer (some ⟨v.P,9,none⟩)) qK qK ?_;simp only[Act.put,jZ,jX,jY];refine jB (.int .u8 c) qK qK ?_;simp only[Act.put,jZ,jX,jY];refine pD rfl 117 #[.pointer (some ⟨v.P,9,none⟩),.int .u8 c] qX HB2.o ?_;rintro u w2 ⟨hr,hp,hg⟩;obtain⟨A,cap,rfl⟩:=uT hr;have HP2:=Hd hp;have HG2:=Hd hg;have HL2:Hid (w2.ownsRow w.heap.size 21 1 (.slice (some ⟨w1.heap.size,0,none⟩) 1 1) 1 [.int .i32 65533]):=Hd (kD HL0.o (Mod.of_grown (X:=[v.P]) hg (fun g hg=>by injection hg with hg;simp[hg])) (fun g hg hx=>hne.o qS));simp only[Act.put,jZ,jX,jY];clear hr hp hg;refine bS rfl (.tmp 35) (.tmp 38) 136 rfl (e:=21) (i:=i0) Tryz.underlying136 hi0 (some ⟨w1.heap.size,0,none⟩) 1 1 (jD _) (fun h=>by cases h) A cap rfl rfl ?_;simp only[Act.put,jZ,jX,jY]
      go_wp2
      go_ret
      exact⟨_,rfl,HL2.o,HP2.o,sP HGA.o HG2.o⟩
   · go_enter Tryz.func69,Tryz.ntmps69
     go_upto_region 7 with fail
     all_goals
      refine wp_region_lit ?_;refine uC (.slice (some ⟨w1.heap.size,0,none⟩) 1 1) (w1.alloc (.cells #[.int .i32 65533] 21)) qK qX ?_;simp only[Act.put,jZ,jX,jY];refine jB (.pointer (some ⟨v.P,9,none⟩)) qK qK ?_;simp only[Act.put,jZ,jX,jY];refine jB (.int .u8 c) qK qK ?_;simp only[Act.put,jZ,jX,jY];refine pD rfl 117 #[.pointer (some ⟨v.P,9,none⟩),.int .u8 c] qX HB2.o ?_;rintro u w2 ⟨hr,hp,hg⟩;obtain⟨A,cap,rfl⟩:=uT hr;have HP2:=Hd hp;have HG2:=Hd hg;have HL2:Hid (w2.ownsRow w.heap.size 21 1 (.slice (some ⟨w1.heap.size,0,none⟩) 1 1) 1 [.int .i32 65533]):=Hd (kD HL0.o (Mod.of_grown (X:=[v.P]) hg (fun g hg=>by injection hg with hg;simp[hg])) (fun g hg hx=>hne.o qS));simp only[Act.put,jZ,jX,jY];obtain⟨b,k,he⟩:=gH hr qV;obtain rfl:A=some ⟨b,0,none⟩:=by injection he
      clear he;have hcells:=kL.cells hr (g:=b) rfl;clear hr hp hg;refine vG rfl (.tmp 35) (.tmp 38) 136 rfl w.heap.size 21 i0 _ 1 4 Tryz.underlying136 hi0 hz0 hz1 hz2 rfl qZ (.slice (some ⟨w1.heap.size,0,none⟩) 1 1) 1 [.int .i32 65533] rfl HL2.o ⟨b,0,none⟩ 1 cap [.int .i32 r] rfl rfl hcells (fun u hu=>by rw[jM.1 hu];rfl) qG qJ (jI HGA.o.size HG2.o.size) ?_;intro v' w3 h1 h2 h3;obtain⟨A',c',rfl⟩:=uT h1;have H1:=Hd h1;have H2:Hid (w2.grownBy w3 (some w1.heap.size)):=Hd h2;clear h1 h2 h3 hcells;simp only[Act.put,jZ,jX,jY]
      go_wp2
      go_ret
      exact⟨_,rfl,H1.o,HP2.o.keep H2.o (fun e=>hne.o (by injection e with e;exact e.symm)),qKr (sP HGA.o HG2.o) H2.o (fun b hb=>by injection hb with hb;rw[←hb];exact hle.o)⟩
 rw[if_neg hb];obtain⟨d1,d2,d3,d4⟩:=hd;have g1:¬c<p.dec.lo:=by omega
 have g2:¬p.dec.hi<c:=by omega
 have hn:0≤p.dec.n∧p.dec.n<32768:=by
  rcases d3 with d3|⟨a,b1,b2,b3⟩
  · exact absurd d3 h0
  · rcases d1 with d1|d1|d1|d1
    · exact absurd d1 h0
    · exact⟨a,b1 d1⟩
    · exact⟨a,by have :=b2 d1;omega⟩
    · exact⟨a,by have :=b3 d1;omega⟩
 have w1:jE.wrap (p.dec.hv+1)=p.dec.hv+1:=jF _ qJ;have w2:jE.wrap (p.dec.need-1)=p.dec.need-1:=jF _ qJ;generalize hq:p.dec=q at *;obtain⟨n,need,hv,lo,hi⟩:=q;simp only at c0 c1 c2 c3 c4 g1 g2 hn w1 w2 h0 d1 d2;have HQ:=Hd hq;clear h hb d3 d4 hq
 by_cases hl:need=1
 · subst hl;rw[if_pos (show(⟨n,1,hv,lo,hi⟩:Dk).need=1 from rfl)];clear d1 h0
   go_enter Tryz.func69,Tryz.ntmps69
   go_wp2
   go_ret
   rw[Int.mul_comm 64 n];exact⟨_,rfl,qJn (by simp[uN]) (jD _),((((((HD.o.d0 _).d3 _).d4 _).d2 _).d1 _).d2 _).below ((jU _ _).alloc (jD _) _),zN (uU (uU (uU (uU (uU (uU (gA _ _) _) _) _) _) _) _) _⟩
 · rw[if_neg (show ¬(⟨n,need,hv,lo,hi⟩:Dk).need=1 from hl)];have hl1:0<need-1:=by omega
   clear d1
   go_enter Tryz.func69,Tryz.ntmps69
   go_wp2
   go_ret
   rw[Int.mul_comm 64 n];exact⟨_,rfl,fF _ _,((((HD.o.d0 _).d3 _).d4 _).d2 _).d1 _,uU (uU (uU (uU (uU (gA _ _) _) _) _) _) _⟩
end
set_option maxHeartbeats 1600000 in
theorem WR(b:Nat)(d:Dk)(c:Int)(w:World)(hd:gL w b d)(h:okD d c):
 Calls jG 69 #[.pointer (some ⟨b,0,none⟩),.int .u8 c] w (XD b (yT d c) w):=by
 have HD:=Hd hd;obtain⟨h0,h1,h2,h3,h4⟩:=hd;have c0:=h0.1;have c1:=h1.1;have c2:=h2.1;have c3:=h3.1;have c4:=h4.1;have f0:=h0.2;have f1:=h1.2;have f2:=h2.2;have f3:=h3.2;have f4:=h4.2;clear h0 h1 h2 h3 h4;obtain⟨n,need,hv,lo,hi⟩:=d;simp only at c0 c1 c2 c3 c4;rcases h with⟨e0,e1,hc⟩|⟨e0,e1,e2,e3,e4,e5,e6,e7,e8,e9⟩
 · simp only at e0 e1;subst e0 e1;have HB:=Hd (Xp b ⟨n,0,0,lo,hi⟩ c w HD.o hc);have HX:yT ⟨n,0,0,lo,hi⟩ c=if c<128 then(some c,⟨n,0,0,lo,hi⟩)else(none,pI c):=by unfold yT;rw[if_pos rfl]
   rw[HX];clear HX hc;generalize (if c<128 then(some c,⟨n,0,0,lo,hi⟩)else(none,pI c):Option Int×Dk)=X at HB ⊢
   go_enter Tryz.func69,Tryz.ntmps69
   go_wp2_with(go_at_call 117;(with_reducible refine HB.o.mono ?_);rintro e w1 ⟨v,rfl,hv⟩)
   go_ret
   exact⟨_,rfl,hv⟩
 · simp only at e0 e1 e2 e3 e4 e5 e6 e7 e8 e9;have hn0:¬need=0:=by omega
   have g1:¬c<lo:=by omega
   have g2:¬hi<c:=by omega
   have w1:jE.wrap (hv+1)=hv+1:=jF _ qJ;have w2:jE.wrap (need-1)=need-1:=jF _ qJ
   by_cases hl:need=1
   · subst hl
     go_enter Tryz.func69,Tryz.ntmps69
     go_wp2
     go_ret
     rw[show yT ⟨n,1,hv,lo,hi⟩ c=(some (n*64+c%64),⟨n*64+c%64,0,0,128,191⟩)from by unfold yT;rw[if_neg (show ¬(1:Int)=0 by decide),if_pos rfl];simp only[];rw[Int.mul_comm 64 n]];refine⟨_,rfl,⟨_,rfl,?_,jT (by simp[uN])⟩,((((((HD.o.set0 _).set3 _).set4 _).set2 _).set1 _).set2 _).grown ((jU _ _).alloc (jD _) _),zN (uU (uU (uU (uU (uU (uU (gA _ _) _) _) _) _) _) _) _⟩;exact jD _
   · have hl1:0<need-1:=by omega
     go_enter Tryz.func69,Tryz.ntmps69
     go_wp2
     go_ret
     rw[show yT ⟨n,need,hv,lo,hi⟩ c=(none,⟨n*64+c%64,need-1,hv+1,128,191⟩)from by unfold yT;rw[if_neg hn0,if_neg hl];simp only[];rw[Int.mul_comm 64 n]];exact⟨_,rfl,rfl,((((HD.o.set0 _).set3 _).set4 _).set2 _).set1 _,uU (uU (uU (uU (uU (gA _ _) _) _) _) _) _⟩
theorem qQ1(b:Nat)(d:Dk)(w:World)(hd:gL w b d)(h:d.hv=0):
 Calls jG 66 #[.pointer (some ⟨b,0,none⟩)] w fun e w'=>e=.returned (.slice none 0 0)∧w=w':=by
 obtain⟨h0,h1,h2,h3,h4⟩:=hd;have c2:=h2.1;rw[h]at c2;clear h0 h1 h2 h3 h4
 go_enter Tryz.func66,Tryz.ntmps66
 go_wp2
 go_ret
 exact⟨rfl,rfl⟩
open Go.RowKit Go
def AbD{β:Type}(d:Nat)(J:β→World→Prop):Prop:=∀s W W',J s W→W.grownBy W' (some d)→J s W'
def bodyD{α:Type}(Kp:World→World→Prop)(I:List α→World→Prop)(xs:List α)(W:World):Exit→Act→World→Prop
 | .normal,_,W'=>KeepsOthers W W'∧Kp W W'∧I xs W'
 |_,_,_=>False
def SeqD{α:Type}(F:Fence)(n:Nat)(P:Program)(l g:Nat)(lb:Array Value)(encs:α→Array Value)(Kp:World→World→Prop)(d:Nat)(xs:List α)(W:World):Prop:=
 ∀(J:List α→World→Prop),AbD d J→
  (∀pre x W1,J pre W1→pre.length<xs.length→d<W1.heap.size→YieldAt F (n-1) P l (encs x) W1 fun e W'=>e=.returned (.bool true)∧J (pre++[x]) W'∧Kp W1 W')→
  J [] W→
  CallsIn F n P g (#[.func (.yield l) #[] #[]]++lb) W fun e W'=>(∃v,e=.returned v)∧J xs W'
variable {F:Fence}{n:Nat}{P:Program}
theorem iK{α:Type}{g:Operand}{ps:Array Tmp}{assign body:Code}{Q:Exit→Act→World→Prop}{a:Act}{w:World}
 (hro:F.round=none) (h1:1≤n) {gf:Nat} {lb:Array Value} (hg:a.eval g=.func (.func gf) #[] lb) (hFg:F.fn gf) (eg:∀args w,(callFunc gf args).run P w=.ok (.enter gf args) w)
 {encs:α→Array Value} {Kp:World→World→Prop} {xs:List α} {d:Nat} (hd:w.heap.size+1<d)
 (hseq:∀W,Below w.heap.size w W→W.heap.size=w.heap.size+2→SeqD F (n-1) P (w.heap.size+1) gf lb encs Kp d xs W)
 (hKt:∀{A B C:World},Kp A B→Kp B C→Kp A C) (hKb:∀(W:World) (o':Obj),Kp W (W.putObj (w.heap.size+1) o')) (hps:∀x,(encs x).size=ps.size)
 (I:List α→World→Prop) (hI:∀s W W' r,I s W→W.grownBy W' (some r)→r=d∨r=w.heap.size+1→I s W') (h0:I [] w) (a₁:α→Act)
 (hassign:∀(l:Nat) (x:α) (W:World) (K:Act→World→Prop),K (a₁ x) W→
   assign.wpIn (F.inRound l) (n-1-1) P (Exit.then K (fun _ _ _=>False)) {tmps:=(ps.zip (encs x)).foldl (fun t (p,v)=>t.setIfInBounds p v) a.tmps,defers:=[]} W)
 (hbody:∀(l:Nat) (pre:List α) (x:α) (W:World),I pre W→pre.length<xs.length→d<W.heap.size→body.wpIn (F.inRound l) (n-1-1) P (bodyD Kp I (pre++[x]) W) (a₁ x) W)
 (hdone:∀(W:World),I xs W→W.heap[w.heap.size]? =some (.deferred (some []))→Q .normal {a with defers:={target:=.collected w.heap.size,args:=#[]}::a.defers} W):
 (Code.rangeFunc g ps assign body).wpIn F n P Q a w:=by
 refine wpIn_rangeFunc ?_;intro fn hfn;rw[hro];obtain⟨rec,hrec⟩:∃rec:LoopState→Option Code→Loop,rec=fun st pe=>{state:=st,pending:=pe,fn,tmps:=a.tmps,params:=ps,assign,body,defers:=w.heap.size}:=⟨_,rfl⟩;obtain⟨W1,hW1⟩:∃W1,(w.alloc (.deferred (some []))).alloc (.loop (rec .ready none))=W1:=⟨_,rfl⟩;have hL1:W1.heap[w.heap.size+1]? =some (.loop (rec .ready none)):=by
  rw[←hW1];have :=World.alloc_heap_new (w.alloc (.deferred (some []))) (.loop (rec .ready none));rwa[World.size_alloc]at this
 have hK1:W1.heap[w.heap.size]? =some (.deferred (some [])):=by
  rw[←hW1];exact(Below.heap_alloc _ _ _ qV).trans (World.alloc_heap_new w _)
 have hb1:Below w.heap.size w W1:=by
  rw[←hW1];exact((jU _ w).alloc (jD _) _).alloc qV _
 have hs1:W1.heap.size=w.heap.size+2:=by rw[←hW1];simp
 have hg1:w.grownBy W1 (some d):=by
  rw[←hW1];exact⟨rfl,rfl,rfl,by simp;omega,fun k hk _=>((Below.heap_alloc _ _ k qY).trans (Below.heap_alloc w _ k hk))⟩
 have hI1:I [] W1:=hI [] w W1 d h0 hg1 (.inl rfl);refine⟨w.heap.size+1,[{target:=.collected w.heap.size,args:=#[]}],W1,{target:=.fn (.func gf) lb,args:=#[.func (.yield (w.heap.size+1)) #[] #[]]},W1,gf,
  #[.func (.yield (w.heap.size + 1)) #[] #[]] ++ lb, W1, ?_, ?_, ?_, ?_, fun _ => h1, ?_⟩
 · rw[←hW1,hrec];exact run_enterLoop_outer _ _ _ _ _
 · simp only[resolve,hg];simp[go_sem]
 · intro f' hf';simp[Target.leads]at hf';subst hf';exact hFg
 · simp[invoke,go_sem,eg]
 · refine(hseq W1 hb1 hs1
    (fun pre W=>I pre W∧W.heap[w.heap.size+1]? =some (.loop (rec .ready none))∧W.heap[w.heap.size]? =some (.deferred (some [])))
    (fun s A B hs hg'=>⟨hI s A B d hs.1 hg' (.inl rfl),
      (hg'.block _ (kB.1 hs.2.1).1 qZp).trans hs.2.1,
      (hg'.block _ (kB.1 hs.2.2).1 qZp).trans hs.2.2⟩)
    ?_ ⟨hI1,hL1,hK1⟩).mono ?_
   · rintro pre x W ⟨hi,hl,hk⟩ hlen hdl;have hlt:w.heap.size+1<W.heap.size:=(kB.1 hl).1;have hy:=run_yield (P:=P) (args:=encs x) hl (by rw[hrec];exact hps x);rw[hrec]at hy;refine⟨fn,_,assign,body,hy,roundIn_of_wpIn hfn (hassign _ x W _ ⟨_,run_beginRound hl (by rw[hrec]),?_⟩)⟩;have hl2:(W.putObj (w.heap.size+1) (.loop {rec .ready none with state:=.busy})).heap[w.heap.size+1]? =some (.loop {rec .ready none with state:=.busy}):=World.putObj_heap_same hlt;have hk2:(W.putObj (w.heap.size+1) (.loop {rec .ready none with state:=.busy})).heap[w.heap.size]? =some (.deferred (some [])):=(World.putObj_heap_other qJ).trans hk;have hw2:Kp W (W.putObj (w.heap.size+1) (.loop {rec .ready none with state:=.busy})):=hKb _ _;refine wpIn_mono (hbody _ pre x _ (hI _ _ _ _ hi (grownBy_putObj' W (w.heap.size+1) _) (.inr rfl)) hlen (by rw[World.putObj_size];exact hdl)) ?_;rintro e a3 W3 hp;cases e with
     |normal=>
      obtain⟨hk3,hkp3,hi3⟩:=hp;have hl3:=hk3.same _ _ hl2 rfl;have hr:=run_endRound (P:=P) none hl3;rw[hrec]at hr hl3;refine⟨_,_,hr,⟨rfl,⟨hI _ _ _ _ hi3 (grownBy_putObj' W3 (w.heap.size+1) _) (.inr rfl),?_,?_⟩,hKt (hKt hw2 hkp3) (hKb _ _)⟩⟩
      · rw[hrec];exact World.putObj_heap_same (kB.1 hl3).1
      · exact(World.putObj_heap_other qJ).trans (hk3.same _ _ hk2 rfl)
     |_=>exact hp.elim
   · rintro e W2 ⟨⟨v,rfl⟩,hi,hl,hk⟩;exact⟨none,_,by have :=run_endLoop (P:=P) hl (by rw[hrec];simp);rw[hrec]at this;exact this,hdone _ (hI _ _ _ _ hi (grownBy_putObj' W2 (w.heap.size+1) _) (.inr rfl)) ((World.putObj_heap_other qJ).trans hk)⟩
attribute [local go_sem] Oper.semAt_some
def KpD(ob lr d:Nat)(W W':World):Prop:=W.heap.size≤W'.heap.size∧∀k,k≤d→k≠ob→k≠lr→W'.heap[k]? =W.heap[k]?
theorem KpD.trans{ob lr d:Nat}{A B C:World}(h:KpD ob lr d A B)(k:KpD ob lr d B C):KpD ob lr d A C:=⟨jI h.1 k.1,fun i a b c=>(k.2 i a b c).trans (h.2 i a b c)⟩
theorem KpD.cell{ob lr d:Nat}{W W':World}(h:KpD ob lr d W W'){b o:Nat}(hb:b≤d)(h1:b≠ob)(h2:b≠lr):W'.cell? ⟨b,o,none⟩=W.cell? ⟨b,o,none⟩∧W'.frozen? ⟨b,o,none⟩=W.frozen? ⟨b,o,none⟩:=
 ⟨World.cell?_of_block (h.2 b hb h1 h2),World.frozen?_of_block (h.2 b hb h1 h2)⟩
theorem gL.kept{ob lr d:Nat}{W W':World}(h:KpD ob lr d W W'){x:Dk}(h1:d≠ob)(h2:d≠lr)(hd:gL W d x):gL W' d x:=by
 obtain⟨a0,a1,a2,a3,a4⟩:=hd;have k:=fun o=>h.cell (b:=d) (o:=o) (jD _) h1 h2;exact qXo
def tV(W:World)(ob lr d:Nat)(A:Option Addr)(bs:List Int):Prop:=0<bs.length→∃g off,A=some ⟨g,off,none⟩∧g<d∧g≠ob∧g≠lr∧∀i x,bs[i]? =some x→W.cell? ⟨g,off+i,none⟩=some (.int .u8 x)
theorem tV.kept{ob lr d:Nat}{W W':World}{A:Option Addr}{bs:List Int}(h:KpD ob lr d W W')(hb:tV W ob lr d A bs):tV W' ob lr d A bs:=fun h0=>by
 obtain⟨g,off,e,h1,h2,h3,h4⟩:=hb h0;exact⟨g,off,e,h1,h2,h3,fun i x hx=>(h.cell qJ h2 h3).1.trans (h4 i x hx)⟩
theorem tV.grown{ob lr d:Nat}{W W':World}{A:Option Addr}{bs:List Int}(h:W.grownBy W' (some d))(hb:tV W ob lr d A bs):tV W' ob lr d A bs:=fun h0=>by
 obtain⟨g,off,e,h1,h2,h3,h4⟩:=hb h0;exact⟨g,off,e,h1,h2,h3,fun i x hx=>(World.cell?_of_block (h.block g (uE (h4 i x hx)) qZp)).trans (h4 i x hx)⟩
theorem WQ{W W':World}{b d o:Nat}{v:Value}(h:W.grownBy W' (some d))(hb:b≠d)(hc:W.cell? ⟨b,o,none⟩=some v):W'.cell? ⟨b,o,none⟩=some v:=
 (World.cell?_of_block (h.block b (uE hc) (by intro e;cases e;exact hb rfl))).trans hc
theorem qJm(d:Dk)(l:List Int)(k:Nat):(yO d (l.take k)).1.length≤(yO d l).1.length:=by
 have :=mV d (l.take k) (l.drop k);rw[List.take_append_drop]at this;rw[this];simp
theorem sQ{bs:List Int}{k:Nat}(h:k<bs.length):bs[k]? =some bs[k]:=jN h
set_option maxHeartbeats 3200000 in
theorem WA(n:Nat)(hn:1≤n)(l ob bb ca:Nat)(A:Option Addr)(bs L:List Int)(hok:∀d:Dk,d.need=0∧d.hv=0→fH d bs∧(yO d bs).1=L∧(yO d bs).2.need=0∧(yO d bs).2.hv=0)(hz:bs.length≤10000)
 (W:World) (hob:ob<W.heap.size) (hl:l<W.heap.size) (hbb:bb≠ob) (hbl:bb≠l) (hb:W.cell? ⟨bb,0,none⟩=some (.slice A bs.length ca)) (hbs:tV W ob l W.heap.size A bs):
 SeqD Fence.wide n jG l 376 #[.pointer (some ⟨bb,0,none⟩)] (fun x:Int=>#[Value.int .i32 x]) (KpD ob l W.heap.size) W.heap.size L W:=by
 intro J hJ hY h0;obtain⟨hok1,hL,hnd,hhv⟩:=hok ⟨0,0,0,0,0⟩ ⟨rfl,rfl⟩;have HOK:=Hd hok1;have HL:=Hd hL;have HBS:=Hd hbs;have HEND:=Hd (⟨hnd,hhv⟩:(yO ⟨0,0,0,0,0⟩ bs).2.need=0∧(yO ⟨0,0,0,0,0⟩ bs).2.hv=0);clear hok hok1 hL hbs hnd hhv;have hbW:=uE hb;have hD0:gL (W.alloc (.cells #[.int .i32 0,.int .i64 0,.int .i64 0,.int .u8 0,.int .u8 0] 132)) W.heap.size ⟨0,0,0,0,0⟩:=⟨at_ (jT rfl) 0 _ rfl,at_ (jT rfl) 1 _ rfl,at_ (jT rfl) 2 _ rfl,at_ (jT rfl) 3 _ rfl,at_ (jT rfl) 4 _ rfl⟩;have hg0:=zN (gA W (some W.heap.size)) (.cells #[.int .i32 0,.int .i64 0,.int .i64 0,.int .u8 0,.int .u8 0] 132);have hb1:=WQ hg0 qJ hb;have HB1:=Hd (⟨hD0,HBS.o.grown hg0,hJ _ _ _ h0 hg0,hb1⟩:gL (W.alloc (.cells #[.int .i32 0,.int .i64 0,.int .i64 0,.int .u8 0,.int .u8 0] 132)) W.heap.size ⟨0,0,0,0,0⟩∧tV (W.alloc (.cells #[.int .i32 0,.int .i64 0,.int .i64 0,.int .u8 0,.int .u8 0] 132)) ob l W.heap.size A bs∧J [] (W.alloc (.cells #[.int .i32 0,.int .i64 0,.int .i64 0,.int .u8 0,.int .u8 0] 132))∧(W.alloc (.cells #[.int .i32 0,.int .i64 0,.int .i64 0,.int .u8 0,.int .u8 0] 132)).cell? ⟨bb,0,none⟩=some (.slice A bs.length ca));clear hD0 hg0 hb h0;obtain⟨d,hd⟩:∃d,d=W.heap.size:=⟨_,rfl⟩
 refine callsIn_of_wp Tryz.func376 rfl trivial ?_ rfl;simp only[Tryz.ntmps376,List.size_toArray,List.length_cons,List.length_nil,Nat.reduceAdd,Nat.reduceSub,Array.replicate_succ,Array.replicate_zero,List.push_toArray,List.append_toArray,List.nil_append,List.cons_append]
 gi_wp2
 gi_loopw [12] (fun i wr=>∃k:Nat,k≤bs.length∧i=.int .i64 k∧gL wr W.heap.size (yO ⟨0,0,0,0,0⟩ (bs.take k)).2∧tV wr ob l W.heap.size A bs∧J (yO ⟨0,0,0,0,0⟩ (bs.take k)).1 wr) (fun i _=>bs.length-(intOf i).toNat)
 case atStart=>exact⟨0,kM _,rfl,HB1.o.1,HB1.o.2.1,HB1.o.2.2.1⟩
 case round=>
  obtain⟨k,hk,rfl,hdec,hbk,hj⟩:=hrel
  by_cases hlt:k<bs.length
  · obtain⟨g,off,rfl,hg1,hg2,hg3,hcs⟩:=hbk qJ;have hc:=hcs k _ (sQ hlt);have hokk:=qKe HOK.o hlt;have HT:=Hd (aS ⟨0,0,0,0,0⟩ bs hlt);have HLEN:=Hd (qJm ⟨0,0,0,0,0⟩ bs (k+1));have HS:=Hd (WR W.heap.size _ _ wr hdec hokk);have HBK:=Hd hbk;have HJ:=Hd hj;clear hdec hokk hbk hj hcs;rw[HT.o,HL.o]at HLEN;generalize hx:bs[k]=x at hc HS HT HLEN;generalize (yO ⟨0,0,0,0,0⟩ (bs.take k)).2=D at HS HT HLEN;generalize (yO ⟨0,0,0,0,0⟩ (bs.take k)).1=P at HJ HT HLEN;generalize yT D x=X at HS HT HLEN;obtain⟨x1,D'⟩:=X;clear hx;rcases x1 with _|r
    · gi_wp2_with (refine⟨trivial,?_⟩;gi_at_call 69;refine(callsIn_wide.2 HS.o).mono ?_;rintro e W1 ⟨v,rfl,rfl,hd1,hgr⟩)
      refine wpIn_loop_rounds 1 ?_;rw[roundsIn_succ]
      gi_wp2
      go_roundw
      case rel=>exact⟨k+1,by omega,by simp,by rw[HT.o];exact hd1,HBK.o.grown hgr,by rw[HT.o];simpa using hJ _ _ _ HJ.o hgr⟩
      case measure=>simp[intOf];omega
    · gi_wp2_with (refine⟨trivial,?_⟩;gi_at_call 69;refine(callsIn_wide.2 HS.o).mono ?_;rintro e W1 ⟨v,rfl,⟨g',rfl,hg',hcell⟩,hd1,hgr⟩)
      have hj1:=hJ _ _ _ HJ.o hgr;have hc1:=(at_ hcell 0 _ rfl).1;obtain⟨fn,tmps,assign,body,hy,hR⟩:=hY _ r W1 hj1 (by have :=HLEN.o;simp at this;omega) hd1.lt;clear hj1;refine wpIn_loop_rounds 2 ?_;rw[roundsIn_succ]
      gi_wp2
      refine hR.mono ?_;rintro e W3 ⟨rfl,hJ3,hk3⟩;have HJ3:=Hd hJ3;have HK3:=Hd hk3;clear hJ3 hk3
      gi_wp2
      rw[roundsIn_succ]
      gi_wp2
      go_roundw
      case rel=>exact⟨k+1,by omega,by simp,by rw[HT.o];exact hd1.kept HK3.o qJ qJ,(HBK.o.grown hgr).kept HK3.o,by rw[HT.o];exact HJ3.o⟩
      case measure=>simp[intOf];omega
  · obtain rfl:k=bs.length:=by omega
    rw[List.take_length]at hdec hj;have HE:=Hd (qQ1 W.heap.size _ wr hdec HEND.o.2);have HJ:=Hd hj;clear hdec hj
    gi_wp2_with (refine⟨trivial,?_⟩;gi_at_call 66;refine(callsIn_wide.2 HE.o).mono ?_;rintro e W1 ⟨rfl,rfl⟩)
    refine wpIn_loop_rounds 1 ?_;rw[roundsIn_succ]
    gi_wp2
    go_end0
    exact⟨⟨_,rfl⟩,by rw[←HL.o];exact HJ.o⟩
def VN(b:Nat)(x:List Int×Dk)(w:World)(e:Ending)(w':World):Prop:=∃u,e=.returned u∧Qn w' w.heap.size u x.1∧gL w' b x.2∧w.grownBy w' (some b)
section
variable {w:World}{b:Nat}{d:Dk}
theorem qK9(h:gL w b d):w.cell? ⟨b,0,none⟩=some (.int .i32 d.n)∧w.frozen? ⟨b,0,none⟩=false:=h.1
theorem qK8(h:gL w b d):w.cell? ⟨b,1,none⟩=some (.int .i64 d.need)∧w.frozen? ⟨b,1,none⟩=false:=h.2.1
theorem qK7(h:gL w b d):w.cell? ⟨b,2,none⟩=some (.int .i64 d.hv)∧w.frozen? ⟨b,2,none⟩=false:=h.2.2.1
theorem qK6(h:gL w b d):w.cell? ⟨b,3,none⟩=some (.int .u8 d.lo)∧w.frozen? ⟨b,3,none⟩=false:=h.2.2.2.1
theorem qK5(h:gL w b d):w.cell? ⟨b,4,none⟩=some (.int .u8 d.hi)∧w.frozen? ⟨b,4,none⟩=false:=h.2.2.2.2
theorem gL.below(h:gL w b d){w':World}(hb:Below w.heap.size w w'):gL w' b d:=h.grown hb
theorem gL.keepD{w':World}{r:Option Nat}(h:gL w b d)(hg:w.grownBy w' r)(hr:r≠some b):gL w' b d:=by
 have k:=fun o:Nat=>kY (World.cell?_of_block (a:=⟨b,o,none⟩) (hg.block b h.lt (fun e=>hr e.symm))) (World.frozen?_of_block (a:=⟨b,o,none⟩) (hg.block b h.lt (fun e=>hr e.symm)));obtain⟨a0,a1,a2,a3,a4⟩:=h;exact qXo
set_option maxHeartbeats 1600000 in
theorem QB(h:gL w b d)(c:Int)(hc:0≤c∧c≤255):
 Calls jG 117 #[.pointer (some ⟨b,0,none⟩),.int .u8 c] w (VN b (pB d c) w):=by
 have HS:=Hd (fun w=>aQ c w);have HB:=Hd (fun w=>mQ c w);have HD:=Hd h;obtain⟨c0,f0⟩:=qK9 h;obtain⟨c1,f1⟩:=qK8 h;obtain⟨c2,f2⟩:=qK7 h;obtain⟨c3,f3⟩:=qK6 h;obtain⟨c4,f4⟩:=qK5 h;have hw:IntKind.i32.wrap c=c:=IntWalk.i32_in _ qJ;clear h;unfold pB
 by_cases hz:yW c=0
 · rw[if_pos hz];rw[hz]at HS;clear hz
   go_enter Tryz.func117,Tryz.ntmps117
   go_wp2_with(go_at_call 176;(with_reducible refine(HS.o _).mono ?_);rintro e w1 ⟨rfl,rfl⟩)
   go_ret
   exact qXl
 rw[if_neg hz]
 by_cases ho:yW c=1
 · rw[if_pos ho];rw[ho]at HS;clear hz ho
   go_enter Tryz.func117,Tryz.ntmps117
   go_wp2_with(go_at_call 176;(with_reducible refine(HS.o _).mono ?_);rintro e w1 ⟨rfl,rfl⟩)
   go_ret
   exact qXl
 rw[if_neg ho];have hM:=Qh c qJ qJ;have hc1:194≤c∧c≤244:=by
  unfold yW at hz ho
  constructor
  · rcases Int.lt_or_le c 128 with h|h
    · exact absurd (if_pos h) ho
    · rcases Int.lt_or_le c 194 with h2|h2
      · exact absurd qZq hz
      · exact h2
  · rcases Int.lt_or_le 244 c with h2|h2
    · exact absurd qZr hz
    · exact h2
 have hA:¬c<128:=by omega
 have hA2:¬(c<194∨244<c):=by omega
 clear hz ho
 by_cases hB:c<224
 · rw[show yW c=2 from by unfold yW;rw[if_neg hA,if_neg hA2,if_pos hB]]at HS;have HL:=Hd (show pI c=⟨bits .and .i32 c 31,1,1,loC c,hiC c⟩from by unfold pI loC hiC;rw[if_pos hB,hM.1];rw[if_neg qJ,if_neg qJ,if_neg qJ,if_neg qJ]);generalize pI c=L at HL ⊢;generalize loC c=lc at HL HB;generalize hiC c=hc at HL HB;clear hM hA2
   go_enter Tryz.func117,Tryz.ntmps117
   go_wp2_with(first|(go_at_call 176;(with_reducible refine(HS.o _).mono ?_);rintro e w1 ⟨rfl,rfl⟩)|(go_at_call 177;(with_reducible refine(HB.o _).mono ?_);rintro e w1 ⟨rfl,rfl⟩))
   go_ret
   rw[HL.o];exact qXp
 by_cases hC:c<240
 · rw[show yW c=3 from by unfold yW;rw[if_neg hA,if_neg hA2,if_neg hB,if_pos hC]]at HS;have HL:=Hd (show pI c=⟨bits .and .i32 c 15,2,1,loC c,hiC c⟩from by unfold pI loC hiC;rw[if_neg hB,if_pos hC,hM.2.1];rw[if_neg (show ¬c=240 by omega),if_neg (show ¬c=244 by omega)]);generalize pI c=L at HL ⊢;generalize loC c=lc at HL HB;generalize hiC c=hc at HL HB;clear hM hA2
   go_enter Tryz.func117,Tryz.ntmps117
   go_wp2_with(first|(go_at_call 176;(with_reducible refine(HS.o _).mono ?_);rintro e w1 ⟨rfl,rfl⟩)|(go_at_call 177;(with_reducible refine(HB.o _).mono ?_);rintro e w1 ⟨rfl,rfl⟩))
   go_ret
   rw[HL.o];exact qXp
 rw[show yW c=4 from by unfold yW;rw[if_neg hA,if_neg hA2,if_neg hB,if_neg hC]]at HS;have HL:=Hd (show pI c=⟨bits .and .i32 c 7,3,1,loC c,hiC c⟩from by unfold pI loC hiC;rw[if_neg hB,if_neg hC,hM.2.2];rw[if_neg (show ¬c=224 by omega),if_neg (show ¬c=237 by omega)]);generalize pI c=L at HL ⊢;generalize loC c=lc at HL HB;generalize hiC c=hc at HL HB;clear hM hA2
 go_enter Tryz.func117,Tryz.ntmps117
 go_wp2_with(first|(go_at_call 176;(with_reducible refine(HS.o _).mono ?_);rintro e w1 ⟨rfl,rfl⟩)|(go_at_call 177;(with_reducible refine(HB.o _).mono ?_);rintro e w1 ⟨rfl,rfl⟩))
 go_ret
 rw[HL.o];exact qXp
set_option maxHeartbeats 1600000 in
theorem Z8(h:gL w b d):Calls jG 66 #[.pointer (some ⟨b,0,none⟩)] w (VN b (dU d) w):=by
 obtain⟨c0,f0⟩:=qK9 h;obtain⟨c1,f1⟩:=qK8 h;obtain⟨c2,f2⟩:=qK7 h;obtain⟨c3,f3⟩:=qK6 h;obtain⟨c4,f4⟩:=qK5 h;have HD:=Hd h;clear h;unfold dU
 by_cases hz:d.hv=0
 · rw[if_pos hz];rw[hz]at c2;clear hz
   go_enter Tryz.func66,Tryz.ntmps66
   go_wp2
   go_ret
   exact⟨_,rfl,fF _ _,HD.o,gA _ _⟩
 · rw[if_neg hz];generalize hq:d.hv=q at c2 hz;clear hq
   go_enter Tryz.func66,Tryz.ntmps66
   go_upto_region 4 with fail
   have HP:=Hd (((((HD.o.set0 0).set1 0).set2 0).set3 0).set4 0);have HG:=Hd (uU (uU (uU (uU (uU (gA w (some b)) (i:=0) (.int .i32 0)) (i:=1) (.int .i64 0)) (i:=2) (.int .i64 0)) (i:=3) (.int .u8 0)) (i:=4) (.int .u8 0));generalize hW:((((w.setCell ⟨b,0,none⟩ (.int .i32 0)).setCell ⟨b,1,none⟩ (.int .i64 0)).setCell ⟨b,2,none⟩ (.int .i64 0)).setCell ⟨b,3,none⟩ (.int .u8 0)).setCell ⟨b,4,none⟩ (.int .u8 0)=w1 at HP HG ⊢;clear hW
   go_wp2
   go_ret
   exact⟨_,rfl,oL HG.o.size,HP.o.below ((jU _ w1).alloc (jD _) _),zN HG.o _⟩
set_option maxHeartbeats 1600000 in
theorem YO(h:gL w b d)(hd:DkOk d)(c:Int)(hc:0≤c∧c≤255):
 Calls jG 69 #[.pointer (some ⟨b,0,none⟩),.int .u8 c] w (VN b (gG d c) w):=by
 obtain⟨c0,f0⟩:=qK9 h;obtain⟨c1,f1⟩:=qK8 h;obtain⟨c2,f2⟩:=qK7 h;obtain⟨c3,f3⟩:=qK6 h;obtain⟨c4,f4⟩:=qK5 h;have HD:=Hd h;have hP:=h.lt;unfold gG
 by_cases h0:d.need=0
 · rw[if_pos h0];rw[h0]at c1;have HB:=Hd (QB h c hc);generalize pB d c=X at HB ⊢;clear h h0 hd hc
   go_enter Tryz.func69,Tryz.ntmps69
   go_wp2_with(go_at_call 117;(with_reducible refine HB.o.mono ?_);rintro e w1 ⟨u,rfl,hu⟩;have HU:=Hd hu;clear hu)
   go_ret
   exact⟨u,rfl,HU.o⟩
 rw[if_neg h0]
 by_cases hb:c<d.lo∨d.hi<c
 · rw[if_pos hb];obtain⟨w1,hw1⟩:∃w1,(w.setCell ⟨b,1,none⟩ (.int .i64 0)).setCell ⟨b,2,none⟩ (.int .i64 0)=w1:=⟨_,rfl⟩;have hP1:gL w1 b (cF d):=by rw[←hw1];exact(h.set1 0).set2 0
   have hg1:w.grownBy w1 (some b):=by rw[←hw1];exact uU (uU (gA w (some b)) _) _
   have hs1:w1.heap.size=w.heap.size:=by rw[←hw1];simp[uN]
   have hA:Below w1.heap.size w1 (w1.alloc (.cells #[.int .i32 65533] 21)):=(jU _ w1).alloc (jD _) _;have HB:=Hd (QB (hP1.below hA) c hc);have hl:=Qe (cF d) c;have HB2:Hid (Calls jG 117 #[.pointer (some ⟨b,0,none⟩),.int .u8 c] (w1.alloc (.cells #[.int .i32 65533] 21)) (VN b (pB (cF d) c) (w1.alloc (.cells #[.int .i32 65533] 21)))):=HB;clear HB;generalize pB (cF d) c=X at HB2 hl ⊢;have HL0:Hid ((w1.alloc (.cells #[.int .i32 65533] 21)).ownsRow w.heap.size 21 1 (.slice (some ⟨w1.heap.size,0,none⟩) 1 1) 1 [.int .i32 65533]):=Hd (sY (n:=1) (cs:=[.int .i32 65533]) rfl qJ qG);have HGA:Hid (w.grownBy (w1.alloc (.cells #[.int .i32 65533] 21)) (some b)):=Hd (zN hg1 _);have hsA:(w1.alloc (.cells #[.int .i32 65533] 21)).heap.size=w1.heap.size+1:=World.size_alloc _ _;generalize d.need=q at c1 h0;generalize d.lo=lo at c3 hb;generalize d.hi=hi at c4 hb;clear h hd hc hP1 hg1 hA;obtain⟨i0,hi0,hz0,hz1,hz2⟩:=info_parts Zk;have hne:=Hd (show b≠w1.heap.size by omega);have hle:=Hd (show w.heap.size≤w1.heap.size by omega);clear hs1 hsA;obtain⟨X1,X2⟩:=X;have hl:X1=[]∨∃r,X1=[r]:=hl;rcases hl with rfl|⟨r,rfl⟩
   · go_enter Tryz.func69,Tryz.ntmps69
     go_upto_region 7 with fail
     all_goals
      refine wp_region_lit ?_;refine uC (.slice (some ⟨w1.heap.size,0,none⟩) 1 1) (w1.alloc (.cells #[.int .i32 65533] 21)) qK qX ?_;simp only[Act.put,jZ,jX,jY];refine jB (.pointer (some ⟨b,0,none⟩)) qK qK ?_;simp only[Act.put,jZ,jX,jY];refine jB (.int .u8 c) qK qK ?_;simp only[Act.put,jZ,jX,jY];refine pD rfl 117 #[.pointer (some ⟨b,0,none⟩),.int .u8 c] qX HB2.o ?_;rintro u w2 ⟨hr,hp,hg⟩;obtain⟨A,cap,rfl⟩:=uT hr;have HP2:=Hd hp;have HG2:=Hd hg;have HL2:Hid (w2.ownsRow w.heap.size 21 1 (.slice (some ⟨w1.heap.size,0,none⟩) 1 1) 1 [.int .i32 65533]):=Hd (kD HL0.o (Mod.of_grown (X:=[b]) hg (fun g hg=>by injection hg with hg;simp[hg])) (fun g hg hx=>hne.o qS));simp only[Act.put,jZ,jX,jY];clear hr hp hg;refine bS rfl (.tmp 35) (.tmp 38) 136 rfl (e:=21) (i:=i0) Tryz.underlying136 hi0 (some ⟨w1.heap.size,0,none⟩) 1 1 (jD _) (fun h=>by cases h) A cap rfl rfl ?_;simp only[Act.put,jZ,jX,jY]
      go_wp2
      go_ret
      exact⟨_,rfl,HL2.o,HP2.o,sP HGA.o HG2.o⟩
   · go_enter Tryz.func69,Tryz.ntmps69
     go_upto_region 7 with fail
     all_goals
      refine wp_region_lit ?_;refine uC (.slice (some ⟨w1.heap.size,0,none⟩) 1 1) (w1.alloc (.cells #[.int .i32 65533] 21)) qK qX ?_;simp only[Act.put,jZ,jX,jY];refine jB (.pointer (some ⟨b,0,none⟩)) qK qK ?_;simp only[Act.put,jZ,jX,jY];refine jB (.int .u8 c) qK qK ?_;simp only[Act.put,jZ,jX,jY];refine pD rfl 117 #[.pointer (some ⟨b,0,none⟩),.int .u8 c] qX HB2.o ?_;rintro u w2 ⟨hr,hp,hg⟩;obtain⟨A,cap,rfl⟩:=uT hr;have HP2:=Hd hp;have HG2:=Hd hg;have HL2:Hid (w2.ownsRow w.heap.size 21 1 (.slice (some ⟨w1.heap.size,0,none⟩) 1 1) 1 [.int .i32 65533]):=Hd (kD HL0.o (Mod.of_grown (X:=[b]) hg (fun g hg=>by injection hg with hg;simp[hg])) (fun g hg hx=>hne.o qS));simp only[Act.put,jZ,jX,jY];obtain⟨gb,k,he⟩:=gH hr qV;obtain rfl:A=some ⟨gb,0,none⟩:=by injection he
      clear he;have hcells:=kL.cells hr (g:=gb) rfl;clear hr hp hg;refine vG rfl (.tmp 35) (.tmp 38) 136 rfl w.heap.size 21 i0 _ 1 4 Tryz.underlying136 hi0 hz0 hz1 hz2 rfl qZ (.slice (some ⟨w1.heap.size,0,none⟩) 1 1) 1 [.int .i32 65533] rfl HL2.o ⟨gb,0,none⟩ 1 cap [.int .i32 r] rfl rfl hcells (fun u hu=>by rw[jM.1 hu];rfl) qG qJ (jI HGA.o.size HG2.o.size) ?_;intro v' w3 h1 h2 h3;obtain⟨A',c',rfl⟩:=uT h1;have H1:=Hd h1;have H2:Hid (w2.grownBy w3 (some w1.heap.size)):=Hd h2;clear h1 h2 h3 hcells;simp only[Act.put,jZ,jX,jY]
      go_wp2
      go_ret
      exact⟨_,rfl,H1.o,HP2.o.keepD H2.o (fun e=>hne.o (by injection e with e;exact e.symm)),qKr (sP HGA.o HG2.o) H2.o (fun b hb=>by injection hb with hb;rw[←hb];exact hle.o)⟩
 rw[if_neg hb];obtain⟨d1,d2,d3,d4⟩:=hd;have g1:¬c<d.lo:=by omega
 have g2:¬d.hi<c:=by omega
 have hn:0≤d.n∧d.n<32768:=by
  rcases d3 with d3|⟨a,b1,b2,b3⟩
  · exact absurd d3 h0
  · rcases d1 with d1|d1|d1|d1
    · exact absurd d1 h0
    · exact⟨a,b1 d1⟩
    · exact⟨a,by have :=b2 d1;omega⟩
    · exact⟨a,by have :=b3 d1;omega⟩
 have w1:jE.wrap (d.hv+1)=d.hv+1:=jF _ qJ;have w2:jE.wrap (d.need-1)=d.need-1:=jF _ qJ;generalize hq:d=q at *;obtain⟨n,need,hv,lo,hi⟩:=q;simp only at c0 c1 c2 c3 c4 g1 g2 hn w1 w2 h0 d1 d2;have HQ:=Hd hq;clear h hb d3 d4 hq
 by_cases hl:need=1
 · subst hl;rw[if_pos (show(⟨n,1,hv,lo,hi⟩:Dk).need=1 from rfl)];clear d1 h0
   go_enter Tryz.func69,Tryz.ntmps69
   go_wp2
   go_ret
   rw[Int.mul_comm 64 n];exact⟨_,rfl,qJn (by simp[uN]) (jD _),((((((HD.o.set0 _).set3 _).set4 _).set2 _).set1 _).set2 _).below ((jU _ _).alloc (jD _) _),zN (uU (uU (uU (uU (uU (uU (gA _ _) _) _) _) _) _) _) _⟩
 · rw[if_neg (show ¬(⟨n,need,hv,lo,hi⟩:Dk).need=1 from hl)];have hl1:0<need-1:=by omega
   clear d1
   go_enter Tryz.func69,Tryz.ntmps69
   go_wp2
   go_ret
   rw[Int.mul_comm 64 n];exact⟨_,rfl,fF _ _,((((HD.o.set0 _).set3 _).set4 _).set2 _).set1 _,uU (uU (uU (uU (uU (gA _ _) _) _) _) _) _⟩
end
end Go.Proofs.YtaefcahblmopfaaGreatDoor
