/- Joined by a tool of this claim out of smaller texts. Conditions: as stated. -/
import Derived.Test.YtaefcahblmopfaaGreatDoorDg14
set_option linter.unusedVariables false
set_option linter.unusedSimpArgs false
set_option maxRecDepth 100000
open Go.Lib renaming hid → Hd
open List renaming setIfInBounds_toArray → jZ, set_cons_zero → jX, set_cons_succ → jY, mem_singleton → jW, getElem?_eq_getElem → jN, getElem?_eq_some_iff → jP, length_append → jC, drop_succ_cons → jR, take_succ_cons → jS, drop_zero → jO, take_zero → kK, getD_eq_getElem?_getD → kV, take_succ_eq_append_getElem → kY, mem_append → kM, getElem?_map → uV, map_append → uE, take_of_length_le → vV
open Go.Proofs.Tryz renaming prog → jG
open Go.RowKit.Below renaming refl → jU
open Nat renaming le_refl → jD, le_trans → jI, zero_le → kB, zero_add → kP
open Go.IntWalk renaming i64_in → jF
open Option renaming mem_toList → jT
open Go.IntKind renaming i64 → jE
open Go.World renaming ownsRow → kR, setCell → uB
namespace Go.Proofs.YtaefcahblmopfaaGreatDoor
open Go.RowKit
theorem gb_new{w w2 w3:World}{r:Option Nat}{g:Option Nat}(h1:w.grownBy w2 r)(h2:w2.grownBy w3 g)(hg:∀b,g=some b→w.heap.size≤b):w.grownBy w3 r:=
 ⟨h2.os.trans h1.os,h2.tape.trans h1.tape,h2.output.trans h1.output,jI h1.size h2.size,fun k hk hr=>(h2.block k (Nat.lt_of_lt_of_le hk h1.size) (fun e=>by have :=hg k e.symm;omega)).trans (h1.block k hk hr)⟩
section
variable {w:World}{v:Zv}{p:Pz}
set_option maxHeartbeats 1600000 in
theorem Ui(h:zQ w v p):Calls jG 66 #[.pointer (some ⟨v.P,9,none⟩)] w (sC v p (wR p.dec) w):=by
 obtain⟨c0,f0⟩:=at_ h 9 (.int .i32 p.dec.n) rfl;obtain⟨c1,f1⟩:=at_ h 10 (.int .i64 p.dec.need) rfl;obtain⟨c2,f2⟩:=at_ h 11 (.int .i64 p.dec.hv) rfl;obtain⟨c3,f3⟩:=at_ h 12 (.int .u8 p.dec.lo) rfl;obtain⟨c4,f4⟩:=at_ h 13 (.int .u8 p.dec.hi) rfl;have HD:=Hd h;clear h;unfold wR
 by_cases hz:p.dec.hv=0
 · rw[if_pos hz];rw[hz]at c2;clear hz
   go_enter Tryz.func66,Tryz.ntmps66
   go_wp2
   go_ret
   exact⟨_,rfl,xI _ _,HD.o,zY _ _⟩
 · rw[if_neg hz];generalize hq:p.dec.hv=q at c2 hz;clear hq
   go_enter Tryz.func66,Tryz.ntmps66
   go_upto_region 4 with fail
   have HP:=Hd (((((HD.o.d0 0).d1 0).d2 0).d3 0).d4 0);have HG:=Hd (vU (vU (vU (vU (vU (zY w (some v.P)) (i:=9) (.int .i32 0)) (i:=10) (.int .i64 0)) (i:=11) (.int .i64 0)) (i:=12) (.int .u8 0)) (i:=13) (.int .u8 0));generalize hW:((((w.setCell ⟨v.P,9,none⟩ (.int .i32 0)).setCell ⟨v.P,10,none⟩ (.int .i64 0)).setCell ⟨v.P,11,none⟩ (.int .i64 0)).setCell ⟨v.P,12,none⟩ (.int .u8 0)).setCell ⟨v.P,13,none⟩ (.int .u8 0)=w1 at HP HG ⊢;clear hW
   go_wp2
   go_ret
   exact⟨_,rfl,KH HG.o.size,HP.o.below ((jU _ w1).alloc (jD _) _),dK HG.o _⟩
theorem yD{P:Program}{ops:Array Oper}{rest:List Oper}{o:Oper}{a:Act}{w:World}{Q:Exit→Act→World→Prop}(hg:o.guard=none)(f:FuncId)(args:Array Value)(hrun:(execOp a.eval o).run P w=.ok (.enter f args) w)
 {R:Value→World→Prop} (hc:Calls P f args w (fun e w'=>∃v,e=.returned v∧R v w')) (h:∀v w',R v w'→wpList P ops Q rest (a.put o.dst v) w'):wpList P ops Q (o::rest) a w:=by
 refine wpList_plain hg fun K hK=>?_;unfold Oper.wp;rw[hrun,Oper.upon_enter];refine hc.mono fun e w'' hh=>?_;obtain⟨v,rfl,hr⟩:=hh;exact hK _ _ (h _ _ hr)
theorem dH{P:Program}{ops:Array Oper}{rest:List Oper}{o:Oper}{a:Act}{w:World}{Q:Exit→Act→World→Prop}(hgd:o.guard=none)(s x:Operand)(t:TypeId)
 (ho:o.op=.call {callee:=.builtin .append,args:=#[s,x],argTypes:=#[t,t]}) {e:TypeId} {i:TypeInfo} (ht:P.underlying t=some (.slice e)) (hi:P.info? e=some i) (g:Option Addr) (n cap:Nat) (hn:n≤cap) (hng:g=none→n=0∧cap=0) (X:Option Addr) (c:Nat)
 (hs:a.eval s=.slice g n cap) (hx:a.eval x=.slice X 0 c) (h:wpList P ops Q rest (a.put o.dst (.slice g n cap)) w):wpList P ops Q (o::rest) a w:=by
 refine wpList_plain hgd fun K hK=>?_;have hr:(Builtin.append_ #[t,t] o.type #[.slice g n cap,.slice X 0 c]).run P w=.ok (.slice g n cap) w:=by
  cases g with
  |none=>obtain⟨rfl,rfl⟩:=hng rfl;cases X<;>simp[Builtin.append_,run_underlying ht,sizeOf,typeInfo,hi,Builtin.lenOf,Builtin.firstCells,loadCells,loadCellsFrom,storeCells]
  |some g=>cases X<;>simp[Builtin.append_,run_underlying ht,sizeOf,typeInfo,hi,Builtin.lenOf,Builtin.firstCells,loadCells,loadCellsFrom,hn,storeCells]
 unfold Oper.wp execOp;simp only[ho,resolve,invoke,builtin,Sem.run_bind,Sem.run_pure,Result.andThen_ok,List.map_toArray,List.map_cons,List.map_nil,hs,hx,hr];exact hK _ _ h
theorem rs_new{w:World}{r:Int}{lo k:Nat}(hk:w.heap.size=k)(h:lo≤k):Kf (w.alloc (.cells #[.int .i32 r] 21)) lo (.slice (some ⟨k,0,none⟩) 1 1) [r]:=by subst hk;exact KH h
theorem Yo(d:Dk)(c:Int):(bQ d c).1=[]∨∃r,(bQ d c).1=[r]:=by
 unfold bQ
 split
 · exact .inr ⟨_,rfl⟩
 split
 · exact .inr ⟨_,rfl⟩
 · exact .inl rfl
theorem qJ0:(jG.info? 21).map (fun i=>(i.zero,i.size,i.bytes))=some (some (.int .i32 0),1,4):=by kernel_rfl
set_option maxHeartbeats 1600000 in
theorem xZ(h:zQ w v p)(hd:DkOk p.dec)(c:Int)(hc:0≤c∧c≤255):
 Calls jG 69 #[.pointer (some ⟨v.P,9,none⟩),.int .u8 c] w (sC v p (bF p.dec c) w):=by
 obtain⟨c0,f0⟩:=at_ h 9 (.int .i32 p.dec.n) rfl;obtain⟨c1,f1⟩:=at_ h 10 (.int .i64 p.dec.need) rfl;obtain⟨c2,f2⟩:=at_ h 11 (.int .i64 p.dec.hv) rfl;obtain⟨c3,f3⟩:=at_ h 12 (.int .u8 p.dec.lo) rfl;obtain⟨c4,f4⟩:=at_ h 13 (.int .u8 p.dec.hi) rfl;have HD:=Hd h;have hP:=h.lt;unfold bF
 by_cases h0:p.dec.need=0
 · rw[if_pos h0];rw[h0]at c1;have HB:=Hd (xX h c hc);generalize bQ p.dec c=X at HB ⊢;clear h h0 hd hc
   go_enter Tryz.func69,Tryz.ntmps69
   go_wp2_with(go_at_call 117;(with_reducible refine HB.o.mono ?_);rintro e w1 ⟨u,rfl,hu⟩;have HU:=Hd hu;clear hu)
   go_ret
   exact⟨u,rfl,HU.o⟩
 rw[if_neg h0]
 by_cases hb:c<p.dec.lo∨p.dec.hi<c
 · rw[if_pos hb];obtain⟨w1,hw1⟩:∃w1,(w.setCell ⟨v.P,10,none⟩ (.int .i64 0)).setCell ⟨v.P,11,none⟩ (.int .i64 0)=w1:=⟨_,rfl⟩;have hP1:zQ w1 v {p with dec:=lI p.dec}:=by rw[←hw1];exact(h.d1 0).d2 0
   have hg1:w.grownBy w1 (some v.P):=by rw[←hw1];exact vU (vU (zY w (some v.P)) _) _
   have hs1:w1.heap.size=w.heap.size:=by rw[←hw1];simp[uB]
   have hA:Below w1.heap.size w1 (w1.alloc (.cells #[.int .i32 65533] 21)):=(jU _ w1).alloc (jD _) _;have HB:=Hd (xX (hP1.below hA) c hc);have hl:=Yo (lI p.dec) c;have hX:∀p':Pz,p'={p with dec:=lI p.dec}→bQ p'.dec c=bQ (lI p.dec) c:=fun p' e=>by rw[e]
   have HB2:Hid (Calls jG 117 #[.pointer (some ⟨v.P,9,none⟩),.int .u8 c] (w1.alloc (.cells #[.int .i32 65533] 21)) (sC v p (bQ (lI p.dec) c) (w1.alloc (.cells #[.int .i32 65533] 21)))):=HB;clear HB hX;generalize bQ (lI p.dec) c=X at HB2 hl ⊢;have HL0:Hid ((w1.alloc (.cells #[.int .i32 65533] 21)).ownsRow w.heap.size 21 1 (.slice (some ⟨w1.heap.size,0,none⟩) 1 1) 1 [.int .i32 65533]):=Hd (aK (n:=1) (cs:=[.int .i32 65533]) rfl qJ qU);have HGA:Hid (w.grownBy (w1.alloc (.cells #[.int .i32 65533] 21)) (some v.P)):=Hd (dK hg1 _);have hsA:(w1.alloc (.cells #[.int .i32 65533] 21)).heap.size=w1.heap.size+1:=World.size_alloc _ _;generalize p.dec.need=q at c1 h0;generalize p.dec.lo=lo at c3 hb;generalize p.dec.hi=hi at c4 hb;clear h hd hc hP1 hg1 hA;obtain⟨i0,hi0,hz0,hz1,hz2⟩:=info_parts qJ0;have hne:=Hd (show v.P≠w1.heap.size by omega);have hle:=Hd (show w.heap.size≤w1.heap.size by omega);clear hs1 hsA;obtain⟨X1,X2⟩:=X;have hl:X1=[]∨∃r,X1=[r]:=hl;rcases hl with rfl|⟨r,rfl⟩
   · go_enter Tryz.func69,Tryz.ntmps69
     go_upto_region 7 with fail
     all_goals
      refine wp_region_lit ?_;refine uP (.slice (some ⟨w1.heap.size,0,none⟩) 1 1) (w1.alloc (.cells #[.int .i32 65533] 21)) qK qX ?_;simp only[Act.put,jZ,jX,jY];refine jB (.pointer (some ⟨v.P,9,none⟩)) qK qK ?_;simp only[Act.put,jZ,jX,jY];refine jB (.int .u8 c) qK qK ?_;simp only[Act.put,jZ,jX,jY];refine yD rfl 117 #[.pointer (some ⟨v.P,9,none⟩),.int .u8 c] qX HB2.o ?_;rintro u w2 ⟨hr,hp,hg⟩;obtain⟨A,cap,rfl⟩:=uI hr;have HP2:=Hd hp;have HG2:=Hd hg;have HL2:Hid (w2.ownsRow w.heap.size 21 1 (.slice (some ⟨w1.heap.size,0,none⟩) 1 1) 1 [.int .i32 65533]):=Hd (kC HL0.o (Mod.of_grown (X:=[v.P]) hg (fun g hg=>by injection hg with hg;simp[hg])) (fun g hg hx=>hne.o (by rw[←jW.1 hx];injection hg with hg;exact hg.symm)));simp only[Act.put,jZ,jX,jY];clear hr hp hg;refine dH rfl (.tmp 35) (.tmp 38) 136 rfl (e:=21) (i:=i0) Tryz.underlying136 hi0 (some ⟨w1.heap.size,0,none⟩) 1 1 (jD _) (fun h=>by cases h) A cap rfl rfl ?_;simp only[Act.put,jZ,jX,jY]
      go_wp2
      go_ret
      exact⟨_,rfl,HL2.o,HP2.o,ZN HGA.o HG2.o⟩
   · go_enter Tryz.func69,Tryz.ntmps69
     go_upto_region 7 with fail
     all_goals
      refine wp_region_lit ?_;refine uP (.slice (some ⟨w1.heap.size,0,none⟩) 1 1) (w1.alloc (.cells #[.int .i32 65533] 21)) qK qX ?_;simp only[Act.put,jZ,jX,jY];refine jB (.pointer (some ⟨v.P,9,none⟩)) qK qK ?_;simp only[Act.put,jZ,jX,jY];refine jB (.int .u8 c) qK qK ?_;simp only[Act.put,jZ,jX,jY];refine yD rfl 117 #[.pointer (some ⟨v.P,9,none⟩),.int .u8 c] qX HB2.o ?_;rintro u w2 ⟨hr,hp,hg⟩;obtain⟨A,cap,rfl⟩:=uI hr;have HP2:=Hd hp;have HG2:=Hd hg;have HL2:Hid (w2.ownsRow w.heap.size 21 1 (.slice (some ⟨w1.heap.size,0,none⟩) 1 1) 1 [.int .i32 65533]):=Hd (kC HL0.o (Mod.of_grown (X:=[v.P]) hg (fun g hg=>by injection hg with hg;simp[hg])) (fun g hg hx=>hne.o (by rw[←jW.1 hx];injection hg with hg;exact hg.symm)));simp only[Act.put,jZ,jX,jY];obtain⟨b,k,he⟩:=gV hr qV;obtain rfl:A=some ⟨b,0,none⟩:=by injection he
      clear he;have hcells:=kR.cells hr (g:=b) rfl;clear hr hp hg;refine vW rfl (.tmp 35) (.tmp 38) 136 rfl w.heap.size 21 i0 _ 1 4 Tryz.underlying136 hi0 hz0 hz1 hz2 rfl qZ (.slice (some ⟨w1.heap.size,0,none⟩) 1 1) 1 [.int .i32 65533] rfl HL2.o ⟨b,0,none⟩ 1 cap [.int .i32 r] rfl rfl hcells (fun u hu=>by rw[jW.1 hu];rfl) qU qJ (jI HGA.o.size HG2.o.size) ?_;intro v' w3 h1 h2 h3;obtain⟨A',c',rfl⟩:=uI h1;have H1:=Hd h1;have H2:Hid (w2.grownBy w3 (some w1.heap.size)):=Hd h2;clear h1 h2 h3 hcells;simp only[Act.put,jZ,jX,jY]
      go_wp2
      go_ret
      exact⟨_,rfl,H1.o,HP2.o.keep H2.o (fun e=>hne.o (by injection e with e;exact e.symm)),gb_new (ZN HGA.o HG2.o) H2.o (fun b hb=>by injection hb with hb;rw[←hb];exact hle.o)⟩
 rw[if_neg hb];obtain⟨d1,d2,d3,d4⟩:=hd;have g1:¬c<p.dec.lo:=by omega
 have g2:¬p.dec.hi<c:=by omega
 have hn:0≤p.dec.n∧p.dec.n<32768:=by
  rcases d3 with d3|⟨a,b1,b2,b3⟩
  · exact absurd d3 h0
  · rcases d1 with d1|d1|d1|d1
    · exact absurd d1 h0
    · exact⟨a,b1 d1⟩
    · exact⟨a,by have :=b2 d1;omega⟩
    · exact⟨a,by have :=b3 d1;omega⟩
 have w1:jE.wrap (p.dec.hv+1)=p.dec.hv+1:=jF _ qJ;have w2:jE.wrap (p.dec.need-1)=p.dec.need-1:=jF _ qJ;generalize hq:p.dec=q at *;obtain⟨n,need,hv,lo,hi⟩:=q;simp only at c0 c1 c2 c3 c4 g1 g2 hn w1 w2 h0 d1 d2;have HQ:=Hd hq;clear h hb d3 d4 hq
 by_cases hl:need=1
 · subst hl;rw[if_pos (show(⟨n,1,hv,lo,hi⟩:Dk).need=1 from rfl)];clear d1 h0
   go_enter Tryz.func69,Tryz.ntmps69
   go_wp2
   go_ret
   rw[Int.mul_comm 64 n];exact⟨_,rfl,rs_new (by simp[uB]) (jD _),((((((HD.o.d0 _).d3 _).d4 _).d2 _).d1 _).d2 _).below ((jU _ _).alloc (jD _) _),dK (vU (vU (vU (vU (vU (vU (zY _ _) _) _) _) _) _) _) _⟩
 · rw[if_neg (show ¬(⟨n,need,hv,lo,hi⟩:Dk).need=1 from hl)];have hl1:0<need-1:=by omega
   clear d1
   go_enter Tryz.func69,Tryz.ntmps69
   go_wp2
   go_ret
   rw[Int.mul_comm 64 n];exact⟨_,rfl,xI _ _,((((HD.o.d0 _).d3 _).d4 _).d2 _).d1 _,vU (vU (vU (vU (vU (zY _ _) _) _) _) _) _⟩
end
theorem mS{w:World}{base:Nat}{v:Value}{xs:List Int}(h:w.ownsRow base 5 1 v xs.length (bV xs)):(convert 23 9 v).run jG w=.ok (.string (strOfNums xs)) w:=by
 rcases h.2 with⟨rfl,h0⟩|⟨g,cap,cur,rfl,-⟩
 · obtain rfl:xs=[]:=List.eq_nil_of_length_eq_zero h0;exact run_convert_bytes_nil w 23 5 Tryz.underlying23 Tryz.underlying5 0 0 9 Tryz.underlying9
 · refine run_convert_bytes_arg w 23 5 Tryz.underlying23 Tryz.underlying5 g 0 xs.length cap xs rfl (fun i hi=>?_) 9 Tryz.underlying9;have :=kR.cells h (g:=g) rfl i (.int .u8 (xs.getD i 0)) (by unfold bV;rw[uV,jN hi,kV,jN hi];rfl);rw[vC,kP]at this;rw[kP];exact this
theorem ExsO.lit{w:World}{lo:Nat}{x:Ex}(hlo:lo≤w.heap.size)(h:ExOk w lo x):ExsO (w.alloc (.cells (zF x).toArray 83)) lo (.slice (some ⟨w.heap.size,0,none⟩) 1 1) [x] [x.e]:=
 ⟨aK (n:=1) (cs:=zF x) rfl hlo qU,rfl,fun y hy=>by rw[jW.1 hy];exact h.below (jH (jU _ _) _)⟩
theorem pE.ev{base:Nat}{w:World}{v:Zv}{p':Pz}{w':World}(h:yC base w v p' w'):pI base w v (p',[]) (.returned (.slice none 0 0)) w':=⟨_,[],rfl,ExsO.nil _ _,h⟩
theorem pI.mk{base:Nat}{w w1 w2:World}{v:Zv}{p':Pz}{u:Value}{L:List Ex}{evs:List Ev}(h:PzO base w v p')(hb:Below w.heap.size w w1)(hx:ExsO w1 w.heap.size u L evs){p2:Pz}(hr:yC base w1 v p2 w2):pI base w v (p2,evs) (.returned u) w2:=by
 refine⟨u,L,rfl,?_,yC.pre hb hr⟩;obtain⟨v',-,-,hm,-⟩:=hr;exact hx.mod hm (fun b hb=>.inl (h.lt b hb).2)
section
variable {base:Nat}{w:World}{v:Zv}{p:Pz}
set_option maxHeartbeats 1600000 in
theorem xV(h:PzO base w v p)(c:Int):Calls jG 115 #[.pointer (some ⟨v.P,0,none⟩),.int .u8 c] w (pI base w v (bL p c)):=by
 obtain⟨A1,cap1,hv1⟩:=uI (h.row 1 qJ);obtain⟨-,-,⟨c2,f2⟩,-,-,⟨c5,f5⟩,-,-,-⟩:=h.blk.facts;have hcv:(convert 23 9 (.slice A1 (p.r 1).length cap1)).run jG w=.ok (.string (strOfNums p.inter)) w:=by rw[←hv1];exact mS (h.row 1 qJ)
 rw[hv1]at c2;have HO:=Hd h;have HE:Hid (∀W,Below w.heap.size w W→∀s:Int,Calls jG 67 #[.pointer (some ⟨v.P,0,none⟩),.int .i64 s] W (pE base W v (gX p s))):=Hd (fun W hb s=>eX (h.below hb) s);have e1:p.inter.length=(p.r 1).length:=rfl;unfold bL;rw[e1];generalize hN:(p.r 1).length=n at c2 hcv ⊢;clear h hv1 e1;have HB0:Hid (Below w.heap.size w w):=Hd (jU _ _)
 by_cases hq:n=0∧p.wrong=false
 · obtain⟨rfl,hw⟩:=hq;rw[hw]at c5
   by_cases k1:c=91
   · subst k1;rw[if_pos ⟨rfl,hw,rfl⟩];clear hcv hN hw
     go_enter Tryz.func115,Tryz.ntmps115
     go_wp2_with(go_at_call 67;(with_reducible refine(HE.o _ HB0.o _).mono ?_);rintro e w1 ⟨rfl,hr⟩;have HR:=Hd hr;clear hr)
     go_ret
     exact pE.ev HR.o
   rw[if_neg (fun h=>k1 h.2.2)]
   by_cases k2:c=93
   · subst k2;rw[if_pos ⟨rfl,hw,rfl⟩];clear hcv hN hw
     go_enter Tryz.func115,Tryz.ntmps115
     go_wp2_with(go_at_call 67;(with_reducible refine(HE.o _ HB0.o _).mono ?_);rintro e w1 ⟨rfl,hr⟩;have HR:=Hd hr;clear hr)
     go_ret
     exact pE.ev HR.o
   rw[if_neg (fun h=>k2 h.2.2)]
   by_cases k3:c=80
   · subst k3;rw[if_pos ⟨rfl,hw,rfl⟩];clear hcv hN hw
     go_enter Tryz.func115,Tryz.ntmps115
     go_wp2_with(go_at_call 67;(with_reducible refine(HE.o _ HB0.o _).mono ?_);rintro e w1 ⟨rfl,hr⟩;have HR:=Hd hr;clear hr)
     go_ret
     exact pE.ev HR.o
   rw[if_neg (fun h=>k3 h.2.2)]
   by_cases k4:c=88∨c=94∨c=95
   · rw[if_pos ⟨rfl,hw,k4⟩];clear hcv hN hw;rcases k4 with rfl|rfl|rfl
     all_goals
      go_enter Tryz.func115,Tryz.ntmps115
      go_wp2_with(go_at_call 67;(with_reducible refine(HE.o _ HB0.o _).mono ?_);rintro e w1 ⟨rfl,hr⟩;have HR:=Hd hr;clear hr)
      go_ret
      exact pE.ev HR.o
   rw[if_neg (fun h=>k4 h.2.2)];unfold qJ9;rw[if_neg (by rw[hw];decide)];have k5:¬c=88:=fun e=>k4 (.inl e);have k6:¬c=94:=fun e=>k4 (.inr (.inl e));have k7:¬c=95:=fun e=>k4 (.inr (.inr e));have HX:=Hd (ExsO.lit (w:=w) (jD _) (mP w w.heap.size (e:={evE with kind:=2,byte:=c,inter:=p.inter}) rfl));have HB:=Hd (jH (jU w.heap.size w) (.cells #[.int .i64 2,.int .i32 0,.int .u8 c,.int .u8 0,.slice none 0 0,.string (strOfNums p.inter),.string ⟨#[]⟩,.bool false] 83));clear hw k4
   go_enter Tryz.func115,Tryz.ntmps115
   go_wp2_with(go_at_call 67;(with_reducible refine(HE.o _ HB.o _).mono ?_);rintro e w1 ⟨rfl,hr⟩;have HR:=Hd hr;clear hr)
   go_ret
   exact pI.mk HO.o HB.o HX.o HR.o
 · rw[if_neg (fun h=>hq ⟨h.1,h.2.1⟩),if_neg (fun h=>hq ⟨h.1,h.2.1⟩),if_neg (fun h=>hq ⟨h.1,h.2.1⟩),if_neg (fun h=>hq ⟨h.1,h.2.1⟩)];unfold qJ9
   by_cases hw:p.wrong=true
   · rw[if_pos hw];rw[hw]at c5;clear hcv hN hw hq;have hn0:(n:Int)=0∨¬(n:Int)=0:=by omega
     rcases hn0 with hn0|hn0
     all_goals
      go_enter Tryz.func115,Tryz.ntmps115
      go_wp2_with(go_at_call 67;(with_reducible refine(HE.o _ HB0.o _).mono ?_);rintro e w1 ⟨rfl,hr⟩;have HR:=Hd hr;clear hr)
      go_ret
      exact pE.ev HR.o
   · rw[if_neg hw];have hw2:p.wrong=false:=by cases hq:p.wrong<;>simp_all
     rw[hw2]at c5;have hn0:¬(n:Int)=0:=fun e=>hq ⟨by omega,hw2⟩;have HX:=Hd (ExsO.lit (w:=w) (jD _) (mP w w.heap.size (e:={evE with kind:=2,byte:=c,inter:=p.inter}) rfl));have HB:=Hd (jH (jU w.heap.size w) (.cells #[.int .i64 2,.int .i32 0,.int .u8 c,.int .u8 0,.slice none 0 0,.string (strOfNums p.inter),.string ⟨#[]⟩,.bool false] 83));clear hw hw2 hN hq
     go_enter Tryz.func115,Tryz.ntmps115
     go_wp2_with(go_at_call 67;(with_reducible refine(HE.o _ HB.o _).mono ?_);rintro e w1 ⟨rfl,hr⟩;have HR:=Hd hr;clear hr)
     go_ret
     exact pI.mk HO.o HB.o HX.o HR.o
end
theorem ExOk.bare{w w':World}{lo lo2:Nat}{x:Ex}(h:ExOk w lo x)(h0:x.e.nums=[]):ExOk w' lo2 x:=by
 have hH:x.H=[]:=by
  have :=h.g;rw[h0]at this;exact List.map_eq_nil_iff.1 this
 refine⟨h.g,h.c,h.z,?_⟩;rw[hH];exact⟨fun h=>absurd rfl h,⟨fun h=>absurd h qV,fun h hh=>by cases hh⟩,fun h hh=>by cases hh⟩
theorem YQ:(jG.info? 83).map (fun i=>(i.zero,i.size,i.bytes))=some (some (.agg #[.int .i64 0,.int .i32 0,.int .u8 0,.int .u8 0,.slice none 0 0,.string ⟨#[]⟩,.string ⟨#[]⟩,.bool false]),8,80):=by kernel_rfl
theorem ExsO.len{w:World}{lo:Nat}{u:Value}{L:List Ex}{evs:List Ev}(h:ExsO w lo u L evs):L.length=evs.length:=by rw[←h.es,List.length_map]
theorem ExsO.bare{w:World}{lo:Nat}{u:Value}{L:List Ex}{evs:List Ev}(h:ExsO w lo u L evs)(h0:∀e∈evs,e.nums=[]):∀x∈L,x.e.nums=[]:=fun x hx=>h0 _ (by rw[←h.es];exact List.mem_map_of_mem hx)
theorem cC{ops:Array Oper}{rest:List Oper}{o:Oper}{a:Act}{w:World}{Q:Exit→Act→World→Prop}(hgd:o.guard=none)(s x:Operand)(ho:o.op=.call {callee:=.builtin .append,args:=#[s,x],argTypes:=#[79,79]})
 {lo lo2:Nat} {u u2:Value} {X L:List Ex} {evs evs2:List Ev} (hX:ExsO w lo u X evs) (hL:ExsO w lo2 u2 L evs2) (hlo2:lo≤lo2) (h0:∀e∈evs,e.nums=[]) (h2:(∀e∈evs2,e.nums=[])∨∀g,u.ownBlock=some g→g<lo2) (hz:X.length+L.length≤100000) (hlo:lo≤w.heap.size)
 (hs:a.eval s=u) (hx:a.eval x=u2)
 (h:∀u' w',ExsO w' lo u' (X++L) (evs++evs2)→w.grownBy w' u.ownBlock→(∀g,u'.ownBlock=some g→u.ownBlock=some g∨w.heap.size≤g)→(∀x∈L,ExOk w' lo2 x)→wpList jG ops Q rest (a.put o.dst u') w'):wpList jG ops Q (o::rest) a w:=by
 obtain⟨i0,hi0,hz0,hz1,hz2⟩:=info_parts YQ
 by_cases hn:L=[]
 · subst hn;have e2:evs2=[]:=hL.es.symm;subst e2;obtain⟨A,cap,rfl⟩:=uI hX.own;obtain⟨A2,cap2,rfl⟩:=uI hL.own;have hA:A=none→X.length=0∧cap=0:=fun e=>by
    rcases hX.own.2 with⟨e1,e3⟩|⟨g,c,cur,e1,-⟩
    · exact⟨e3,by injection e1⟩
    · rw[e]at e1;injection e1 with e1;cases e1
   have hcap:X.length≤cap:=by
    rcases hX.own.2 with⟨e1,e3⟩|⟨g,c,cur,e1,-,-,e4,-⟩
    · omega
    · injection e1 with e1 e5 e6;omega
   refine dH hgd s x 79 ho (e:=83) (i:=i0) Tryz.underlying79 hi0 A X.length cap hcap hA A2 cap2 hs hx (h _ _ ?_ ⟨rfl,rfl,rfl,jD _,fun _ _ _=>rfl⟩ (fun g hg=>.inl hg) (fun x hx=>by cases hx));rw[List.append_nil,List.append_nil];exact hX
 · have hpos:0<L.length:=List.length_pos_iff.2 hn;obtain⟨b,cap2,rfl⟩:=gV hL.own hpos;refine vW hgd s x 79 ho lo 83 i0 _ 8 80 Tryz.underlying79 hi0 hz0 hz1 hz2 rfl qZ u X.length (uY zF X) hs hX.own ⟨b,0,none⟩ L.length cap2 (uY zF L) hx (by rw[pW tB]) (kR.cells hL.own (g:=b) rfl) (fun u hu=>?_) qU qJ hlo (fun v' w' h3 h4 h5=>(fun h6=>h v' w' ⟨?_,?_,fun y hy=>?_⟩ h4 h5 h6) (fun y hy=>?_))
   · obtain⟨y,-,hy⟩:=List.mem_flatMap.1 hu;exact tN y u hy
   · rw[uR,jC];exact h3
   · rw[uE,hX.es,hL.es]
   · rcases kM.1 hy with hy|hy
     · exact(hX.ok y hy).bare (hX.bare h0 y hy)
     · exact(h6 y hy).weaken hlo2
   · rcases h2 with h2|h2
     · exact(hL.ok y hy).bare (hL.bare h2 y hy)
     · exact(hL.ok y hy).mod (Mod.of_grown (X:=u.ownBlock.toList) h4 (fun g hg=>by simp[hg])) (fun g hg=>.inl (h2 g (jT.1 hg)))
theorem mZ:∀(a b:List Int) (p:Pz),vJ p (a++b)=((vJ (vJ p a).1 b).1,(vJ p a).2++(vJ (vJ p a).1 b).2)
 |[],_,_=>rfl
 |r::a,b,p=>by
  show vJ p (r::(a++b))=_;simp only[vJ];rw[mZ a b];simp
theorem dD(a:List Int)(r:Int)(p:Pz):vJ p (a++[r])=((print1 (vJ p a).1 r).1,(vJ p a).2++(print1 (vJ p a).1 r).2):=by
 rw[mZ];simp[vJ]
theorem rJ(p:Pz)(c:Int):(∀e∈(bL p c).2,e.nums=[])∧(bL p c).2.length≤1:=by
 unfold bL
 split
 · exact qZl
 split
 · exact qZl
 split
 · exact qZl
 split
 · exact qZl
 · unfold qJ9
   split
   · exact qZl
   · exact qZm
theorem Vp(p:Pz)(r:Int):(∀e∈(print1 p r).2,e.nums=[])∧(print1 p r).2.length≤1:=by
 unfold print1
 split
 · exact qZm
 split
 · exact qZl
 split
 · exact rJ p _
 · exact qZm
theorem zP:∀(l:List Int) (p:Pz),(∀e∈(vJ p l).2,e.nums=[])∧(vJ p l).2.length≤l.length
 |[],_=>⟨fun _ h=>by simp[vJ]at h,by simp[vJ]⟩
 |r::l,p=>by
  obtain⟨a1,a2⟩:=Vp p r;obtain⟨b1,b2⟩:=zP l (print1 p r).1;exact⟨fun e h=>(kM.1 h).elim (a1 e) (b1 e),by simp[vJ];omega⟩
theorem ExsO.keepB{X:List Nat}{w w':World}{lo:Nat}{u:Value}{L:List Ex}{evs:List Ev}(h:ExsO w lo u L evs)(h0:∀e∈evs,e.nums=[])(hm:Mod X w w')(hd:∀b,u.ownBlock=some b→b∉X):ExsO w' lo u L evs:=
 ⟨kC h.own hm hd,h.es,fun x hx=>(h.ok x hx).bare (h.bare h0 x hx)⟩
structure PrI(base:Nat)(w:World)(v:Zv)(p:Pz)(rs:List Int)(wr:World)(u:Value)(k:Nat)(v':Zv)(X:List Ex):Prop where
 P:v'.P=v.P
 o:PzO base wr v' (vJ p (rs.take k)).1
 x:ExsO wr w.heap.size u X (vJ p (rs.take k)).2
 m:Mod (zvX v) w wr
 n:∀b∈zvX v',b∈zvX v∨w.heap.size≤b
 d:∀b,u.ownBlock=some b→b∉zvX v'
section
variable {base:Nat}{w:World}{v:Zv}{p:Pz}{rs:List Int}{wr:World}{u:Value}{k:Nat}{v':Zv}{X:List Ex}
theorem PrI.len(h:PrI base w v p rs wr u k v' X):X.length≤k:=by
 have :=(zP (rs.take k) p).2;rw[h.x.len];exact jI this qY
theorem PrI.res(h:PrI base w v p rs wr u k v' X):yC base w v (vJ p (rs.take k)).1 wr:=⟨v',h.P,h.o,h.m,h.n⟩
theorem PrI.grew(h:PrI base w v p rs wr u k v' X){w1 w2:World}{u':Value}{X':List Ex}{r:Int}(hk:rs[k]? =some r)(hb:Below wr.heap.size wr w1)(hg:w1.grownBy w2 u.ownBlock)(hu:∀g,u'.ownBlock=some g→u.ownBlock=some g∨w1.heap.size≤g)(hp:(print1 (vJ p (rs.take k)).1 r).1=(vJ p (rs.take k)).1)(hx:ExsO w2 w.heap.size u' X' ((vJ p (rs.take k)).2++(print1 (vJ p (rs.take k)).1 r).2)):PrI base w v p rs w2 u' (k+1) v' X':=by
 have ht:rs.take (k+1)=rs.take k++[r]:=by
  obtain⟨h1,h2⟩:=jP.1 hk;rw[kY h1,h2]
 have hm:Mod u.ownBlock.toList wr w2:=(Mod.of_below hb).trans (Mod.of_grown (X:=u.ownBlock.toList) hg (fun g hg=>by simp[hg])) (fun g hg=>.inl hg);refine⟨h.P,?_,by rw[ht,dD];exact hx,(h.m.trans hm (fun g hg=>.inr (h.x.own.lt g (jT.1 hg)).1)),h.n,fun b hb' hx'=>?_⟩
 · rw[ht,dD,hp];exact h.o.mod hm (fun b hb hx=>h.d b (jT.1 hx) hb)
 · rcases hu b hb' with h1|h1
   · exact h.d b h1 hx'
   · have :=(h.o.lt b hx').2;have :=hb.size;omega
theorem PrI.moved(h:PrI base w v p rs wr u k v' X){w1 w2:World}{u':Value}{X':List Ex}{r:Int}{v2:Zv}(hk:rs[k]? =some r)(hP:v2.P=v'.P)(hm1:Mod (zvX v') wr w1)(hx2:∀b∈zvX v2,b∈zvX v'∨wr.heap.size≤b)(hO:PzO base w1 v2 (print1 (vJ p (rs.take k)).1 r).1)(hg:w1.grownBy w2 u.ownBlock)(hu:∀g,u'.ownBlock=some g→u.ownBlock=some g∨w1.heap.size≤g)(hx:ExsO w2 w.heap.size u' X' ((vJ p (rs.take k)).2++(print1 (vJ p (rs.take k)).1 r).2)):PrI base w v p rs w2 u' (k+1) v2 X':=by
 have ht:rs.take (k+1)=rs.take k++[r]:=by
  obtain⟨h1,h2⟩:=jP.1 hk;rw[kY h1,h2]
 have hm2:Mod u.ownBlock.toList w1 w2:=Mod.of_grown (X:=u.ownBlock.toList) hg (fun g hg=>by simp[hg]);have hd2:∀b,u.ownBlock=some b→b∉zvX v2:=fun b hb hx=>by
  rcases hx2 b hx with h1|h1
  · exact h.d b hb h1
  · have :=(h.x.own.lt b hb).2;omega
 refine⟨hP.trans h.P,?_,by rw[ht,dD];exact hx,(h.m.trans hm1 h.n).trans hm2 (fun g hg=>.inr (h.x.own.lt g (jT.1 hg)).1),fun b hb=>?_,fun b hb' hx'=>?_⟩
 · rw[ht,dD];exact hO.mod hm2 (fun b hb hx=>hd2 b (jT.1 hx) hb)
 · rcases hx2 b hb with h1|h1
   · exact h.n b h1
   · exact .inr (jI h.m.size h1)
 · rcases hu b hb' with h1|h1
   · exact hd2 b h1 hx'
   · have :=(hO.lt b hx').2;omega
set_option maxHeartbeats 3200000 in
theorem Kr(h:PzO base w v p){lo:Nat}(hr:Kf w lo u rs)(hlo:∀b∈zvX v,b<lo)(hz:rs.length≤1000)(hr0:∀r∈rs,0≤r∧r<2147483648):Calls jG 65 #[.pointer (some ⟨v.P,0,none⟩),u] w (pI base w v (vJ p rs)):=by
 obtain⟨A,cap,rfl⟩:=uI hr;have HR:Hid (∀wr,Mod (zvX v) w wr→∀k,k<rs.length→∃b r,A=some ⟨b,0,none⟩∧rs[k]? =some r∧wr.cell? ⟨b,k,none⟩=some (.int .i32 r)∧0≤r∧r<2147483648):=Hd (fun wr hm k hk=>by
  obtain⟨b,c,he⟩:=gV hr qJ;obtain rfl:A=some ⟨b,0,none⟩:=by injection he
  have h2:=kC hr hm (fun g hg hx=>by have :=hlo g hx;have :=(kR.lt hr g hg).1;omega);have h3:=kR.cells h2 (g:=b) rfl k (.int .i32 (rs[k]'hk)) (by rw[uV,jN hk];rfl);rw[vC,kP]at h3;exact⟨b,rs[k]'hk,rfl,jN hk,h3,hr0 _ (List.getElem_mem hk)⟩)
 have HF:Hid (∀W v' q c,PzO base W v' q→v'.P=v.P→Calls jG 115 #[.pointer (some ⟨v.P,0,none⟩),.int .u8 c] W (pI base W v' (bL q c))):=Hd (fun W v' q c ho e=>by rw[←e];exact xV ho c);have HO:=Hd h;generalize hN:rs.length=n at hz HR ⊢;have HN:=Hd hN;clear h hr hlo hr0 hN
 go_enter Tryz.func65,Tryz.ntmps65
 go_wp2_with fail
 go_loopw [5,10] (fun s5 s10 wr=>∃(k:Nat) (v':Zv) (X:List Ex),s10=.int .i64 k∧k≤n∧PrI base w v p rs wr s5 k v' X) (fun _ s10 _=>n-(intOf s10).toNat)
 case atStart=>exact⟨0,v,[],rfl,kB _,⟨rfl,HO.o,ExsO.nil _ _,Mod.refl _ _,fun _ hb=>.inl hb,fun b hb=>by cases hb⟩⟩
 case round=>
  obtain⟨k,v',X,rfl,hk,hI⟩:=hrel;obtain⟨bx,rfl⟩:∃bx:Value×Unit,u5=bx.1:=⟨(u5,()),rfl⟩;have HI:=Hd hI;have hwk:jE.wrap ((k:Int)+1)=(k:Int)+1:=jF _ qJ;clear hI
  by_cases hlt:k<n
  · have hltI:(k:Int)<(n:Int):=by omega
    obtain⟨b,r,rfl,hrk,hc,hr0,hr1⟩:=HR.o wr HI.o.m k hlt
    by_cases h1:r<32
    · have hw8:IntKind.u8.wrap r=r:=IntWalk.u8_in _ qJ;have e1:print1 (vJ p (rs.take k)).1 r=((vJ p (rs.take k)).1,[{evE with kind:=1,r:=0,byte:=r}]):=if_pos h1
      go_upto_region 7 with fail
      refine wp_region_lit ?_;refine jB (bx.1) qK qK ?_;simp only[Act.put,jZ,jX,jY];refine jB (.int .i32 r) qK qK ?_;simp only[Act.put,jZ,jX,jY];refine jB (.int .u8 r) qK qX ?_;simp only[Act.put,jZ,jX,jY];refine jB (.agg #[.int .i64 1,.int .i32 0,.int .u8 r,.int .u8 0,.slice none 0 0,.string ⟨#[]⟩,.string ⟨#[]⟩,.bool false]) qK qX ?_;simp only[Act.put,jZ,jX,jY];have HL:=Hd (ExsO.lit (w:=wr) (lo:=w.heap.size) HI.o.m.size (mP wr w.heap.size (e:={evE with kind:=1,r:=0,byte:=r}) rfl));have HBA:=Hd (jH (jU wr.heap.size wr) (.cells (zF (ex0 {evE with kind:=1,r:=0,byte:=r})).toArray 83));refine uP (.slice (some ⟨wr.heap.size,0,none⟩) 1 1) (wr.alloc (.cells #[.int .i64 1,.int .i32 0,.int .u8 r,.int .u8 0,.slice none 0 0,.string ⟨#[]⟩,.string ⟨#[]⟩,.bool false] 83)) qK qX ?_;simp only[Act.put,jZ,jX,jY];refine cC rfl (.tmp 22) (.tmp 26) rfl (HI.o.x.below HBA.o) HL.o (jD _) (zP _ _).1 (.inl (fun e he=>by rw[jW.1 he];rfl)) (by have :=HI.o.len;simp;omega) (jI HI.o.m.size HBA.o.size) rfl rfl ?_;intro u' w2 hx hg hu _;have HX2:=Hd (HI.o.grew hrk HBA.o hg hu (by rw[e1]) (by rw[e1];exact hx));clear hx hg hu;simp only[Act.put,jZ,jX,jY]
      go_wp2
      go_roundw
      case rel=>exact⟨k+1,v',_,by go_num,by omega,HX2.o⟩
      case measure=>simp[intOf];omega
    by_cases h2:r=127
    · have e1:print1 (vJ p (rs.take k)).1 r=((vJ p (rs.take k)).1,[]):=by unfold print1;rw[if_neg h1,if_pos h2]
      have HX2:=Hd (HI.o.grew hrk (jU _ _) (w2:=wr) (u':=bx.1) (X':=X) ⟨rfl,rfl,rfl,jD _,fun _ _ _=>rfl⟩ (fun g hg=>.inl hg) (by rw[e1]) (by rw[e1,List.append_nil];exact HI.o.x));subst h2
      go_wp2
      go_roundw
      case rel=>exact⟨k+1,v',_,by go_num,by omega,HX2.o⟩
      case measure=>simp[intOf];omega
    have h1':32≤r:=by omega
    by_cases h3:128≤r∧r<160
    · have e1:print1 (vJ p (rs.take k)).1 r=bL (vJ p (rs.take k)).1 (r-64):=by unfold print1;rw[if_neg h1,if_neg h2,if_pos h3]
      obtain⟨h4,h5⟩:=h3;have hw8:IntKind.u8.wrap r=r:=IntWalk.u8_in _ qJ;have hw9:IntKind.u8.wrap (r-64)=r-64:=IntWalk.u8_in _ qJ
      go_upto_region 10 with fail
      refine wp_region_lit ?_;refine jB (bx.1) qK qK ?_;simp only[Act.put,jZ,jX,jY];refine jB (.pointer (some ⟨v.P,0,none⟩)) qK qK ?_;simp only[Act.put,jZ,jX,jY];refine jB (.int .i32 r) qK qK ?_;simp only[Act.put,jZ,jX,jY];refine jB (.int .u8 r) qK qX ?_;simp only[Act.put,jZ,jX,jY];refine jB (.int .u8 (r-64)) qK qX ?_;simp only[Act.put,jZ,jX,jY];refine yD rfl 115 #[.pointer (some ⟨v.P,0,none⟩),.int .u8 (r-64)] qX (R:=fun u w'=>∃L,ExsO w' wr.heap.size u L (bL (vJ p (rs.take k)).1 (r-64)).2∧yC base wr v' (bL (vJ p (rs.take k)).1 (r-64)).1 w') ((HF.o wr v' _ (r-64) HI.o.o HI.o.P).mono (fun e w' ⟨u,L,he,h1,h2⟩=>⟨u,he,L,h1,h2⟩)) ?_;rintro u2 w2 ⟨L,hL,v2,e2,hO2,hm2,hx2⟩;simp only[Act.put,jZ,jX,jY];refine cC rfl (.tmp 38) (.tmp 43) rfl (HI.o.x.keepB (zP _ _).1 hm2 HI.o.d) hL HI.o.m.size (zP _ _).1 (.inl (rJ _ _).1) (by have :=HI.o.len;have :=(rJ (vJ p (rs.take k)).1 (r-64)).2;have :=hL.len;omega) (jI HI.o.m.size hm2.size) rfl rfl ?_;intro u' w3 hx hg hu _;have HX2:=Hd (HI.o.moved hrk e2 hm2 hx2 (by rw[e1];exact hO2) hg hu (by rw[e1];exact hx));clear hx hg hu hL hO2 hm2 hx2 e2;simp only[Act.put,jZ,jX,jY]
      go_wp2
      go_roundw
      case rel=>exact⟨k+1,v2,_,by go_num,by omega,HX2.o⟩
      case measure=>simp[intOf];omega
    · have e1:print1 (vJ p (rs.take k)).1 r=((vJ p (rs.take k)).1,[{evE with kind:=0,r:=r,byte:=0}]):=by unfold print1;rw[if_neg h1,if_neg h2,if_neg h3];rfl
      have h3I:r<128∨160≤r:=by omega
      rcases h3I with h3I|h3I
      all_goals
       go_upto_region 5 with fail
       refine wp_region_lit ?_;refine jB (bx.1) qK qK ?_;simp only[Act.put,jZ,jX,jY];refine jB (.int .i32 r) qK qK ?_;simp only[Act.put,jZ,jX,jY];refine jB (.agg #[.int .i64 0,.int .i32 r,.int .u8 0,.int .u8 0,.slice none 0 0,.string ⟨#[]⟩,.string ⟨#[]⟩,.bool false]) qK qX ?_;simp only[Act.put,jZ,jX,jY];have HL:=Hd (ExsO.lit (w:=wr) (lo:=w.heap.size) HI.o.m.size (mP wr w.heap.size (e:={evE with kind:=0,r:=r,byte:=0}) rfl));have HBA:=Hd (jH (jU wr.heap.size wr) (.cells (zF (ex0 {evE with kind:=0,r:=r,byte:=0})).toArray 83));refine uP (.slice (some ⟨wr.heap.size,0,none⟩) 1 1) (wr.alloc (.cells #[.int .i64 0,.int .i32 r,.int .u8 0,.int .u8 0,.slice none 0 0,.string ⟨#[]⟩,.string ⟨#[]⟩,.bool false] 83)) qK qX ?_;simp only[Act.put,jZ,jX,jY];refine cC rfl (.tmp 14) (.tmp 17) rfl (HI.o.x.below HBA.o) HL.o (jD _) (zP _ _).1 (.inl (fun e he=>by rw[jW.1 he];rfl)) (by have :=HI.o.len;simp;omega) (jI HI.o.m.size HBA.o.size) rfl rfl ?_;intro u' w2 hx hg hu _;have HX2:=Hd (HI.o.grew hrk HBA.o hg hu (by rw[e1]) (by rw[e1];exact hx));clear hx hg hu;simp only[Act.put,jZ,jX,jY]
       go_wp2
       go_roundw
       case rel=>exact⟨k+1,v',_,by go_num,by omega,HX2.o⟩
       case measure=>simp[intOf];omega
  · have hltI:¬(k:Int)<(n:Int):=by omega
    obtain rfl:k=n:=by omega
    have ht:rs.take k=rs:=vV (by rw[HN.o];omega);have HX:=Hd (show pI base w v (vJ p rs) (.returned bx.1) wr from⟨bx.1,X,rfl,by have :=HI.o.x;rw[ht]at this;exact this,by have :=HI.o.res;rw[ht]at this;exact this⟩)
    go_wp2
    go_ret
    exact HX.o
end
def WhPost(w:World)(ev:Ev)(e:Ending)(w':World):Prop:=∃x:Ex,e=.returned (.agg #[.int .i64 x.e.kind,.int .i32 x.e.r,.int .u8 x.e.byte,.int .u8 x.e.pre,.slice x.A x.H.length x.ca,.string (strOfNums x.e.inter),.string (strOfNums x.e.text),.bool x.e.cut])∧x.e=ev∧ExOk w' w.heap.size x∧Below w.heap.size w w'
def eV:Prop:=∀(base:Nat) (w:World) (v:Zv) (p:Pz) (k c:Int),PzO base w v p→PzOk p→Calls jG 116 #[.pointer (some ⟨v.P,0,none⟩),.int .i64 k,.int .u8 c] w (WhPost w (oU p k c))
section
variable {base:Nat}{w:World}{v:Zv}{p:Pz}
theorem pI.trans{w1 w2:World}{v1:Zv}{x:Pz×List Ev}{e:Ending}(h1:v1.P=v.P∧Mod (zvX v) w w1∧∀b∈zvX v1,b∈zvX v∨w.heap.size≤b)(h:pI base w1 v1 x e w2):pI base w v x e w2:=by
 obtain⟨u,L,he,hx,hr⟩:=h;exact⟨u,L,he,hx.weaken h1.2.1.size,yC.trans h1 hr⟩
theorem yC.at_{p':Pz}{w':World}(h:yC base w v p' w'):∃v1,PzO base w' v1 p'∧v1.P=v.P∧Mod (zvX v) w w'∧∀b∈zvX v1,b∈zvX v∨w.heap.size≤b:=by
 obtain⟨v1,e,h1,h2,h3⟩:=h;exact⟨v1,h1,e,h2,h3⟩
def qK4(w:World)(evs:List Ev)(e:Ending)(w':World):Prop:=∃u L,e=.returned u∧ExsO w' w.heap.size u L evs∧Below w.heap.size w w'
set_option maxHeartbeats 1600000 in
theorem Qn(HW:eV)(h:PzO base w v p)(hok:PzOk p):Calls jG 68 #[.pointer (some ⟨v.P,0,none⟩)] w (qK4 w (mC p)):=by
 obtain⟨A2,cap2,hv2⟩:=uI (h.row 2 qJ);obtain⟨-,-,-,⟨c3,-⟩,⟨c4,-⟩,⟨c5,-⟩,⟨c6,-⟩,-,⟨c8,-⟩⟩:=h.blk.facts;have HCV:Hid (∀w',Below w.heap.size w w'→(convert 23 9 (.slice A2 (p.r 2).length cap2)).run jG w'=.ok (.string (strOfNums p.text)) w'):=Hd (fun w' hb=>by rw[←hv2];exact mS ((h.below hb).row 2 qJ));rw[hv2]at c3;have HO:=Hd h;have HWH:=Hd (HW base w v p 5 p.last h hok);generalize hN:(p.r 2).length=n at c3 HCV;clear h hv2 hok hN;unfold mC
 by_cases h4:p.state=4
 · rw[if_pos h4];rw[h4]at c8;clear h4 HWH c4 c5
   go_enter Tryz.func68,Tryz.ntmps68
   go_upto_region 2 with fail
   refine kH 11 (fun w'=>Below w.heap.size w w'∧w'.cell? ⟨v.P,3,none⟩=some (.slice A2 n cap2)∧w'.cell? ⟨v.P,6,none⟩=some (.bool p.cut)∧(convert 23 9 (.slice A2 n cap2)).run jG w'=.ok (.string (strOfNums p.text)) w') qQ qQ ?_ ?_
   · exact⟨(jU _ _).drew,c3,c6,HCV.o _ ((jU _ _).drew)⟩
   simp only[jS,kK,jR,jO]
   repeat(
    (first
     |refine kF qK ?_
     |(refine kE ?_ qK ?_ ?_;rotate_left;(focus(intro w' hS;obtain⟨_,_,_,_⟩:=hS;go_simp;first|done|with_reducible rfl))))
    simp only[Act.put,jZ,jX,jY])
   refine kO (fun w' hS=>?_);have HX:=Hd (ExsO.lit (w:=w') (lo:=w.heap.size) hS.1.size (mP w' w.heap.size (e:={evE with kind:=4,text:=p.text,cut:=p.cut}) rfl));have HB:=Hd hS.1
   go_wp2
   go_ret
   exact⟨_,_,rfl,HX.o,jH HB.o _⟩
 rw[if_neg h4]
 by_cases h3:p.state=3∧p.last≠0∧p.wrong=false
 · rw[if_pos h3];obtain⟨a1,a2,a3⟩:=h3;rw[a1]at c8;rw[a3]at c5;clear a1 h4 a3
   go_enter Tryz.func68,Tryz.ntmps68
   go_upto_region 4 with fail
   refine wp_region_lit ?_;refine jB (.pointer (some ⟨v.P,0,none⟩)) qK qK ?_;simp only[Act.put,jZ,jX,jY];refine jB (.pointer (some ⟨v.P,0,none⟩)) qK qK ?_;simp only[Act.put,jZ,jX,jY];refine jB (.pointer (some ⟨v.P,0,none⟩)) qK qX ?_;simp only[Act.put,jZ,jX,jY];refine jB (.pointer (some ⟨v.P,0,none⟩)) qK qX ?_;simp only[Act.put,jZ,jX,jY];refine jB (.pointer (some ⟨v.P,4,none⟩)) qK qX ?_;simp only[Act.put,jZ,jX,jY];refine jB (.int .u8 p.last) qK qX ?_;simp only[Act.put,jZ,jX,jY];refine yD rfl 116 #[.pointer (some ⟨v.P,0,none⟩),.int .i64 5,.int .u8 p.last] qX (R:=fun u w'=>∃x:Ex,u=.agg #[.int .i64 x.e.kind,.int .i32 x.e.r,.int .u8 x.e.byte,.int .u8 x.e.pre,.slice x.A x.H.length x.ca,.string (strOfNums x.e.inter),.string (strOfNums x.e.text),.bool x.e.cut]∧x.e=oU p 5 p.last∧ExOk w' w.heap.size x∧Below w.heap.size w w') (HWH.o.mono (fun e w' ⟨x,he,h1⟩=>⟨_,he,x,rfl,h1⟩)) ?_;rintro u w1 ⟨x,rfl,hx1,hx2,hb⟩;have HX:=Hd (ExsO.lit (w:=w1) (lo:=w.heap.size) hb.size hx2);have HB:=Hd hb;have HE:=Hd hx1;clear hx1 hx2 hb;simp only[Act.put,jZ,jX,jY];refine uP (.slice (some ⟨w1.heap.size,0,none⟩) 1 1) (w1.alloc (.cells (zF x).toArray 83)) qK (by go_simp;rfl) ?_;simp only[Act.put,jZ,jX,jY]
   go_wp2
   go_ret
   have h2:=HX.o;rw[HE.o]at h2;exact⟨_,_,rfl,h2,jH HB.o _⟩
 · rw[if_neg h3];have h3I:p.state=3∧p.last=0∨p.state=3∧p.wrong=true∨¬p.state=3:=by
    by_cases a1:p.state=3
    · by_cases a2:p.last=0
      · exact .inl ⟨a1,a2⟩
      · exact .inr (.inl ⟨a1,by cases hq:p.wrong with|false=>exact absurd ⟨a1,a2,hq⟩ h3|true=>rfl⟩)
    · exact .inr (.inr a1)
   clear h3 HWH;rcases h3I with⟨a1,a2⟩|⟨a1,a2⟩|a1
   · rw[a1]at c8;rw[a2]at c4;clear a1 a2 h4
     go_enter Tryz.func68,Tryz.ntmps68
     go_wp2
     all_goals(go_ret;exact⟨_,[],rfl,ExsO.nil _ _,jU _ _⟩)
   · rw[a1]at c8;rw[a2]at c5;clear a1 a2 h4
     go_enter Tryz.func68,Tryz.ntmps68
     go_wp2
     all_goals(go_ret;exact⟨_,[],rfl,ExsO.nil _ _,jU _ _⟩)
   · go_enter Tryz.func68,Tryz.ntmps68
     go_wp2
     all_goals(go_ret;exact⟨_,[],rfl,ExsO.nil _ _,jU _ _⟩)
set_option maxHeartbeats 1600000 in
theorem Kt(h:PzO base w v p)(hok:PzOk p)(c:Int):Calls jG 119 #[.pointer (some ⟨v.P,0,none⟩),.int .u8 c] w (pI base w v (cL p c)):=by
 have HB:=Hd (rN h hok.inter.1 c);have HF:=Hd (xV h c);have hP:=h.blk.lt;clear h hok;unfold cL
 by_cases h1:c<48
 · rw[if_pos h1];clear HF
   go_enter Tryz.func119,Tryz.ntmps119
   go_wp2_with(go_at_call 178;(with_reducible refine HB.o.mono ?_);rintro e w1 ⟨rfl,hr⟩;have HR:=Hd hr;clear hr)
   go_ret
   exact pE.ev HR.o
 · rw[if_neg h1];have h1':48≤c:=by omega
   clear HB
   go_enter Tryz.func119,Tryz.ntmps119
   go_wp2_with(go_at_call 115;(with_reducible refine HF.o.mono ?_);rintro e w1 ⟨u,L,rfl,h2,h3⟩;have HX:=Hd h2;have HR:=Hd h3;clear h2 h3)
   go_ret
   exact⟨u,L,rfl,HX.o,HR.o⟩
set_option maxHeartbeats 1600000 in
theorem QO(HW:eV)(h:PzO base w v p)(hok:PzOk p)(c:Int):Calls jG 120 #[.pointer (some ⟨v.P,0,none⟩),.int .u8 c] w (pI base w v (mW p c)):=by
 have HB:=Hd (rN h hok.inter.1 c);have HN:=Hd (Ks h hok.head.1 c);have HWH:=Hd (HW base w v p 3 c h hok);have HE:Hid (∀W,Below w.heap.size w W→∀s:Int,Calls jG 67 #[.pointer (some ⟨v.P,0,none⟩),.int .i64 s] W (pE base W v (gX p s))):=Hd (fun W hb s=>eX (h.below hb) s);obtain⟨-,-,-,-,⟨c4,f4⟩,⟨c5,-⟩,-,-,⟨c8,-⟩⟩:=h.blk.facts;have HO:=Hd h;have hP:=h.blk.lt;clear h hok;unfold mW
 by_cases h1:c<48
 · rw[if_pos h1];clear HN HWH HE
   go_enter Tryz.func120,Tryz.ntmps120
   go_wp2_with(go_at_call 178;(with_reducible refine HB.o.mono ?_);rintro e w1 ⟨rfl,hr⟩;have HR:=Hd hr;clear hr)
   go_ret
   exact pE.ev HR.o
 rw[if_neg h1];have h1':48≤c:=by omega
 by_cases h2:c<64
 · rw[if_pos h2];clear HB HWH HE
   go_enter Tryz.func120,Tryz.ntmps120
   go_wp2_with(go_at_call 179;(with_reducible refine HN.o.mono ?_);rintro e w1 ⟨rfl,hr⟩;have HR:=Hd hr;clear hr)
   go_ret
   exact pE.ev HR.o
 rw[if_neg h2];have h2':64≤c:=by omega
 by_cases h3:p.state=3
 · rw[if_pos h3];rw[h3]at c8;clear HB HN HWH HE h3
   go_enter Tryz.func120,Tryz.ntmps120
   go_wp2
   go_ret
   exact pE.ev (HO.o.one 4 (.int .u8 c) rfl (fun k hk=>by match k,hk with|0,_=>rfl|1,_=>rfl|2,_=>rfl))
 rw[if_neg h3];unfold csiE;clear HB HN
 by_cases hw:p.wrong=true
 · rw[if_pos hw];rw[hw]at c5;have HB0:Hid (Below w.heap.size w w):=Hd (jU _ _);clear HWH hw
   go_enter Tryz.func120,Tryz.ntmps120
   go_wp2_with(go_at_call 67;(with_reducible refine(HE.o _ HB0.o _).mono ?_);rintro e w1 ⟨rfl,hr⟩;have HR:=Hd hr;clear hr)
   go_ret
   exact pE.ev HR.o
 · rw[if_neg hw];rw[show p.wrong=false by cases hq:p.wrong<;>simp_all]at c5;clear hw
   go_enter Tryz.func120,Tryz.ntmps120
   go_upto_region 12 with fail
   refine wp_region_lit ?_;refine jB (.pointer (some ⟨v.P,0,none⟩)) qK qK ?_;simp only[Act.put,jZ,jX,jY];refine jB (.int .u8 c) qK qK ?_;simp only[Act.put,jZ,jX,jY];refine yD rfl 116 #[.pointer (some ⟨v.P,0,none⟩),.int .i64 3,.int .u8 c] qX (R:=fun u w'=>∃x:Ex,u=.agg #[.int .i64 x.e.kind,.int .i32 x.e.r,.int .u8 x.e.byte,.int .u8 x.e.pre,.slice x.A x.H.length x.ca,.string (strOfNums x.e.inter),.string (strOfNums x.e.text),.bool x.e.cut]∧x.e=oU p 3 c∧ExOk w' w.heap.size x∧Below w.heap.size w w') (HWH.o.mono (fun e w' ⟨x,he,h1⟩=>⟨_,he,x,rfl,h1⟩)) ?_;rintro u w1 ⟨x,rfl,hx1,hx2,hb⟩;have HX:=Hd (ExsO.lit (w:=w1) (lo:=w.heap.size) hb.size hx2);have HB:=Hd (jH hb (.cells (zF x).toArray 83));have HX1:=Hd hx1;clear hx1 hx2 hb;simp only[Act.put,jZ,jX,jY];refine uP (.slice (some ⟨w1.heap.size,0,none⟩) 1 1) (w1.alloc (.cells (zF x).toArray 83)) qK (by go_simp;rfl) ?_;simp only[Act.put,jZ,jX,jY]
   go_wp2_with(go_at_call 67;(with_reducible refine(HE.o _ HB.o _).mono ?_);rintro e w2 ⟨rfl,hr⟩;have HR:=Hd hr;clear hr)
   go_ret
   have :=pI.mk HO.o HB.o HX.o HR.o;rw[HX1.o]at this;exact this
end
end Go.Proofs.YtaefcahblmopfaaGreatDoor
