/- Joined by a tool of this claim out of smaller texts. Conditions: as stated. -/
import Derived.Test.YtaefcahblmopfaaGreatDoorRows
import Derived.WalkKit
import Derived.WalkSpells
import Derived.WalkLawsBesides
import Derived.Lib.Hide
import Derived.Outline
import Derived.Laws.ShiftsVarLaws
import Derived.Laws.AppendOwn
import Derived.Maps.AppendAt
import Derived.ProofKit
set_option linter.unusedVariables false
set_option linter.unusedSimpArgs false
set_option maxRecDepth 100000
theorem Go.RowKit.Hid.o{P:Prop}(h:Go.RowKit.Hid P):P:=h.out
theorem qQ{P:Prop}(h:P:=by kernel_rfl):P:=h
theorem qJ{P:Prop}(h:P:=by omega):P:=h
theorem qK{P:Prop}(h:P:=by rfl):P:=h
theorem qV{P:Prop}(h:P:=by simp):P:=h
theorem qZ{P:Prop}(h:P:=by decide):P:=h
theorem qX{P:Prop}(h:P:=by go_simp):P:=h
theorem qY{P:Prop}(h:P:=by simp;omega):P:=h
theorem qG{P:Prop}(h:P:=by simp only[maxLen];have :=HP.o;omega):P:=h
theorem qU{P:Prop}(h:P:=by unfold maxLen;omega):P:=h
theorem qH{P:Prop}(h:P:=by simpa using hj):P:=h
theorem qW{P:Prop}(h:P:=by unfold ClO;rw[uR,jC];exact ho):P:=h
theorem qM{P:Prop}(h:P:=by intro w';go_simp;done):P:=h
theorem qN{P:Prop}(h:P:=by simp only[kQ,kL,gM,gY,vB];go_simp;try rfl):P:=h
theorem qB{P:Prop}(h:P:=by simp only[kQ];go_simp):P:=h
theorem qP{P:Prop}(h:P:=by rw[HDR.o,jC,HP.o];simp):P:=h
theorem qC{P:Prop}(h:P:=by rw[yQ hl X i x j hi (by have :=(jP.1 hj).1;rw[hl]at this;exact this)];exact hj):P:=h
theorem qD{P:Prop}(h:P:=by have :=HP.o;omega):P:=h
theorem qF{P:Prop}(h:P:=by have :=HBE.o.size;simp;omega):P:=h
theorem qL{P:Prop}(h:P:=by have :=congrArg List.length HR.o;unfold bZ at this;simp only[List.length_map,kS]at this;have :=HLL.o;omega):P:=h
theorem qR{P:Prop}(h:P:=by rw[kS];omega):P:=h
theorem qS{P:Prop}(h:P:=by rw[←jW.1 hx];exact hb):P:=h
theorem qT{P:Prop}(h:P:=by simpa using h):P:=h
theorem qA{P:Prop}(h:P:=by have h1:=jL HX.o;have h2:=jL HY.o;omega):P:=h
theorem qE{P:Prop}(h:P:=by as_aux_lemma=>kernel_rfl):P:=h
theorem qI{P:Prop}(h:P:=by simp[gK]):P:=h
theorem qO{P:Prop}(h:P:=by simp only[maxLen];omega):P:=h
theorem jQ{P:Prop}(h:P:=by simp <;>omega):P:=h
theorem jJ{P:Prop}(h:P:=by rw[List.length_drop];omega):P:=h
theorem jK{P:Prop}(h:P:=by have h1:=hJ.o;have h2:=HJ.o;omega):P:=h
theorem jV{P:Prop}(h:P:=by have :=HB.o.size;have :=HB3.o.size;have :=jL HTab.o;have :=HTB'.o;omega):P:=h
theorem qVa{P:Prop}(h:P:=by rw[HV.o,HNV.o,if_pos (by have :=HI1.o;omega)]):P:=h
theorem qVb{P:Prop}(h:P:=by rw[HV.o,HNV.o,if_neg (by have :=HI1.o;omega),if_neg (by decide)];rfl):P:=h
theorem qVc{P:Prop}(h:P:=by rw[h]at hr;cases hr):P:=h
theorem qVd{P:Prop}(h:P:=by rw[HP.o];exact jD _):P:=h
theorem qVe{P:Prop}(h:P:=by rw[List.getElem?_modify,HC.o];have :=HJ.o;simp[show j≠k by omega]):P:=h
theorem qVf{P:Prop}(h:P:=by have :=(jP.1 hj).1;rw[hl]at this;exact this):P:=h
theorem qVg{P:Prop}(h:P:=by rw[HVk.o,HXD.o];simp only[iE];rw[if_neg hl]):P:=h
theorem qVh{P:Prop}(h:P:=by have :=HI1.o;omega):P:=h
theorem qVi{P:Prop}(h:P:=by rw[←HG2.o.1,←HG2.o.2];exact kA (kA HX12.o 2 _ rfl) 3 _ rfl):P:=h
theorem qVj{P:Prop}(h:P:=by rw[←HG1.o.1,←HG1.o.2];exact kA (kA HX9.o 0 _ rfl) 1 _ rfl):P:=h
theorem qVk{P:Prop}(h:P:=by have :=HSZ.o;simp at *;omega):P:=h
theorem qVl{P:Prop}(h:P:=by rw[getD_replicate_false]at hl;cases hl):P:=h
theorem qVm{P:Prop}(h:P:=by have :=HNB.o;have :=HC0.o;simp;omega):P:=h
theorem qVn{P:Prop}(h:P:=by rw[hl,Nat.add_mul];omega):P:=h
theorem qVo{P:Prop}(h:P:=by rw[←hW12];exact jA rfl):P:=h
theorem qVp{P:Prop}(h:P:=by rw[←hA.o];exact HX17.o):P:=h
theorem qVq{P:Prop}(h:P:=by rw[HK.o];exact hlt):P:=h
theorem qVr{P:Prop}(h:P:=by simp[pgX]):P:=h
theorem qVs{P:Prop}(h:P:=by rw[←jW.1 hx];exact hg):P:=h
theorem qVt{P:Prop}(h:P:=by simpa[jT]using hb):P:=h
theorem qVu{P:Prop}(h:P:=by intro e;cases e;omega):P:=h
theorem qVv{P:Prop}(h:P:=by rw[uN];exact hz):P:=h
theorem qVw{P:Prop}(h:P:=by simp[Value.oneCell']):P:=h
theorem qVx{P:Prop}(h:P:=by have :=HLZ.o.2;omega):P:=h
theorem qVy{P:Prop}(h:P:=by have :=HBW.o.size;simp;omega):P:=h
theorem qVz{P:Prop}(h:P:=by rw[hv];simp[Value.ownBlock]):P:=h
theorem qV0{P:Prop}(h:P:=by simp[size_madeCells];omega):P:=h
theorem qV1{P:Prop}(h:P:=by rw[World.size_alloc];omega):P:=h
theorem qV2{P:Prop}(h:P:=by have :=HLL.o;omega):P:=h
theorem qV3{P:Prop}(h:P:=by simp[uF]):P:=h
theorem qV4{P:Prop}(h:P:=by simpa using e):P:=h
theorem qV5{P:Prop}(h:P:=by have :=HM.o;omega):P:=h
theorem qV6{P:Prop}(h:P:=by show 8≤8;decide):P:=h
theorem qV7{P:Prop}(h:P:=by exact absurd hj (tail_waits hs hc hn inv _ i rfl hin hun j h)):P:=h
theorem qV8{P:Prop}(h:P:=by exact⟨g,cap,rfl,HC.o,hb⟩):P:=h
theorem qV9{P:Prop}(h:P:=by exact⟨rfl,H.o.below HB.o,Mod.of_below HB.o⟩):P:=h
theorem qZa{P:Prop}(h:P:=by exact⟨fun h=>by have :=this.1 h;simp;omega,fun h=>by omega⟩):P:=h
theorem qZb{P:Prop}(h:P:=by exact⟨rfl,HO2.o.more (by rw[List.length_modify];exact hkl) m |>.len qV,HM2.o.setCell (a:=⟨g,k*8+1,none⟩) (.inl qV) (.string m)⟩):P:=h
theorem qZc{P:Prop}(h:P:=by exact⟨_,w2,mB _ _ _ rfl _ _ _ rfl rfl hr,⟨g,cap,rfl⟩,⟨g,cap,rfl,.of_own hc H.o.1 H.o.2.1 cont,jI (jM HB.o hS.1).size hc.lt.1⟩,hb⟩):P:=h
theorem qZd{P:Prop}(h:P:=by exact .inr (jI hm.size h)):P:=h
theorem qZe{P:Prop}(h:P:=by exact vX h.blk hc qZ rfl):P:=h
theorem qZf{P:Prop}(h:P:=by exact⟨rfl,HS.o.pre HB.o⟩):P:=h
theorem qZg{P:Prop}(h:P:=by exact⟨(jU _ _).drew,x0,x1,x2⟩):P:=h
theorem qZh{P:Prop}(h:P:=by exact⟨rfl,(jU _ _).alloc (jD _) _⟩):P:=h
theorem qZi{P:Prop}(h:P:=by exact h.page.mod hM (fun b hb cs f he=>by rw[jW.1 hb]at he;exact vX h.blk he qZ rfl) (fun b hb hx=>h.np qS)):P:=h
theorem qZj{P:Prop}(h:P:=by exact⟨_,rfl,rfl,((((HD.o.set0 _).set1 _).set2 _).set3 _).set4 _,vU (vU (vU (vU (vU (zY _ _) _) _) _) _) _⟩):P:=h
theorem qZk{P:Prop}(h:P:=by exact⟨_,rfl,xI _ _,((((HD.o.d0 _).d1 _).d2 _).d3 _).d4 _,vU (vU (vU (vU (vU (zY _ _) _) _) _) _) _⟩):P:=h
theorem qZl{P:Prop}(h:P:=by exact⟨fun _ h=>by simp at h,by simp⟩):P:=h
theorem qZm{P:Prop}(h:P:=by exact⟨fun e h=>by rw[jW.1 h];rfl,by simp⟩):P:=h
theorem qZn{P:Prop}(h:P:=by exact⟨by simp,fun r h=>by rw[jW.1 h];omega⟩):P:=h
theorem qZo{P:Prop}(h:P:=by exact⟨rfl,_,_,_,HW.o,HG3.o,HO3.o,fun g hg=>(HV3.o g hg).imp id (fun h=>by omega),HB3.o,rfl⟩):P:=h
theorem qZp{P:Prop}(h:P:=by exact bodyPost_ret (bY rfl _ _ (w.heap.size+1) (aL ⟨g1,g2,g3,g4,FB⟩) rfl (uU hw) Tryz.underlying63 rfl pD) rfl ⟨rfl,yN HB.o qJ _ _⟩):P:=h
theorem qZq{P:Prop}(h:P:=by exact bodyPost_ret (pH rfl _ _ w.heap.size [.int .i64 0,.int .i64 0] rfl (uU hz) Tryz.underlying61 rfl gB) rfl ⟨by rw[HVV.o];rfl,uK (uK HB.o (jD _) _) (jD _) _⟩):P:=h
theorem qZr{P:Prop}(h:P:=by exact bodyPost_ret (pH rfl _ _ w.heap.size [.int .i64 (ocK co),.int .i64 (ocN co)] rfl (uU hz) Tryz.underlying61 rfl gB) rfl ⟨rfl,uK (uK HBZ.o (jD _) _) (jD _) _⟩):P:=h
theorem qZs{P:Prop}(h:P:=by exact bodyPost_ret (cX rfl _ _ w.heap.size [.int .i64 (ocK co.1),.int .i64 (ocN co.1)] rfl hr Tryz.underlying61 rfl gB) rfl ⟨by rw[HVV.o];rfl,hbe⟩):P:=h
theorem qZt{P:Prop}(h:P:=by exact⟨by first|rfl|simp[hh],jM (by repeat(first|exact jU _ _|refine jH ?_ _)) hb2⟩):P:=h
theorem qZu{P:Prop}(h:P:=by exact⟨by rw[HVV.o];rfl,hB⟩):P:=h
theorem qZv{P:Prop}(h:P:=by exact⟨.pointer (some ⟨w'.heap.size,0,none⟩),w'.alloc (.cells yZ 65),by unfold yZ;clear hI;go_simp;rfl,⟨_,rfl,hI.1.size⟩,⟨hbb,HCA.o.below hbb,HDA.o.below hbb⟩,fun g hg=>by cases hg;exact jA rfl⟩):P:=h
theorem qZw{P:Prop}(h:P:=by exact⟨.pointer (some ⟨w'.heap.size,0,none⟩),w'.alloc (.cells yZ 65),by unfold yZ;clear hI;go_simp;rfl,⟨_,rfl,hI.1.size,by omega⟩,⟨hbb,HCA.o.below hbb,HDA.o.below hbb⟩,((jH (jU _ _) _).block g hgl).trans (hS g rfl),fun g hg=>by cases hg;exact jA rfl⟩):P:=h
theorem qZx{P:Prop}(h:P:=by exact⟨_,rfl,rfl,HINV.o _ (HR.post hb),HR.post hb⟩):P:=h
theorem qZy{P:Prop}(h:P:=by exact⟨by rw[←HRV2.o];rfl,HB.o⟩):P:=h
open Go.Lib renaming hid → Hd
open Go.Proofs.Tryz renaming prog → jG
open List renaming mem_singleton → jW, getElem?_eq_getElem → jN, getElem?_eq_some_iff → jP, length_append → jC, mem_cons → kJ, getD_eq_getElem?_getD → kV, take_succ_eq_append_getElem → kY, replicate → kW, mem_append → kM, length_take → kS, getElem?_append_right → kT, length_set → kI, getElem?_eq_none → uZ, length_replicate → uX, getElem?_append_left → uM
open Nat renaming le_refl → jD, zero_add → kP
open ByteArray renaming empty → kU
namespace Go.Proofs.YtaefcahblmopfaaGreatDoor
open Go.RowKit
theorem vG{W:World}{b o:Nat}{v:Value}(h:W.cell? ⟨b,o,none⟩=some v):b<W.heap.size:=World.block_lt_of_cell? W ⟨b,o,none⟩ h
theorem lQ{W w1:World}(hb:Below W.heap.size W w1){b o:Nat}{v:Value}(h:W.cell? ⟨b,o,none⟩=some v∧W.frozen? ⟨b,o,none⟩=false):
 w1.cell? ⟨b,o,none⟩=some v∧w1.frozen? ⟨b,o,none⟩=false:=
 ⟨(hb.cell (p:=⟨b,o,none⟩) (vG h.1)).trans h.1,(hb.frozen (p:=⟨b,o,none⟩) (vG h.1)).trans h.2⟩
theorem kZ{W w1:World}(hb:Below W.heap.size W w1){a:Addr}{v:Value}(h:W.cell? a=some v):w1.cell? a=some v:=
 (hb.cell (World.block_lt_of_cell? W a h)).trans h
theorem jM{W w1 w2:World}(h:Below W.heap.size W w1)(hb:Below w1.heap.size w1 w2):Below W.heap.size W w2:=h.trans (hb.mono h.size)
theorem jH{W w1:World}(h:Below W.heap.size W w1)(o:Obj):Below W.heap.size W (w1.alloc o):=h.alloc h.size o
theorem uK{W w1:World}(h:Below W.heap.size W w1){b o:Nat}(hb:W.heap.size≤b)(v:Value):Below W.heap.size W (w1.setCell ⟨b,o,none⟩ v):=h.setCell (p:=⟨b,o,none⟩) hb v
theorem mM(w:World)(o:Obj)(k:Nat):(w.alloc o).heap[k]? =if k=w.heap.size then some o else w.heap[k]? :=by
 show(w.heap.push o)[k]? =_;rw[Array.getElem?_push]
theorem jA{W:World}{b:Nat}{o:Obj}(h:W.heap.size=b):(W.alloc o).heap[b]? =some o:=by rw[mM,if_pos h.symm]
theorem uA{W:World}{b:Nat}{o x:Obj}(h:W.heap[b]? =some x):(W.alloc o).heap[b]? =some x:=by
 rw[mM,if_neg,h];rintro rfl;rw[Array.getElem?_eq_none (jD _)]at h;cases h
theorem vT{W w1:World}{b:Nat}{cs:Array Value}{t:TypeId}(hb:Below W.heap.size W w1)(h:W.heap[b]? =some (.cells cs t (0,0)))(i:Nat)(v:Value)(hv:cs[i]? =some v):
 w1.cell? ⟨b,i,none⟩=some v∧w1.frozen? ⟨b,i,none⟩=false:=by
 have hlt:b<W.heap.size:=by
  rcases Nat.lt_or_ge b W.heap.size with hlt|hge
  · exact hlt
  · rw[Array.getElem?_eq_none hge]at h;cases h
 refine⟨(hb.cell (p:=⟨b,i,none⟩) hlt).trans ?_,(hb.frozen (p:=⟨b,i,none⟩) hlt).trans ?_⟩
 · simp[World.cell?,h,hv]
 · simp[World.frozen?,h]
theorem pQ{W:World}{b i b' i':Nat}{u v:Value}(h:W.cell? ⟨b,i,none⟩=some v∧W.frozen? ⟨b,i,none⟩=false)(hne:b'≠b∨i'≠i):(W.setCell ⟨b',i',none⟩ u).cell? ⟨b,i,none⟩=some v∧(W.setCell ⟨b',i',none⟩ u).frozen? ⟨b,i,none⟩=false:=by
 refine⟨(World.cell?_setCell_other W _ _ u (fun e=>?_)).trans h.1,?_⟩
 · injection e with e1 e2
   rcases hne with h|h
   · exact h e1
   · exact h e2
 · have e:(W.setCell ⟨b',i',none⟩ u).frozen? ⟨b,i,none⟩=W.frozen? ⟨b,i,none⟩:=by simp[go_sem]
   rw[e];exact h.2
theorem cO{W:World}{b i:Nat}{u v:Value}(h:W.cell? ⟨b,i,none⟩=some v∧W.frozen? ⟨b,i,none⟩=false):(W.setCell ⟨b,i,none⟩ u).cell? ⟨b,i,none⟩=some u∧(W.setCell ⟨b,i,none⟩ u).frozen? ⟨b,i,none⟩=false:=by
 have h1:=h.1;have e:(W.setCell ⟨b,i,none⟩ u).frozen? ⟨b,i,none⟩=W.frozen? ⟨b,i,none⟩:=by simp[go_sem]
 refine⟨by simp[go_sem,h1],by rw[e];exact h.2⟩
theorem at_{W:World}{b:Nat}{cs:Array Value}{t:TypeId}(h:W.heap[b]? =some (.cells cs t (0,0)))(i:Nat)(v:Value)(hv:cs[i]? =some v):W.cell? ⟨b,i,none⟩=some v∧W.frozen? ⟨b,i,none⟩=false:=by
 refine⟨?_,?_⟩
 · simp[World.cell?,h,hv]
 · simp[World.frozen?,h]
theorem XZ{P:Program}{ops:Array Oper}{Q:Exit→Act→World→Prop}{o:Oper}{rest:List Oper}{a:Act}{w:World}(v:Value)(hg:o.guard=none)(hr:(execOp a.eval o).run P w=.ok (.value v) w)(h:wpList P ops Q rest (a.put o.dst v) w):wpList P ops Q (o::rest) a w:=
 wpList_plain hg fun _ hK=>by unfold Oper.wp;rw[hr];exact hK _ _ h
structure Cl where
 r:Int
 more:ByteArray
 half:Int
 fk:Int
 fn:Int
 bk:Int
 bn:Int
 fl:Int
deriving DecidableEq
def clV(c:Cl):Value:=.agg #[.int .i32 c.r,.string c.more,.int .i64 c.half,.int .i64 c.fk,.int .i64 c.fn,.int .i64 c.bk,.int .i64 c.bn,.int .i64 c.fl]
theorem Jn(a b:Cl):a=b↔a.r=b.r∧a.more.toList=b.more.toList∧a.half=b.half∧a.fk=b.fk∧a.fn=b.fn∧a.bk=b.bk∧a.bn=b.bn∧a.fl=b.fl:=by
 obtain⟨a0,a1,a2,a3,a4,a5,a6,a7⟩:=a;obtain⟨b0,b1,b2,b3,b4,b5,b6,b7⟩:=b;simp only[Cl.mk.injEq]
 constructor
 · rintro⟨h0,h1,h2,h3,h4,h5,h6,h7⟩;exact⟨h0,by rw[h1],h2,h3,h4,h5,h6,h7⟩
 · rintro⟨h0,h1,h2,h3,h4,h5,h6,h7⟩;exact⟨h0,WideShapes.bytes_inj (by rw[←ByteArray.toList_eq,←ByteArray.toList_eq,h1]),h2,h3,h4,h5,h6,h7⟩
theorem Qe(ρ:Operand→Value)(dst:Option Tmp)(ty:TypeId)(pos:String)(af:Array Edge)(gd:Option (Nat×Bool))(x y:Operand)(a b:Cl)(hx:ρ x=clV a)(hy:ρ y=clV b)(w:World):
 (execOp ρ ⟨dst,.binOp .eql 65 x y 65,ty,pos,af,gd⟩).run jG w=.ok (.value (.bool (decide (a=b)))) w:=by
 have e:decide (a=b)=decide (a.r=b.r∧a.more.toList=b.more.toList∧a.half=b.half∧a.fk=b.fk∧a.fn=b.fn∧a.bk=b.bk∧a.bn=b.bn∧a.fl=b.fl):=decide_eq_decide.2 (Jn a b);rw[e];unfold clV at hx hy
 go_simp
 repeat' split
 all_goals simp_all
theorem Qd(ρ:Operand→Value)(dst:Option Tmp)(ty:TypeId)(pos:String)(af:Array Edge)(gd:Option (Nat×Bool))(x y:Operand)(a b:Cl)(hx:ρ x=clV a)(hy:ρ y=clV b)(w:World):
 (execOp ρ ⟨dst,.binOp .neq 65 x y 65,ty,pos,af,gd⟩).run jG w=.ok (.value (.bool (!decide (a=b)))) w:=by
 have e:decide (a=b)=decide (a.r=b.r∧a.more.toList=b.more.toList∧a.half=b.half∧a.fk=b.fk∧a.fn=b.fn∧a.bk=b.bk∧a.bn=b.bn∧a.fl=b.fl):=decide_eq_decide.2 (Jn a b);rw[e];unfold clV at hx hy
 go_simp
 repeat' split
 all_goals simp_all
def QE(w:World)(b o:Nat)(c:Cl):Prop:=w.cell? ⟨b,o,none⟩=some (.int .i32 c.r)∧w.cell? ⟨b,o+1,none⟩=some (.string c.more)∧w.cell? ⟨b,o+2,none⟩=some (.int .i64 c.half)∧w.cell? ⟨b,o+3,none⟩=some (.int .i64 c.fk)∧w.cell? ⟨b,o+4,none⟩=some (.int .i64 c.fn)∧w.cell? ⟨b,o+5,none⟩=some (.int .i64 c.bk)∧w.cell? ⟨b,o+6,none⟩=some (.int .i64 c.bn)∧w.cell? ⟨b,o+7,none⟩=some (.int .i64 c.fl)
theorem QE.below{w w1:World}{b o:Nat}{c:Cl}(h:QE w b o c)(hb:Below w.heap.size w w1):QE w1 b o c:=by
 obtain⟨h0,h1,h2,h3,h4,h5,h6,h7⟩:=h;exact⟨kZ hb h0,kZ hb h1,kZ hb h2,kZ hb h3,kZ hb h4,kZ hb h5,kZ hb h6,kZ hb h7⟩
def zL(w:World)(A:Option Addr)(l:List Cl):Prop:=0<l.length→∃b off,A=some ⟨b,off,none⟩∧∀i c,l[i]? =some c→QE w b (off+i*8) c
theorem zL.below{w w1:World}{A:Option Addr}{l:List Cl}(h:zL w A l)(hb:Below w.heap.size w w1):zL w1 A l:=fun hl=>by
 obtain⟨b,off,e,hc⟩:=h hl;exact⟨b,off,e,fun i s hs=>(hc i s hs).below hb⟩
theorem zL.at_{w:World}{A:Option Addr}{l:List Cl}(h:zL w A l){k:Nat}(hk:k<l.length):∃b off c,A=some ⟨b,off,none⟩∧l[k]? =some c∧QE w b (off+k*8) c:=by
 obtain⟨b,off,hA,hc⟩:=h qJ;exact⟨b,off,l[k],hA,jN hk,hc k _ (jN hk)⟩
def eB:List (Int×Int):=[(0x300,0x36f),(0x483,0x489),(0x591,0x5bd),(0x610,0x61a),(0x64b,0x65f),(0x900,0x902),(0x93c,0x93c),(0x941,0x948),(0xe31,0xe31),(0xe34,0xe3a),(0x1ab0,0x1aff),(0x1dc0,0x1dff),(0x200b,0x200f),(0x20d0,0x20ff),(0x2060,0x2064),(0xfe00,0xfe0f),(0xfe20,0xfe2f),(0xfeff,0xfeff),(0xe0100,0xe01ef)]
def eU:List (Int×Int):=[(0x1100,0x115f),(0x231a,0x231b),(0x2329,0x232a),(0x23e9,0x23ec),(0x25fd,0x25fe),(0x2614,0x2615),(0x2e80,0x303e),(0x3041,0x33ff),(0x3400,0x4dbf),(0x4e00,0x9fff),(0xa000,0xa4cf),(0xa960,0xa97f),(0xac00,0xd7a3),(0xf900,0xfaff),(0xfe30,0xfe6f),(0xff00,0xff60),(0xffe0,0xffe6),(0x1f300,0x1f64f),(0x1f680,0x1f6ff),(0x1f900,0x1f9ff),(0x20000,0x2fffd),(0x30000,0x3fffd)]
def yL(l:List (Int×Int))(r:Int):Bool:=l.any (fun x=>decide (x.1≤r)&&decide (r≤x.2))
def bK(r:Int):Bool:=decide (r<32)||(decide (127≤r)&&decide (r<160))||(decide (0xd800≤r)&&decide (r<0xe000))||decide (0x10ffff<r)
def gZ(r:Int):Int:=if bK r then -1 else if yL eB r then 0 else if yL eU r then 2 else 1
theorem Jt{r:Int}(h:r<0x300):yL eB r=false∧yL eU r=false:=by
 constructor<;>
 · simp only[yL,eB,eU,List.any_cons,List.any_nil,Bool.or_false,Bool.or_eq_false_iff,Bool.and_eq_false_iff,decide_eq_false_iff_not];omega
theorem Uo{r:Int}(h:r<0x300):gZ r=if bK r then -1 else 1:=by
 unfold gZ;rw[(Jt h).1,(Jt h).2];rfl
structure Atr where
 fk:Int
 fn:Int
 bk:Int
 bn:Int
 fl:Int
structure Col where
 k:Int
 n:Int
def vB(c:Cl):Atr:=⟨c.fk,c.fn,c.bk,c.bn,c.fl⟩
def gY(r:Int)(more:ByteArray)(half:Int)(a:Atr):Cl:=⟨r,more,half,a.fk,a.fn,a.bk,a.bn,a.fl⟩
def gM(a:Atr):Cl:=gY 0 kU 0 a
def kL(c:Cl):Cl:=gM (vB c)
def vE(b:Col):Cl:=gM ⟨0,0,b.k,b.n,0⟩
def Ve:Cl:=gY 0 kU 3 ⟨0,0,0,0,0⟩
def yR(a b:Cl):Bool:=decide (a.half=1)&&decide (b.half=2)&&decide (a={b with half:=1})
def uQ:List Cl→List Cl
 |[]=>[]
 |[c]=>if c.half=0∨c.half=3 then[c]else[kL c]
 |c::d::l=>if c.half=0 then c::uQ (d::l)else if yR c d then c::d::uQ l else kL c::uQ (d::l)
theorem bW(c d:Cl)(l:List Cl):uQ (c::d::l)=if c.half=0 then c::uQ (d::l)else if yR c d then c::d::uQ l else kL c::uQ (d::l):=by rw[uQ]
theorem cY(c:Cl):uQ [c]=if c.half=0∨c.half=3 then[c]else[kL c]:=by rw[uQ]
theorem uN:∀l:List Cl,(uQ l).length=l.length
 |[]=>rfl
 |[c]=>by rw[uQ];split<;>rfl
 |c::d::l=>by
  rw[uQ];have h1:=uN (d::l);have h2:=uN l
  split
  · simp only[List.length_cons]at h1 ⊢;omega
  split
  · simp only[List.length_cons];omega
  · simp only[List.length_cons]at h1 ⊢;omega
theorem zG{c:Cl}(h:c.half=0)(l:List Cl):uQ (c::l)=c::uQ l:=by
 match l with
 |[]=>rw[cY,if_pos (Or.inl h)];rfl
 |d::l=>rw[uQ,if_pos h]
theorem cJ:∀l:List Cl,uQ (uQ l)=uQ l
 |[]=>rfl
 |[c]=>by
  rw[uQ]
  split
  · next h=>rw[uQ,if_pos h]
  · rw[zG rfl];rfl
 |c::d::l=>by
  have h1:=cJ (d::l);have h2:=cJ l;rw[uQ]
  split
  · next h=>rw[zG h,h1]
  split
  · next h hp=>rw[uQ,if_neg h,if_pos hp,h2]
  · rw[zG rfl,h1]
def eI(l:List Cl)(x r:Int)(a:Atr):List Cl:=
 let o:=uQ l
 if gZ r=1∧0≤x∧x<o.length then uQ (o.set x.toNat (gY r kU 0 a))
 else if gZ r=2∧0≤x∧x+1<o.length then uQ ((o.set x.toNat (gY r kU 1 a)).set (x.toNat+1) (gY r kU 2 a))
 else o
def fS(l:List Cl):List Cl:=uQ ((uQ l).set (l.length-1) Ve)
def xU(b:Col)(x y:Int)(l:List Cl):List Cl:=l.mapIdx (fun i c=>if x≤i∧(i:Int)<y then vE b else c)
def zO(l:List Cl)(x y:Int)(b:Col):List Cl:=uQ (xU b x y (uQ l))
def bG(l:List Cl)(x n:Int)(b:Col):List Cl:=
 let o:=uQ l
 if x<0∨(o.length:Int)≤x∨n<1 then o
 else uQ ((o.take x.toNat++kW n.toNat (vE b)++o.drop x.toNat).take o.length)
def lO(l:List Cl):Nat:=(l.reverse.dropWhile (fun c=>decide (c.r=0))).length
theorem qQ8(l:List Cl)(x r:Int)(a:Atr):(eI l x r a).length=l.length:=by
 unfold eI;simp only[]
 split
 · rw[uN,kI,uN]
 split
 · rw[uN,kI,kI,uN]
 · rw[uN]
theorem Yp(l:List Cl):(fS l).length=l.length:=by unfold fS;rw[uN,kI,uN]
theorem YL(l:List Cl)(x y:Int)(b:Col):(zO l x y b).length=l.length:=by unfold zO xU;rw[uN,List.length_mapIdx,uN]
theorem ZQ(l:List Cl)(x n:Int)(b:Col):(bG l x n b).length=l.length:=by
 unfold bG;simp only[]
 split
 · exact uN l
 · rw[uN,kS];have :=uN l;simp only[jC,kS,uX,List.length_drop];omega
structure Ro where
 cs:List Cl
 cont:Bool
structure Tl where
 k:Int
 a:Int
 n:Int
structure Pg where
 room:Nat
 hist:List Ro
 gone:Int
 scr:List Ro
 cols:Nat
 told:List Tl
def zN(cols:Nat)(b:Col):Ro:=⟨kW cols (vE b),false⟩
def inP(g:Pg)(y:Int):Bool:=decide (0≤y)&&decide (y<g.scr.length)
def zW(g:Pg)(y:Int)(f:List Cl→List Cl):Pg:=if inP g y then{g with scr:=g.scr.modify y.toNat (fun r=>{r with cs:=f r.cs})}else g
def yG(g:Pg)(y:Int)(b:Bool):Pg:=if inP g y then{g with scr:=g.scr.modify y.toNat (fun r=>{r with cont:=b})}else g
def pL(g:Pg)(k a n:Int):Pg:={g with told:=g.told++[⟨k,a,n⟩]}
def rE(g:Pg)(r:Ro):Pg×Bool:=
 if g.room=0 then({g with gone:=g.gone+1},true)
 else if g.hist.length=g.room then({g with hist:=g.hist.drop 1++[r],gone:=g.gone+1},true)
 else({g with hist:=g.hist++[r]},false)
def yX(l:List Ro)(top bottom:Nat)(b:Ro):List Ro:=l.take top++((l.drop (top+1)).take (bottom-top)++(b::l.drop (bottom+1)))
def rL(l:List Ro)(top bottom:Nat)(b:Ro):List Ro:=l.take top++(b::((l.drop top).take (bottom-top)++l.drop (bottom+1)))
def YI(g:Pg)(top bottom:Nat)(b:Col):Pg:=
 let g1:=pL (pL g 1 (g.hist.length+top) 1) 0 (g.hist.length+bottom) 1
 let g2:={g1 with scr:=yX g.scr top bottom (zN g.cols b)}
 yG (yG g2 top false) (bottom+1) false
def upP(g:Pg)(top bottom:Nat)(b:Col):Pg:=
 if 0<top then YI g top bottom b
 else
  let g1:=pL g 0 (g.hist.length+bottom+1) 1
  let p:=rE g1 (g.scr.getD 0 ⟨[],false⟩)
  let g2:=if p.2 then pL p.1 2 0 1 else p.1
  let g3:={g2 with scr:=yX g.scr 0 bottom (zN g.cols b)}
  yG g3 (bottom+1) false
def nE(f:Pg→Pg):Nat→Pg→Pg
 |0,g=>g
 |n+1,g=>f (nE f n g)
def xF(g:Pg)(top bottom n:Int)(f:Nat→Nat→Pg→Pg):Pg:=
 if inP g top&&inP g bottom&&decide (top≤bottom)then nE (f top.toNat bottom.toNat) (min n.toNat (bottom-top+1).toNat) g else g
def fL(g:Pg)(y x z:Int)(b:Col):Pg:=
 if inP g y then
  let g1:=zW g y (fun l=>zO l x z b)
  if x<g.cols∧(g.cols:Int)≤z then(if x≤0 then yG (yG g1 (y+1) false) y false else yG g1 (y+1) false)else g1
 else g
theorem tR{l:List Ro}{top bottom:Nat}{b:Ro}(h:top≤bottom)(h2:bottom<l.length):(yX l top bottom b).length=l.length:=by
 unfold yX;simp only[jC,kS,List.length_drop,List.length_cons];omega
theorem fD{α:Type}(a b:List α)(k:Nat)(f:α→α):(a++b).modify (a.length+k) f=a++b.modify k f:=by
 induction a with
 |nil=>simp
 |cons x a ih=>simp[Nat.succ_add,ih]
theorem Yj(g:Pg)(y:Int)(b:Bool):(yG g y b).hist=g.hist∧(yG g y b).gone=g.gone∧(yG g y b).told=g.told∧(yG g y b).cols=g.cols∧(yG g y b).room=g.room∧(yG g y b).scr.length=g.scr.length:=by
 unfold yG
 split
 · exact⟨rfl,rfl,rfl,rfl,rfl,by simp⟩
 · exact⟨rfl,rfl,rfl,rfl,rfl,rfl⟩
def gD(r:Int):Bool:=decide (0≤r)&&decide (r≤0x10ffff)&&(decide (r<0xd800)||decide (0xdfff<r))
def vO(r:Int):ByteArray:=
 if gD r then
  (if r<0x80 then⟨#[r.toNat.toUInt8]⟩
  else if r<0x800 then⟨#[(192+r/64).toNat.toUInt8,(128+r%64).toNat.toUInt8]⟩
  else if r<0x10000 then⟨#[(224+r/4096).toNat.toUInt8,(128+r/64%64).toNat.toUInt8,(128+r%64).toNat.toUInt8]⟩
  else⟨#[(240+r/262144).toNat.toUInt8,(128+r/4096%64).toNat.toUInt8,(128+r/64%64).toNat.toUInt8,(128+r%64).toNat.toUInt8]⟩)
 else kU
def gA(m:ByteArray)(c:Cl):Cl:={c with more:=m}
def cH(l:List Cl)(x r:Int):List Cl:=
 let o:=uQ l
 match o[x.toNat]? with
 |none=>o
 |some c=>
  if x<0∨c.r=0∨gZ r≠0∨32<(c.more++vO r).size then o
  else
   let m:=c.more++vO r
   let o1:=if c.half=1 then o.modify (x.toNat+1) (gA m)else if c.half=2 then o.modify (x.toNat-1) (gA m)else o
   uQ (o1.modify x.toNat (gA m))
theorem Ws(l:List Cl)(x r:Int):(cH l x r).length=l.length:=by
 unfold cH;simp only[]
 split
 · exact uN l
 · split
   · exact uN l
   · rw[uN,List.length_modify]
     split
     · rw[List.length_modify,uN]
     split
     · rw[List.length_modify,uN]
     · exact uN l
def rX(a:Atr):Col:=⟨a.bk,a.bn⟩
theorem aG{α:Type}{f:α→α}{y:α}:∀{l:List α} {i:Nat},y∈l.modify i f→y∈l∨∃x∈l,y=f x
 |[],i,h=>by simp at h
 |x::l,0,h=>by
  rw[List.modify_zero_cons]at h;rcases kJ.1 h with rfl|h
  · exact .inr ⟨x,by simp,rfl⟩
  · exact .inl (by simp[h])
 |x::l,i+1,h=>by
  rw[List.modify_succ_cons]at h;rcases kJ.1 h with rfl|h
  · exact .inl qV
  · rcases aG h with h|⟨z,hz,e⟩
    · exact .inl (by simp[h])
    · exact .inr ⟨z,by simp[hz],e⟩
structure Dk where
 n:Int
 need:Int
 hv:Int
 lo:Int
 hi:Int
deriving DecidableEq
def zU(c:Int):Dk:=
 if c<224 then⟨c%32,1,1,128,191⟩
 else if c<240 then⟨c%16,2,1,if c=224 then 160 else 128,if c=237 then 159 else 191⟩
 else⟨c%8,3,1,if c=240 then 144 else 128,if c=244 then 143 else 191⟩
def yF(d:Dk)(c:Int):Option Int×Dk:=
 if d.need=0 then(if c<128 then(some c,d)else(none,zU c))
 else if d.need=1 then(some (64*d.n+c%64),⟨64*d.n+c%64,0,0,128,191⟩)
 else(none,⟨64*d.n+c%64,d.need-1,d.hv+1,128,191⟩)
def okD(d:Dk)(c:Int):Prop:=
 (d.need=0∧d.hv=0∧(0≤c∧c<128∨194≤c∧c≤244))∨(1≤d.need∧d.need≤3∧1≤d.hv∧d.hv≤3∧128≤d.lo∧d.lo≤c∧c≤d.hi∧d.hi≤191∧0≤d.n∧d.n<32768)
def yT:Dk→List Int→List Int×Dk
 |d,[]=>([],d)
 |d,c::cs=>((yF d c).1.toList++(yT (yF d c).2 cs).1,(yT (yF d c).2 cs).2)
def fX:Dk→List Int→Prop
 |_,[]=>True
 |d,c::cs=>okD d c∧fX (yF d c).2 cs
theorem mK(d:Dk)(a b:List Int):yT d (a++b)=((yT d a).1++(yT (yT d a).2 b).1,(yT (yT d a).2 b).2):=by
 induction a generalizing d with
 |nil=>simp[yT]
 |cons c a ih=>simp[yT,ih]
theorem KS(d:Dk)(a b:List Int)(ha:fX d a)(hb:fX (yT d a).2 b):fX d (a++b):=by
 induction a generalizing d with
 |nil=>exact hb
 |cons c a ih=>exact⟨ha.1,ih _ ha.2 hb⟩
theorem qJp{d:Dk}{l:List Int}(h:fX d l){i:Nat}(hi:i<l.length):okD (yT d (l.take i)).2 (l[i]'hi):=by
 induction l generalizing d i with
 |nil=>simp at hi
 |cons c l ih=>
  cases i with
  |zero=>exact h.1
  |succ i=>exact ih h.2 (by simpa using hi)
theorem xE(d:Dk)(l:List Int){i:Nat}(hi:i<l.length):
 yT d (l.take (i+1))=((yT d (l.take i)).1++(yF (yT d (l.take i)).2 l[i]).1.toList,(yF (yT d (l.take i)).2 l[i]).2):=by
 rw[kY hi,mK];simp[yT]
def vK(r:Int):List Int:=
 if r<128 then[r]
 else if r<2048 then[192+r/64,128+r%64]
 else if r<65536 then[224+r/4096,128+r/64%64,128+r%64]
 else[240+r/262144,128+r/4096%64,128+r/64%64,128+r%64]
theorem lG(r:Int)(h:gD r=true):vO r=strOfNums (vK r):=by
 unfold vO vK strOfNums;rw[h,if_pos rfl]
 repeat' split
 all_goals first|rfl|omega
theorem Yl(r:Int)(h:gD r=true)(d:Dk)(hd:d.need=0∧d.hv=0):
 fX d (vK r)∧(yT d (vK r)).1=[r]∧(yT d (vK r)).2.need=0∧(yT d (vK r)).2.hv=0:=by
 obtain⟨n,need,hv,lo,hi⟩:=d;obtain⟨h1,h2⟩:=hd;simp only at h1 h2;subst h1 h2;have hr:0≤r∧r≤1114111∧(r<55296∨57343<r):=by unfold gD at h;simp at h;omega
 unfold vK
 by_cases hA:r<128
 · rw[if_pos hA];simp[fX,okD,yT,yF,hA];omega
 rw[if_neg hA]
 by_cases hB:r<2048
 · rw[if_pos hB];have e1:¬192+r/64<128:=by omega
   have e2:192+r/64<224:=by omega
   simp only[fX,okD,yT,yF,zU,if_pos,e1,e2,if_false,if_true,Option.toList,List.nil_append,and_true];simp;omega
 rw[if_neg hB]
 by_cases hC:r<65536
 · rw[if_pos hC];have e1:¬224+r/4096<128:=by omega
   have e2:¬224+r/4096<224:=by omega
   have e3:224+r/4096<240:=by omega
   simp only[fX,okD,yT,yF,zU,if_pos,e1,e2,e3,if_false,if_true,Option.toList,List.nil_append,and_true];simp;refine⟨⟨by omega,?_,by omega⟩,by omega⟩
   split<;>split<;>omega
 rw[if_neg hC];have e1:¬240+r/262144<128:=by omega
 have e2:¬240+r/262144<224:=by omega
 have e3:¬240+r/262144<240:=by omega
 simp only[fX,okD,yT,yF,zU,if_pos,e1,e2,e3,if_false,if_true,Option.toList,List.nil_append,and_true];simp;refine⟨⟨by omega,?_,by omega,by omega⟩,by omega⟩
 split<;>split<;>omega
theorem QD(l:List Int)(h:∀r∈l,gD r=true)(d:Dk)(hd:d.need=0∧d.hv=0):
 fX d (l.flatMap vK)∧(yT d (l.flatMap vK)).1=l∧(yT d (l.flatMap vK)).2.need=0∧(yT d (l.flatMap vK)).2.hv=0:=by
 induction l generalizing d with
 |nil=>exact⟨trivial,rfl,hd⟩
 |cons r l ih=>
  obtain⟨h1,h2,h3⟩:=Yl r (h r qV) d hd;obtain⟨i1,i2,i3⟩:=ih (fun x hx=>h x (by simp[hx])) (yT d (vK r)).2 h3;rw[List.flatMap_cons,mK];exact⟨KS _ _ _ h1 i1,by rw[h2,i2];rfl,i3⟩
def cZ(c:Int):Int:=if c<128 then 1 else if c<194∨244<c then 0 else if c<224 then 2 else if c<240 then 3 else 4
def bQ(d:Dk)(c:Int):List Int×Dk:=if cZ c=0 then([65533],d)else if cZ c=1 then([c],d)else([],zU c)
def lI(d:Dk):Dk:={d with need:=0,hv:=0}
def bF(d:Dk)(c:Int):List Int×Dk:=
 if d.need=0 then bQ d c
 else if c<d.lo∨d.hi<c then(65533::(bQ (lI d) c).1,(bQ (lI d) c).2)
 else if d.need=1 then([64*d.n+c%64],⟨64*d.n+c%64,0,0,128,191⟩)
 else([],⟨64*d.n+c%64,d.need-1,d.hv+1,128,191⟩)
def wR(d:Dk):List Int×Dk:=if d.hv=0 then([],d)else([65533],⟨0,0,0,0,0⟩)
structure DkOk(d:Dk):Prop where
 need:d.need=0∨d.need=1∨d.need=2∨d.need=3
 hv:0≤d.hv∧d.hv+d.need≤4
 n:d.need=0∨(0≤d.n∧(d.need=1→d.n<32768)∧(d.need=2→d.n<512)∧(d.need=3→d.n<8))
 b:0≤d.lo∧d.lo≤255∧0≤d.hi∧d.hi≤255
structure Ev where
 kind:Int
 r:Int
 byte:Int
 pre:Int
 nums:List (List Int)
 inter:List Int
 text:List Int
 cut:Bool
def evE:Ev:=⟨0,0,0,0,[],[],[],false⟩
structure Pz where
 pre:Int
 head:List Int
 inter:List Int
 text:List Int
 last:Int
 wrong:Bool
 cut:Bool
 most:Int
 state:Int
 dec:Dk
def dN(most:Int):Pz:=⟨0,[],[],[],0,false,false,most,0,⟨0,0,0,0,0⟩⟩
def dX(p:Pz):Pz:={p with pre:=0,head:=[],inter:=[],text:=[],last:=0,wrong:=true,cut:=false}
def gX(p:Pz)(s:Int):Pz:={p with pre:=0,head:=[],inter:=[],text:=[],last:=0,wrong:=false,cut:=false,state:=s}
def aM(p:Pz)(c:Int):Pz:=if p.wrong then p else{p with inter:=p.inter++[c]}
def iF(p:Pz)(c:Int):Pz:=aM (if p.inter.length=2 then dX p else p) c
def nY(p:Pz)(c:Int):Pz:=
 if p.wrong then p
 else if 60≤c∧p.pre=0∧p.head.length=0∧p.inter.length=0 then{p with pre:=c}
 else if 60≤c∨0<p.inter.length∨p.head.length=256 then dX p
 else{p with head:=p.head++[c]}
def JH(p:Pz)(c:Int):Pz:=if p.most≤p.text.length then{p with cut:=true}else{p with text:=p.text++[c]}
def yE(sep:Int):Nat→List Int→List (List Int)
 |0,_=>[]
 |n+1,s=>if sep∈s then s.takeWhile (· ≠sep)::yE sep n ((s.dropWhile (· ≠sep)).drop 1)else[s]
def xW(s:List Int):Int:=if s.length=0 then -1 else s.foldl (fun n c=>min (n*10+(c-48)) 65535) 0
def Vl(s:List Int):List (List Int):=(yE 59 32 s).map (fun g=>(yE 58 8 g).map xW)
def oU(p:Pz)(kind last:Int):Ev:=⟨kind,0,last,p.pre,Vl p.head,p.inter,p.text,p.cut⟩
def mC(p:Pz):List Ev:=
 if p.state=4 then[{evE with kind:=4,text:=p.text,cut:=p.cut}]
 else if p.state=3∧p.last≠0∧p.wrong=false then[oU p 5 p.last]
 else[]
def qJ9(p:Pz)(c:Int):List Ev:=if p.wrong then[]else[{evE with kind:=2,byte:=c,inter:=p.inter}]
def bL(p:Pz)(c:Int):Pz×List Ev:=
 if p.inter.length=0∧p.wrong=false∧c=91 then(gX p 2,[])
 else if p.inter.length=0∧p.wrong=false∧c=93 then(gX p 4,[])
 else if p.inter.length=0∧p.wrong=false∧c=80 then(gX p 3,[])
 else if p.inter.length=0∧p.wrong=false∧(c=88∨c=94∨c=95)then(gX p 5,[])
 else(gX p 0,qJ9 p c)
def sU(c:Int):Ev:={evE with kind:=1,byte:=c}
def print1(p:Pz)(r:Int):Pz×List Ev:=
 if r<32 then(p,[sU r])else if r=127 then(p,[])else if 128≤r∧r<160 then bL p (r-64)else(p,[{evE with r:=r}])
def vJ:Pz→List Int→Pz×List Ev
 |p,[]=>(p,[])
 |p,r::l=>((vJ (print1 p r).1 l).1,(print1 p r).2++(vJ (print1 p r).1 l).2)
def cL(p:Pz)(c:Int):Pz×List Ev:=if c<48 then(iF p c,[])else bL p c
def csiE(p:Pz)(c:Int):List Ev:=if p.wrong then[]else[oU p 3 c]
def mW(p:Pz)(c:Int):Pz×List Ev:=
 if c<48 then(iF p c,[])else if c<64 then(nY p c,[])else if p.state=3 then({p with last:=c},[])else(gX p 0,csiE p c)
def eJ(p:Pz)(c:Int):Pz×List Ev:=
 if p.state=3∧p.wrong=false then(JH p c,[])
 else if p.state≠4 then(p,[])
 else if c=7 then(gX p 0,mC p)
 else if 32≤c∧c≠127 then(JH p c,[])
 else(p,[])
def V5(p:Pz)(c:Int):Pz×List Ev:=vJ {p with dec:=(bF p.dec c).2} (bF p.dec c).1
def fN(p:Pz):Pz×List Ev:=vJ {p with dec:=(wR p.dec).2} (wR p.dec).1
def dF(p:Pz)(c:Int):Pz×List Ev:=
 if 128≤c then V5 (gX p 0) c
 else if c=127∨(c<32∧p.state=3)then(p,[])
 else if c<32 then(p,[sU c])
 else if p.state=1 then cL p c
 else mW p c
def vN(p:Pz)(c:Int):Pz×List Ev:=
 if c=24∨c=26 then(gX (fN p).1 0,(fN p).2++[sU c])
 else if c=27 then(gX (fN p).1 1,(fN p).2++mC (fN p).1)
 else if p.state=0 then V5 p c
 else if p.state=4∨p.state=5∨(p.state=3∧p.last≠0)then eJ p c
 else dF p c
structure PzOk(p:Pz):Prop where
 pre:0≤p.pre∧p.pre≤255
 head:p.head.length≤256∧∀c∈p.head,48≤c∧c<60
 inter:p.inter.length≤2∧∀c∈p.inter,0≤c∧c≤255
 text:(p.text.length:Int)≤p.most∧∀c∈p.text,0≤c∧c≤255
 last:0≤p.last∧p.last≤255
 most:1≤p.most∧p.most≤65536
 state:0≤p.state∧p.state≤5
 dec:DkOk p.dec
theorem DkOk.zero:DkOk ⟨0,0,0,0,0⟩:=⟨.inl rfl,by simp,.inl rfl,by simp⟩
theorem DkOk.wipe{d:Dk}(h:DkOk d):DkOk (lI d):=⟨.inl rfl,by simp[lI],.inl rfl,h.b⟩
theorem DkOk.begin{d:Dk}{c:Int}(h:DkOk d)(hc:0≤c∧c≤255):DkOk (bQ d c).2:=by
 unfold bQ
 split
 · exact h
 split
 · exact h
 · rename_i h0 h1
   unfold cZ at h0 h1;show DkOk (zU c);unfold zU;have :194≤c∧c≤244:=by
    constructor
    · rcases Int.lt_or_le c 128 with h|h
      · exact absurd (if_pos h) h1
      · rcases Int.lt_or_le c 194 with h2|h2
        · exact absurd (by rw[if_neg qJ,if_pos (.inl h2)]) h0
        · exact h2
    · rcases Int.lt_or_le 244 c with h2|h2
      · exact absurd (by rw[if_neg qJ,if_pos (.inr h2)]) h0
      · exact h2
   split
   · exact⟨by simp,by simp,.inr ⟨by simp;omega,by simp;omega,by simp,by simp⟩,by simp⟩
   split
   · exact⟨by simp,by simp,.inr ⟨by simp;omega,by simp,by simp;omega,by simp⟩,by simp only[];split<;>split<;>omega⟩
   · exact⟨by simp,by simp,.inr ⟨by simp;omega,by simp,by simp,by simp;omega⟩,by simp only[];split<;>split<;>omega⟩
theorem DkOk.step{d:Dk}{c:Int}(h:DkOk d)(hc:0≤c∧c≤255):DkOk (bF d c).2:=by
 unfold bF
 split
 · exact h.begin hc
 split
 · exact h.wipe.begin hc
 rename_i h0 h1
 obtain⟨a1,a2,a3,a4⟩:=h
 split
 · exact⟨.inl rfl,by simp,.inl rfl,by simp⟩
 · exact⟨by simp only[];omega,by simp only[];omega,.inr ⟨by simp only[];omega,by simp only[];omega,by simp only[];omega,by simp only[];omega⟩,by simp⟩
theorem DkOk.ends{d:Dk}(h:DkOk d):DkOk (wR d).2:=by
 unfold wR
 split
 · exact h
 · exact DkOk.zero
theorem PzOk.spoil{p:Pz}(h:PzOk p):PzOk (dX p):=⟨by simp[dX],by simp[dX],by simp[dX],⟨by have :=h.most;simp[dX];omega,by simp[dX]⟩,by simp[dX],h.most,h.state,h.dec⟩
theorem PzOk.enter{p:Pz}(h:PzOk p){s:Int}(hs:0≤s∧s≤5):PzOk (gX p s):=⟨by simp[gX],by simp[gX],by simp[gX],⟨by have :=h.most;simp[gX];omega,by simp[gX]⟩,by simp[gX],h.most,hs,h.dec⟩
theorem aY{l:List Int}{x c:Int}{P:Int→Prop}(h:∀c∈l,P c)(hx:P x)(hc:c∈l++[x]):P c:=by
 rcases kM.1 hc with h1|h1
 · exact h c h1
 · rw[jW.1 h1];exact hx
theorem PzOk.between{p:Pz}(h:PzOk p){c:Int}(hc:0≤c∧c≤255):PzOk (iF p c):=by
 unfold iF;have key:∀q:Pz,PzOk q→q.inter.length<2∨q.wrong=true→PzOk (aM q c):=fun q hq h2=>by
  unfold aM
  split
  · exact hq
  · rename_i hw
    have h3:q.inter.length<2:=by rcases h2 with h2|h2;exact h2;exact absurd h2 hw
    exact⟨hq.pre,hq.head,⟨by simp;omega,fun x hx=>aY hq.inter.2 hc hx⟩,hq.text,hq.last,hq.most,hq.state,hq.dec⟩
 split
 · exact key _ h.spoil (.inr rfl)
 · exact key _ h (.inl (by have :=h.inter.1;omega))
theorem PzOk.number{p:Pz}(h:PzOk p){c:Int}(hc:48≤c∧c<64):PzOk (nY p c):=by
 unfold nY
 split
 · exact h
 split
 · exact⟨by simp;omega,h.head,h.inter,h.text,h.last,h.most,h.state,h.dec⟩
 split
 · exact h.spoil
 · rename_i h1 h2 h3
   exact⟨h.pre,⟨by have :=h.head.1;simp;omega,fun x hx=>aY h.head.2 qJ hx⟩,h.inter,h.text,h.last,h.most,h.state,h.dec⟩
theorem PzOk.put{p:Pz}(h:PzOk p){c:Int}(hc:0≤c∧c≤255):PzOk (JH p c):=by
 unfold JH
 split
 · exact⟨h.pre,h.head,h.inter,h.text,h.last,h.most,h.state,h.dec⟩
 · exact⟨h.pre,h.head,h.inter,⟨by simp;omega,fun x hx=>aY h.text.2 hc hx⟩,h.last,h.most,h.state,h.dec⟩
theorem PzOk.final{p:Pz}(h:PzOk p)(c:Int):PzOk (bL p c).1:=by
 unfold bL
 split
 · exact h.enter qJ
 split
 · exact h.enter qJ
 split
 · exact h.enter qJ
 split
 · exact h.enter qJ
 · exact h.enter qJ
theorem PzOk.print1{p:Pz}(h:PzOk p)(r:Int):PzOk (print1 p r).1:=by
 unfold Go.Proofs.YtaefcahblmopfaaGreatDoor.print1
 split
 · exact h
 split
 · exact h
 split
 · exact h.final _
 · exact h
theorem PzOk.prints{p:Pz}(h:PzOk p):∀l:List Int,PzOk (vJ p l).1:=fun l=>by
 induction l generalizing p with
 |nil=>exact h
 |cons r l ih=>exact ih (h.print1 r)
theorem PzOk.withDec{p:Pz}(h:PzOk p){d:Dk}(hd:DkOk d):PzOk {p with dec:=d}:=⟨h.pre,h.head,h.inter,h.text,h.last,h.most,h.state,hd⟩
theorem PzOk.decode{p:Pz}(h:PzOk p){c:Int}(hc:0≤c∧c≤255):PzOk (V5 p c).1:=(h.withDec (h.dec.step hc)).prints _
theorem PzOk.done{p:Pz}(h:PzOk p):PzOk (fN p).1:=(h.withDec h.dec.ends).prints _
theorem PzOk.inEscape{p:Pz}(h:PzOk p){c:Int}(hc:0≤c∧c≤255):PzOk (cL p c).1:=by
 unfold cL
 split
 · exact h.between hc
 · exact h.final c
theorem PzOk.inSeq{p:Pz}(h:PzOk p){c:Int}(hc:0≤c∧c≤255):PzOk (mW p c).1:=by
 unfold mW
 split
 · exact h.between hc
 split
 · exact h.number qJ
 split
 · exact⟨h.pre,h.head,h.inter,h.text,hc,h.most,h.state,h.dec⟩
 · exact h.enter qJ
theorem PzOk.inString{p:Pz}(h:PzOk p){c:Int}(hc:0≤c∧c≤255):PzOk (eJ p c).1:=by
 unfold eJ
 split
 · exact h.put hc
 split
 · exact h
 split
 · exact h.enter qJ
 split
 · exact h.put hc
 · exact h
theorem PzOk.inHead{p:Pz}(h:PzOk p){c:Int}(hc:0≤c∧c≤255):PzOk (dF p c).1:=by
 unfold dF
 split
 · exact(h.enter qJ).decode hc
 split
 · exact h
 split
 · exact h
 split
 · exact h.inEscape hc
 · exact h.inSeq hc
theorem PzOk.step{p:Pz}(h:PzOk p){c:Int}(hc:0≤c∧c≤255):PzOk (vN p c).1:=by
 unfold vN
 split
 · exact h.done.enter qJ
 split
 · exact h.done.enter qJ
 split
 · exact h.decode hc
 split
 · exact h.inString hc
 · exact h.inHead hc
structure Ch where
 g0:Int
 g1:Int
 g2:Int
 g3:Int
 use:Int
 once:Int
structure Pe where
 at_:Atr
 ch:Ch
 put:Bool
 wrap:Bool
 home:Bool
structure Sc where
 pg:Pg
 st:List Bool
 pen:Pe
 y:Int
 x:Int
 top:Int
 bot:Int
 sp:Pe
 sy:Int
 sx:Int
 has:Bool
 last:Int
def vI:Atr:=⟨0,0,0,0,0⟩
def gS:Ch:=⟨66,66,66,66,0,0⟩
def nU:Pe:=⟨vI,gS,false,true,false⟩
def XQ:Pe:=⟨vI,⟨0,0,0,0,0,0⟩,false,false,false⟩
def QZ:List Int:=[0x25c6,0x2592,0x2409,0x240c,0x240d,0x240a,0xb0,0xb1,0x2424,0x240b,0x2518,0x2510,0x250c,0x2514,0x253c,0x23ba,0x23bb,0x2500,0x23bc,0x23bd,0x251c,0x2524,0x2534,0x252c,0x2502,0x2264,0x2265,0x3c0,0x2260,0xa3,0xb7]
def xR(kind r:Int):Int:=
 if kind=65∧r=35 then 163 else if kind=48∧r=95 then 32 else if kind=48∧96≤r∧r≤126 then QZ.getD (r-96).toNat 0 else r
def VQ(c:Ch):Int:=if c.once=2∨c.once=3 then c.once else if 0≤c.use∧c.use≤3 then c.use else 0
def setC(c:Ch)(k:Int):Int:=if k=0 then c.g0 else if k=1 then c.g1 else if k=2 then c.g2 else c.g3
def qJw(c:Ch)(r:Int):Int:=xR (setC c (VQ c)) r
def JD(c:Ch):Ch:={c with once:=0}
def pN(n lo hi:Int):Int:=max lo (min n hi)
def Zb(s:Sc):Col:=rX s.pen.at_
def JZ(s:Sc):Int:=s.pg.scr.length
def fB(s:Sc):Int:=s.pg.cols
def inS(s:Sc):Int:=min s.x (fB s-1)
def ZS(s:Sc):Sc×Bool:=
 if s.y=s.bot then({s with x:=inS s,pg:=xF s.pg s.top s.bot 1 (fun t b g=>upP g t b (Zb s))},true)
 else if s.y<JZ s-1 then({s with x:=inS s,y:=s.y+1},true)
 else({s with x:=inS s},false)
def lD(s:Sc):Sc:=if s.x<fB s then{s with pg:=zW s.pg s.y fS}else s
def onS(p:Sc×Bool):Sc:=if p.2 then{p.1 with x:=0,pg:=yG p.1.pg p.1.y true}else{p.1 with x:=0}
def mV(s:Sc)(w:Int):Sc:=
 if s.x+w≤fB s then s
 else if s.pen.wrap=false then{s with x:=fB s-w}
 else onS (ZS (lD s))
def xS(s:Sc)(w:Int):Sc:=if s.pen.put then{s with pg:=zW s.pg s.y (fun l=>bG l s.x w (Zb s))}else s
def Wx(s:Sc)(r w:Int):Sc:={s with pg:=zW s.pg s.y (fun l=>eI l s.x r s.pen.at_),x:=s.x+w,last:=r}
def oX(s:Sc)(r:Int):Sc:=
 if gZ r=0 then{s with pg:=zW s.pg s.y (fun l=>cH l (s.x-1) r)}
 else if gZ r<1 then s
 else Wx (xS (mV s (gZ r)) (gZ r)) r (gZ r)
def mX(s:Sc)(r:Int):Sc:=oX {s with pen:={s.pen with ch:=JD s.pen.ch}} (qJw s.pen.ch r)
def oR(rows cols lines:Nat)(st:List Bool):Sc:=⟨⟨lines,[],0,kW rows (zN cols ⟨0,0⟩),cols,[]⟩,st,nU,0,0,0,rows-1,XQ,0,0,false,0⟩
def fT(n:Int):Int:=max (-1) (min n 65535)
def bR(g:List Int):List Int:=if g.length=0 then[-1]else(g.take 8).map fT
def yU(l:List (List Int)):List (List Int):=if l.length=0 then[[-1]]else(l.take 32).map bR
theorem Z5(n:Int): -1≤fT n∧fT n≤65535:=by unfold fT;omega
def qK8(l:List (List Int)):Prop:=∀g∈l,0<g.length∧g.length≤8∧∀n∈g,-1≤n∧n≤65535
theorem Z6(g:List Int):0<(bR g).length∧(bR g).length≤8∧∀n∈bR g,-1≤n∧n≤65535:=by
 unfold bR
 split
 · exact⟨by decide,by decide,fun n hn=>by rw[jW.1 hn];decide⟩
 · refine⟨by simp;omega,by simp;omega,fun n hn=>?_⟩;obtain⟨m,-,rfl⟩:=List.mem_map.1 hn;exact Z5 m
theorem nC(l:List (List Int)):qK8 (yU l):=by
 unfold yU
 split
 · intro g hg;rw[jW.1 hg];exact⟨by decide,by decide,fun n hn=>by rw[jW.1 hn];decide⟩
 · intro g hg;obtain⟨m,-,rfl⟩:=List.mem_map.1 hg;exact Z6 m
theorem rZ(l:List (List Int)):0<(yU l).length∧(yU l).length≤32:=by
 unfold yU
 split
 · exact⟨by decide,by decide⟩
 · constructor
   · simp;omega
   · simp;omega
def Qb(n f:Int):Bool:=if n<0 then false else decide (n/f%2=1)
def yA(n f:Int)(on:Bool):Int:=if Qb n f=on then n else if on then n+f else n-f
def yP(l:List (List Int))(i:Nat):Int:=max 0 ((l.getD i []).headD 0)
def UF(n:Int):Int:=max 0 n
def nS(l:List (List Int))(i:Nat):Option Col×Nat:=
 let g:=l.getD i []
 if 1<g.length then
  if g.getD 1 0=5∧g.length=3∧g.getD 2 0<256 then(some ⟨1,UF (g.getD 2 0)⟩,i+1)
  else if g.getD 1 0=2∧(g.length=5∨g.length=6)∧g.getD (g.length-1) 0<256∧g.getD (g.length-2) 0<256∧g.getD (g.length-3) 0<256 then
   (some ⟨2,65536*UF (g.getD (g.length-3) 0)+256*UF (g.getD (g.length-2) 0)+UF (g.getD (g.length-1) 0)⟩,i+1)
  else(none,i+1)
 else if yP l (i+1)=5 then(if i+2<l.length∧yP l (i+2)<256 then some ⟨1,yP l (i+2)⟩else none,i+3)
 else if yP l (i+1)=2 then
  (if i+4<l.length∧yP l (i+2)<256∧yP l (i+3)<256∧yP l (i+4)<256 then some ⟨2,65536*yP l (i+2)+256*yP l (i+3)+yP l (i+4)⟩else none,i+5)
 else(none,i+2)
def cK(f v:Int)(g:List Int):Int:=
 if v=1 then yA f 1 true else if v=2 then yA f 2 true else if v=3 then yA f 4 true
 else if v=4 then yA (yA f 256 (decide (1<g.length)&&decide (g.getD 1 0=2))) 8 (!(decide (1<g.length)&&decide (g.getD 1 0=2))&& !(decide (1<g.length)&&decide (g.getD 1 0=0)))
 else if v=5∨v=6 then yA f 16 true else if v=7 then yA f 32 true else if v=8 then yA f 64 true else if v=9 then yA f 128 true
 else if v=21 then yA (yA f 8 false) 256 true else if v=22 then yA (yA f 1 false) 2 false else if v=23 then yA f 4 false
 else if v=24 then yA (yA f 8 false) 256 false else if v=25 then yA f 16 false else if v=27 then yA f 32 false else if v=28 then yA f 64 false
 else if v=29 then yA f 128 false else if v=53 then yA f 512 true else if v=55 then yA f 512 false else f
def Jq(c:Col)(v:Int):Col:=if v=39 then⟨0,0⟩else if 30≤v∧v≤37 then⟨1,v-30⟩else if 90≤v∧v≤97 then⟨1,v-82⟩else c
def Js(c:Col)(v:Int):Col:=if v=49 then⟨0,0⟩else if 40≤v∧v≤47 then⟨1,v-40⟩else if 100≤v∧v≤107 then⟨1,v-92⟩else c
def dM(a:Atr)(v:Int)(g:List Int):Atr:=
 if v=0 then vI else⟨(Jq ⟨a.fk,a.fn⟩ v).k,(Jq ⟨a.fk,a.fn⟩ v).n,(Js ⟨a.bk,a.bn⟩ v).k,(Js ⟨a.bk,a.bn⟩ v).n,cK a.fl v g⟩
def wL(a:Atr)(v:Int)(c:Option Col):Atr:=match c with
 |none=>a
 |some c=>if v=38 then{a with fk:=c.k,fn:=c.n}else{a with bk:=c.k,bn:=c.n}
def eM(a:Atr)(l:List (List Int))(i:Nat):Atr×Nat:=
 if yP l i=38∨yP l i=48 then(wL a (yP l i) (nS l i).1,(nS l i).2)else(dM a (yP l i) (l.getD i []),i+1)
theorem oM(a:Atr)(l:List (List Int))(i:Nat):i<(eM a l i).2:=by
 unfold eM
 split
 · unfold nS;simp only[]
   split
   · split
     · exact Nat.lt_succ_self _
     split
     · exact Nat.lt_succ_self _
     · exact Nat.lt_succ_self _
   split
   · show i<i+3;omega
   split
   · show i<i+5;omega
   · show i<i+2;omega
 · exact Nat.lt_succ_self _
def bU:Nat→Atr→List (List Int)→Nat→Atr
 |0,a,_,_=>a
 |n+1,a,l,i=>if i<l.length then bU n (eM a l i).1 l (eM a l i).2 else a
def fQ(a:Atr)(l:List (List Int)):Atr:=bU l.length a l 0
theorem dI(l:List (List Int)):∀(n:Nat) (a:Atr) (i:Nat),l.length≤i→bU n a l i=a
 |0,_,_,_=>rfl
 |n+1,a,i,h=>by unfold bU;rw[if_neg qJ]
theorem xB(l:List (List Int)):∀(n k:Nat) (a:Atr) (i:Nat),l.length≤n+i→bU (n+k) a l i=bU n a l i
 |0,k,a,i,h=>by rw[dI l _ a i qJ,dI l _ a i qJ]
 |n+1,k,a,i,h=>by
  rw[show n+1+k=(n+k)+1 by omega];unfold bU
  split
  · exact xB l n k _ _ (by have :=oM a l i;omega)
  · rfl
theorem iA(l:List (List Int))(a:Atr)(i:Nat)(h:i<l.length):bU l.length a l i=bU l.length (eM a l i).1 l (eM a l i).2:=by
 obtain⟨n,hn⟩:∃n,l.length=n+1:=⟨l.length-1,by omega⟩;have e:=xB l n 1 (eM a l i).1 (eM a l i).2 (by have :=oM a l i;omega);rw[hn,e];show(if i<l.length then bU n (eM a l i).1 l (eM a l i).2 else a)=_;rw[if_pos h]
def cN(f:Int):Prop:=0≤f∧f<1024
def sJ(s:Sc)(y x:Int):Sc:=
 if s.pen.home then{s with y:=s.top+pN y 0 (s.bot-s.top),x:=pN x 0 (fB s-1)}
 else{s with y:=pN y 0 (JZ s-1),x:=pN x 0 (fB s-1)}
def qKb(s:Sc)(y x z:Int):Sc:={s with pg:=fL s.pg y x z (Zb s)}
def inX(s:Sc):Sc:={s with x:=inS s}
def zD(s:Sc)(n:Int):Sc:=qKb (inX s) s.y (inS s) (inS s+pN n 1 1000)
def lB(ws:List Nat)(st:List Bool):Prop:=
 st.length≤64*ws.length∧∀i n,ws[i]? =some n→n<18446744073709551616∧∀k,k<64→n.testBit k=st.getD (64*i+k) false
theorem Kx{ws:List Nat}{st:List Bool}(h:lB ws st){x:Nat}(hx:x<st.length):∃w,ws[x/64]? =some w∧w<18446744073709551616∧∀k,k<64→w.testBit k=st.getD (64*(x/64)+k) false:=by
 have hl:x/64<ws.length:=by have :=h.1;omega
 have he:ws[x/64]? =some ws[x/64]:=jN hl;exact⟨_,he,h.2 _ _ he⟩
theorem iY{st:List Bool}{x y:Nat}{b:Bool}(hx:x<st.length):(st.set x b).getD y false=if x=y then b else st.getD y false:=by
 rw[kV,List.getElem?_set]
 by_cases h:x=y
 · subst h;rw[if_pos rfl,if_pos hx,if_pos rfl];rfl
 · rw[if_neg h,if_neg h,←kV]
theorem or_lt{w k:Nat}(hw:w<18446744073709551616)(hk:k<64):w ||| 2 ^ k<18446744073709551616:=
 Nat.or_lt_two_pow (n:=64) hw (Nat.pow_lt_pow_right qZ hk)
theorem wds_set{ws:List Nat}{st:List Bool}(h:lB ws st){x w:Nat}(hx:x<st.length)(hw:ws[x/64]? =some w):lB (ws.set (x/64) (w ||| 2 ^ (x%64))) (st.set x true):=by
 have hl:x/64<ws.length:=(jP.1 hw).1;refine⟨by rw[kI,kI];exact h.1,fun i n hn=>?_⟩;rw[List.getElem?_set]at hn
 by_cases hi:x/64=i
 · subst hi;rw[if_pos rfl,if_pos hl,Option.some.injEq]at hn;subst hn;obtain⟨h1,h2⟩:=h.2 _ _ hw;refine⟨or_lt h1 qJ,fun k hk=>?_⟩;rw[Nat.testBit_or,Nat.testBit_two_pow,h2 k hk,iY hx]
   by_cases hk2:x%64=k
   · rw[if_pos qJ,decide_eq_true hk2,Bool.or_true]
   · rw[if_neg qJ,decide_eq_false hk2,Bool.or_false]
 · rw[if_neg hi]at hn;obtain⟨h1,h2⟩:=h.2 _ _ hn;refine⟨h1,fun k hk=>?_⟩;rw[h2 k hk,iY hx,if_neg qJ]
theorem Ur{ws:List Nat}{st:List Bool}(h:lB ws st){x w:Nat}(hx:x<st.length)(hw:ws[x/64]? =some w):lB (ws.set (x/64) (w &&& (18446744073709551615-2 ^ (x%64)))) (st.set x false):=by
 have hl:x/64<ws.length:=(jP.1 hw).1;refine⟨by rw[kI,kI];exact h.1,fun i n hn=>?_⟩;rw[List.getElem?_set]at hn
 by_cases hi:x/64=i
 · subst hi;rw[if_pos rfl,if_pos hl,Option.some.injEq]at hn;subst hn;obtain⟨h1,h2⟩:=h.2 _ _ hw;refine⟨Nat.lt_of_le_of_lt Nat.and_le_left h1,fun k hk=>?_⟩;have hp:2 ^ (x%64)<2 ^ 64:=Nat.pow_lt_pow_right qZ qJ;have e:18446744073709551615-2 ^ (x%64)=2 ^ 64-(2 ^ (x%64)+1):=by
    have :(2:Nat) ^ 64=18446744073709551616:=by decide
    omega
   rw[Nat.testBit_and,e,Nat.testBit_two_pow_sub_succ hp,Nat.testBit_two_pow,h2 k hk,iY hx,decide_eq_true hk,Bool.true_and]
   by_cases hk2:x%64=k
   · rw[if_pos qJ,decide_eq_true hk2,Bool.not_true,Bool.and_false]
   · rw[if_neg qJ,decide_eq_false hk2,Bool.not_false,Bool.and_true]
 · rw[if_neg hi]at hn;obtain⟨h1,h2⟩:=h.2 _ _ hn;refine⟨h1,fun k hk=>?_⟩;rw[h2 k hk,iY hx,if_neg qJ]
theorem aF{st:List Bool}{y:Nat}(h:st.length≤y):st.getD y false=false:=by
 rw[kV,uZ h];rfl
theorem qQb{ws:List Nat}{st:List Bool}(h:lB ws st):lB (ws++[0]) st:=by
 refine⟨by rw[jC];have :=h.1;omega,fun i n hn=>?_⟩
 by_cases hi:i<ws.length
 · rw[uM hi]at hn;exact h.2 i n hn
 · rw[kT qJ]at hn
   by_cases h0:i=ws.length
   · subst h0;rw[Nat.sub_self]at hn;obtain rfl:(0:Nat)=n:=by simpa using hn
     refine⟨by decide,fun k hk=>?_⟩;rw[aF (by have :=h.1;omega)];simp
   · rw[uZ qY]at hn;cases hn
section
variable {α:Type}(enc:α→List Value)(k:Nat)
def uY(l:List α):List Value:=l.flatMap enc
def pZ(w:World)(A:Option Addr)(l:List α):Prop:=
 0<l.length→∃b off,A=some ⟨b,off,none⟩∧∀i x,l[i]? =some x→∀j v,(enc x)[j]? =some v→w.cell? ⟨b,off+i*k+j,none⟩=some v
variable {enc k}
theorem uR(l m:List α):uY enc (l++m)=uY enc l++uY enc m:=by simp[uY]
theorem pW(hk:∀x,(enc x).length=k)(l:List α):(uY enc l).length=l.length*k:=by
 induction l with
 |nil=>simp[uY]
 |cons x l ih=>
  have e:uY enc (x::l)=enc x++uY enc l:=rfl;rw[e,jC,ih,hk,List.length_cons,Nat.add_mul];omega
theorem UE(hk:∀x,(enc x).length=k):∀(l:List α) (i:Nat) (x:α),l[i]? =some x→∀j,j<k→(uY enc l)[i*k+j]? =(enc x)[j]?
 |[],i,x,h,j,hj=>by simp at h
 |y::l,0,x,h,j,hj=>by
  obtain rfl:y=x:=by simpa using h
  have e:uY enc (y::l)=enc y++uY enc l:=rfl;rw[e,Nat.zero_mul,kP,uM (by rw[hk];exact hj)]
 |y::l,i+1,x,h,j,hj=>by
  have e:uY enc (y::l)=enc y++uY enc l:=rfl;rw[e,kT (by rw[hk,Nat.add_mul];omega),hk,show(i+1)*k+j-k=i*k+j from by rw[Nat.add_mul];omega];exact UE hk l i x qT j hj
theorem sG(h1:∀x,∀v∈enc x,v.oneCell'=true)(l:List α):∀u∈uY enc l,u.oneCell'=true:=by
 intro u hu;simp only[uY,List.mem_flatMap]at hu;obtain⟨x,_,hx⟩:=hu;exact h1 x u hx
theorem pZ.below{w w1:World}{A:Option Addr}{l:List α}(h:pZ enc k w A l)(hb:Below w.heap.size w w1):pZ enc k w1 A l:=fun hl=>by
 obtain⟨b,off,e,hc⟩:=h hl;exact⟨b,off,e,fun i x hx j v hv=>kZ hb (hc i x hx j v hv)⟩
theorem pZ.at_{w:World}{A:Option Addr}{l:List α}(h:pZ enc k w A l){i:Nat}(hi:i<l.length):∃b off x,A=some ⟨b,off,none⟩∧l[i]? =some x∧∀j v,(enc x)[j]? =some v→w.cell? ⟨b,off+i*k+j,none⟩=some v:=by
 obtain⟨b,off,hA,hc⟩:=h qJ;exact⟨b,off,l[i],hA,jN hi,hc i _ (jN hi)⟩
theorem vC(b off j:Nat):(⟨b,off,none⟩:Addr).add j=⟨b,off+j,none⟩:=by
 unfold Addr.add
 by_cases hz:j=0
 · rw[if_pos hz,hz];rfl
 · rw[if_neg hz]
theorem pZ.news{w:World}{ad:Addr}{l:List α}(hk:∀x,(enc x).length=k)(h:pZ enc k w (some ad) l):∀j u,(uY enc l)[j]? =some u→w.cell? (ad.add j)=some u:=by
 intro j u hj;have hlt:=(jP.1 hj).1;rw[pW hk]at hlt;have hl0:0<l.length:=by
  rcases Nat.eq_zero_or_pos l.length with h0|h0
  · rw[h0]at hlt;omega
  · exact h0
 have hk0:0<k:=by
  rcases Nat.eq_zero_or_pos k with h0|h0
  · rw[h0]at hlt;omega
  · exact h0
 obtain⟨b,off,e,hc⟩:=h hl0;obtain rfl:ad=⟨b,off,none⟩:=by simpa using e
 rw[vC];have hi:j/k<l.length:=Nat.div_lt_of_lt_mul (by rw[Nat.mul_comm];exact hlt);have hm:j%k<k:=Nat.mod_lt _ hk0;have e1:j/k*k+j%k=j:=Nat.div_add_mod' j k;have h1:=UE hk l (j/k) _ (jN hi) (j%k) hm;rw[e1,hj]at h1;have h2:=hc (j/k) _ (jN hi) (j%k) u h1.symm;rw[show off+j=off+j/k*k+j%k from by omega];exact h2
end
end Go.Proofs.YtaefcahblmopfaaGreatDoor
