/- Joined by a tool of this claim out of smaller texts. Conditions: as stated. -/
import Derived.Test.YtaefcahblmopfaaGreatDoorRows
import Derived.WalkKit
import Derived.WalkSpells
import Derived.WalkLawsBesides
import Derived.Lib.Hide
import Derived.Outline
import Derived.Laws.AppendOwn
import Derived.Maps.AppendAt
import Derived.ProofKit
import Derived.Lib.SlicesCompact
import Derived.Laws.ResultCell
import Derived.Deep.MidRow
import Derived.Tactics
set_option linter.unusedVariables false
set_option linter.unusedSimpArgs false
set_option maxRecDepth 100000
theorem Go.RowKit.Hid.o{P:Prop}(h:Go.RowKit.Hid P):P:=h.out
theorem qQ{P:Prop}(h:P:=by kernel_rfl):P:=h
theorem qJ{P:Prop}(h:P:=by omega):P:=h
theorem qK{P:Prop}(h:P:=by rfl):P:=h
theorem qV{P:Prop}(h:P:=by simp):P:=h
theorem qZ{P:Prop}(h:P:=by decide):P:=h
theorem qX{P:Prop}(h:P:=by go_simp):P:=h
theorem qY{P:Prop}(h:P:=by simp;omega):P:=h
theorem qG{P:Prop}(h:P:=by unfold maxLen;omega):P:=h
theorem qU{P:Prop}(h:P:=by simp only[maxLen];have :=HP.o;omega):P:=h
theorem qH{P:Prop}(h:P:=by intro w';go_simp;done):P:=h
theorem qW{P:Prop}(h:P:=by simpa using hj):P:=h
theorem qM{P:Prop}(h:P:=by unfold ClO;rw[uI,jC];exact ho):P:=h
theorem qN{P:Prop}(h:P:=by rw[kC];omega):P:=h
theorem qB{P:Prop}(h:P:=by simp only[kV,kR,gC,gZ,vC];go_simp;try rfl):P:=h
theorem qP{P:Prop}(h:P:=by simp only[kV];go_simp):P:=h
theorem qC{P:Prop}(h:P:=by rw[HDR.o,jC,HP.o];simp):P:=h
theorem qD{P:Prop}(h:P:=by simpa using h):P:=h
theorem qF{P:Prop}(h:P:=by have :=HP.o;omega):P:=h
theorem qL{P:Prop}(h:P:=by have :=HBE.o.size;simp;omega):P:=h
theorem qR{P:Prop}(h:P:=by rw[List.length_drop];omega):P:=h
theorem qS{P:Prop}(h:P:=by rw[←jM.1 hx];injection hg with hg;exact hg.symm):P:=h
theorem qT{P:Prop}(h:P:=by rw[←jM.1 hx];exact hb):P:=h
theorem qA{P:Prop}(h:P:=by repeat(first|exact jU _ _|refine jH ?_ _)):P:=h
theorem qE{P:Prop}(h:P:=by have h1:=jR HX.o;have h2:=jR HY.o;omega):P:=h
theorem qI{P:Prop}(h:P:=by as_aux_lemma=>kernel_rfl):P:=h
theorem qO{P:Prop}(h:P:=by simp[gK]):P:=h
theorem jQ{P:Prop}(h:P:=by simp only[maxLen];omega):P:=h
theorem jJ{P:Prop}(h:P:=by rw[yN hl X i x j hi (by have :=(jP.1 hj).1;rw[hl]at this;exact this)];exact hj):P:=h
theorem jK{P:Prop}(h:P:=by simp <;>omega):P:=h
theorem jV{P:Prop}(h:P:=by have h1:=hJ.o;have h2:=HJ.o;omega):P:=h
theorem qZc{P:Prop}(h:P:=by have :=HB.o.size;have :=HB3.o.size;have :=jR HTab.o;have :=HTB'.o;omega):P:=h
theorem qZd{P:Prop}(h:P:=by simp[Value.oneCell']):P:=h
theorem qZe{P:Prop}(h:P:=by rw[HV.o,HNV.o,if_pos (by have :=HI1.o;omega)]):P:=h
theorem qZf{P:Prop}(h:P:=by rw[HV.o,HNV.o,if_neg (by have :=HI1.o;omega),if_neg (by decide)];rfl):P:=h
theorem qZg{P:Prop}(h:P:=by rw[h]at hr;cases hr):P:=h
theorem qZh{P:Prop}(h:P:=by rw[HP.o];exact jD _):P:=h
theorem qZi{P:Prop}(h:P:=by rw[List.getElem?_modify,HC.o];have :=HJ.o;simp[show j≠k by omega]):P:=h
theorem qZj{P:Prop}(h:P:=by rw[HVk.o,HXD.o];simp only[cC];rw[if_neg hl]):P:=h
theorem qZk{P:Prop}(h:P:=by have :=HI1.o;omega):P:=h
theorem qZl{P:Prop}(h:P:=by rw[←HG2.o.1,←HG2.o.2];exact kA (kA HX12.o 2 _ rfl) 3 _ rfl):P:=h
theorem qZm{P:Prop}(h:P:=by have :=HB1.o.size;simp;omega):P:=h
theorem qZn{P:Prop}(h:P:=by rw[←HG1.o.1,←HG1.o.2];exact kA (kA HX9.o 0 _ rfl) 1 _ rfl):P:=h
theorem qZo{P:Prop}(h:P:=by have :=HSZ.o;simp at *;omega):P:=h
theorem qZp{P:Prop}(h:P:=by intro e;cases e;omega):P:=h
theorem qZq{P:Prop}(h:P:=by rw[if_neg (by omega),if_pos (.inl h2)]):P:=h
theorem qZr{P:Prop}(h:P:=by rw[if_neg (by omega),if_pos (.inr h2)]):P:=h
theorem qZs{P:Prop}(h:P:=by rw[getD_replicate_false]at hl;cases hl):P:=h
theorem qZt{P:Prop}(h:P:=by have :=HNB.o;have :=HC0.o;simp;omega):P:=h
theorem qZu{P:Prop}(h:P:=by assumption):P:=h
theorem qZv{P:Prop}(h:P:=by rw[hl,Nat.add_mul];omega):P:=h
theorem qZw{P:Prop}(h:P:=by rw[←hW12];exact jT rfl):P:=h
theorem qZx{P:Prop}(h:P:=by rw[←hA.o];exact HX17.o):P:=h
theorem qZy{P:Prop}(h:P:=by rw[HK.o];exact hlt):P:=h
theorem qZz{P:Prop}(h:P:=by simp[pgX]):P:=h
theorem qZ0{P:Prop}(h:P:=by rw[←jM.1 hx];exact hg):P:=h
theorem qZ1{P:Prop}(h:P:=by simpa[jA]using hb):P:=h
theorem qZ2{P:Prop}(h:P:=by rw[uL];exact hz):P:=h
theorem qZ3{P:Prop}(h:P:=by have :=HLZ.o.2;omega):P:=h
theorem qZ4{P:Prop}(h:P:=by have :=HBW.o.size;simp;omega):P:=h
theorem qZ5{P:Prop}(h:P:=by rw[hv];simp[Value.ownBlock]):P:=h
theorem qZ6{P:Prop}(h:P:=by simp[size_madeCells];omega):P:=h
theorem qZ7{P:Prop}(h:P:=by rw[World.size_alloc];omega):P:=h
theorem qZ8{P:Prop}(h:P:=by simp[vQ]):P:=h
theorem qZ9{P:Prop}(h:P:=by simpa using e):P:=h
theorem qXa{P:Prop}(h:P:=by first|rfl|trivial):P:=h
theorem qXb{P:Prop}(h:P:=by have :=HM.o;omega):P:=h
theorem qXc{P:Prop}(h:P:=by show 8≤8;decide):P:=h
theorem qXd{P:Prop}(h:P:=by exact absurd hj (tail_waits hs hc hn inv _ i rfl hin hun j h)):P:=h
theorem qXe{P:Prop}(h:P:=by exact⟨g,cap,rfl,HC.o,hb⟩):P:=h
theorem qXf{P:Prop}(h:P:=by exact⟨rfl,H.o.below HB.o,Mod.of_below HB.o⟩):P:=h
theorem qXg{P:Prop}(h:P:=by exact⟨fun h=>by have :=this.1 h;simp;omega,fun h=>by omega⟩):P:=h
theorem qXh{P:Prop}(h:P:=by exact⟨rfl,HO2.o.more (by rw[List.length_modify];exact hkl) m |>.len qV,HM2.o.setCell (a:=⟨g,k*8+1,none⟩) (.inl qV) (.string m)⟩):P:=h
theorem qXi{P:Prop}(h:P:=by exact⟨_,w2,mC _ _ _ rfl _ _ _ rfl rfl hr,⟨g,cap,rfl⟩,⟨g,cap,rfl,.of_own hc H.o.1 H.o.2.1 cont,jI (jW HB.o hS.1).size hc.lt.1⟩,hb⟩):P:=h
theorem qXj{P:Prop}(h:P:=by exact .inr (jI hm.size h)):P:=h
theorem qXk{P:Prop}(h:P:=by exact⟨_,rfl,rfl,((((HD.o.set0 _).set1 _).set2 _).set3 _).set4 _,uU (uU (uU (uU (uU (gA _ _) _) _) _) _) _⟩):P:=h
theorem qXl{P:Prop}(h:P:=by exact⟨_,rfl,oL (jD _),HD.o.below ((jU _ w).alloc (jD _) _),zN (gA _ _) _⟩):P:=h
theorem qXm{P:Prop}(h:P:=by exact⟨_,rfl,fF _ _,((((HD.o.d0 _).d1 _).d2 _).d3 _).d4 _,uU (uU (uU (uU (uU (gA _ _) _) _) _) _) _⟩):P:=h
theorem qXn{P:Prop}(h:P:=by exact vM h.blk hc qZ rfl):P:=h
theorem qXo{P:Prop}(h:P:=by exact⟨⟨(k 0).1.trans a0.1,(k 0).2.trans a0.2⟩,⟨(k 1).1.trans a1.1,(k 1).2.trans a1.2⟩,⟨(k 2).1.trans a2.1,(k 2).2.trans a2.2⟩,⟨(k 3).1.trans a3.1,(k 3).2.trans a3.2⟩,⟨(k 4).1.trans a4.1,(k 4).2.trans a4.2⟩⟩):P:=h
theorem qXp{P:Prop}(h:P:=by exact⟨_,rfl,fF _ _,((((HD.o.set0 _).set1 _).set2 _).set3 _).set4 _,uU (uU (uU (uU (uU (gA _ _) _) _) _) _) _⟩):P:=h
theorem qXq{P:Prop}(h:P:=by exact⟨_,results_tmp rfl _ _ _,v,rfl,ownsRow_putObj (pQ hrow (base':=w.heap.size) qJ) _ hK rfl,hB.grown (grownBy_putObj' W _ _) hB.size (fun k e=>by cases e;omega)⟩):P:=h
theorem qXr{P:Prop}(h:P:=by exact⟨by rw[HVV.o];rfl,hB⟩):P:=h
theorem qXs{P:Prop}(h:P:=by exact⟨rfl,HS.o.pre HB.o⟩):P:=h
theorem qXt{P:Prop}(h:P:=by exact⟨(jU _ _).drew,x0,x1,x2⟩):P:=h
theorem qXu{P:Prop}(h:P:=by exact⟨_,rfl,fun h=>by simp at h,by repeat(first|exact jU _ _|refine jH ?_ _)⟩):P:=h
theorem qXv{P:Prop}(h:P:=by exact⟨_,rfl,fun h=>absurd h qV,hB1⟩):P:=h
theorem qXw{P:Prop}(h:P:=by exact⟨_,rfl,fun h=>by simp at h,HB6.o⟩):P:=h
theorem qXx{P:Prop}(h:P:=by exact⟨rfl,(jU _ _).alloc (jD _) _⟩):P:=h
theorem qXy{P:Prop}(h:P:=by exact h.page.mod hM (fun b hb cs f he=>by rw[jM.1 hb]at he;exact vM h.blk he qZ rfl) (fun b hb hx=>h.np qT)):P:=h
theorem qXz{P:Prop}(h:P:=by exact⟨fun _ h=>by simp at h,by simp⟩):P:=h
theorem qX0{P:Prop}(h:P:=by exact⟨fun e h=>by rw[jM.1 h];rfl,by simp⟩):P:=h
theorem qX1{P:Prop}(h:P:=by exact⟨by simp,fun r h=>by rw[jM.1 h];omega⟩):P:=h
theorem qX2{P:Prop}(h:P:=by exact bodyPost_ret (bW rfl _ _ (w.heap.size+1) (aL ⟨g1,g2,g3,g4,FB⟩) rfl (uH hw) Tryz.underlying63 rfl pR) rfl ⟨rfl,yF HB.o qJ _ _⟩):P:=h
theorem qX3{P:Prop}(h:P:=by exact bodyPost_ret (pH rfl _ _ w.heap.size [.int .i64 0,.int .i64 0] rfl (uH hz) Tryz.underlying61 rfl gB) rfl ⟨by rw[HVV.o];rfl,uK (uK HB.o (jD _) _) (jD _) _⟩):P:=h
theorem qX4{P:Prop}(h:P:=by exact bodyPost_ret (pH rfl _ _ w.heap.size [.int .i64 (ocK co),.int .i64 (ocN co)] rfl (uH hz) Tryz.underlying61 rfl gB) rfl ⟨rfl,uK (uK HBZ.o (jD _) _) (jD _) _⟩):P:=h
theorem qX5{P:Prop}(h:P:=by exact bodyPost_ret (cU rfl _ _ w.heap.size [.int .i64 (ocK co.1),.int .i64 (ocN co.1)] rfl hr Tryz.underlying61 rfl gB) rfl ⟨by rw[HVV.o];rfl,hbe⟩):P:=h
theorem qX6{P:Prop}(h:P:=by exact⟨rfl,_,_,_,HW.o,HG3.o,HO3.o,fun g hg=>(HV3.o g hg).imp id (fun h=>by omega),HB3.o,rfl⟩):P:=h
theorem qX7{P:Prop}(h:P:=by exact⟨.pointer (some ⟨w'.heap.size,0,none⟩),w'.alloc (.cells yU 65),by unfold yU;clear hI;go_simp;rfl,⟨_,rfl,hI.1.size⟩,⟨hbb,HCA.o.below hbb,HDA.o.below hbb⟩,fun g hg=>by cases hg;exact jT rfl⟩):P:=h
theorem qX8{P:Prop}(h:P:=by exact⟨.pointer (some ⟨w'.heap.size,0,none⟩),w'.alloc (.cells yU 65),by unfold yU;clear hI;go_simp;rfl,⟨_,rfl,hI.1.size,by omega⟩,⟨hbb,HCA.o.below hbb,HDA.o.below hbb⟩,((jH (jU _ _) _).block g hgl).trans (hS g rfl),fun g hg=>by cases hg;exact jT rfl⟩):P:=h
theorem qX9{P:Prop}(h:P:=by exact⟨_,rfl,rfl,HINV.o _ (HR.post hb),HR.post hb⟩):P:=h
theorem qYa{P:Prop}(h:P:=by exact⟨by rw[←HRV2.o];rfl,HB.o⟩):P:=h
open Go.Proofs.Tryz renaming prog → jG
open Go.RowKit.Below renaming refl → jU
open List renaming mem_singleton → jM, getElem?_eq_getElem → jN, getElem?_eq_some_iff → jP, length_append → jC, take_succ_eq_append_getElem → kQ, mem_cons → kJ, mem_append → kU, replicate → kN, length_take → kC, getElem?_append_right → kI, length_set → uV, length_replicate → uG, getElem?_append_left → uD
open Nat renaming le_refl → jD, le_trans → jI, zero_add → kP
open ByteArray renaming empty → kH
open Go.World renaming setCell → uN
namespace Go.Proofs.YtaefcahblmopfaaGreatDoor
open Go.RowKit
theorem uE{W:World}{b o:Nat}{v:Value}(h:W.cell? ⟨b,o,none⟩=some v):b<W.heap.size:=World.block_lt_of_cell? W ⟨b,o,none⟩ h
theorem iH{W w1:World}(hb:Below W.heap.size W w1){b o:Nat}{v:Value}(h:W.cell? ⟨b,o,none⟩=some v∧W.frozen? ⟨b,o,none⟩=false):
 w1.cell? ⟨b,o,none⟩=some v∧w1.frozen? ⟨b,o,none⟩=false:=
 ⟨(hb.cell (p:=⟨b,o,none⟩) (uE h.1)).trans h.1,(hb.frozen (p:=⟨b,o,none⟩) (uE h.1)).trans h.2⟩
theorem kZ{W w1:World}(hb:Below W.heap.size W w1){a:Addr}{v:Value}(h:W.cell? a=some v):w1.cell? a=some v:=
 (hb.cell (World.block_lt_of_cell? W a h)).trans h
theorem jW{W w1 w2:World}(h:Below W.heap.size W w1)(hb:Below w1.heap.size w1 w2):Below W.heap.size W w2:=h.trans (hb.mono h.size)
theorem jH{W w1:World}(h:Below W.heap.size W w1)(o:Obj):Below W.heap.size W (w1.alloc o):=h.alloc h.size o
theorem uK{W w1:World}(h:Below W.heap.size W w1){b o:Nat}(hb:W.heap.size≤b)(v:Value):Below W.heap.size W (w1.setCell ⟨b,o,none⟩ v):=h.setCell (p:=⟨b,o,none⟩) hb v
theorem mN(w:World)(o:Obj)(k:Nat):(w.alloc o).heap[k]? =if k=w.heap.size then some o else w.heap[k]? :=by
 show(w.heap.push o)[k]? =_;rw[Array.getElem?_push]
theorem jT{W:World}{b:Nat}{o:Obj}(h:W.heap.size=b):(W.alloc o).heap[b]? =some o:=by rw[mN,if_pos h.symm]
theorem vJ{W:World}{b:Nat}{o x:Obj}(h:W.heap[b]? =some x):(W.alloc o).heap[b]? =some x:=by
 rw[mN,if_neg,h];rintro rfl;rw[Array.getElem?_eq_none (jD _)]at h;cases h
theorem uY{W w1:World}{b:Nat}{cs:Array Value}{t:TypeId}(hb:Below W.heap.size W w1)(h:W.heap[b]? =some (.cells cs t (0,0)))(i:Nat)(v:Value)(hv:cs[i]? =some v):
 w1.cell? ⟨b,i,none⟩=some v∧w1.frozen? ⟨b,i,none⟩=false:=by
 have hlt:b<W.heap.size:=by
  rcases Nat.lt_or_ge b W.heap.size with hlt|hge
  · exact hlt
  · rw[Array.getElem?_eq_none hge]at h;cases h
 refine⟨(hb.cell (p:=⟨b,i,none⟩) hlt).trans ?_,(hb.frozen (p:=⟨b,i,none⟩) hlt).trans ?_⟩
 · simp[World.cell?,h,hv]
 · simp[World.frozen?,h]
theorem pK{W:World}{b i b' i':Nat}{u v:Value}(h:W.cell? ⟨b,i,none⟩=some v∧W.frozen? ⟨b,i,none⟩=false)(hne:b'≠b∨i'≠i):(W.setCell ⟨b',i',none⟩ u).cell? ⟨b,i,none⟩=some v∧(W.setCell ⟨b',i',none⟩ u).frozen? ⟨b,i,none⟩=false:=by
 refine⟨(World.cell?_setCell_other W _ _ u (fun e=>?_)).trans h.1,?_⟩
 · injection e with e1 e2
   rcases hne with h|h
   · exact h e1
   · exact h e2
 · have e:(W.setCell ⟨b',i',none⟩ u).frozen? ⟨b,i,none⟩=W.frozen? ⟨b,i,none⟩:=by simp[go_sem]
   rw[e];exact h.2
theorem dZ{W:World}{b i:Nat}{u v:Value}(h:W.cell? ⟨b,i,none⟩=some v∧W.frozen? ⟨b,i,none⟩=false):(W.setCell ⟨b,i,none⟩ u).cell? ⟨b,i,none⟩=some u∧(W.setCell ⟨b,i,none⟩ u).frozen? ⟨b,i,none⟩=false:=by
 have h1:=h.1;have e:(W.setCell ⟨b,i,none⟩ u).frozen? ⟨b,i,none⟩=W.frozen? ⟨b,i,none⟩:=by simp[go_sem]
 refine⟨by simp[go_sem,h1],by rw[e];exact h.2⟩
theorem at_{W:World}{b:Nat}{cs:Array Value}{t:TypeId}(h:W.heap[b]? =some (.cells cs t (0,0)))(i:Nat)(v:Value)(hv:cs[i]? =some v):W.cell? ⟨b,i,none⟩=some v∧W.frozen? ⟨b,i,none⟩=false:=by
 refine⟨?_,?_⟩
 · simp[World.cell?,h,hv]
 · simp[World.frozen?,h]
theorem xT{P:Program}{ops:Array Oper}{Q:Exit→Act→World→Prop}{o:Oper}{rest:List Oper}{a:Act}{w:World}(v:Value)(hg:o.guard=none)(hr:(execOp a.eval o).run P w=.ok (.value v) w)(h:wpList P ops Q rest (a.put o.dst v) w):wpList P ops Q (o::rest) a w:=
 wpList_plain hg fun _ hK=>by unfold Oper.wp;rw[hr];exact hK _ _ h
structure Cl where
 r:Int
 more:ByteArray
 half:Int
 fk:Int
 fn:Int
 bk:Int
 bn:Int
 fl:Int
deriving DecidableEq
def clV(c:Cl):Value:=.agg #[.int .i32 c.r,.string c.more,.int .i64 c.half,.int .i64 c.fk,.int .i64 c.fn,.int .i64 c.bk,.int .i64 c.bn,.int .i64 c.fl]
theorem KB(a b:Cl):a=b↔a.r=b.r∧a.more.toList=b.more.toList∧a.half=b.half∧a.fk=b.fk∧a.fn=b.fn∧a.bk=b.bk∧a.bn=b.bn∧a.fl=b.fl:=by
 obtain⟨a0,a1,a2,a3,a4,a5,a6,a7⟩:=a;obtain⟨b0,b1,b2,b3,b4,b5,b6,b7⟩:=b;simp only[Cl.mk.injEq]
 constructor
 · rintro⟨h0,h1,h2,h3,h4,h5,h6,h7⟩;exact⟨h0,by rw[h1],h2,h3,h4,h5,h6,h7⟩
 · rintro⟨h0,h1,h2,h3,h4,h5,h6,h7⟩;exact⟨h0,WideShapes.bytes_inj (by rw[←ByteArray.toList_eq,←ByteArray.toList_eq,h1]),h2,h3,h4,h5,h6,h7⟩
theorem JG(ρ:Operand→Value)(dst:Option Tmp)(ty:TypeId)(pos:String)(af:Array Edge)(gd:Option (Nat×Bool))(x y:Operand)(a b:Cl)(hx:ρ x=clV a)(hy:ρ y=clV b)(w:World):
 (execOp ρ ⟨dst,.binOp .eql 65 x y 65,ty,pos,af,gd⟩).run jG w=.ok (.value (.bool (decide (a=b)))) w:=by
 have e:decide (a=b)=decide (a.r=b.r∧a.more.toList=b.more.toList∧a.half=b.half∧a.fk=b.fk∧a.fn=b.fn∧a.bk=b.bk∧a.bn=b.bn∧a.fl=b.fl):=decide_eq_decide.2 (KB a b);rw[e];unfold clV at hx hy
 go_simp
 repeat' split
 all_goals simp_all
theorem oV(ρ:Operand→Value)(dst:Option Tmp)(ty:TypeId)(pos:String)(af:Array Edge)(gd:Option (Nat×Bool))(x y:Operand)(a b:Cl)(hx:ρ x=clV a)(hy:ρ y=clV b)(w:World):
 (execOp ρ ⟨dst,.binOp .neq 65 x y 65,ty,pos,af,gd⟩).run jG w=.ok (.value (.bool (!decide (a=b)))) w:=by
 have e:decide (a=b)=decide (a.r=b.r∧a.more.toList=b.more.toList∧a.half=b.half∧a.fk=b.fk∧a.fn=b.fn∧a.bk=b.bk∧a.bn=b.bn∧a.fl=b.fl):=decide_eq_decide.2 (KB a b);rw[e];unfold clV at hx hy
 go_simp
 repeat' split
 all_goals simp_all
def Qs(w:World)(b o:Nat)(c:Cl):Prop:=w.cell? ⟨b,o,none⟩=some (.int .i32 c.r)∧w.cell? ⟨b,o+1,none⟩=some (.string c.more)∧w.cell? ⟨b,o+2,none⟩=some (.int .i64 c.half)∧w.cell? ⟨b,o+3,none⟩=some (.int .i64 c.fk)∧w.cell? ⟨b,o+4,none⟩=some (.int .i64 c.fn)∧w.cell? ⟨b,o+5,none⟩=some (.int .i64 c.bk)∧w.cell? ⟨b,o+6,none⟩=some (.int .i64 c.bn)∧w.cell? ⟨b,o+7,none⟩=some (.int .i64 c.fl)
theorem Qs.below{w w1:World}{b o:Nat}{c:Cl}(h:Qs w b o c)(hb:Below w.heap.size w w1):Qs w1 b o c:=by
 obtain⟨h0,h1,h2,h3,h4,h5,h6,h7⟩:=h;exact⟨kZ hb h0,kZ hb h1,kZ hb h2,kZ hb h3,kZ hb h4,kZ hb h5,kZ hb h6,kZ hb h7⟩
def zL(w:World)(A:Option Addr)(l:List Cl):Prop:=0<l.length→∃b off,A=some ⟨b,off,none⟩∧∀i c,l[i]? =some c→Qs w b (off+i*8) c
theorem zL.below{w w1:World}{A:Option Addr}{l:List Cl}(h:zL w A l)(hb:Below w.heap.size w w1):zL w1 A l:=fun hl=>by
 obtain⟨b,off,e,hc⟩:=h hl;exact⟨b,off,e,fun i s hs=>(hc i s hs).below hb⟩
theorem zL.at_{w:World}{A:Option Addr}{l:List Cl}(h:zL w A l){k:Nat}(hk:k<l.length):∃b off c,A=some ⟨b,off,none⟩∧l[k]? =some c∧Qs w b (off+k*8) c:=by
 obtain⟨b,off,hA,hc⟩:=h qJ;exact⟨b,off,l[k],hA,jN hk,hc k _ (jN hk)⟩
def eS:List (Int×Int):=[(0x300,0x36f),(0x483,0x489),(0x591,0x5bd),(0x610,0x61a),(0x64b,0x65f),(0x900,0x902),(0x93c,0x93c),(0x941,0x948),(0xe31,0xe31),(0xe34,0xe3a),(0x1ab0,0x1aff),(0x1dc0,0x1dff),(0x200b,0x200f),(0x20d0,0x20ff),(0x2060,0x2064),(0xfe00,0xfe0f),(0xfe20,0xfe2f),(0xfeff,0xfeff),(0xe0100,0xe01ef)]
def eC:List (Int×Int):=[(0x1100,0x115f),(0x231a,0x231b),(0x2329,0x232a),(0x23e9,0x23ec),(0x25fd,0x25fe),(0x2614,0x2615),(0x2e80,0x303e),(0x3041,0x33ff),(0x3400,0x4dbf),(0x4e00,0x9fff),(0xa000,0xa4cf),(0xa960,0xa97f),(0xac00,0xd7a3),(0xf900,0xfaff),(0xfe30,0xfe6f),(0xff00,0xff60),(0xffe0,0xffe6),(0x1f300,0x1f64f),(0x1f680,0x1f6ff),(0x1f900,0x1f9ff),(0x20000,0x2fffd),(0x30000,0x3fffd)]
def yA(l:List (Int×Int))(r:Int):Bool:=l.any (fun x=>decide (x.1≤r)&&decide (r≤x.2))
def bY(r:Int):Bool:=decide (r<32)||(decide (127≤r)&&decide (r<160))||(decide (0xd800≤r)&&decide (r<0xe000))||decide (0x10ffff<r)
def vB(r:Int):Int:=if bY r then -1 else if yA eS r then 0 else if yA eC r then 2 else 1
theorem KL{r:Int}(h:r<0x300):yA eS r=false∧yA eC r=false:=by
 constructor<;>
 · simp only[yA,eS,eC,List.any_cons,List.any_nil,Bool.or_false,Bool.or_eq_false_iff,Bool.and_eq_false_iff,decide_eq_false_iff_not];omega
theorem WF{r:Int}(h:r<0x300):vB r=if bY r then -1 else 1:=by
 unfold vB;rw[(KL h).1,(KL h).2];rfl
structure Atr where
 fk:Int
 fn:Int
 bk:Int
 bn:Int
 fl:Int
structure Col where
 k:Int
 n:Int
def vC(c:Cl):Atr:=⟨c.fk,c.fn,c.bk,c.bn,c.fl⟩
def gZ(r:Int)(more:ByteArray)(half:Int)(a:Atr):Cl:=⟨r,more,half,a.fk,a.fn,a.bk,a.bn,a.fl⟩
def gC(a:Atr):Cl:=gZ 0 kH 0 a
def kR(c:Cl):Cl:=gC (vC c)
def pY(b:Col):Cl:=gC ⟨0,0,b.k,b.n,0⟩
def ZH:Cl:=gZ 0 kH 3 ⟨0,0,0,0,0⟩
def yE(a b:Cl):Bool:=decide (a.half=1)&&decide (b.half=2)&&decide (a={b with half:=1})
def uJ:List Cl→List Cl
 |[]=>[]
 |[c]=>if c.half=0∨c.half=3 then[c]else[kR c]
 |c::d::l=>if c.half=0 then c::uJ (d::l)else if yE c d then c::d::uJ l else kR c::uJ (d::l)
theorem bC(c d:Cl)(l:List Cl):uJ (c::d::l)=if c.half=0 then c::uJ (d::l)else if yE c d then c::d::uJ l else kR c::uJ (d::l):=by rw[uJ]
theorem cE(c:Cl):uJ [c]=if c.half=0∨c.half=3 then[c]else[kR c]:=by rw[uJ]
theorem uL:∀l:List Cl,(uJ l).length=l.length
 |[]=>rfl
 |[c]=>by rw[uJ];split<;>rfl
 |c::d::l=>by
  rw[uJ];have h1:=uL (d::l);have h2:=uL l
  split
  · simp only[List.length_cons]at h1 ⊢;omega
  split
  · simp only[List.length_cons];omega
  · simp only[List.length_cons]at h1 ⊢;omega
theorem zO{c:Cl}(h:c.half=0)(l:List Cl):uJ (c::l)=c::uJ l:=by
 match l with
 |[]=>rw[cE,if_pos (Or.inl h)];rfl
 |d::l=>rw[uJ,if_pos h]
theorem cZ:∀l:List Cl,uJ (uJ l)=uJ l
 |[]=>rfl
 |[c]=>by
  rw[uJ]
  split
  · next h=>rw[uJ,if_pos h]
  · rw[zO rfl];rfl
 |c::d::l=>by
  have h1:=cZ (d::l);have h2:=cZ l;rw[uJ]
  split
  · next h=>rw[zO h,h1]
  split
  · next h hp=>rw[uJ,if_neg h,if_pos hp,h2]
  · rw[zO rfl,h1]
def fV(l:List Cl)(x r:Int)(a:Atr):List Cl:=
 let o:=uJ l
 if vB r=1∧0≤x∧x<o.length then uJ (o.set x.toNat (gZ r kH 0 a))
 else if vB r=2∧0≤x∧x+1<o.length then uJ ((o.set x.toNat (gZ r kH 1 a)).set (x.toNat+1) (gZ r kH 2 a))
 else o
def fE(l:List Cl):List Cl:=uJ ((uJ l).set (l.length-1) ZH)
def xE(b:Col)(x y:Int)(l:List Cl):List Cl:=l.mapIdx (fun i c=>if x≤i∧(i:Int)<y then pY b else c)
def bZ(l:List Cl)(x y:Int)(b:Col):List Cl:=uJ (xE b x y (uJ l))
def bM(l:List Cl)(x n:Int)(b:Col):List Cl:=
 let o:=uJ l
 if x<0∨(o.length:Int)≤x∨n<1 then o
 else uJ ((o.take x.toNat++kN n.toNat (pY b)++o.drop x.toNat).take o.length)
def lI(l:List Cl):Nat:=(l.reverse.dropWhile (fun c=>decide (c.r=0))).length
theorem qJy(l:List Cl)(x r:Int)(a:Atr):(fV l x r a).length=l.length:=by
 unfold fV;simp only[]
 split
 · rw[uL,uV,uL]
 split
 · rw[uL,uV,uV,uL]
 · rw[uL]
theorem UZ(l:List Cl):(fE l).length=l.length:=by unfold fE;rw[uL,uV,uL]
theorem Yf(l:List Cl)(x y:Int)(b:Col):(bZ l x y b).length=l.length:=by unfold bZ xE;rw[uL,List.length_mapIdx,uL]
theorem ZE(l:List Cl)(x n:Int)(b:Col):(bM l x n b).length=l.length:=by
 unfold bM;simp only[]
 split
 · exact uL l
 · rw[uL,kC];have :=uL l;simp only[jC,kC,uG,List.length_drop];omega
structure Ro where
 cs:List Cl
 cont:Bool
structure Tl where
 k:Int
 a:Int
 n:Int
structure Pg where
 room:Nat
 hist:List Ro
 gone:Int
 scr:List Ro
 cols:Nat
 told:List Tl
def zD(cols:Nat)(b:Col):Ro:=⟨kN cols (pY b),false⟩
def inP(g:Pg)(y:Int):Bool:=decide (0≤y)&&decide (y<g.scr.length)
def zC(g:Pg)(y:Int)(f:List Cl→List Cl):Pg:=if inP g y then{g with scr:=g.scr.modify y.toNat (fun r=>{r with cs:=f r.cs})}else g
def yB(g:Pg)(y:Int)(b:Bool):Pg:=if inP g y then{g with scr:=g.scr.modify y.toNat (fun r=>{r with cont:=b})}else g
def pA(g:Pg)(k a n:Int):Pg:={g with told:=g.told++[⟨k,a,n⟩]}
def sV(g:Pg)(r:Ro):Pg×Bool:=
 if g.room=0 then({g with gone:=g.gone+1},true)
 else if g.hist.length=g.room then({g with hist:=g.hist.drop 1++[r],gone:=g.gone+1},true)
 else({g with hist:=g.hist++[r]},false)
def yH(l:List Ro)(top bottom:Nat)(b:Ro):List Ro:=l.take top++((l.drop (top+1)).take (bottom-top)++(b::l.drop (bottom+1)))
def rI(l:List Ro)(top bottom:Nat)(b:Ro):List Ro:=l.take top++(b::((l.drop top).take (bottom-top)++l.drop (bottom+1)))
def Ys(g:Pg)(top bottom:Nat)(b:Col):Pg:=
 let g1:=pA (pA g 1 (g.hist.length+top) 1) 0 (g.hist.length+bottom) 1
 let g2:={g1 with scr:=yH g.scr top bottom (zD g.cols b)}
 yB (yB g2 top false) (bottom+1) false
def upP(g:Pg)(top bottom:Nat)(b:Col):Pg:=
 if 0<top then Ys g top bottom b
 else
  let g1:=pA g 0 (g.hist.length+bottom+1) 1
  let p:=sV g1 (g.scr.getD 0 ⟨[],false⟩)
  let g2:=if p.2 then pA p.1 2 0 1 else p.1
  let g3:={g2 with scr:=yH g.scr 0 bottom (zD g.cols b)}
  yB g3 (bottom+1) false
def oJ(f:Pg→Pg):Nat→Pg→Pg
 |0,g=>g
 |n+1,g=>f (oJ f n g)
def aU(g:Pg)(top bottom n:Int)(f:Nat→Nat→Pg→Pg):Pg:=
 if inP g top&&inP g bottom&&decide (top≤bottom)then oJ (f top.toNat bottom.toNat) (min n.toNat (bottom-top+1).toNat) g else g
def fT(g:Pg)(y x z:Int)(b:Col):Pg:=
 if inP g y then
  let g1:=zC g y (fun l=>bZ l x z b)
  if x<g.cols∧(g.cols:Int)≤z then(if x≤0 then yB (yB g1 (y+1) false) y false else yB g1 (y+1) false)else g1
 else g
theorem wZ{l:List Ro}{top bottom:Nat}{b:Ro}(h:top≤bottom)(h2:bottom<l.length):(yH l top bottom b).length=l.length:=by
 unfold yH;simp only[jC,kC,List.length_drop,List.length_cons];omega
theorem fR{α:Type}(a b:List α)(k:Nat)(f:α→α):(a++b).modify (a.length+k) f=a++b.modify k f:=by
 induction a with
 |nil=>simp
 |cons x a ih=>simp[Nat.succ_add,ih]
theorem Yx(g:Pg)(y:Int)(b:Bool):(yB g y b).hist=g.hist∧(yB g y b).gone=g.gone∧(yB g y b).told=g.told∧(yB g y b).cols=g.cols∧(yB g y b).room=g.room∧(yB g y b).scr.length=g.scr.length:=by
 unfold yB
 split
 · exact⟨rfl,rfl,rfl,rfl,rfl,by simp⟩
 · exact⟨rfl,rfl,rfl,rfl,rfl,rfl⟩
def vE(r:Int):Bool:=decide (0≤r)&&decide (r≤0x10ffff)&&(decide (r<0xd800)||decide (0xdfff<r))
def vD(r:Int):ByteArray:=
 if vE r then
  (if r<0x80 then⟨#[r.toNat.toUInt8]⟩
  else if r<0x800 then⟨#[(192+r/64).toNat.toUInt8,(128+r%64).toNat.toUInt8]⟩
  else if r<0x10000 then⟨#[(224+r/4096).toNat.toUInt8,(128+r/64%64).toNat.toUInt8,(128+r%64).toNat.toUInt8]⟩
  else⟨#[(240+r/262144).toNat.toUInt8,(128+r/4096%64).toNat.toUInt8,(128+r/64%64).toNat.toUInt8,(128+r%64).toNat.toUInt8]⟩)
 else kH
def gO(m:ByteArray)(c:Cl):Cl:={c with more:=m}
def cM(l:List Cl)(x r:Int):List Cl:=
 let o:=uJ l
 match o[x.toNat]? with
 |none=>o
 |some c=>
  if x<0∨c.r=0∨vB r≠0∨32<(c.more++vD r).size then o
  else
   let m:=c.more++vD r
   let o1:=if c.half=1 then o.modify (x.toNat+1) (gO m)else if c.half=2 then o.modify (x.toNat-1) (gO m)else o
   uJ (o1.modify x.toNat (gO m))
theorem V5(l:List Cl)(x r:Int):(cM l x r).length=l.length:=by
 unfold cM;simp only[]
 split
 · exact uL l
 · split
   · exact uL l
   · rw[uL,List.length_modify]
     split
     · rw[List.length_modify,uL]
     split
     · rw[List.length_modify,uL]
     · exact uL l
def rN(a:Atr):Col:=⟨a.bk,a.bn⟩
theorem QK{α:Type}{f:α→α}{y:α}:∀{l:List α} {i:Nat},y∈l.modify i f→y∈l∨∃x∈l,y=f x
 |[],i,h=>by simp at h
 |x::l,0,h=>by
  rw[List.modify_zero_cons]at h;rcases kJ.1 h with rfl|h
  · exact .inr ⟨x,by simp,rfl⟩
  · exact .inl (by simp[h])
 |x::l,i+1,h=>by
  rw[List.modify_succ_cons]at h;rcases kJ.1 h with rfl|h
  · exact .inl qV
  · rcases QK h with h|⟨z,hz,e⟩
    · exact .inl (by simp[h])
    · exact .inr ⟨z,by simp[hz],e⟩
structure Dk where
 n:Int
 need:Int
 hv:Int
 lo:Int
 hi:Int
deriving DecidableEq
def pI(c:Int):Dk:=
 if c<224 then⟨c%32,1,1,128,191⟩
 else if c<240 then⟨c%16,2,1,if c=224 then 160 else 128,if c=237 then 159 else 191⟩
 else⟨c%8,3,1,if c=240 then 144 else 128,if c=244 then 143 else 191⟩
def yT(d:Dk)(c:Int):Option Int×Dk:=
 if d.need=0 then(if c<128 then(some c,d)else(none,pI c))
 else if d.need=1 then(some (64*d.n+c%64),⟨64*d.n+c%64,0,0,128,191⟩)
 else(none,⟨64*d.n+c%64,d.need-1,d.hv+1,128,191⟩)
def okD(d:Dk)(c:Int):Prop:=
 (d.need=0∧d.hv=0∧(0≤c∧c<128∨194≤c∧c≤244))∨(1≤d.need∧d.need≤3∧1≤d.hv∧d.hv≤3∧128≤d.lo∧d.lo≤c∧c≤d.hi∧d.hi≤191∧0≤d.n∧d.n<32768)
def yO:Dk→List Int→List Int×Dk
 |d,[]=>([],d)
 |d,c::cs=>((yT d c).1.toList++(yO (yT d c).2 cs).1,(yO (yT d c).2 cs).2)
def fH:Dk→List Int→Prop
 |_,[]=>True
 |d,c::cs=>okD d c∧fH (yT d c).2 cs
theorem mV(d:Dk)(a b:List Int):yO d (a++b)=((yO d a).1++(yO (yO d a).2 b).1,(yO (yO d a).2 b).2):=by
 induction a generalizing d with
 |nil=>simp[yO]
 |cons c a ih=>simp[yO,ih]
theorem Kl(d:Dk)(a b:List Int)(ha:fH d a)(hb:fH (yO d a).2 b):fH d (a++b):=by
 induction a generalizing d with
 |nil=>exact hb
 |cons c a ih=>exact⟨ha.1,ih _ ha.2 hb⟩
theorem qKe{d:Dk}{l:List Int}(h:fH d l){i:Nat}(hi:i<l.length):okD (yO d (l.take i)).2 (l[i]'hi):=by
 induction l generalizing d i with
 |nil=>simp at hi
 |cons c l ih=>
  cases i with
  |zero=>exact h.1
  |succ i=>exact ih h.2 (by simpa using hi)
theorem aS(d:Dk)(l:List Int){i:Nat}(hi:i<l.length):
 yO d (l.take (i+1))=((yO d (l.take i)).1++(yT (yO d (l.take i)).2 l[i]).1.toList,(yT (yO d (l.take i)).2 l[i]).2):=by
 rw[kQ hi,mV];simp[yO]
def kO(r:Int):List Int:=
 if r<128 then[r]
 else if r<2048 then[192+r/64,128+r%64]
 else if r<65536 then[224+r/4096,128+r/64%64,128+r%64]
 else[240+r/262144,128+r/4096%64,128+r/64%64,128+r%64]
theorem dQ(r:Int)(h:vE r=true):vD r=strOfNums (kO r):=by
 unfold vD kO strOfNums;rw[h,if_pos rfl]
 repeat' split
 all_goals first|rfl|omega
theorem UN(r:Int)(h:vE r=true)(d:Dk)(hd:d.need=0∧d.hv=0):
 fH d (kO r)∧(yO d (kO r)).1=[r]∧(yO d (kO r)).2.need=0∧(yO d (kO r)).2.hv=0:=by
 obtain⟨n,need,hv,lo,hi⟩:=d;obtain⟨h1,h2⟩:=hd;simp only at h1 h2;subst h1 h2;have hr:0≤r∧r≤1114111∧(r<55296∨57343<r):=by unfold vE at h;simp at h;omega
 unfold kO
 by_cases hA:r<128
 · rw[if_pos hA];simp[fH,okD,yO,yT,hA];omega
 rw[if_neg hA]
 by_cases hB:r<2048
 · rw[if_pos hB];have e1:¬192+r/64<128:=by omega
   have e2:192+r/64<224:=by omega
   simp only[fH,okD,yO,yT,pI,if_pos,e1,e2,if_false,if_true,Option.toList,List.nil_append,and_true];simp;omega
 rw[if_neg hB]
 by_cases hC:r<65536
 · rw[if_pos hC];have e1:¬224+r/4096<128:=by omega
   have e2:¬224+r/4096<224:=by omega
   have e3:224+r/4096<240:=by omega
   simp only[fH,okD,yO,yT,pI,if_pos,e1,e2,e3,if_false,if_true,Option.toList,List.nil_append,and_true];simp;refine⟨⟨by omega,?_,by omega⟩,by omega⟩
   split<;>split<;>omega
 rw[if_neg hC];have e1:¬240+r/262144<128:=by omega
 have e2:¬240+r/262144<224:=by omega
 have e3:¬240+r/262144<240:=by omega
 simp only[fH,okD,yO,yT,pI,if_pos,e1,e2,e3,if_false,if_true,Option.toList,List.nil_append,and_true];simp;refine⟨⟨by omega,?_,by omega,by omega⟩,by omega⟩
 split<;>split<;>omega
theorem Qc(l:List Int)(h:∀r∈l,vE r=true)(d:Dk)(hd:d.need=0∧d.hv=0):
 fH d (l.flatMap kO)∧(yO d (l.flatMap kO)).1=l∧(yO d (l.flatMap kO)).2.need=0∧(yO d (l.flatMap kO)).2.hv=0:=by
 induction l generalizing d with
 |nil=>exact⟨trivial,rfl,hd⟩
 |cons r l ih=>
  obtain⟨h1,h2,h3⟩:=UN r (h r qV) d hd;obtain⟨i1,i2,i3⟩:=ih (fun x hx=>h x (by simp[hx])) (yO d (kO r)).2 h3;rw[List.flatMap_cons,mV];exact⟨Kl _ _ _ h1 i1,by rw[h2,i2];rfl,i3⟩
def yW(c:Int):Int:=if c<128 then 1 else if c<194∨244<c then 0 else if c<224 then 2 else if c<240 then 3 else 4
def pB(d:Dk)(c:Int):List Int×Dk:=if yW c=0 then([65533],d)else if yW c=1 then([c],d)else([],pI c)
def cF(d:Dk):Dk:={d with need:=0,hv:=0}
def gG(d:Dk)(c:Int):List Int×Dk:=
 if d.need=0 then pB d c
 else if c<d.lo∨d.hi<c then(65533::(pB (cF d) c).1,(pB (cF d) c).2)
 else if d.need=1 then([64*d.n+c%64],⟨64*d.n+c%64,0,0,128,191⟩)
 else([],⟨64*d.n+c%64,d.need-1,d.hv+1,128,191⟩)
def dU(d:Dk):List Int×Dk:=if d.hv=0 then([],d)else([65533],⟨0,0,0,0,0⟩)
structure DkOk(d:Dk):Prop where
 need:d.need=0∨d.need=1∨d.need=2∨d.need=3
 hv:0≤d.hv∧d.hv+d.need≤4
 n:d.need=0∨(0≤d.n∧(d.need=1→d.n<32768)∧(d.need=2→d.n<512)∧(d.need=3→d.n<8))
 b:0≤d.lo∧d.lo≤255∧0≤d.hi∧d.hi≤255
structure Ev where
 kind:Int
 r:Int
 byte:Int
 pre:Int
 nums:List (List Int)
 inter:List Int
 text:List Int
 cut:Bool
def evE:Ev:=⟨0,0,0,0,[],[],[],false⟩
structure Pz where
 pre:Int
 head:List Int
 inter:List Int
 text:List Int
 last:Int
 wrong:Bool
 cut:Bool
 most:Int
 state:Int
 dec:Dk
def dL(most:Int):Pz:=⟨0,[],[],[],0,false,false,most,0,⟨0,0,0,0,0⟩⟩
def dM(p:Pz):Pz:={p with pre:=0,head:=[],inter:=[],text:=[],last:=0,wrong:=true,cut:=false}
def gV(p:Pz)(s:Int):Pz:={p with pre:=0,head:=[],inter:=[],text:=[],last:=0,wrong:=false,cut:=false,state:=s}
def QY(p:Pz)(c:Int):Pz:=if p.wrong then p else{p with inter:=p.inter++[c]}
def iT(p:Pz)(c:Int):Pz:=QY (if p.inter.length=2 then dM p else p) c
def nH(p:Pz)(c:Int):Pz:=
 if p.wrong then p
 else if 60≤c∧p.pre=0∧p.head.length=0∧p.inter.length=0 then{p with pre:=c}
 else if 60≤c∨0<p.inter.length∨p.head.length=256 then dM p
 else{p with head:=p.head++[c]}
def Jp(p:Pz)(c:Int):Pz:=if p.most≤p.text.length then{p with cut:=true}else{p with text:=p.text++[c]}
def zJ(sep:Int):Nat→List Int→List (List Int)
 |0,_=>[]
 |n+1,s=>if sep∈s then s.takeWhile (· ≠sep)::zJ sep n ((s.dropWhile (· ≠sep)).drop 1)else[s]
def xO(s:List Int):Int:=if s.length=0 then -1 else s.foldl (fun n c=>min (n*10+(c-48)) 65535) 0
def ZB(s:List Int):List (List Int):=(zJ 59 32 s).map (fun g=>(zJ 58 8 g).map xO)
def oB(p:Pz)(kind last:Int):Ev:=⟨kind,0,last,p.pre,ZB p.head,p.inter,p.text,p.cut⟩
def mF(p:Pz):List Ev:=
 if p.state=4 then[{evE with kind:=4,text:=p.text,cut:=p.cut}]
 else if p.state=3∧p.last≠0∧p.wrong=false then[oB p 5 p.last]
 else[]
def qKz(p:Pz)(c:Int):List Ev:=if p.wrong then[]else[{evE with kind:=2,byte:=c,inter:=p.inter}]
def bT(p:Pz)(c:Int):Pz×List Ev:=
 if p.inter.length=0∧p.wrong=false∧c=91 then(gV p 2,[])
 else if p.inter.length=0∧p.wrong=false∧c=93 then(gV p 4,[])
 else if p.inter.length=0∧p.wrong=false∧c=80 then(gV p 3,[])
 else if p.inter.length=0∧p.wrong=false∧(c=88∨c=94∨c=95)then(gV p 5,[])
 else(gV p 0,qKz p c)
def sL(c:Int):Ev:={evE with kind:=1,byte:=c}
def print1(p:Pz)(r:Int):Pz×List Ev:=
 if r<32 then(p,[sL r])else if r=127 then(p,[])else if 128≤r∧r<160 then bT p (r-64)else(p,[{evE with r:=r}])
def vZ:Pz→List Int→Pz×List Ev
 |p,[]=>(p,[])
 |p,r::l=>((vZ (print1 p r).1 l).1,(print1 p r).2++(vZ (print1 p r).1 l).2)
def cI(p:Pz)(c:Int):Pz×List Ev:=if c<48 then(iT p c,[])else bT p c
def csiE(p:Pz)(c:Int):List Ev:=if p.wrong then[]else[oB p 3 c]
def mM(p:Pz)(c:Int):Pz×List Ev:=
 if c<48 then(iT p c,[])else if c<64 then(nH p c,[])else if p.state=3 then({p with last:=c},[])else(gV p 0,csiE p c)
def eG(p:Pz)(c:Int):Pz×List Ev:=
 if p.state=3∧p.wrong=false then(Jp p c,[])
 else if p.state≠4 then(p,[])
 else if c=7 then(gV p 0,mF p)
 else if 32≤c∧c≠127 then(Jp p c,[])
 else(p,[])
def U6(p:Pz)(c:Int):Pz×List Ev:=vZ {p with dec:=(gG p.dec c).2} (gG p.dec c).1
def fB(p:Pz):Pz×List Ev:=vZ {p with dec:=(dU p.dec).2} (dU p.dec).1
def dO(p:Pz)(c:Int):Pz×List Ev:=
 if 128≤c then U6 (gV p 0) c
 else if c=127∨(c<32∧p.state=3)then(p,[])
 else if c<32 then(p,[sL c])
 else if p.state=1 then cI p c
 else mM p c
def vP(p:Pz)(c:Int):Pz×List Ev:=
 if c=24∨c=26 then(gV (fB p).1 0,(fB p).2++[sL c])
 else if c=27 then(gV (fB p).1 1,(fB p).2++mF (fB p).1)
 else if p.state=0 then U6 p c
 else if p.state=4∨p.state=5∨(p.state=3∧p.last≠0)then eG p c
 else dO p c
structure PzOk(p:Pz):Prop where
 pre:0≤p.pre∧p.pre≤255
 head:p.head.length≤256∧∀c∈p.head,48≤c∧c<60
 inter:p.inter.length≤2∧∀c∈p.inter,0≤c∧c≤255
 text:(p.text.length:Int)≤p.most∧∀c∈p.text,0≤c∧c≤255
 last:0≤p.last∧p.last≤255
 most:1≤p.most∧p.most≤65536
 state:0≤p.state∧p.state≤5
 dec:DkOk p.dec
theorem DkOk.zero:DkOk ⟨0,0,0,0,0⟩:=⟨.inl rfl,by simp,.inl rfl,by simp⟩
theorem DkOk.wipe{d:Dk}(h:DkOk d):DkOk (cF d):=⟨.inl rfl,by simp[cF],.inl rfl,h.b⟩
theorem DkOk.begin{d:Dk}{c:Int}(h:DkOk d)(hc:0≤c∧c≤255):DkOk (pB d c).2:=by
 unfold pB
 split
 · exact h
 split
 · exact h
 · rename_i h0 h1
   unfold yW at h0 h1;show DkOk (pI c);unfold pI;have :194≤c∧c≤244:=by
    constructor
    · rcases Int.lt_or_le c 128 with h|h
      · exact absurd (if_pos h) h1
      · rcases Int.lt_or_le c 194 with h2|h2
        · exact absurd qZq h0
        · exact h2
    · rcases Int.lt_or_le 244 c with h2|h2
      · exact absurd qZr h0
      · exact h2
   split
   · exact⟨by simp,by simp,.inr ⟨by simp;omega,by simp;omega,by simp,by simp⟩,by simp⟩
   split
   · exact⟨by simp,by simp,.inr ⟨by simp;omega,by simp,by simp;omega,by simp⟩,by simp only[];split<;>split<;>omega⟩
   · exact⟨by simp,by simp,.inr ⟨by simp;omega,by simp,by simp,by simp;omega⟩,by simp only[];split<;>split<;>omega⟩
theorem DkOk.step{d:Dk}{c:Int}(h:DkOk d)(hc:0≤c∧c≤255):DkOk (gG d c).2:=by
 unfold gG
 split
 · exact h.begin hc
 split
 · exact h.wipe.begin hc
 rename_i h0 h1
 obtain⟨a1,a2,a3,a4⟩:=h
 split
 · exact⟨.inl rfl,by simp,.inl rfl,by simp⟩
 · exact⟨by simp only[];omega,by simp only[];omega,.inr ⟨by simp only[];omega,by simp only[];omega,by simp only[];omega,by simp only[];omega⟩,by simp⟩
theorem DkOk.ends{d:Dk}(h:DkOk d):DkOk (dU d).2:=by
 unfold dU
 split
 · exact h
 · exact DkOk.zero
theorem PzOk.spoil{p:Pz}(h:PzOk p):PzOk (dM p):=⟨by simp[dM],by simp[dM],by simp[dM],⟨by have :=h.most;simp[dM];omega,by simp[dM]⟩,by simp[dM],h.most,h.state,h.dec⟩
theorem PzOk.enter{p:Pz}(h:PzOk p){s:Int}(hs:0≤s∧s≤5):PzOk (gV p s):=⟨by simp[gV],by simp[gV],by simp[gV],⟨by have :=h.most;simp[gV];omega,by simp[gV]⟩,by simp[gV],h.most,hs,h.dec⟩
theorem QJ{l:List Int}{x c:Int}{P:Int→Prop}(h:∀c∈l,P c)(hx:P x)(hc:c∈l++[x]):P c:=by
 rcases kU.1 hc with h1|h1
 · exact h c h1
 · rw[jM.1 h1];exact hx
theorem PzOk.between{p:Pz}(h:PzOk p){c:Int}(hc:0≤c∧c≤255):PzOk (iT p c):=by
 unfold iT;have key:∀q:Pz,PzOk q→q.inter.length<2∨q.wrong=true→PzOk (QY q c):=fun q hq h2=>by
  unfold QY
  split
  · exact hq
  · rename_i hw
    have h3:q.inter.length<2:=by rcases h2 with h2|h2;exact h2;exact absurd h2 hw
    exact⟨hq.pre,hq.head,⟨by simp;omega,fun x hx=>QJ hq.inter.2 hc hx⟩,hq.text,hq.last,hq.most,hq.state,hq.dec⟩
 split
 · exact key _ h.spoil (.inr rfl)
 · exact key _ h (.inl (by have :=h.inter.1;omega))
theorem PzOk.number{p:Pz}(h:PzOk p){c:Int}(hc:48≤c∧c<64):PzOk (nH p c):=by
 unfold nH
 split
 · exact h
 split
 · exact⟨by simp;omega,h.head,h.inter,h.text,h.last,h.most,h.state,h.dec⟩
 split
 · exact h.spoil
 · rename_i h1 h2 h3
   exact⟨h.pre,⟨by have :=h.head.1;simp;omega,fun x hx=>QJ h.head.2 qJ hx⟩,h.inter,h.text,h.last,h.most,h.state,h.dec⟩
theorem PzOk.put{p:Pz}(h:PzOk p){c:Int}(hc:0≤c∧c≤255):PzOk (Jp p c):=by
 unfold Jp
 split
 · exact⟨h.pre,h.head,h.inter,h.text,h.last,h.most,h.state,h.dec⟩
 · exact⟨h.pre,h.head,h.inter,⟨by simp;omega,fun x hx=>QJ h.text.2 hc hx⟩,h.last,h.most,h.state,h.dec⟩
theorem PzOk.final{p:Pz}(h:PzOk p)(c:Int):PzOk (bT p c).1:=by
 unfold bT
 split
 · exact h.enter qJ
 split
 · exact h.enter qJ
 split
 · exact h.enter qJ
 split
 · exact h.enter qJ
 · exact h.enter qJ
theorem PzOk.print1{p:Pz}(h:PzOk p)(r:Int):PzOk (print1 p r).1:=by
 unfold Go.Proofs.YtaefcahblmopfaaGreatDoor.print1
 split
 · exact h
 split
 · exact h
 split
 · exact h.final _
 · exact h
theorem PzOk.prints{p:Pz}(h:PzOk p):∀l:List Int,PzOk (vZ p l).1:=fun l=>by
 induction l generalizing p with
 |nil=>exact h
 |cons r l ih=>exact ih (h.print1 r)
theorem PzOk.withDec{p:Pz}(h:PzOk p){d:Dk}(hd:DkOk d):PzOk {p with dec:=d}:=⟨h.pre,h.head,h.inter,h.text,h.last,h.most,h.state,hd⟩
theorem PzOk.decode{p:Pz}(h:PzOk p){c:Int}(hc:0≤c∧c≤255):PzOk (U6 p c).1:=(h.withDec (h.dec.step hc)).prints _
theorem PzOk.done{p:Pz}(h:PzOk p):PzOk (fB p).1:=(h.withDec h.dec.ends).prints _
theorem PzOk.inEscape{p:Pz}(h:PzOk p){c:Int}(hc:0≤c∧c≤255):PzOk (cI p c).1:=by
 unfold cI
 split
 · exact h.between hc
 · exact h.final c
theorem PzOk.inSeq{p:Pz}(h:PzOk p){c:Int}(hc:0≤c∧c≤255):PzOk (mM p c).1:=by
 unfold mM
 split
 · exact h.between hc
 split
 · exact h.number qJ
 split
 · exact⟨h.pre,h.head,h.inter,h.text,hc,h.most,h.state,h.dec⟩
 · exact h.enter qJ
theorem PzOk.inString{p:Pz}(h:PzOk p){c:Int}(hc:0≤c∧c≤255):PzOk (eG p c).1:=by
 unfold eG
 split
 · exact h.put hc
 split
 · exact h
 split
 · exact h.enter qJ
 split
 · exact h.put hc
 · exact h
theorem PzOk.inHead{p:Pz}(h:PzOk p){c:Int}(hc:0≤c∧c≤255):PzOk (dO p c).1:=by
 unfold dO
 split
 · exact(h.enter qJ).decode hc
 split
 · exact h
 split
 · exact h
 split
 · exact h.inEscape hc
 · exact h.inSeq hc
theorem PzOk.step{p:Pz}(h:PzOk p){c:Int}(hc:0≤c∧c≤255):PzOk (vP p c).1:=by
 unfold vP
 split
 · exact h.done.enter qJ
 split
 · exact h.done.enter qJ
 split
 · exact h.decode hc
 split
 · exact h.inString hc
 · exact h.inHead hc
section
variable {α:Type}(enc:α→List Value)(k:Nat)
def uM(l:List α):List Value:=l.flatMap enc
def pT(w:World)(A:Option Addr)(l:List α):Prop:=
 0<l.length→∃b off,A=some ⟨b,off,none⟩∧∀i x,l[i]? =some x→∀j v,(enc x)[j]? =some v→w.cell? ⟨b,off+i*k+j,none⟩=some v
variable {enc k}
theorem uI(l m:List α):uM enc (l++m)=uM enc l++uM enc m:=by simp[uM]
theorem pM(hk:∀x,(enc x).length=k)(l:List α):(uM enc l).length=l.length*k:=by
 induction l with
 |nil=>simp[uM]
 |cons x l ih=>
  have e:uM enc (x::l)=enc x++uM enc l:=rfl;rw[e,jC,ih,hk,List.length_cons,Nat.add_mul];omega
theorem Un(hk:∀x,(enc x).length=k):∀(l:List α) (i:Nat) (x:α),l[i]? =some x→∀j,j<k→(uM enc l)[i*k+j]? =(enc x)[j]?
 |[],i,x,h,j,hj=>by simp at h
 |y::l,0,x,h,j,hj=>by
  obtain rfl:y=x:=by simpa using h
  have e:uM enc (y::l)=enc y++uM enc l:=rfl;rw[e,Nat.zero_mul,kP,uD (by rw[hk];exact hj)]
 |y::l,i+1,x,h,j,hj=>by
  have e:uM enc (y::l)=enc y++uM enc l:=rfl;rw[e,kI (by rw[hk,Nat.add_mul];omega),hk,show(i+1)*k+j-k=i*k+j from by rw[Nat.add_mul];omega];exact Un hk l i x qD j hj
theorem sD(h1:∀x,∀v∈enc x,v.oneCell'=true)(l:List α):∀u∈uM enc l,u.oneCell'=true:=by
 intro u hu;simp only[uM,List.mem_flatMap]at hu;obtain⟨x,_,hx⟩:=hu;exact h1 x u hx
theorem pT.below{w w1:World}{A:Option Addr}{l:List α}(h:pT enc k w A l)(hb:Below w.heap.size w w1):pT enc k w1 A l:=fun hl=>by
 obtain⟨b,off,e,hc⟩:=h hl;exact⟨b,off,e,fun i x hx j v hv=>kZ hb (hc i x hx j v hv)⟩
theorem pT.at_{w:World}{A:Option Addr}{l:List α}(h:pT enc k w A l){i:Nat}(hi:i<l.length):∃b off x,A=some ⟨b,off,none⟩∧l[i]? =some x∧∀j v,(enc x)[j]? =some v→w.cell? ⟨b,off+i*k+j,none⟩=some v:=by
 obtain⟨b,off,hA,hc⟩:=h qJ;exact⟨b,off,l[i],hA,jN hi,hc i _ (jN hi)⟩
theorem vF(b off j:Nat):(⟨b,off,none⟩:Addr).add j=⟨b,off+j,none⟩:=by
 unfold Addr.add
 by_cases hz:j=0
 · rw[if_pos hz,hz];rfl
 · rw[if_neg hz]
theorem pT.news{w:World}{ad:Addr}{l:List α}(hk:∀x,(enc x).length=k)(h:pT enc k w (some ad) l):∀j u,(uM enc l)[j]? =some u→w.cell? (ad.add j)=some u:=by
 intro j u hj;have hlt:=(jP.1 hj).1;rw[pM hk]at hlt;have hl0:0<l.length:=by
  rcases Nat.eq_zero_or_pos l.length with h0|h0
  · rw[h0]at hlt;omega
  · exact h0
 have hk0:0<k:=by
  rcases Nat.eq_zero_or_pos k with h0|h0
  · rw[h0]at hlt;omega
  · exact h0
 obtain⟨b,off,e,hc⟩:=h hl0;obtain rfl:ad=⟨b,off,none⟩:=by simpa using e
 rw[vF];have hi:j/k<l.length:=Nat.div_lt_of_lt_mul (by rw[Nat.mul_comm];exact hlt);have hm:j%k<k:=Nat.mod_lt _ hk0;have e1:j/k*k+j%k=j:=Nat.div_add_mod' j k;have h1:=Un hk l (j/k) _ (jN hi) (j%k) hm;rw[e1,hj]at h1;have h2:=hc (j/k) _ (jN hi) (j%k) u h1.symm;rw[show off+j=off+j/k*k+j%k from by omega];exact h2
end
structure Mod(X:List Nat)(w w':World):Prop where
 os:w'.os=w.os
 tape:w'.tape=w.tape
 output:w'.output=w.output
 size:w.heap.size≤w'.heap.size
 block:∀k,k<w.heap.size→k∉X→w'.heap[k]? =w.heap[k]?
theorem Mod.refl(X:List Nat)(w:World):Mod X w w:=⟨rfl,rfl,rfl,jD _,fun _ _ _=>rfl⟩
theorem Mod.trans{X Y:List Nat}{a b c:World}(h:Mod X a b)(k:Mod Y b c)(hY:∀g∈Y,g∈X∨a.heap.size≤g):Mod X a c:=
 ⟨k.os.trans h.os,k.tape.trans h.tape,k.output.trans h.output,jI h.size k.size,fun i hi hx=>(k.block i (Nat.lt_of_lt_of_le hi h.size) (fun hy=>by
  rcases hY i hy with h1|h1
  · exact hx h1
  · omega)).trans (h.block i hi hx)⟩
theorem Mod.of_below{X:List Nat}{w w':World}(h:Below w.heap.size w w'):Mod X w w':=⟨h.os,h.tape,h.output,h.size,fun k hk _=>h.block k hk⟩
theorem Mod.below{X:List Nat}{w w':World}{B:Nat}(h:Mod X w w')(hX:∀g∈X,B≤g)(hB:B≤w.heap.size):Below B w w':=⟨h.os,h.tape,h.output,h.size,fun k hk=>h.block k qJ (fun hx=>by have :=hX k hx;omega)⟩
theorem Mod.mono{X Y:List Nat}{w w':World}(h:Mod X w w')(hXY:∀g∈X,g∈Y):Mod Y w w':=⟨h.os,h.tape,h.output,h.size,fun k hk hy=>h.block k hk (fun hx=>hy (hXY k hx))⟩
theorem Mod.then_below{X:List Nat}{a b c:World}(h:Mod X a b)(k:Below b.heap.size b c):Mod X a c:=h.trans (Mod.of_below (X:=[]) k) (fun g hg=>by cases hg)
theorem Mod.of_grown{X:List Nat}{w w':World}{row:Option Nat}(h:w.grownBy w' row)(hX:∀g,row=some g→g∈X):Mod X w w':=
 ⟨h.os,h.tape,h.output,h.size,fun k hk hx=>h.block k hk (fun e=>hx (hX k e.symm))⟩
theorem Mod.setCell{X:List Nat}{w w1:World}(h:Mod X w w1){a:Addr}(ha:a.block∈X∨w.heap.size≤a.block)(v:Value):Mod X w (w1.setCell a v):=
 ⟨h.os,h.tape,h.output,by simpa[uN]using h.size,fun k hk hx=>by
  rw[Below.heap_setCell _ _ _ _ (fun e=>by subst e;rcases ha with h1|h1;exact hx h1;omega)];exact h.block k hk hx⟩
theorem Mod.cell{X:List Nat}{w w1:World}(h:Mod X w w1){b o:Nat}{v:Value}(hb:b∉X)(hc:w.cell? ⟨b,o,none⟩=some v):w1.cell? ⟨b,o,none⟩=some v:=
 (World.cell?_of_block (w:=w) (h.block b (uE hc) hb)).trans hc
theorem Mod.hold{X:List Nat}{w w1:World}(h:Mod X w w1){b o:Nat}{v:Value}(hb:b∉X)(hc:w.cell? ⟨b,o,none⟩=some v∧w.frozen? ⟨b,o,none⟩=false):w1.cell? ⟨b,o,none⟩=some v∧w1.frozen? ⟨b,o,none⟩=false:=
 ⟨h.cell hb hc.1,(World.frozen?_of_block (w:=w) (h.block b (uE hc.1) hb)).trans hc.2⟩
theorem kD{X:List Nat}{w w':World}{base:Nat}{e:TypeId}{size:Nat}{v:Value}{n:Nat}{xs:List Value}(h:w.ownsRow base e size v n xs)(hm:Mod X w w')(hX:∀g,v.ownBlock=some g→g∉X):w'.ownsRow base e size v n xs:=by
 obtain⟨h1,h2|⟨g,cap,cur,rfl,e2,e3,e4⟩⟩:=h
 · exact⟨h1,.inl h2⟩
 · refine⟨h1,.inr ⟨g,cap,cur,rfl,e2,?_,e4⟩⟩;rw[hm.block g ?_ (hX g rfl)];exact e3;rcases Nat.lt_or_ge g w.heap.size with h|h
   · exact h
   · rw[Array.getElem?_eq_none h]at e3;cases e3
theorem xB{w w':World}{base:Nat}{e:TypeId}{size:Nat}{v:Value}{n:Nat}{xs:List Value}(h:w.ownsRow base e size v n xs)(hb:Below w.heap.size w w'):w'.ownsRow base e size v n xs:=
 kD h (Mod.of_below (X:=[]) hb) (fun _ _ h=>by cases h)
theorem tR{α:Type}{enc:α→List Value}{k:Nat}{X:List Nat}{w w1:World}{b off:Nat}{l:List α}(h:pT enc k w (some ⟨b,off,none⟩) l)(hm:Mod X w w1)(hX:b∉X):pT enc k w1 (some ⟨b,off,none⟩) l:=fun hl=>by
 obtain⟨b',off',e,hc⟩:=h hl;simp only[Option.some.injEq,Addr.mk.injEq]at e;obtain⟨rfl,rfl,-⟩:=e;exact⟨b,off,rfl,fun i x hx j v hv=>hm.cell hX (hc i x hx j v hv)⟩
theorem pQ{w:World}{base base':Nat}{e:TypeId}{size:Nat}{v:Value}{n:Nat}{xs:List Value}(h:w.ownsRow base e size v n xs)(hb:base'≤base):w.ownsRow base' e size v n xs:=by
 obtain⟨h1,h2|⟨g,cap,cur,rfl,e2,e3⟩⟩:=h
 · exact⟨h1,.inl h2⟩
 · exact⟨h1,.inr ⟨g,cap,cur,rfl,jI hb e2,e3⟩⟩
theorem wM{w w':World}(hg:w.grownBy w' (Value.ownBlock (.slice none 0 0))){b o:Nat}{v:Value}(h:w.cell? ⟨b,o,none⟩=some v)(hf:w.frozen? ⟨b,o,none⟩=false):w'.frozen? ⟨b,o,none⟩=false:=
 (World.frozen?_of_block (w:=w) (hg.block b (uE h) (fun e=>by cases e))).trans hf
section
variable {P:Program}
theorem mC{w w':World}{ρ:Operand→Value}{o:Oper}(s x:Operand)(t:TypeId)(ho:o.op=.call {callee:=.builtin .append,args:=#[s,x],argTypes:=#[t,t]})(vs vx v':Value)(hs:ρ s=vs)(hx:ρ x=vx)
 (hr:(Builtin.append_ #[t,t] o.type #[vs,vx]).run P w=.ok v' w'):(execOp ρ o).run P w=.ok (.value v') w':=by
 unfold execOp;simp only[ho,resolve,invoke,builtin,Sem.run_bind,Sem.run_pure,Result.andThen_ok,List.map_toArray,List.map_cons,List.map_nil,hs,hx,hr]
end
def nV(W:World)(b i:Nat)(v:Value):Prop:=W.cell? ⟨b,i,none⟩=some v∧W.frozen? ⟨b,i,none⟩=false
theorem vR{w:World}{b o:Nat}{v:Value}{cs:Array Value}{e:TypeId}{fz:Nat×Nat}(h:w.heap[b]? =some (.cells cs e fz)):(w.setCell ⟨b,o,none⟩ v).heap[b]? =some (.cells (cs.setIfInBounds o v) e fz):=by
 unfold uN;simp only[Array.getElem?_modify,if_true,h];rfl
theorem fY{W:World}{b:Nat}{u v u' v':Value}(h0:W.cell? ⟨b,0,none⟩=some u∧W.frozen? ⟨b,0,none⟩=false)(h1:W.cell? ⟨b,1,none⟩=some v∧W.frozen? ⟨b,1,none⟩=false):
 (((W.setCell ⟨b,0,none⟩ u').setCell ⟨b,1,none⟩ v').cell? ⟨b,0,none⟩=some u'∧((W.setCell ⟨b,0,none⟩ u').setCell ⟨b,1,none⟩ v').frozen? ⟨b,0,none⟩=false)∧((W.setCell ⟨b,0,none⟩ u').setCell ⟨b,1,none⟩ v').cell? ⟨b,1,none⟩=some v'∧((W.setCell ⟨b,0,none⟩ u').setCell ⟨b,1,none⟩ v').frozen? ⟨b,1,none⟩=false:=by
 have k0:=dZ (u:=u') h0;have k1:(W.setCell ⟨b,0,none⟩ u').cell? ⟨b,1,none⟩=some v∧(W.setCell ⟨b,0,none⟩ u').frozen? ⟨b,1,none⟩=false:=⟨(World.cell?_setCell_other W _ _ _ (fun e=>by injection e with e1 e2;omega)).trans h1.1,by rw[World.frozen?_setCell];exact h1.2⟩;exact⟨⟨(World.cell?_setCell_other _ _ _ _ (fun e=>by injection e with e1 e2;omega)).trans k0.1,by rw[World.frozen?_setCell];exact k0.2⟩,dZ k1⟩
theorem uT{w:World}{base n:Nat}{e:TypeId}{v:Value}{xs:List Value}{size:Nat}(h:w.ownsRow base e size v n xs):∃A c,v=.slice A n c:=by
 rcases h.2 with⟨rfl,rfl⟩|⟨g,cap,cur,rfl,_⟩
 · exact⟨none,0,rfl⟩
 · exact⟨_,cap,rfl⟩
theorem kA{w:World}{b:Nat}{cs cs':List Value}{t:TypeId}(h:w.heap[b]? =some (.cells cs.toArray t (0,0)))(i:Nat)(v:Value)(hc:cs.set i v=cs'):(w.setCell ⟨b,i,none⟩ v).heap[b]? =some (.cells cs'.toArray t (0,0)):=by
 rw[vR h,←hc];simp
theorem uS{w:World}{b:Nat}{cs:List Value}{t:TypeId}(h:w.heap[b]? =some (.cells cs.toArray t (0,0)))(i:Nat)(v:Value)(hc:cs[i]? =some v):nV w b i v:=
 at_ h i v (by simpa using hc)
theorem vT{w:World}{b k i:Nat}{v:Value}(h:k≠b):(w.setCell ⟨b,i,none⟩ v).heap[k]? =w.heap[k]? :=Below.heap_setCell _ _ _ _ h
section
variable {P:Program}
end
end Go.Proofs.YtaefcahblmopfaaGreatDoor
namespace Go
variable {P:Program}
theorem jB{ops:Array Oper}{rest:List Oper}{op:Oper}{a:Act}{w:World}{Q:Exit→Act→World→Prop}(v:Value)(hw:Region.wanted op (yielded ops a.tmps)=true)(hr:(execOp a.eval op).run P w=.ok (.value v) w)
 (h:wpList P ops Q rest (a.put op.dst v) w):wpList P ops Q (op::rest) a w:=by
 unfold wpList;rw[if_pos hw];refine .inl ?_;unfold Oper.wp;rw[hr];exact h
theorem uC{ops:Array Oper}{rest:List Oper}{op:Oper}{a:Act}{w:World}{Q:Exit→Act→World→Prop}(v:Value)(w':World)(hw:Region.wanted op (yielded ops a.tmps)=true)(hr:(execOp a.eval op).run P w=.ok (.value v) w')
 (h:wpList P ops Q rest (a.put op.dst v) w'):wpList P ops Q (op::rest) a w:=by
 unfold wpList;rw[if_pos hw];refine .inl ?_;unfold Oper.wp;rw[hr];exact h
end Go
namespace Go.Proofs.YtaefcahblmopfaaGreatDoor
open Go.RowKit
def QE(x:Int×Int):List Value:=[.int .i32 x.1,.int .i32 x.2]
theorem nD:∀x,(QE x).length=2:=fun _=>rfl
theorem yN{α:Type}{enc:α→List Value}{K:Nat}(hl:∀x,(enc x).length=K):∀(X:List α) (k:Nat) (x:α) (j:Nat),X[k]? =some x→j<K→(uM enc X)[k*K+j]? =(enc x)[j]?
 |[],k,x,j,h,_=>by simp at h
 |y::X,0,x,j,h,hj=>by
  obtain rfl:y=x:=by simpa using h
  have e:uM enc (y::X)=enc y++uM enc X:=rfl;rw[e,Nat.zero_mul,kP,uD (by rw[hl];exact hj)]
 |y::X,k+1,x,j,h,hj=>by
  have e:uM enc (y::X)=enc y++uM enc X:=rfl;rw[e,kI qZv,hl,show(k+1)*K+j-K=k*K+j by rw[Nat.add_mul];omega];exact yN hl X k x j qD hj
theorem Kt{α:Type}{enc:α→List Value}{K:Nat}(hl:∀x,(enc x).length=K){w:World}{g:Nat}{t:TypeId}{l:List α}(h:w.heap[g]? =some (.cells (uM enc l).toArray t (0,0))):pT enc K w (some ⟨g,0,none⟩) l:=fun _=>by
 refine⟨g,0,rfl,fun i x hx j v hv=>?_⟩;have hj:j<K:=by have :=(jP.1 hv).1;rwa[hl]at this
 have :=yN hl l i x j hx hj;rw[kP];exact(uS h _ _ (this.trans hv)).1
set_option maxHeartbeats 800000 in
theorem WC(r:Int)(w:World):Calls jG 252 #[.int .i32 r] w fun e w'=>e=.returned (.bool (bY r))∧w=w':=by
 by_cases h1:r<32
 · skip
   have hv:bY r=true:=by simp[bY];omega
   rw[hv];clear hv
   go_enter Tryz.func252,Tryz.ntmps252
   go_wp2
   go_ret
   exact⟨rfl,rfl⟩
 by_cases h2:127≤r
 · by_cases h3:r<160
   · skip
     have hv:bY r=true:=by simp[bY];omega
     rw[hv];clear hv
     go_enter Tryz.func252,Tryz.ntmps252
     go_wp2
     go_ret
     exact⟨rfl,rfl⟩
   · by_cases h4:55296≤r
     · by_cases h5:r<57344
       · skip
         have hv:bY r=true:=by simp[bY];omega
         rw[hv];clear hv
         go_enter Tryz.func252,Tryz.ntmps252
         go_wp2
         go_ret
         exact⟨rfl,rfl⟩
       · by_cases h6:1114111<r
         · skip
           have hv:bY r=true:=by simp[bY];omega
           rw[hv];clear hv
           go_enter Tryz.func252,Tryz.ntmps252
           go_wp2
           go_ret
           exact⟨rfl,rfl⟩
         · skip
           have hv:bY r=false:=by simp[bY];omega
           rw[hv];clear hv
           go_enter Tryz.func252,Tryz.ntmps252
           go_wp2
           go_ret
           exact⟨rfl,rfl⟩
     · have h6:¬1114111<r:=by omega
       have hv:bY r=false:=by simp[bY];omega
       rw[hv];clear hv
       go_enter Tryz.func252,Tryz.ntmps252
       go_wp2
       go_ret
       exact⟨rfl,rfl⟩
 · have h4:¬55296≤r:=by omega
   have h6:¬1114111<r:=by omega
   have hv:bY r=false:=by simp[bY];omega
   rw[hv];clear hv
   go_enter Tryz.func252,Tryz.ntmps252
   go_wp2
   go_ret
   exact⟨rfl,rfl⟩
def WJ(l:List (Int×Int))(w:World)(e:Ending)(w':World):Prop:=∃g,e=.returned (.slice (some ⟨g,0,none⟩) l.length l.length)∧pT QE 2 w' (some ⟨g,0,none⟩) l∧Below w.heap.size w w'
set_option maxHeartbeats 1600000 in
theorem Xk(w:World):Calls jG 254 #[] w (WJ eS w):=by
 go_enter Tryz.func254,Tryz.ntmps254
 go_wp2
 go_ret
 exact⟨w.heap.size,rfl,Kt nD (l:=eS) (jT rfl),jH (jU _ _) _⟩
set_option maxHeartbeats 1600000 in
theorem Xq(w:World):Calls jG 255 #[] w (WJ eC w):=by
 go_enter Tryz.func255,Tryz.ntmps255
 go_wp2
 go_ret
 exact⟨w.heap.size,rfl,Kt nD (l:=eC) (jT rfl),jH (jU _ _) _⟩
def PrPost(r:Int)(x:Int×Int)(w:World)(e:Ending)(w':World):Prop:=e=.returned (.bool (decide (x.1≤r)&&decide (r≤x.2)))∧Below w.heap.size w w'
set_option maxHeartbeats 800000 in
theorem UC(r:Int)(g:Nat)(x:Int×Int)(w:World)(hg:w.cell? ⟨g,0,none⟩=some (.int .i32 r)):Calls jG 329 #[.agg #[.int .i32 x.1,.int .i32 x.2],.pointer (some ⟨g,0,none⟩)] w (PrPost r x w):=by
 have hgl:=uE hg
 by_cases h1:x.1≤r<;>by_cases h2:r≤x.2
 all_goals
  go_enter Tryz.func329,Tryz.ntmps329
  go_wp2
  go_ret
  exact⟨by simp[h1,h2],jH (jU _ _) _⟩
end Go.Proofs.YtaefcahblmopfaaGreatDoor
