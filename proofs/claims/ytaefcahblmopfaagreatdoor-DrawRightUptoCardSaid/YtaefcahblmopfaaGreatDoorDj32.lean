/- Joined by a tool of this claim out of smaller texts. Conditions: as stated. -/
import Derived.Test.YtaefcahblmopfaaGreatDoorDj31
import Derived.Deep.CutBlock
import Derived.Deep.DeepCutAuto
set_option linter.unusedVariables false
set_option linter.unusedSimpArgs false
set_option maxRecDepth 100000
open Go.Lib renaming hid → Hd
open List renaming setIfInBounds_toArray → jZ, set_cons_zero → jX, set_cons_succ → jY, mem_singleton → jM, getElem?_eq_getElem → jN, getElem?_eq_some_iff → jP, length_append → jC, drop_succ_cons → jL, take_succ_cons → jS, drop_zero → jO, take_succ_eq_append_getElem → kQ, take_zero → kK, append_assoc → kG, length_take → kC, mem_of_getElem? → uB, drop_eq_nil_of_le → gU
open Go.Proofs.Tryz renaming prog → jG
open Go.RowKit.Below renaming refl → jU
open Nat renaming le_refl → jD, le_trans → jI, zero_le → kM
open Go.IntWalk renaming i64_in → jF
open Go.IntKind renaming i64 → jE
open And renaming intro → kY
open ByteArray renaming empty → kH
namespace Go.Proofs.YtaefcahblmopfaaGreatDoor
open Go.RowKit
theorem Wq(on a:Atr)(h:eqA on a=false):(⟨#[27,91]⟩:ByteArray)++strOfNums (yY (pX a))++(⟨#[109]⟩:ByteArray)=strOfNums (pF on a):=by
 unfold pF;rw[if_neg (by rw[h];decide),show(⟨#[27,91]⟩:ByteArray)=strOfNums [27,91]from rfl,show(⟨#[109]⟩:ByteArray)=strOfNums [109]from rfl];simp only[yV];rfl
theorem KH{a:Atr}(ha:vO a):1≤(yY (pX a)).length∧(yY (pX a)).length≤192:=by
 obtain⟨c1,c2,c3⟩:=nL ha;have :=iU _ c3;refine⟨?_,by omega⟩
 match h:pX a,c1 with
 |[n],_=>exact Qj n
 |n::m::l,_=>
  have :=Qj n;show 1≤(cD n++_).length;rw[jC];omega
section
variable {base:Nat}{w:World}{v:Pn}{on:Atr}{l:List UInt8}
set_option maxHeartbeats 3200000 in
theorem tN(h:PnO base w v on l)(hbw:base≤w.heap.size)(ht:fO w)(a:Atr)(ha:vO a)(hl:l.length≤90000000):
 Calls jG 157 #[.pointer (some ⟨v.P,0,none⟩),.agg #[.int .i64 a.fk,.int .i64 a.fn,.int .i64 a.bk,.int .i64 a.bn,.int .i64 a.fl]] w (nK base w v a (l++u8 (pF on a))):=by
 obtain⟨W,hW⟩:∃W,w.alloc (.cells #[.int .i64 a.fk,.int .i64 a.fn,.int .i64 a.bk,.int .i64 a.bn,.int .i64 a.fl] 63)=W:=⟨_,rfl⟩;have hb0:Below w.heap.size w W:=by rw[←hW];exact jH (jU _ _) _
 have hn0:W.heap[w.heap.size]? =some (.cells #[.int .i64 a.fk,.int .i64 a.fn,.int .i64 a.bk,.int .i64 a.bn,.int .i64 a.fl] 63 (0,0)):=by rw[←hW];exact jT rfl
 have HB0:=Hd hb0;have HN0:=Hd hn0;have HO:=Hd h;have HCh:Hid (∀w',Below W.heap.size W w'→Calls jG 248 #[.agg #[.int .i64 on.fk,.int .i64 on.fn,.int .i64 on.bk,.int .i64 on.bn,.int .i64 on.fl],.agg #[.int .i64 a.fk,.int .i64 a.fn,.int .i64 a.bk,.int .i64 a.bn,.int .i64 a.fl]] w' fun e w2=>e=.returned (.string (strOfNums (lG on a)))∧Below w'.heap.size w' w2):=Hd (fun w' hb=>XN on a ha (ht.below (jW hb0 hb)));have hcl:=KH ha;have HWR:Hid (eqA on a=false→∀w',Below w.heap.size w w'→Calls jG 101 #[.pointer (some ⟨v.B,0,none⟩),.string ((⟨#[27,91]⟩:ByteArray)++strOfNums (yY (pX a))++(⟨#[109]⟩:ByteArray))] w' (fun e w2=>(∃n:Int,e=.returned (.tuple #[.int .i64 n,.nilIface]))∧gY base w' v on (l++u8 (pF on a)) w2)):=Hd (fun he w' hb=>by
  rw[Wq on a he];refine(eR (h.below hb) (jI hbw hb.size) (strOfNums (pF on a)) ?_).mono (fun e w2 h=>⟨⟨_,h.1⟩,h.2⟩);rw[gJ];unfold pF;rw[if_neg (by rw[he];decide)];simp only[List.length_cons,jC];simp;omega)
 obtain⟨⟨c0,-⟩,⟨c1,-⟩,⟨c2,-⟩,⟨c3,-⟩,⟨c4,-⟩,⟨c5,-⟩⟩:=(h.below hb0).facts;have x0:W.cell? ⟨w.heap.size,0,none⟩=some (.int .i64 a.fk):=(at_ hn0 0 _ rfl).1;have x1:W.cell? ⟨w.heap.size,1,none⟩=some (.int .i64 a.fn):=(at_ hn0 1 _ rfl).1;have x2:W.cell? ⟨w.heap.size,2,none⟩=some (.int .i64 a.bk):=(at_ hn0 2 _ rfl).1;have x3:W.cell? ⟨w.heap.size,3,none⟩=some (.int .i64 a.bn):=(at_ hn0 3 _ rfl).1;have x4:W.cell? ⟨w.heap.size,4,none⟩=some (.int .i64 a.fl):=(at_ hn0 4 _ rfl).1;have HCL:=Hd hcl;obtain⟨cs,hcs⟩:∃cs,strOfNums (lG on a)=cs:=⟨_,rfl⟩;rw[hcs]at HCh;have HCS:=Hd hcs;clear h hbw ht hl hb0 hn0 hcl hcs ha
 go_enter Tryz.func157,Tryz.ntmps157
 go_upto_region 1 with fail
 refine kW 6 (fun w'=>Below W.heap.size W w'∧(w'.cell? ⟨v.P,1,none⟩=some (.int .i64 on.fk)∧w'.cell? ⟨v.P,2,none⟩=some (.int .i64 on.fn)∧w'.cell? ⟨v.P,3,none⟩=some (.int .i64 on.bk)∧w'.cell? ⟨v.P,4,none⟩=some (.int .i64 on.bn)∧w'.cell? ⟨v.P,5,none⟩=some (.int .i64 on.fl))∧(w'.cell? ⟨w.heap.size,0,none⟩=some (.int .i64 a.fk)∧w'.cell? ⟨w.heap.size,1,none⟩=some (.int .i64 a.fn)∧w'.cell? ⟨w.heap.size,2,none⟩=some (.int .i64 a.bk)∧w'.cell? ⟨w.heap.size,3,none⟩=some (.int .i64 a.bn)∧w'.cell? ⟨w.heap.size,4,none⟩=some (.int .i64 a.fl))) qQ qQ ?_ ?_
 · exact⟨(jU _ _).drew,⟨c1,c2,c3,c4,c5⟩,x0,x1,x2,x3,x4⟩
 simp only[jS,kK,jL,jO]
 repeat(
  (first
   |refine kF qK ?_
   |((refine uO 248 #[.agg #[.int .i64 on.fk,.int .i64 on.fn,.int .i64 on.bk,.int .i64 on.bn,.int .i64 on.fl],.agg #[.int .i64 a.fk,.int .i64 a.fn,.int .i64 a.bk,.int .i64 a.bn,.int .i64 a.fl]] (.string cs) qK ?_ (fun w' hS=>(HCh.o w' hS.1).mono fun e w2 ⟨he,hb⟩=>⟨he,jW hS.1 hb,⟨kZ hb hS.2.1.1,kZ hb hS.2.1.2.1,kZ hb hS.2.1.2.2.1,kZ hb hS.2.1.2.2.2.1,kZ hb hS.2.1.2.2.2.2⟩,kZ hb hS.2.2.1,kZ hb hS.2.2.2.1,kZ hb hS.2.2.2.2.1,kZ hb hS.2.2.2.2.2.1,kZ hb hS.2.2.2.2.2.2⟩) ?_;(focus(intro w2;go_simp;done))))
   |(refine kT ?_ qK ?_ ?_;rotate_left;(focus(intro w' hS;obtain⟨hS0,⟨hS1,hS2,hS3,hS4,hS5⟩,hT0,hT1,hT2,hT3,hT4⟩:=hS;go_simp;first|done|with_reducible rfl))))
  simp only[Act.put,jZ,jX,jY])
 refine kE (fun w' hS=>?_);have HB2:=Hd (jW HB0.o hS.1);have HX2:=Hd ((hS.1.block _ (jR HN0.o)).trans HN0.o);clear hS c0 c1 c2 c3 c4 c5 x0 x1 x2 x3 x4 hW;cases he:eqA on a with
 |true=>
  obtain rfl:=sS.1 he;have hcs:=HCS.o;unfold lG at hcs;rw[if_pos he]at hcs;obtain rfl:(⟨#[]⟩:ByteArray)=cs:=hcs;have htu:pF on on=[]:=by unfold pF;rw[if_pos he]
  go_wp2_with fail
  go_end0
  exact⟨rfl,by rw[htu,show l++u8 []=l from List.append_nil l];exact gY.pre HB2.o (HO.o.below HB2.o).res⟩
 |false=>
  have hcs:=HCS.o;unfold lG at hcs;rw[if_neg (by rw[he];decide)]at hcs;have hsz:cs.size=(yY (pX a)).length:=by rw[←hcs,gJ]
  have hne:cs.toList.isEmpty=false:=by
   rw[Lib.toList_data];have h1:cs.data.toList.length=cs.size:=by rw[Array.length_toList];rfl
   have h2:=HCL.o.1;cases h3:cs.data.toList with
   |nil=>rw[h3]at h1;simp at h1;omega
   |cons x xs=>rfl
  have HWR2:=Hd (HWR.o he);rw[hcs]at HWR2;have n1:¬9223372036854775807<2+cs.size:=by have :=HCL.o.2;omega
  have n2:¬9223372036854775807<2+cs.size+1:=by have :=HCL.o.2;omega
  have n3:¬9223372036854775806<2+cs.size:=by have :=HCL.o.2;omega
  obtain⟨⟨c0,-⟩,-⟩:=(HO.o.below HB2.o).facts;clear HWR hcs hsz he
  go_upto_region 4 with(go_at_call 101;(with_reducible refine(HWR2.o _ HB2.o).mono ?_);rintro e w4 ⟨⟨n,rfl⟩,hr⟩;have HR:=Hd hr;clear hr)
  obtain⟨v4,a1,a2,a3,a4,a5⟩:=HR.o;have HX4:Hid (w4.heap[w.heap.size]? =some (.cells #[.int .i64 a.fk,.int .i64 a.fn,.int .i64 a.bk,.int .i64 a.bn,.int .i64 a.fl] 63 (0,0))):=Hd ((a4.block _ (jR HX2.o) (fun hx=>by have :=(HO.o.lt _ hx).2;omega)).trans HX2.o);have HP4:=Hd a3.p;have HTh:Hid (World.there w4 v.P 1 5):=Hd (fun j hj=>by
   have hp:=a3.p;rw[a1]at hp;have h5:j=0∨j=1∨j=2∨j=3∨j=4:=by omega
   rcases h5 with rfl|rfl|rfl|rfl|rfl
   · exact⟨by rw[(at_ hp 1 _ rfl).1];rfl,(at_ hp 1 _ rfl).2⟩
   · exact⟨by rw[(at_ hp 2 _ rfl).1];rfl,(at_ hp 2 _ rfl).2⟩
   · exact⟨by rw[(at_ hp 3 _ rfl).1];rfl,(at_ hp 3 _ rfl).2⟩
   · exact⟨by rw[(at_ hp 4 _ rfl).1];rfl,(at_ hp 4 _ rfl).2⟩
   · exact⟨by rw[(at_ hp 5 _ rfl).1];rfl,(at_ hp 5 _ rfl).2⟩)
  have hfin:gY base w' v a (l++u8 (pF on a)) (w4.setCells v.P 1 (aL a)):=by
   refine gY.trans a1 a2 a5 a4 ?_;refine a3.turn (vN (.inl (by rw[a1];simp)) _ _ _ (Mod.refl _ _)) ?_;have :=uF (aL a) 1 (Value.pointer (some ⟨v4.B,0,none⟩)::aV on) w4 a3.p (by show 6≤6;decide);rw[a1]at this ⊢;exact this
  have HFin:=Hd (gY.pre HB2.o hfin);clear a1 a2 a3 a4 a5 hfin c0;refine wp_region_lit ?_;refine jB (.pointer (some ⟨v.P,0,none⟩)) qK qK ?_;simp only[Act.put,jZ,jX,jY];have y0:w4.cell? ⟨w.heap.size,0,none⟩=some (.int .i64 a.fk):=(at_ HX4.o 0 _ rfl).1;have y1:w4.cell? ⟨w.heap.size,1,none⟩=some (.int .i64 a.fn):=(at_ HX4.o 1 _ rfl).1;have y2:w4.cell? ⟨w.heap.size,2,none⟩=some (.int .i64 a.bk):=(at_ HX4.o 2 _ rfl).1;have y3:w4.cell? ⟨w.heap.size,3,none⟩=some (.int .i64 a.bn):=(at_ HX4.o 3 _ rfl).1;have y4:w4.cell? ⟨w.heap.size,4,none⟩=some (.int .i64 a.fl):=(at_ HX4.o 4 _ rfl).1;refine jB (.agg #[.int .i64 a.fk,.int .i64 a.fn,.int .i64 a.bk,.int .i64 a.bn,.int .i64 a.fl]) qK qX ?_;simp only[Act.put,jZ,jX,jY];refine jB (.pointer (some ⟨v.P,0,none⟩)) qK qX ?_;simp only[Act.put,jZ,jX,jY];refine jB (.pointer (some ⟨v.P,1,none⟩)) qK qK ?_;simp only[Act.put,jZ,jX,jY];refine wpList_store_mid rfl 63 (.tmp 24) (.tmp 22) rfl (v.P) (1) ((aL a).toArray) rfl rfl (HTh.o) pR (all_oneCell_toArray (K5 a)) ?_
  go_wp2_with fail
  go_end0
  exact⟨rfl,HFin.o⟩
end
theorem Ka(ρ:Operand→Value)(dst:Option Tmp)(ty:TypeId)(pos:String)(af:Array Edge)(gd:Option (Nat×Bool))(x y:Operand)(a b:Atr)
 (hx:ρ x=.agg (aL a).toArray) (hy:ρ y=.agg (aL b).toArray) (w:World):
 (execOp ρ ⟨dst,.binOp .eql 63 x y 63,ty,pos,af,gd⟩).run jG w=.ok (.value (.bool (eqA a b))) w:=by
 obtain⟨a1,a2,a3,a4,a5⟩:=a;obtain⟨b1,b2,b3,b4,b5⟩:=b;simp only[aL]at hx hy;unfold eqA;simp only
 go_simp
 by_cases h1:a1=b1<;>by_cases h2:a2=b2<;>by_cases h3:a3=b3<;>by_cases h4:a4=b4<;>by_cases h5:a5=b5<;>simp[h1,h2,h3,h4,h5]
def dN(y x n:Nat)(on a:Atr):List Int:=if eqA a vI then[]else cV y x++(pF on a++JU n)
def mO(on a:Atr):Atr:=if eqA a vI then on else a
theorem qK2(n:Nat):(⟨#[27,91]⟩:ByteArray)++fQ n++(⟨#[88]⟩:ByteArray)=strOfNums (JU n):=by
 unfold JU;rw[nF,show(⟨#[27,91]⟩:ByteArray)=strOfNums [27,91]from rfl,show(⟨#[88]⟩:ByteArray)=strOfNums [88]from rfl];simp only[yV];rfl
theorem Zm(n:Nat)(hn:n≤1000):(JU n).length≤9:=by
 have h1:=iL 5 n qJ;show(27::91::(cD n++[88])).length≤9;simp;omega
theorem Wj(on:Atr){a:Atr}(ha:vO a):(pF on a).length≤195:=by
 unfold pF;have :=(KH ha).2
 split
 · simp
 · simp;omega
def TB(base:Nat)(w:World):Prop:=∀w',Below base w w'→fO w'
theorem TB.tab{base:Nat}{w:World}(h:TB base w):fO w:=h w (jU _ _)
theorem TB.on{base:Nat}{w w':World}(h:TB base w)(hb:Below base w w'):TB base w':=fun w2 h2=>h w2 (hb.trans h2)
theorem TB.of{w:World}(h:fO w):TB w.heap.size w:=fun _ hb=>h.below hb
section
variable {base:Nat}{w:World}{v:Pn}{on:Atr}{l:List UInt8}
theorem gY.below{on2:Atr}{l2:List UInt8}{w2:World}(h:PnO base w v on l)(hbw:base≤w.heap.size)(hr:gY base w v on2 l2 w2):Below base w w2:=by
 obtain⟨v',-,-,-,hm,-⟩:=hr;exact hm.below (B:=base) (fun b hb=>(h.lt b hb).1) hbw
set_option maxHeartbeats 3200000 in
theorem ZY(h:PnO base w v on l)(hbw:base≤w.heap.size)(ht:TB base w)(y x n:Nat)(hy:y≤1000)(hx:x≤1000)(hn:n≤1000)(a:Atr)(ha:vO a)(hl:l.length≤80000000):
 Calls jG 246 #[.pointer (some ⟨v.P,0,none⟩),.int .i64 y,.int .i64 x,.int .i64 n,.agg #[.int .i64 a.fk,.int .i64 a.fn,.int .i64 a.bk,.int .i64 a.bn,.int .i64 a.fl]] w (nK base w v (mO on a) (l++u8 (dN y x n on a))):=by
 obtain⟨W,hW⟩:∃W,w.alloc (.cells #[.int .i64 a.fk,.int .i64 a.fn,.int .i64 a.bk,.int .i64 a.bn,.int .i64 a.fl] 63)=W:=⟨_,rfl⟩;have hb0:Below w.heap.size w W:=by rw[←hW];exact jH (jU _ _) _
 have hn0:W.heap[w.heap.size]? =some (.cells #[.int .i64 a.fk,.int .i64 a.fn,.int .i64 a.bk,.int .i64 a.bn,.int .i64 a.fl] 63 (0,0)):=by rw[←hW];exact jT rfl
 have HB0:=Hd hb0;have HN0:=Hd hn0;have HO:=Hd h;have hm1:=iG y x hy hx;have hm2:=Wj on ha;have hm3:=Zm n hn;have HM:=Hd (tB (h.below hb0) (jI hbw hb0.size) (ht.tab.below hb0) y x hy hx qJ);have HT:=Hd ht;have HBW:=Hd hbw;have HHA:=Hd ha;have HLZ:=Hd (kY hl (kY hm1 (kY hm2 (kY hm3 hn))));have x0:W.cell? ⟨w.heap.size,0,none⟩=some (.int .i64 a.fk):=(at_ hn0 0 _ rfl).1;have x1:W.cell? ⟨w.heap.size,1,none⟩=some (.int .i64 a.fn):=(at_ hn0 1 _ rfl).1;have x2:W.cell? ⟨w.heap.size,2,none⟩=some (.int .i64 a.bk):=(at_ hn0 2 _ rfl).1;have x3:W.cell? ⟨w.heap.size,3,none⟩=some (.int .i64 a.bn):=(at_ hn0 3 _ rfl).1;have x4:W.cell? ⟨w.heap.size,4,none⟩=some (.int .i64 a.fl):=(at_ hn0 4 _ rfl).1;clear h hbw ht hl hb0 hn0 ha hm1 hm2 hm3 hy hx hn
 go_enter Tryz.func246,Tryz.ntmps246
 go_upto_region 1 with fail
 refine wp_region_lit ?_;refine jB (.agg #[.int .i64 a.fk,.int .i64 a.fn,.int .i64 a.bk,.int .i64 a.bn,.int .i64 a.fl]) qK qX ?_;simp only[Act.put,jZ,jX,jY];refine jB (.agg #[.int .i64 0,.int .i64 0,.int .i64 0,.int .i64 0,.int .i64 0]) qK qX ?_;simp only[Act.put,jZ,jX,jY];refine jB (.bool (eqA a vI)) qK (Ka _ _ _ _ _ _ (.tmp 10) (.tmp 11) a vI rfl rfl _) ?_;simp only[Act.put,jZ,jX,jY];cases he:eqA a vI with
 |true=>
  go_wp2_with fail
  go_end0
  exact⟨rfl,by rw[show dN y x n on a=[]from by unfold dN;rw[if_pos he],show mO on a=on from by unfold mO;rw[if_pos he],show l++u8 []=l from List.append_nil l];exact gY.pre HB0.o (HO.o.below HB0.o).res⟩
 |false=>
  go_upto_region 3 with(go_at_call 158;(with_reducible refine HM.o.mono ?_);rintro e w3 ⟨rfl,hr⟩;have HR:=Hd hr;clear hr)
  obtain⟨v3,a1,a2,a3,a4,a5⟩:=HR.o;have hx3:=(a4.block _ (jR HN0.o) (fun hx=>by have :=(HO.o.lt _ hx).2;omega)).trans HN0.o;have hs3:base≤w3.heap.size:=jI HBW.o (jI HB0.o.size a4.size);have hB3:Below base W w3:=gY.below (HO.o.below HB0.o) (jI HBW.o HB0.o.size) HR.o;have hT3:TB base w3:=(HT.o.on (HB0.o.mono HBW.o)).on hB3;have HTu:=Hd (tN a3 hs3 hT3.tab a HHA.o (by have :=HLZ.o;rw[jC,eD];omega));rw[a1]at HTu;have y0:w3.cell? ⟨w.heap.size,0,none⟩=some (.int .i64 a.fk):=(at_ hx3 0 _ rfl).1;have y1:w3.cell? ⟨w.heap.size,1,none⟩=some (.int .i64 a.fn):=(at_ hx3 1 _ rfl).1;have y2:w3.cell? ⟨w.heap.size,2,none⟩=some (.int .i64 a.bk):=(at_ hx3 2 _ rfl).1;have y3:w3.cell? ⟨w.heap.size,3,none⟩=some (.int .i64 a.bn):=(at_ hx3 3 _ rfl).1;have y4:w3.cell? ⟨w.heap.size,4,none⟩=some (.int .i64 a.fl):=(at_ hx3 4 _ rfl).1;have H3:=Hd (kY a1 (kY a2 (kY a3 (kY a4 (kY a5 (kY hs3 hT3))))));clear a1 a2 a3 a4 a5 hx3 hs3 hB3 hT3 x0 x1 x2 x3 x4 HR
  go_upto_region 4 with(go_at_call 157;(with_reducible refine HTu.o.mono ?_);rintro e w4 ⟨rfl,hr⟩;have HR:=Hd hr;clear hr)
  obtain⟨a1,a2,a3,a4,a5,hs3,hT3⟩:=H3.o;obtain⟨v4,b1,b2,b3,b4,b5⟩:=HR.o;have hs4:base≤w4.heap.size:=jI hs3 b4.size;have hT4:TB base w4:=hT3.on (gY.below a3 hs3 HR.o);have HI:Hid (∀w',Below w4.heap.size w4 w'→Calls jG 249 #[.int .i64 n] w' fun e w2=>e=.returned (.string (fQ n))∧Below w'.heap.size w' w2):=Hd (fun w' hb=>sW n (by have :=HLZ.o;omega) w' (hT4.tab.below hb));have HWR:Hid (∀w',Below w4.heap.size w4 w'→Calls jG 101 #[.pointer (some ⟨v.B,0,none⟩),.string ((⟨#[27,91]⟩:ByteArray)++fQ n++(⟨#[88]⟩:ByteArray))] w' (fun e w2=>(∃k:Int,e=.returned (.tuple #[.int .i64 k,.nilIface]))∧gY base w' v4 a (l++u8 (cV y x)++u8 (pF on a)++u8 (JU n)) w2)):=Hd (fun w' hb=>by
   rw[qK2,←a2,←b2];exact(eR (b3.below hb) (jI hs4 hb.size) (strOfNums (JU n)) (by have :=HLZ.o;rw[gJ];simp only[jC,eD];omega)).mono (fun e w2 h=>⟨⟨_,h.1⟩,h.2⟩))
  obtain⟨⟨c0,-⟩,-⟩:=b3.facts;rw[b1,a1,b2,a2]at c0;obtain⟨s1,s1'⟩:=tO n (by have :=HLZ.o;omega);generalize fQ n=d1 at HI HWR s1 s1';have n1:¬9223372036854775807<2+d1.size:=by omega
  have n2:¬9223372036854775807<2+d1.size+1:=by omega
  have n3:¬9223372036854775806<2+d1.size:=by omega
  have H4:=Hd (kY b1 (kY b2 (kY b4 b5)));clear a1 a2 a3 a4 a5 hs3 hT3 b1 b2 b3 b4 b5 hs4 hT4 y0 y1 y2 y3 y4 HTu HM HT;refine kW 8 (fun w'=>Below w4.heap.size w4 w'∧w'.cell? ⟨v.P,0,none⟩=some (.pointer (some ⟨v.B,0,none⟩))) qQ qQ ?_ ?_
  · exact⟨(jU _ _).drew,c0⟩
  simp only[jS,kK,jL,jO]
  repeat(
   (first
    |refine kF qK ?_
    |((refine uO 249 #[.int .i64 n] (.string d1) qK ?_ (fun w' hS=>(HI.o w' hS.1).mono fun e w2 ⟨he,hb⟩=>⟨he,jW hS.1 hb,kZ hb hS.2⟩) ?_;(focus(intro w2;go_simp;done))))
    |(refine kT ?_ qK ?_ ?_;rotate_left;(focus(intro w' hS;obtain⟨hS0,hS1⟩:=hS;go_simp;first|done|with_reducible rfl))))
   simp only[Act.put,jZ,jX,jY])
  refine kE (fun w' hS=>?_);have HB5:=Hd hS.1;clear hS c0
  go_wp2_with(go_at_call 101;(with_reducible refine(HWR.o _ HB5.o).mono ?_);rintro e w6 ⟨⟨k,rfl⟩,hr⟩;have HR6:=Hd (gY.pre HB5.o hr);clear hr)
  go_end0
  refine⟨rfl,?_⟩;rw[show dN y x n on a=cV y x++(pF on a++JU n)from by unfold dN;rw[if_neg (by rw[he];decide)],show mO on a=a from by unfold mO;rw[if_neg (by rw[he];decide)]];obtain⟨a1,a2,a3,a4,a5,hs3,hT3⟩:=H3.o;obtain⟨b1,b2,b4,b5⟩:=H4.o;rw[bU,bU,←kG,←kG];exact gY.pre HB0.o (gY.trans a1 a2 a5 a4 (gY.trans b1 b2 b5 b4 HR6.o))
end
theorem UQ{a:Atr}(ha:vO a):(yY (pX a)).length≤126:=by
 obtain⟨-,-,c3⟩:=nL ha;obtain⟨h1,h2,-⟩:=ha.parts;have p1:=eZ (m:=38) qZ h1;have p2:=eZ (m:=48) qZ h2;have :=iU _ c3;have hf:(bK a.fl).length≤10:=by
  unfold bK;rw[List.length_map];exact List.length_filter_le _ _
 have :(pX a).length≤21:=by
  unfold pX;simp only[List.length_cons,jC];omega
 omega
theorem eF(on:Atr){a:Atr}(ha:vO a):(pF on a).length≤129:=by
 unfold pF;have :=UQ ha
 split
 · simp
 · simp;omega
theorem tM(r:Int):(vD r).size≤4:=by
 unfold vD
 split
 · repeat' split
   all_goals(first|exact(by decide:(1:Nat)≤4)|exact(by decide:(2:Nat)≤4)|exact(by decide:(3:Nat)≤4)|exact jD 4)
 · decide
theorem gF.at_{c:Cl}(h:gF c):vO (vC c):=h.2.1
theorem gF.more{c:Cl}(h:gF c):c.more.size≤32:=by
 rcases h.1 with⟨-,h,-⟩|⟨-,⟨L,-,-,h⟩,-⟩
 · rw[h];decide
 · exact h
theorem qQg{c:Cl}(h:gF c):(fC c).length≤36:=by
 have h1:=tM c.r;have h2:=h.more;unfold fC;rw[jC,zB,zB];omega
theorem lU:∀(cs:List Cl) (on:Atr),(∀c∈cs,gF c)→(vW on cs).1.length≤165*cs.length
 |[],_,_=>jD _
 |c::cs,on,h=>by
  have hc:=h c (List.mem_cons_self ..);have h1:=qQg hc;have h2:=eF on hc.at_;have h3:=lU cs on (fun d hd=>h d (List.mem_cons_of_mem _ hd));have h4:=lU cs (vC c) (fun d hd=>h d (List.mem_cons_of_mem _ hd));unfold vW
  split
  · rw[List.length_cons];omega
  · simp only[jC,List.length_cons];omega
theorem mI(c:Cl):∀(cs:List Cl) (on:Atr),vW on (cs++[c])=if c.half=2 then vW on cs else((vW on cs).1++(pF (vW on cs).2 (vC c)++fC c),vC c)
 |[],on=>by
  show vW on [c]=_;unfold vW
  split
  · rfl
  · simp[vW]
 |d::cs,on=>by
  rw[List.cons_append];unfold vW
  split
  · rw[mI c cs on]
  · rw[mI c cs (vC d)]
    split
    · rfl
    · simp only[kG]
theorem UG{cs:List Cl}{k:Nat}{c:Cl}(on:Atr)(h:cs[k]? =some c):vW on (cs.take (k+1))=if c.half=2 then vW on (cs.take k)else((vW on (cs.take k)).1++(pF (vW on (cs.take k)).2 (vC c)++fC c),vC c):=by
 rw[←mI]
 congr 1
 obtain⟨hk,rfl⟩:=jP.1 h;rw[kQ hk]
def CB(base:Nat)(w:World)(A:Option Addr)(cs:List Cl):Prop:=∀w',Below base w w'→zL w' A cs
theorem CB.on{base:Nat}{w w':World}{A:Option Addr}{cs:List Cl}(h:CB base w A cs)(hb:Below base w w'):CB base w' A cs:=fun w2 h2=>h w2 (hb.trans h2)
theorem Uj(s:ByteArray):u8 (yD s)=s.data.toList:=by
 unfold u8 yD;show(List.map (fun n:Int=>UInt8.ofNat n.toNat) _).toArray.toList=_;rw[List.toList_toArray,List.map_map];refine(List.map_congr_left (fun b _=>?_)).trans (List.map_id _);show UInt8.ofNat ((b.toNat:Int)).toNat=b;simp
section
variable {base:Nat}{w:World}{v:Pn}{on:Atr}{l:List UInt8}
set_option maxHeartbeats 3200000 in
theorem Kc(h:PnO base w v on l)(hbw:base≤w.heap.size)(ht:TB base w)(y x:Nat)(hy:y≤1000)(hx:x≤1000)(A:Option Addr)(cs:List Cl)(ca:Nat)(hc:CB base w A cs)(hok:∀c∈cs,gF c)(hz:cs.length≤1000)(hl:l.length≤80000000):
 Calls jG 247 #[.pointer (some ⟨v.P,0,none⟩),.int .i64 y,.int .i64 x,.slice A cs.length ca] w (nK base w v (vW on cs).2 (l++u8 (cV y x++(vW on cs).1))):=by
 have hm1:=iG y x hy hx;have HO:=Hd h;have HM:=Hd (tB h hbw ht.tab y x hy hx qJ);have HT:=Hd ht;have HBW:=Hd hbw;have HC:=Hd hc;have HOK:=Hd hok;have HLZ:=Hd (kY hl (kY hm1 hz));clear h hbw ht hc hok hm1 hl hy hx
 go_enter Tryz.func247,Tryz.ntmps247
 go_wp2_with(go_at_call 158;(with_reducible refine HM.o.mono ?_);rintro e w1 ⟨rfl,hr⟩;have HR:=Hd hr;clear hr)
 go_loopw [16] (fun i wr=>∃k:Nat,k≤cs.length∧i=.int .i64 k∧gY base w v (vW on (cs.take k)).2 (l++u8 (cV y x++(vW on (cs.take k)).1)) wr) (fun i _=>cs.length-(intOf i).toNat)
 case atStart=>exact⟨0,kM _,rfl,by rw[kK,show vW on []=([],on)from rfl,List.append_nil];exact HR.o⟩
 case round=>
  obtain⟨k,hk,rfl,hR⟩:=hrel
  by_cases hlt:k<cs.length
  · have hB:Below base w wr:=gY.below HO.o HBW.o hR;have hsz:base≤wr.heap.size:=jI HBW.o hB.size;obtain⟨b',off',c,rfl,hcg,hca⟩:=(HC.o wr hB).at_ hlt;have hT:=HT.o.on hB;have hD:=HOK.o c (uB hcg);have hln:=lU (cs.take k) on (fun c hc=>HOK.o c (List.mem_of_mem_take hc));have hlt2:(cs.take k).length≤1000:=by have :=HLZ.o.2.2;rw[kC];omega
    have hl1:(l++u8 (cV y x++(vW on (cs.take k)).1)).length≤80170000:=by have :=HLZ.o;rw[jC,eD,jC];omega
    have hst:=UG on hcg;have hfin:∀w',gY base w v (if c.half=2 then(vW on (cs.take k)).2 else vC c) (if c.half=2 then l++u8 (cV y x++(vW on (cs.take k)).1)else l++u8 (cV y x++(vW on (cs.take k)).1)++u8 (pF (vW on (cs.take k)).2 (vC c))++u8 (yD (vD c.r))++u8 (yD c.more)) w'→gY base w v (vW on (cs.take (k+1))).2 (l++u8 (cV y x++(vW on (cs.take (k+1))).1)) w':=fun w' h=>by
     rw[hst]
     split
     · rename_i h2
       rw[if_pos h2,if_pos h2]at h;exact h
     · rename_i h2
       rw[if_neg h2,if_neg h2]at h;unfold fC;simp only[bU,kG]at h ⊢;exact h
    generalize (vW on (cs.take k)).2=on1 at hR hfin;generalize l++u8 (cV y x++(vW on (cs.take k)).1)=l1 at hR hfin hl1;have hHO2:=HO.o;clear hst hln hlt2 hcg;obtain⟨r0,r1,r2,r3,r4,r5,r6,r7⟩:=hca;obtain⟨cr,cm,chf,c3,c4,c5,c6,c7⟩:=c;have hat:vO ⟨c3,c4,c5,c6,c7⟩:=hD.at_;have hmo:=hD.more;have hlt3:=HO.o.lt;simp only at r0 r1 r2 r3 r4 r5 r6 r7 hmo;simp only[show ∀(q:Int),vC ⟨cr,cm,chf,c3,c4,c5,c6,c7⟩=⟨c3,c4,c5,c6,c7⟩from fun _=>rfl]at hfin;have HFIN:=Hd hfin;have HBC:=Hd (jH (jU wr.heap.size wr) (.cells #[.int .i32 cr,.string cm,.int .i64 chf,.int .i64 c3,.int .i64 c4,.int .i64 c5,.int .i64 c6,.int .i64 c7] 65));obtain⟨v1,a1,a2,a3,a4,a5⟩:=hR;have HTu:=Hd (tN (a3.below HBC.o) (jI hsz HBC.o.size) (hT.tab.below HBC.o) ⟨c3,c4,c5,c6,c7⟩ hat qJ);rw[a1]at HTu;have HAT:=Hd hat;have HR1:=Hd (kY a1 (kY a2 (kY a3 (kY a4 (kY a5 (kY hsz (kY hT (kY hl1 hmo))))))));clear hB hsz hT hD hfin hl1 a1 a2 a3 a4 a5 hat hmo hHO2 hlt3
    by_cases h2:chf=2
    · subst h2
      go_wp2_with fail
      go_roundw
      case rel=>
       obtain⟨a1,a2,a3,a4,a5,-⟩:=HR1.o;exact⟨k+1,by omega,by go_num,HFIN.o _ (by rw[if_pos rfl,if_pos rfl];exact gY.post ⟨v1,a1,a2,a3,a4,a5⟩ HBC.o)⟩
      case measure=>simp[intOf];omega
    · have h2b:(chf==2)=false:=by simpa using h2
      have h2c:(chf != 2)=true:=by simpa using h2
      go_upto_region 6 with(go_at_call 157;(with_reducible refine HTu.o.mono ?_);rintro e w2 ⟨rfl,hr⟩;have HR:=Hd hr;clear hr)
      obtain⟨a1,a2,a3,a4,a5,hsz,hT,hl1,hmo⟩:=HR1.o;have hlt1:¬wr.heap.size∈pnX v1:=fun hx=>by have :=(a3.lt _ hx).2;omega
      have hs2:base≤wr.heap.size:=hsz;have hB2:Below base wr w2:=by
       refine(HBC.o.mono hsz).trans (gY.below (a3.below HBC.o) (jI hsz HBC.o.size) HR.o)
      obtain⟨v2,b1,b2,b3,b4,b5⟩:=HR.o;have hx2:=(b4.block wr.heap.size qZ7 hlt1).trans (jT rfl);have y0:=(at_ hx2 0 _ rfl).1;have y1:=(at_ hx2 1 _ rfl).1;have hw2:base≤w2.heap.size:=jI hsz (jI HBC.o.size b4.size);have hln2:(l1++u8 (pF on1 ⟨c3,c4,c5,c6,c7⟩)).length≤80170000+129:=by
       have :=eF on1 HAT.o;rw[jC,eD];omega
      have HPUT:Hid (∀w':World,Below w2.heap.size w2 w'→Calls jG 102 #[.int .i32 cr] w' fun e w2=>e=.returned (.string (vD cr))∧Below w'.heap.size w' w2):=Hd (fun w' _=>lO cr w');have HWR:Hid (∀w',Below w2.heap.size w2 w'→Calls jG 101 #[.pointer (some ⟨v.B,0,none⟩),.string (vD cr)] w' (fun e w2=>(∃k:Int,e=.returned (.tuple #[.int .i64 k,.nilIface]))∧gY base w' v2 ⟨c3,c4,c5,c6,c7⟩ (l1++u8 (pF on1 ⟨c3,c4,c5,c6,c7⟩)++u8 (yD (vD cr))) w2)):=Hd (fun w' hb=>by
       rw[Uj,←a2,←b2];exact(eR (b3.below hb) (jI hw2 hb.size) (vD cr) (by have :=tM cr;omega)).mono (fun e w2 h=>⟨⟨_,h.1⟩,h.2⟩))
      obtain⟨⟨c0,-⟩,-⟩:=b3.facts;rw[b1,a1,b2,a2]at c0;have hputl:=tM cr;generalize vD cr=pu at HPUT HWR HFIN hputl;have H2:=Hd (kY b1 (kY b2 (kY b3 (kY b4 (kY b5 (kY hB2 (kY hx2 (kY hw2 (kY hln2 hputl)))))))));clear a1 a2 a3 a4 a5 hsz hT hl1 hlt1 hs2 hB2 b1 b2 b3 b4 b5 hx2 hw2 hln2 HTu HM hputl r0 r1 r2 r3 r4 r5 r6 r7;refine kW 7 (fun w'=>Below w2.heap.size w2 w'∧w'.cell? ⟨v.P,0,none⟩=some (.pointer (some ⟨v.B,0,none⟩))∧w'.cell? ⟨wr.heap.size,0,none⟩=some (.int .i32 cr)) qQ qQ ?_ ?_
      · exact⟨(jU _ _).drew,c0,y0⟩
      simp only[jS,kK,jL,jO]
      repeat(
       (first
        |refine kF qK ?_
        |((refine uO 102 #[.int .i32 cr] (.string pu) qK ?_ (fun w' hS=>(HPUT.o w' hS.1).mono fun e w2 ⟨he,hb⟩=>⟨he,jW hS.1 hb,kZ hb hS.2.1,kZ hb hS.2.2⟩) ?_;(focus(intro w2;go_simp;done))))
        |(refine kT ?_ qK ?_ ?_;rotate_left;(focus(intro w' hS;obtain⟨hS0,hS1,hS2⟩:=hS;go_simp;first|done|with_reducible rfl))))
       simp only[Act.put,jZ,jX,jY])
      refine kE (fun w' hS=>?_);have HB5:=Hd hS.1;clear hS c0 y0 y1
      go_upto_region 7 with(go_at_call 101;(with_reducible refine(HWR.o _ HB5.o).mono ?_);rintro e w6 ⟨⟨n6,rfl⟩,hr⟩;have HR6:=Hd (gY.pre HB5.o hr);clear hr)
      obtain⟨b1,b2,b3,b4,b5,hB2,hx2,hw2,hln2,hputl⟩:=H2.o;obtain⟨a1,a2,a3,a4,a5,hsz,hT,hl1,hmo⟩:=HR1.o;have hlt2:¬wr.heap.size∈pnX v2:=fun hx=>by
       rcases b5 _ hx with h|h
       · have :=(a3.lt _ h).2;omega
       · rw[World.size_alloc]at h;omega
      obtain⟨v3,d1,d2,d3,d4,d5⟩:=HR6.o;have hx3:=(d4.block wr.heap.size (jR hx2) hlt2).trans hx2;have y1:=(at_ hx3 1 _ rfl).1;have hw3:base≤w6.heap.size:=jI hw2 d4.size;have HWR2:Hid (∀w',Below w6.heap.size w6 w'→Calls jG 101 #[.pointer (some ⟨v.B,0,none⟩),.string cm] w' (fun e w2=>(∃k:Int,e=.returned (.tuple #[.int .i64 k,.nilIface]))∧gY base w' v3 ⟨c3,c4,c5,c6,c7⟩ (l1++u8 (pF on1 ⟨c3,c4,c5,c6,c7⟩)++u8 (yD pu)++u8 (yD cm)) w2)):=Hd (fun w' hb=>by
       rw[Uj cm,←a2,←b2,←d2];refine(eR (d3.below hb) (jI hw3 hb.size) cm ?_).mono (fun e w2 h=>⟨⟨_,h.1⟩,h.2⟩);rw[jC,eD,zB];omega)
      obtain⟨⟨c0,-⟩,-⟩:=d3.facts;rw[d1,b1,a1,d2,b2,a2]at c0;have H6:=Hd (kY d1 (kY d2 (kY d4 d5)));clear a1 a2 a3 a4 a5 hsz hT hl1 hlt2 hB2 b1 b2 b3 b4 b5 hx2 hw2 hln2 hputl hx3 hw3 hmo d1 d2 d3 d4 d5;refine kW 6 (fun w'=>Below w6.heap.size w6 w'∧w'.cell? ⟨v.P,0,none⟩=some (.pointer (some ⟨v.B,0,none⟩))∧w'.cell? ⟨wr.heap.size,1,none⟩=some (.string cm)) qQ qQ ?_ ?_
      · exact⟨(jU _ _).drew,c0,y1⟩
      simp only[jS,kK,jL,jO]
      repeat(
       (first
        |refine kF qK ?_
        |(refine kT ?_ qK ?_ ?_;rotate_left;(focus(intro w' hS;obtain⟨hS0,hS1,hS2⟩:=hS;go_simp;first|done|with_reducible rfl))))
       simp only[Act.put,jZ,jX,jY])
      refine kE (fun w' hS=>?_);have HB7:=Hd hS.1;clear hS c0 y1
      go_wp2_with(go_at_call 101;(with_reducible refine(HWR2.o _ HB7.o).mono ?_);rintro e w8 ⟨⟨n8,rfl⟩,hr⟩;have HR8:=Hd (gY.pre HB7.o hr);clear hr)
      go_roundw
      case rel=>
       obtain⟨a1,a2,a3,a4,a5,-⟩:=HR1.o;obtain⟨b1,b2,b3,b4,b5,-⟩:=H2.o;obtain⟨d1,d2,d4,d5⟩:=H6.o;refine⟨k+1,by omega,by go_num,HFIN.o _ ?_⟩;rw[if_neg h2,if_neg h2];exact gY.trans a1 a2 a5 a4 (gY.pre HBC.o (gY.trans b1 b2 b5 b4 (gY.trans d1 d2 d5 d4 HR8.o)))
      case measure=>simp[intOf];omega
  · obtain rfl:k=cs.length:=by omega
    rw[List.take_length]at hR
    go_wp2
    go_end0
    exact⟨rfl,hR⟩
end
def yU:Array Value:=#[.int .i32 0,.string kH,.int .i64 0,.int .i64 0,.int .i64 0,.int .i64 0,.int .i64 0,.int .i64 0]
theorem Wo{cs:List Cl}{x n:Nat}{c d:Cl}(hc:cs[x]? =some c)(hd:cs[x+n]? =some d)(h:zY (cs.drop x)=n+((cs.drop (x+n)).takeWhile (zH c)).length):zY (cs.drop x)=if zH c d=true then(n+1)+((cs.drop (x+(n+1))).takeWhile (zH c)).length else n:=by
 obtain⟨hx,rfl⟩:=jP.1 hd;rw[h,List.drop_eq_getElem_cons hx,List.takeWhile_cons]
 split
 · rw[List.length_cons,show x+(n+1)=x+n+1 by omega];omega
 · rfl
theorem Vc{cs:List Cl}{x:Nat}{c:Cl}(hc:cs[x]? =some c):zY (cs.drop x)=1+((cs.drop (x+1)).takeWhile (zH c)).length:=by
 obtain⟨hx,rfl⟩:=jP.1 hc;rw[List.drop_eq_getElem_cons hx];show(List.takeWhile _ _).length+1=_;omega
set_option maxHeartbeats 3200000 in
theorem qK3(A:Option Addr)(cs:List Cl)(ca x:Nat)(w:World)(hc:zL w A cs)(hx:x<cs.length)(hz:cs.length≤1000):
 Calls jG 245 #[.slice A cs.length ca,.int .i64 x] w fun e w'=>e=.returned (.int .i64 (zY (cs.drop x)))∧Below w.heap.size w w':=by
 obtain⟨b,off,c,rfl,hcg,hca⟩:=hc.at_ hx;have HC:=Hd hc;have H1:=Hd (Vc hcg);have HCG:=Hd hcg;have HCA0:=Hd hca;obtain⟨R,hR⟩:∃R,zY (cs.drop x)=R:=⟨_,rfl⟩;rw[hR]at H1 ⊢;have HR:=Hd hR;clear hc hcg hca hR
 go_enter Tryz.func245,Tryz.ntmps245
 go_wp2_with fail
 go_loopw [5] (fun i wr=>∃n:Nat,1≤n∧x+n≤cs.length∧i=.int .i64 n∧Below w.heap.size w wr∧R=n+((cs.drop (x+n)).takeWhile (zH c)).length) (fun i _=>cs.length-(intOf i).toNat)
 case atStart=>exact⟨1,jD _,by omega,rfl,jU _ _,H1.o⟩
 case round=>
  obtain⟨n,hn1,hn,rfl,hB,hrun⟩:=hrel;obtain⟨q,hq⟩:∃q:Nat,(x:Int)+n=q:=⟨x+n,by omega⟩;have hqx:q=x+n:=by omega
  have HQX:=Hd hqx;have hwq:jE.wrap (q:Int)=q:=jF _ qJ
  by_cases hlt:q<cs.length
  · obtain⟨d,hdg⟩:∃d,cs[x+n]? =some d:=⟨_,jN qJ⟩;have HRUN:=Hd (Wo HCG.o hdg (HR.o.trans hrun));have hda:Qs wr b (off+q*8) d:=by
     rw[hqx];exact((HC.o.below hB).cell hdg)
    have hca:=HCA0.o.below hB;have HCA:=Hd hca;have HDA:=Hd hda;have HBW:=Hd hB;have HWS:Hid (wr.heap.size<wr.heap.size+1):=Hd (Nat.lt_succ_self _);clear hdg hrun hB hqx
    go_upto_region 3 with fail
    go_cut [6,7] (fun s6 s7 w'=>∃g6 g7:Nat,s6=.pointer (some ⟨g6,0,none⟩)∧s7=.pointer (some ⟨g7,0,none⟩)∧Below wr.heap.size wr w'∧w'.heap[g6]? =some (.cells (kV c).toArray 65 (0,0))∧w'.heap[g7]? =some (.cells (kV d).toArray 65 (0,0)))
    case first =>
     refine Go.RL.wp_region_l 13 (fun w'=>Below wr.heap.size wr w'∧Qs w' b (off+x*8) c∧Qs w' b (off+q*8) d) (fun _=>True) qQ qQ ⟨(jU _ _).drew,hca,hda⟩ trivial ?_;clear hca hda;refine Go.RL.AtL.go 0 ?_
     iterate 10 (refine Go.RL.AtK.take (o:=⟨_,_,_,_,_,_⟩) (v:=?_) qQ rfl qV qQ qQ ?_ ?_;rotate_left;(focus(refine Go.RL.Pure.val qK ?_;intro w' hI;obtain⟨_,⟨_,_,_,_,_,_,_,_⟩,_,_,_,_,_,_,_,_⟩:=hI;go_simp;first|done|with_reducible rfl));simp only[Act.put,jZ,jX,jY])
     refine Go.RL.AtK.back ?_;refine Go.RL.AtL.two 10 11 (o:=⟨_,_,_,_,_,_⟩) (o':=⟨_,_,_,_,_,_⟩) (fun v=>∃g,v=.pointer (some ⟨g,0,none⟩)∧wr.heap.size≤g) (fun v=>∃g,v=.pointer (some ⟨g,0,none⟩)∧wr.heap.size≤g) (fun v w'=>∀g,v=.pointer (some ⟨g,0,none⟩)→w'.heap[g]? =some (.cells yU 65 (0,0))) (fun v w'=>∀g,v=.pointer (some ⟨g,0,none⟩)→w'.heap[g]? =some (.cells yU 65 (0,0))) qV qV qQ rfl rfl
      (Go.RL.StabL.op _ _ qK (fun w' hI hS=>?_)) (Go.RL.StabL.op _ _ qK (fun w' hI hS=>?_)) ?_ ?_
     · have hbb:=jH hI.1 (.cells yU 65);exact qX7
     · have hbb:=jH hI.1 (.cells yU 65);exact qX7
     · rintro v ⟨g,rfl,hg⟩;simp only[Act.put,jZ,jX,jY];refine Go.RL.AtL.one 11 (o:=⟨_,_,_,_,_,_⟩) (fun v=>∃g',v=.pointer (some ⟨g',0,none⟩)∧wr.heap.size≤g'∧g'≠g) (fun v w'=>w'.heap[g]? =some (.cells yU 65 (0,0))∧∀g',v=.pointer (some ⟨g',0,none⟩)→w'.heap[g']? =some (.cells yU 65 (0,0))) qV qQ rfl (Go.RL.StabL.op _ _ qK (fun w' hI hS=>?_)) ?_
       · have hbb:=jH hI.1 (.cells yU 65);have hgl:=jR (hS g rfl);exact qX8
       rintro v ⟨g',rfl,hg',hgn⟩;simp only[Act.put,jZ,jX,jY];have HSX:Hid (∀w':World,(w'.heap[g]? =some (.cells yU 65 (0,0))∧∀g'',Value.pointer (some ⟨g',0,none⟩)=.pointer (some ⟨g'',0,none⟩)→w'.heap[g'']? =some (.cells yU 65 (0,0)))→w'.heap[g]? =some (.cells yU 65 (0,0))∧w'.heap[g']? =some (.cells yU 65 (0,0))):=Hd (fun w' h=>⟨h.1,h.2 g' rfl⟩);have hne:g≠g':=by omega
       refine Go.RL.AtL.one 12 (o:=⟨none,.store 65 (.tmp 6) (.tmp 17),_,_,_,_⟩) (fun _=>True) (fun _ w'=>w'.heap[g]? =some (.cells (kV c).toArray 65 (0,0))∧w'.heap[g']? =some (.cells yU 65 (0,0))) qV qQ rfl (Go.RL.StabL.unit _ _ qK (fun w' hI hS=>?_)) ?_
       · obtain⟨h6,h7⟩:w'.heap[g]? =some (.cells yU 65 (0,0))∧w'.heap[g']? =some (.cells yU 65 (0,0)):=HSX.o w' hS;obtain⟨hb,hI1,hI2⟩:=hI;have hbb:Below wr.heap.size wr (w'.setCells g 0 (kV c)):=gW hb qJ _ _;refine⟨_,mP 65 (.tmp 6) (.tmp 17) rfl g 0 (kV c).toArray rfl rfl (show World.there _ g 0 8 from pW h6) uP (zV c),trivial,⟨hbb,HCA.o.below hbb,HDA.o.below hbb⟩,?_,?_⟩
         · exact uF (kV c) 0 yU.toList w' h6 qXc
         · exact((vN (X:=[g]) (.inl (jM.2 rfl)) (kV c) 0 w' (Mod.refl _ _)).block g' (jR h7) (fun h=>hne (jM.1 h).symm)).trans h7
       rintro vS -;simp only[Act.put];refine Go.RL.AtL.done qQ (fun w' hI hS=>?_);obtain⟨h6,h7⟩:=hS;obtain⟨hb,hI1,hI2⟩:=hI;have hbb:Below wr.heap.size wr (w'.setCells g' 0 (kV d)):=gW hb qJ _ _;have q6:(w'.setCells g' 0 (kV d)).heap[g]? =some (.cells (kV c).toArray 65 (0,0)):=((vN (X:=[g']) (.inl (jM.2 rfl)) (kV d) 0 w' (Mod.refl _ _)).block g (jR h6) (fun h=>hne (jM.1 h))).trans h6;have q7:(w'.setCells g' 0 (kV d)).heap[g']? =some (.cells (kV d).toArray 65 (0,0)):=uF (kV d) 0 yU.toList w' h7 qXc;have HBB:=Hd hbb;have HQ6:=Hd q6;have HQ7:=Hd q7;have HTH:Hid (World.there w' g' 0 8):=Hd (pW h7);clear hI1 hI2 hb hbb q6 q7 h6 h7;simp only[jL,jO];refine wpList_store_mid rfl 65 (.tmp 7) (.tmp 23) rfl (g') (0) ((kV d).toArray) rfl rfl (HTH.o) uP (zV d) ?_
       go_wp2_with fail
       go_meet
       exact⟨_,_,rfl,rfl,HBB.o,HQ6.o,HQ7.o⟩
     · rintro v ⟨g,rfl,hg⟩;simp only[Act.put,jZ,jX,jY];refine Go.RL.AtL.one 10 (o:=⟨_,_,_,_,_,_⟩) (fun v=>∃g',v=.pointer (some ⟨g',0,none⟩)∧wr.heap.size≤g'∧g'≠g) (fun v w'=>w'.heap[g]? =some (.cells yU 65 (0,0))∧∀g',v=.pointer (some ⟨g',0,none⟩)→w'.heap[g']? =some (.cells yU 65 (0,0))) qV qQ rfl (Go.RL.StabL.op _ _ qK (fun w' hI hS=>?_)) ?_
       · have hbb:=jH hI.1 (.cells yU 65);have hgl:=jR (hS g rfl);exact qX8
       rintro v ⟨g',rfl,hg',hgn⟩;simp only[Act.put,jZ,jX,jY];have HSX:Hid (∀w':World,(w'.heap[g]? =some (.cells yU 65 (0,0))∧∀g'',Value.pointer (some ⟨g',0,none⟩)=.pointer (some ⟨g'',0,none⟩)→w'.heap[g'']? =some (.cells yU 65 (0,0)))→w'.heap[g']? =some (.cells yU 65 (0,0))∧w'.heap[g]? =some (.cells yU 65 (0,0))):=Hd (fun w' h=>⟨h.2 g' rfl,h.1⟩);have hne:g'≠g:=by omega
       refine Go.RL.AtL.one 12 (o:=⟨none,.store 65 (.tmp 6) (.tmp 17),_,_,_,_⟩) (fun _=>True) (fun _ w'=>w'.heap[g']? =some (.cells (kV c).toArray 65 (0,0))∧w'.heap[g]? =some (.cells yU 65 (0,0))) qV qQ rfl (Go.RL.StabL.unit _ _ qK (fun w' hI hS=>?_)) ?_
       · obtain⟨h6,h7⟩:w'.heap[g']? =some (.cells yU 65 (0,0))∧w'.heap[g]? =some (.cells yU 65 (0,0)):=HSX.o w' hS;obtain⟨hb,hI1,hI2⟩:=hI;have hbb:Below wr.heap.size wr (w'.setCells g' 0 (kV c)):=gW hb qJ _ _;refine⟨_,mP 65 (.tmp 6) (.tmp 17) rfl g' 0 (kV c).toArray rfl rfl (show World.there _ g' 0 8 from pW h6) uP (zV c),trivial,⟨hbb,HCA.o.below hbb,HDA.o.below hbb⟩,?_,?_⟩
         · exact uF (kV c) 0 yU.toList w' h6 qXc
         · exact((vN (X:=[g']) (.inl (jM.2 rfl)) (kV c) 0 w' (Mod.refl _ _)).block g (jR h7) (fun h=>hne (jM.1 h).symm)).trans h7
       rintro vS -;simp only[Act.put];refine Go.RL.AtL.done qQ (fun w' hI hS=>?_);obtain⟨h6,h7⟩:=hS;obtain⟨hb,hI1,hI2⟩:=hI;have hbb:Below wr.heap.size wr (w'.setCells g 0 (kV d)):=gW hb qJ _ _;have q6:(w'.setCells g 0 (kV d)).heap[g']? =some (.cells (kV c).toArray 65 (0,0)):=((vN (X:=[g]) (.inl (jM.2 rfl)) (kV d) 0 w' (Mod.refl _ _)).block g' (jR h6) (fun h=>hne (jM.1 h))).trans h6;have q7:(w'.setCells g 0 (kV d)).heap[g]? =some (.cells (kV d).toArray 65 (0,0)):=uF (kV d) 0 yU.toList w' h7 qXc;have HBB:=Hd hbb;have HQ6:=Hd q6;have HQ7:=Hd q7;have HTH:Hid (World.there w' g 0 8):=Hd (pW h7);clear hI1 hI2 hb hbb q6 q7 h6 h7;simp only[jL,jO];refine wpList_store_mid rfl 65 (.tmp 7) (.tmp 23) rfl (g) (0) ((kV d).toArray) rfl rfl (HTH.o) uP (zV d) ?_
       go_wp2_with fail
       go_meet
       exact⟨_,_,rfl,rfl,HBB.o,HQ6.o,HQ7.o⟩
    case rest=>
     obtain⟨g6,g7,rfl,rfl,hb2,h6,h7⟩:=hcut;have hB3:=jW HBW.o hb2;have HB3:=Hd hB3;clear hB3 hb2 hca hda HCA HDA HBW HCA0 HC;have a0:wc.cell? ⟨g6,0,none⟩=some (.int .i32 c.r):=(at_ h6 0 _ rfl).1;have a3:wc.cell? ⟨g6,3,none⟩=some (.int .i64 c.fk):=(at_ h6 3 _ rfl).1;have a4:wc.cell? ⟨g6,4,none⟩=some (.int .i64 c.fn):=(at_ h6 4 _ rfl).1;have a5:wc.cell? ⟨g6,5,none⟩=some (.int .i64 c.bk):=(at_ h6 5 _ rfl).1;have a6:wc.cell? ⟨g6,6,none⟩=some (.int .i64 c.bn):=(at_ h6 6 _ rfl).1;have a7:wc.cell? ⟨g6,7,none⟩=some (.int .i64 c.fl):=(at_ h6 7 _ rfl).1;have b0:wc.cell? ⟨g7,0,none⟩=some (.int .i32 d.r):=(at_ h7 0 _ rfl).1;have b3:wc.cell? ⟨g7,3,none⟩=some (.int .i64 d.fk):=(at_ h7 3 _ rfl).1;have b4:wc.cell? ⟨g7,4,none⟩=some (.int .i64 d.fn):=(at_ h7 4 _ rfl).1;have b5:wc.cell? ⟨g7,5,none⟩=some (.int .i64 d.bk):=(at_ h7 5 _ rfl).1;have b6:wc.cell? ⟨g7,6,none⟩=some (.int .i64 d.bn):=(at_ h7 6 _ rfl).1;have b7:wc.cell? ⟨g7,7,none⟩=some (.int .i64 d.fl):=(at_ h7 7 _ rfl).1;clear h6 h7;have hsame:zH c d=((decide (c.r=0)==decide (d.r=0))&& !(decide (c.r=0)&& !eqA (vC c) (vC d))):=rfl;have HS:=Hd hsame;have HXI:=Hd (show ∀m:Nat,m≤cs.length→(jE.wrap (m:Int))=m from fun m hm=>jF _ qJ);clear hsame
     unfold eqA vC at HS;obtain⟨cr,cm,chf,c3,c4,c5,c6,c7⟩:=c;obtain⟨dr,dm,dhf,d3,d4,d5,d6,d7⟩:=d;simp only at a0 a3 a4 a5 a6 a7 b0 b3 b4 b5 b6 b7 HS;have hgo:zH ⟨cr,cm,chf,c3,c4,c5,c6,c7⟩ ⟨dr,dm,dhf,d3,d4,d5,d6,d7⟩=true→R=n+1+((cs.drop (x+(n+1))).takeWhile (zH ⟨cr,cm,chf,c3,c4,c5,c6,c7⟩)).length:=fun h=>by
      have :=HRUN.o;rw[if_pos h]at this;exact HR.o.symm.trans this
     have hstop:zH ⟨cr,cm,chf,c3,c4,c5,c6,c7⟩ ⟨dr,dm,dhf,d3,d4,d5,d6,d7⟩=false→R=n:=fun h=>by
      have :=HRUN.o;rw[if_neg (by rw[h];decide)]at this;exact HR.o.symm.trans this
     have HGO:=Hd hgo;have HST:=Hd hstop;clear hgo hstop HRUN
     by_cases h1:cr=0
     · subst h1
       by_cases h2:dr=0
       · subst h2
         by_cases h3:c3=d3∧c4=d4∧c5=d5∧c6=d6∧c7=d7
         · obtain⟨rfl,rfl,rfl,rfl,rfl⟩:=h3;have HG2:=Hd (HGO.o (by rw[HS.o];simp));clear HGO HST HS
           go_wp2_with fail
           go_roundw
           case rel=>exact⟨n+1,by omega,by have :=HQX.o;omega,by go_num,HB3.o,HG2.o⟩
           case measure=>simp[intOf];have :=HQX.o;omega
         · have hne:(c3==d3&&(c4==d4&&(c5==d5&&(c6==d6&&(c7==d7)))))=false:=by
            simp only[Bool.and_eq_false_iff,beq_eq_false_iff_ne];omega
           have HG2:=Hd (HST.o (by rw[HS.o];simp;omega));clear HGO HST HS
           go_wp2_with fail
           all_goals(go_ret;exact⟨by rw[HG2.o];rfl,HB3.o⟩)
       · have hd0:(dr==0)=false:=by simpa using h2
         have HG2:=Hd (HST.o (by rw[HS.o];simp[h2]));clear HGO HST HS
         go_wp2_with fail
         go_ret
         exact⟨by rw[HG2.o];rfl,HB3.o⟩
     · have hc0:(cr==0)=false:=by simpa using h1
       by_cases h2:dr=0
       · subst h2;have HG2:=Hd (HST.o (by rw[HS.o];simp[h1]));clear HGO HST HS
         go_wp2_with fail
         go_ret
         exact⟨by rw[HG2.o];rfl,HB3.o⟩
       · have hd0:(dr==0)=false:=by simpa using h2
         have HG2:=Hd (HGO.o (by rw[HS.o];simp[h1,h2]));clear HGO HST HS
         go_wp2_with fail
         go_roundw
         case rel=>exact⟨n+1,by omega,by have :=HQX.o;omega,by go_num,HB3.o,HG2.o⟩
         case measure=>simp[intOf];have :=HQX.o;omega
  · have hend:R=n:=by
     rw[gU qJ]at hrun;exact hrun
    have HE:=Hd hend;clear hend hrun hqx
    go_wp2_with fail
    go_ret
    exact⟨by rw[HE.o];rfl,hB⟩
end Go.Proofs.YtaefcahblmopfaaGreatDoor
