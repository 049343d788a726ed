/- Joined by a tool of this claim out of smaller texts. Conditions: as stated. -/
import Derived.Test.YtaefcahblmopfaaGreatDoorDg27
import Derived.Deep.CutBlock
import Derived.Deep.DeepCutAuto
set_option linter.unusedVariables false
set_option linter.unusedSimpArgs false
set_option maxRecDepth 100000
open Go.Lib renaming hid → Hd
open List renaming setIfInBounds_toArray → jZ, set_cons_zero → jX, set_cons_succ → jY, mem_singleton → jW, getElem?_eq_getElem → jN, getElem?_eq_some_iff → jP, length_append → jC, drop_succ_cons → jR, take_succ_cons → jS, drop_zero → jO, take_zero → kK, take_succ_eq_append_getElem → kY, append_assoc → kG, length_take → kS, mem_of_getElem? → uW, getElem?_drop → gH, drop_eq_nil_of_le → gN
open Go.Proofs.Tryz renaming prog → jG
open Go.RowKit.Below renaming refl → jU
open Nat renaming le_refl → jD, le_trans → jI, zero_le → kB
open Go.IntWalk renaming i64_in → jF
open Go.IntKind renaming i64 → jE
open And renaming intro → kX
open ByteArray renaming empty → kU
namespace Go.Proofs.YtaefcahblmopfaaGreatDoor
open Go.RowKit
theorem Yk{a:Atr}(ha:gQ a):(yV (pY a)).length≤126:=by
 obtain⟨-,-,c3⟩:=nB ha;obtain⟨h1,h2,-⟩:=ha.parts;have p1:=dO (m:=38) qZ h1;have p2:=dO (m:=48) qZ h2;have :=iZ _ c3;have hf:(zI a.fl).length≤10:=by
  unfold zI;rw[List.length_map];exact List.length_filter_le _ _
 have :(pY a).length≤21:=by
  unfold pY;simp only[List.length_cons,jC];omega
 omega
theorem eW(on:Atr){a:Atr}(ha:gQ a):(pP on a).length≤129:=by
 unfold pP;have :=Yk ha
 split
 · simp
 · simp;omega
theorem tJ(r:Int):(vO r).size≤4:=by
 unfold vO
 split
 · repeat' split
   all_goals(first|exact(by decide:(1:Nat)≤4)|exact(by decide:(2:Nat)≤4)|exact(by decide:(3:Nat)≤4)|exact jD 4)
 · decide
theorem gL.at_{c:Cl}(h:gL c):gQ (vB c):=h.2.1
theorem gL.more{c:Cl}(h:gL c):c.more.size≤32:=by
 rcases h.1 with⟨-,h,-⟩|⟨-,⟨L,-,-,h⟩,-⟩
 · rw[h];decide
 · exact h
theorem Z9{c:Cl}(h:gL c):(fP c).length≤36:=by
 have h1:=tJ c.r;have h2:=h.more;unfold fP;rw[jC,bI,bI];omega
theorem lX:∀(cs:List Cl) (on:Atr),(∀c∈cs,gL c)→(vH on cs).1.length≤165*cs.length
 |[],_,_=>jD _
 |c::cs,on,h=>by
  have hc:=h c (List.mem_cons_self ..);have h1:=Z9 hc;have h2:=eW on hc.at_;have h3:=lX cs on (fun d hd=>h d (List.mem_cons_of_mem _ hd));have h4:=lX cs (vB c) (fun d hd=>h d (List.mem_cons_of_mem _ hd));unfold vH
  split
  · rw[List.length_cons];omega
  · simp only[jC,List.length_cons];omega
theorem mT(c:Cl):∀(cs:List Cl) (on:Atr),vH on (cs++[c])=if c.half=2 then vH on cs else((vH on cs).1++(pP (vH on cs).2 (vB c)++fP c),vB c)
 |[],on=>by
  show vH on [c]=_;unfold vH
  split
  · rfl
  · simp[vH]
 |d::cs,on=>by
  rw[List.cons_append];unfold vH
  split
  · rw[mT c cs on]
  · rw[mT c cs (vB d)]
    split
    · rfl
    · simp only[kG]
theorem Yz{cs:List Cl}{k:Nat}{c:Cl}(on:Atr)(h:cs[k]? =some c):vH on (cs.take (k+1))=if c.half=2 then vH on (cs.take k)else((vH on (cs.take k)).1++(pP (vH on (cs.take k)).2 (vB c)++fP c),vB c):=by
 rw[←mT]
 congr 1
 obtain⟨hk,rfl⟩:=jP.1 h;rw[kY hk]
def CB(base:Nat)(w:World)(A:Option Addr)(cs:List Cl):Prop:=∀w',Below base w w'→zL w' A cs
theorem CB.on{base:Nat}{w w':World}{A:Option Addr}{cs:List Cl}(h:CB base w A cs)(hb:Below base w w'):CB base w' A cs:=fun w2 h2=>h w2 (hb.trans h2)
theorem UX(s:ByteArray):u8 (zT s)=s.data.toList:=by
 unfold u8 zT;show(List.map (fun n:Int=>UInt8.ofNat n.toNat) _).toArray.toList=_;rw[List.toList_toArray,List.map_map];refine(List.map_congr_left (fun b _=>?_)).trans (List.map_id _);show UInt8.ofNat ((b.toNat:Int)).toNat=b;simp
section
variable {base:Nat}{w:World}{v:Pn}{on:Atr}{l:List UInt8}
set_option maxHeartbeats 3200000 in
theorem KN(h:PnO base w v on l)(hbw:base≤w.heap.size)(ht:TB base w)(y x:Nat)(hy:y≤1000)(hx:x≤1000)(A:Option Addr)(cs:List Cl)(ca:Nat)(hc:CB base w A cs)(hok:∀c∈cs,gL c)(hz:cs.length≤1000)(hl:l.length≤80000000):
 Calls jG 247 #[.pointer (some ⟨v.P,0,none⟩),.int .i64 y,.int .i64 x,.slice A cs.length ca] w (nQ base w v (vH on cs).2 (l++u8 (cQ y x++(vH on cs).1))):=by
 have hm1:=iV y x hy hx;have HO:=Hd h;have HM:=Hd (tV h hbw ht.tab y x hy hx qJ);have HT:=Hd ht;have HBW:=Hd hbw;have HC:=Hd hc;have HOK:=Hd hok;have HLZ:=Hd (kX hl (kX hm1 hz));clear h hbw ht hc hok hm1 hl hy hx
 go_enter Tryz.func247,Tryz.ntmps247
 go_wp2_with(go_at_call 158;(with_reducible refine HM.o.mono ?_);rintro e w1 ⟨rfl,hr⟩;have HR:=Hd hr;clear hr)
 go_loopw [16] (fun i wr=>∃k:Nat,k≤cs.length∧i=.int .i64 k∧gW base w v (vH on (cs.take k)).2 (l++u8 (cQ y x++(vH on (cs.take k)).1)) wr) (fun i _=>cs.length-(intOf i).toNat)
 case atStart=>exact⟨0,kB _,rfl,by rw[kK,show vH on []=([],on)from rfl,List.append_nil];exact HR.o⟩
 case round=>
  obtain⟨k,hk,rfl,hR⟩:=hrel
  by_cases hlt:k<cs.length
  · have hB:Below base w wr:=gW.below HO.o HBW.o hR;have hsz:base≤wr.heap.size:=jI HBW.o hB.size;obtain⟨b',off',c,rfl,hcg,hca⟩:=(HC.o wr hB).at_ hlt;have hT:=HT.o.on hB;have hD:=HOK.o c (uW hcg);have hln:=lX (cs.take k) on (fun c hc=>HOK.o c (List.mem_of_mem_take hc));have hlt2:(cs.take k).length≤1000:=by have :=HLZ.o.2.2;rw[kS];omega
    have hl1:(l++u8 (cQ y x++(vH on (cs.take k)).1)).length≤80170000:=by have :=HLZ.o;rw[jC,eH,jC];omega
    have hst:=Yz on hcg;have hfin:∀w',gW base w v (if c.half=2 then(vH on (cs.take k)).2 else vB c) (if c.half=2 then l++u8 (cQ y x++(vH on (cs.take k)).1)else l++u8 (cQ y x++(vH on (cs.take k)).1)++u8 (pP (vH on (cs.take k)).2 (vB c))++u8 (zT (vO c.r))++u8 (zT c.more)) w'→gW base w v (vH on (cs.take (k+1))).2 (l++u8 (cQ y x++(vH on (cs.take (k+1))).1)) w':=fun w' h=>by
     rw[hst]
     split
     · rename_i h2
       rw[if_pos h2,if_pos h2]at h;exact h
     · rename_i h2
       rw[if_neg h2,if_neg h2]at h;unfold fP;simp only[bX,kG]at h ⊢;exact h
    generalize (vH on (cs.take k)).2=on1 at hR hfin;generalize l++u8 (cQ y x++(vH on (cs.take k)).1)=l1 at hR hfin hl1;have hHO2:=HO.o;clear hst hln hlt2 hcg;obtain⟨r0,r1,r2,r3,r4,r5,r6,r7⟩:=hca;obtain⟨cr,cm,chf,c3,c4,c5,c6,c7⟩:=c;have hat:gQ ⟨c3,c4,c5,c6,c7⟩:=hD.at_;have hmo:=hD.more;have hlt3:=HO.o.lt;simp only at r0 r1 r2 r3 r4 r5 r6 r7 hmo;simp only[show ∀(q:Int),vB ⟨cr,cm,chf,c3,c4,c5,c6,c7⟩=⟨c3,c4,c5,c6,c7⟩from fun _=>rfl]at hfin;have HFIN:=Hd hfin;have HBC:=Hd (jH (jU wr.heap.size wr) (.cells #[.int .i32 cr,.string cm,.int .i64 chf,.int .i64 c3,.int .i64 c4,.int .i64 c5,.int .i64 c6,.int .i64 c7] 65));obtain⟨v1,a1,a2,a3,a4,a5⟩:=hR;have HTu:=Hd (tK (a3.below HBC.o) (jI hsz HBC.o.size) (hT.tab.below HBC.o) ⟨c3,c4,c5,c6,c7⟩ hat qJ);rw[a1]at HTu;have HAT:=Hd hat;have HR1:=Hd (kX a1 (kX a2 (kX a3 (kX a4 (kX a5 (kX hsz (kX hT (kX hl1 hmo))))))));clear hB hsz hT hD hfin hl1 a1 a2 a3 a4 a5 hat hmo hHO2 hlt3
    by_cases h2:chf=2
    · subst h2
      go_wp2_with fail
      go_roundw
      case rel=>
       obtain⟨a1,a2,a3,a4,a5,-⟩:=HR1.o;exact⟨k+1,by omega,by go_num,HFIN.o _ (by rw[if_pos rfl,if_pos rfl];exact gW.post ⟨v1,a1,a2,a3,a4,a5⟩ HBC.o)⟩
      case measure=>simp[intOf];omega
    · have h2b:(chf==2)=false:=by simpa using h2
      have h2c:(chf != 2)=true:=by simpa using h2
      go_upto_region 6 with(go_at_call 157;(with_reducible refine HTu.o.mono ?_);rintro e w2 ⟨rfl,hr⟩;have HR:=Hd hr;clear hr)
      obtain⟨a1,a2,a3,a4,a5,hsz,hT,hl1,hmo⟩:=HR1.o;have hlt1:¬wr.heap.size∈pnX v1:=fun hx=>by have :=(a3.lt _ hx).2;omega
      have hs2:base≤wr.heap.size:=hsz;have hB2:Below base wr w2:=by
       refine(HBC.o.mono hsz).trans (gW.below (a3.below HBC.o) (jI hsz HBC.o.size) HR.o)
      obtain⟨v2,b1,b2,b3,b4,b5⟩:=HR.o;have hx2:=(b4.block wr.heap.size qV1 hlt1).trans (jA rfl);have y0:=(at_ hx2 0 _ rfl).1;have y1:=(at_ hx2 1 _ rfl).1;have hw2:base≤w2.heap.size:=jI hsz (jI HBC.o.size b4.size);have hln2:(l1++u8 (pP on1 ⟨c3,c4,c5,c6,c7⟩)).length≤80170000+129:=by
       have :=eW on1 HAT.o;rw[jC,eH];omega
      have HPUT:Hid (∀w':World,Below w2.heap.size w2 w'→Calls jG 102 #[.int .i32 cr] w' fun e w2=>e=.returned (.string (vO cr))∧Below w'.heap.size w' w2):=Hd (fun w' _=>rP cr w');have HWR:Hid (∀w',Below w2.heap.size w2 w'→Calls jG 101 #[.pointer (some ⟨v.B,0,none⟩),.string (vO cr)] w' (fun e w2=>(∃k:Int,e=.returned (.tuple #[.int .i64 k,.nilIface]))∧gW base w' v2 ⟨c3,c4,c5,c6,c7⟩ (l1++u8 (pP on1 ⟨c3,c4,c5,c6,c7⟩)++u8 (zT (vO cr))) w2)):=Hd (fun w' hb=>by
       rw[UX,←a2,←b2];exact(eN (b3.below hb) (jI hw2 hb.size) (vO cr) (by have :=tJ cr;omega)).mono (fun e w2 h=>⟨⟨_,h.1⟩,h.2⟩))
      obtain⟨⟨c0,-⟩,-⟩:=b3.facts;rw[b1,a1,b2,a2]at c0;have hputl:=tJ cr;generalize vO cr=pu at HPUT HWR HFIN hputl;have H2:=Hd (kX b1 (kX b2 (kX b3 (kX b4 (kX b5 (kX hB2 (kX hx2 (kX hw2 (kX hln2 hputl)))))))));clear a1 a2 a3 a4 a5 hsz hT hl1 hlt1 hs2 hB2 b1 b2 b3 b4 b5 hx2 hw2 hln2 HTu HM hputl r0 r1 r2 r3 r4 r5 r6 r7;refine kH 7 (fun w'=>Below w2.heap.size w2 w'∧w'.cell? ⟨v.P,0,none⟩=some (.pointer (some ⟨v.B,0,none⟩))∧w'.cell? ⟨wr.heap.size,0,none⟩=some (.int .i32 cr)) qQ qQ ?_ ?_
      · exact⟨(jU _ _).drew,c0,y0⟩
      simp only[jS,kK,jR,jO]
      repeat(
       (first
        |refine kF qK ?_
        |((refine uT 102 #[.int .i32 cr] (.string pu) qK ?_ (fun w' hS=>(HPUT.o w' hS.1).mono fun e w2 ⟨he,hb⟩=>⟨he,jM hS.1 hb,kZ hb hS.2.1,kZ hb hS.2.2⟩) ?_;(focus(intro w2;go_simp;done))))
        |(refine kE ?_ qK ?_ ?_;rotate_left;(focus(intro w' hS;obtain⟨hS0,hS1,hS2⟩:=hS;go_simp;first|done|with_reducible rfl))))
       simp only[Act.put,jZ,jX,jY])
      refine kO (fun w' hS=>?_);have HB5:=Hd hS.1;clear hS c0 y0 y1
      go_upto_region 7 with(go_at_call 101;(with_reducible refine(HWR.o _ HB5.o).mono ?_);rintro e w6 ⟨⟨n6,rfl⟩,hr⟩;have HR6:=Hd (gW.pre HB5.o hr);clear hr)
      obtain⟨b1,b2,b3,b4,b5,hB2,hx2,hw2,hln2,hputl⟩:=H2.o;obtain⟨a1,a2,a3,a4,a5,hsz,hT,hl1,hmo⟩:=HR1.o;have hlt2:¬wr.heap.size∈pnX v2:=fun hx=>by
       rcases b5 _ hx with h|h
       · have :=(a3.lt _ h).2;omega
       · rw[World.size_alloc]at h;omega
      obtain⟨v3,d1,d2,d3,d4,d5⟩:=HR6.o;have hx3:=(d4.block wr.heap.size (jL hx2) hlt2).trans hx2;have y1:=(at_ hx3 1 _ rfl).1;have hw3:base≤w6.heap.size:=jI hw2 d4.size;have HWR2:Hid (∀w',Below w6.heap.size w6 w'→Calls jG 101 #[.pointer (some ⟨v.B,0,none⟩),.string cm] w' (fun e w2=>(∃k:Int,e=.returned (.tuple #[.int .i64 k,.nilIface]))∧gW base w' v3 ⟨c3,c4,c5,c6,c7⟩ (l1++u8 (pP on1 ⟨c3,c4,c5,c6,c7⟩)++u8 (zT pu)++u8 (zT cm)) w2)):=Hd (fun w' hb=>by
       rw[UX cm,←a2,←b2,←d2];refine(eN (d3.below hb) (jI hw3 hb.size) cm ?_).mono (fun e w2 h=>⟨⟨_,h.1⟩,h.2⟩);rw[jC,eH,bI];omega)
      obtain⟨⟨c0,-⟩,-⟩:=d3.facts;rw[d1,b1,a1,d2,b2,a2]at c0;have H6:=Hd (kX d1 (kX d2 (kX d4 d5)));clear a1 a2 a3 a4 a5 hsz hT hl1 hlt2 hB2 b1 b2 b3 b4 b5 hx2 hw2 hln2 hputl hx3 hw3 hmo d1 d2 d3 d4 d5;refine kH 6 (fun w'=>Below w6.heap.size w6 w'∧w'.cell? ⟨v.P,0,none⟩=some (.pointer (some ⟨v.B,0,none⟩))∧w'.cell? ⟨wr.heap.size,1,none⟩=some (.string cm)) qQ qQ ?_ ?_
      · exact⟨(jU _ _).drew,c0,y1⟩
      simp only[jS,kK,jR,jO]
      repeat(
       (first
        |refine kF qK ?_
        |(refine kE ?_ qK ?_ ?_;rotate_left;(focus(intro w' hS;obtain⟨hS0,hS1,hS2⟩:=hS;go_simp;first|done|with_reducible rfl))))
       simp only[Act.put,jZ,jX,jY])
      refine kO (fun w' hS=>?_);have HB7:=Hd hS.1;clear hS c0 y1
      go_wp2_with(go_at_call 101;(with_reducible refine(HWR2.o _ HB7.o).mono ?_);rintro e w8 ⟨⟨n8,rfl⟩,hr⟩;have HR8:=Hd (gW.pre HB7.o hr);clear hr)
      go_roundw
      case rel=>
       obtain⟨a1,a2,a3,a4,a5,-⟩:=HR1.o;obtain⟨b1,b2,b3,b4,b5,-⟩:=H2.o;obtain⟨d1,d2,d4,d5⟩:=H6.o;refine⟨k+1,by omega,by go_num,HFIN.o _ ?_⟩;rw[if_neg h2,if_neg h2];exact gW.trans a1 a2 a5 a4 (gW.pre HBC.o (gW.trans b1 b2 b5 b4 (gW.trans d1 d2 d5 d4 HR8.o)))
      case measure=>simp[intOf];omega
  · obtain rfl:k=cs.length:=by omega
    rw[List.take_length]at hR
    go_wp2
    go_end0
    exact⟨rfl,hR⟩
end
def yZ:Array Value:=#[.int .i32 0,.string kU,.int .i64 0,.int .i64 0,.int .i64 0,.int .i64 0,.int .i64 0,.int .i64 0]
theorem WD{cs:List Cl}{x n:Nat}{c d:Cl}(hc:cs[x]? =some c)(hd:cs[x+n]? =some d)(h:zJ (cs.drop x)=n+((cs.drop (x+n)).takeWhile (zK c)).length):zJ (cs.drop x)=if zK c d=true then(n+1)+((cs.drop (x+(n+1))).takeWhile (zK c)).length else n:=by
 obtain⟨hx,rfl⟩:=jP.1 hd;rw[h,List.drop_eq_getElem_cons hx,List.takeWhile_cons]
 split
 · rw[List.length_cons,show x+(n+1)=x+n+1 by omega];omega
 · rfl
theorem VP{cs:List Cl}{x:Nat}{c:Cl}(hc:cs[x]? =some c):zJ (cs.drop x)=1+((cs.drop (x+1)).takeWhile (zK c)).length:=by
 obtain⟨hx,rfl⟩:=jP.1 hc;rw[List.drop_eq_getElem_cons hx];show(List.takeWhile _ _).length+1=_;omega
set_option maxHeartbeats 3200000 in
theorem qKd(A:Option Addr)(cs:List Cl)(ca x:Nat)(w:World)(hc:zL w A cs)(hx:x<cs.length)(hz:cs.length≤1000):
 Calls jG 245 #[.slice A cs.length ca,.int .i64 x] w fun e w'=>e=.returned (.int .i64 (zJ (cs.drop x)))∧Below w.heap.size w w':=by
 obtain⟨b,off,c,rfl,hcg,hca⟩:=hc.at_ hx;have HC:=Hd hc;have H1:=Hd (VP hcg);have HCG:=Hd hcg;have HCA0:=Hd hca;obtain⟨R,hR⟩:∃R,zJ (cs.drop x)=R:=⟨_,rfl⟩;rw[hR]at H1 ⊢;have HR:=Hd hR;clear hc hcg hca hR
 go_enter Tryz.func245,Tryz.ntmps245
 go_wp2_with fail
 go_loopw [5] (fun i wr=>∃n:Nat,1≤n∧x+n≤cs.length∧i=.int .i64 n∧Below w.heap.size w wr∧R=n+((cs.drop (x+n)).takeWhile (zK c)).length) (fun i _=>cs.length-(intOf i).toNat)
 case atStart=>exact⟨1,jD _,by omega,rfl,jU _ _,H1.o⟩
 case round=>
  obtain⟨n,hn1,hn,rfl,hB,hrun⟩:=hrel;obtain⟨q,hq⟩:∃q:Nat,(x:Int)+n=q:=⟨x+n,by omega⟩;have hqx:q=x+n:=by omega
  have HQX:=Hd hqx;have hwq:jE.wrap (q:Int)=q:=jF _ qJ
  by_cases hlt:q<cs.length
  · obtain⟨d,hdg⟩:∃d,cs[x+n]? =some d:=⟨_,jN qJ⟩;have HRUN:=Hd (WD HCG.o hdg (HR.o.trans hrun));have hda:QE wr b (off+q*8) d:=by
     rw[hqx];exact((HC.o.below hB).cell hdg)
    have hca:=HCA0.o.below hB;have HCA:=Hd hca;have HDA:=Hd hda;have HBW:=Hd hB;have HWS:Hid (wr.heap.size<wr.heap.size+1):=Hd (Nat.lt_succ_self _);clear hdg hrun hB hqx
    go_upto_region 3 with fail
    go_cut [6,7] (fun s6 s7 w'=>∃g6 g7:Nat,s6=.pointer (some ⟨g6,0,none⟩)∧s7=.pointer (some ⟨g7,0,none⟩)∧Below wr.heap.size wr w'∧w'.heap[g6]? =some (.cells (kQ c).toArray 65 (0,0))∧w'.heap[g7]? =some (.cells (kQ d).toArray 65 (0,0)))
    case first =>
     refine Go.RL.wp_region_l 13 (fun w'=>Below wr.heap.size wr w'∧QE w' b (off+x*8) c∧QE w' b (off+q*8) d) (fun _=>True) qQ qQ ⟨(jU _ _).drew,hca,hda⟩ trivial ?_;clear hca hda;refine Go.RL.AtL.go 0 ?_
     iterate 10 (refine Go.RL.AtK.take (o:=⟨_,_,_,_,_,_⟩) (v:=?_) qQ rfl qV qQ qQ ?_ ?_;rotate_left;(focus(refine Go.RL.Pure.val qK ?_;intro w' hI;obtain⟨_,⟨_,_,_,_,_,_,_,_⟩,_,_,_,_,_,_,_,_⟩:=hI;go_simp;first|done|with_reducible rfl));simp only[Act.put,jZ,jX,jY])
     refine Go.RL.AtK.back ?_;refine Go.RL.AtL.two 10 11 (o:=⟨_,_,_,_,_,_⟩) (o':=⟨_,_,_,_,_,_⟩) (fun v=>∃g,v=.pointer (some ⟨g,0,none⟩)∧wr.heap.size≤g) (fun v=>∃g,v=.pointer (some ⟨g,0,none⟩)∧wr.heap.size≤g) (fun v w'=>∀g,v=.pointer (some ⟨g,0,none⟩)→w'.heap[g]? =some (.cells yZ 65 (0,0))) (fun v w'=>∀g,v=.pointer (some ⟨g,0,none⟩)→w'.heap[g]? =some (.cells yZ 65 (0,0))) qV qV qQ rfl rfl
      (Go.RL.StabL.op _ _ qK (fun w' hI hS=>?_)) (Go.RL.StabL.op _ _ qK (fun w' hI hS=>?_)) ?_ ?_
     · have hbb:=jH hI.1 (.cells yZ 65);exact qZv
     · have hbb:=jH hI.1 (.cells yZ 65);exact qZv
     · rintro v ⟨g,rfl,hg⟩;simp only[Act.put,jZ,jX,jY];refine Go.RL.AtL.one 11 (o:=⟨_,_,_,_,_,_⟩) (fun v=>∃g',v=.pointer (some ⟨g',0,none⟩)∧wr.heap.size≤g'∧g'≠g) (fun v w'=>w'.heap[g]? =some (.cells yZ 65 (0,0))∧∀g',v=.pointer (some ⟨g',0,none⟩)→w'.heap[g']? =some (.cells yZ 65 (0,0))) qV qQ rfl (Go.RL.StabL.op _ _ qK (fun w' hI hS=>?_)) ?_
       · have hbb:=jH hI.1 (.cells yZ 65);have hgl:=jL (hS g rfl);exact qZw
       rintro v ⟨g',rfl,hg',hgn⟩;simp only[Act.put,jZ,jX,jY];have HSX:Hid (∀w':World,(w'.heap[g]? =some (.cells yZ 65 (0,0))∧∀g'',Value.pointer (some ⟨g',0,none⟩)=.pointer (some ⟨g'',0,none⟩)→w'.heap[g'']? =some (.cells yZ 65 (0,0)))→w'.heap[g]? =some (.cells yZ 65 (0,0))∧w'.heap[g']? =some (.cells yZ 65 (0,0))):=Hd (fun w' h=>⟨h.1,h.2 g' rfl⟩);have hne:g≠g':=by omega
       refine Go.RL.AtL.one 12 (o:=⟨none,.store 65 (.tmp 6) (.tmp 17),_,_,_,_⟩) (fun _=>True) (fun _ w'=>w'.heap[g]? =some (.cells (kQ c).toArray 65 (0,0))∧w'.heap[g']? =some (.cells yZ 65 (0,0))) qV qQ rfl (Go.RL.StabL.unit _ _ qK (fun w' hI hS=>?_)) ?_
       · obtain⟨h6,h7⟩:w'.heap[g]? =some (.cells yZ 65 (0,0))∧w'.heap[g']? =some (.cells yZ 65 (0,0)):=HSX.o w' hS;obtain⟨hb,hI1,hI2⟩:=hI;have hbb:Below wr.heap.size wr (w'.setCells g 0 (kQ c)):=gG hb qJ _ _;refine⟨_,mN 65 (.tmp 6) (.tmp 17) rfl g 0 (kQ c).toArray rfl rfl (show World.there _ g 0 8 from pX h6) uG (pA c),trivial,⟨hbb,HCA.o.below hbb,HDA.o.below hbb⟩,?_,?_⟩
         · exact uC (kQ c) 0 yZ.toList w' h6 qV6
         · exact((vM (X:=[g]) (.inl (jW.2 rfl)) (kQ c) 0 w' (Mod.refl _ _)).block g' (jL h7) (fun h=>hne (jW.1 h).symm)).trans h7
       rintro vS -;simp only[Act.put];refine Go.RL.AtL.done qQ (fun w' hI hS=>?_);obtain⟨h6,h7⟩:=hS;obtain⟨hb,hI1,hI2⟩:=hI;have hbb:Below wr.heap.size wr (w'.setCells g' 0 (kQ d)):=gG hb qJ _ _;have q6:(w'.setCells g' 0 (kQ d)).heap[g]? =some (.cells (kQ c).toArray 65 (0,0)):=((vM (X:=[g']) (.inl (jW.2 rfl)) (kQ d) 0 w' (Mod.refl _ _)).block g (jL h6) (fun h=>hne (jW.1 h))).trans h6;have q7:(w'.setCells g' 0 (kQ d)).heap[g']? =some (.cells (kQ d).toArray 65 (0,0)):=uC (kQ d) 0 yZ.toList w' h7 qV6;have HBB:=Hd hbb;have HQ6:=Hd q6;have HQ7:=Hd q7;have HTH:Hid (World.there w' g' 0 8):=Hd (pX h7);clear hI1 hI2 hb hbb q6 q7 h6 h7;simp only[jR,jO];refine wpList_store_mid rfl 65 (.tmp 7) (.tmp 23) rfl (g') (0) ((kQ d).toArray) rfl rfl (HTH.o) uG (pA d) ?_
       go_wp2_with fail
       go_meet
       exact⟨_,_,rfl,rfl,HBB.o,HQ6.o,HQ7.o⟩
     · rintro v ⟨g,rfl,hg⟩;simp only[Act.put,jZ,jX,jY];refine Go.RL.AtL.one 10 (o:=⟨_,_,_,_,_,_⟩) (fun v=>∃g',v=.pointer (some ⟨g',0,none⟩)∧wr.heap.size≤g'∧g'≠g) (fun v w'=>w'.heap[g]? =some (.cells yZ 65 (0,0))∧∀g',v=.pointer (some ⟨g',0,none⟩)→w'.heap[g']? =some (.cells yZ 65 (0,0))) qV qQ rfl (Go.RL.StabL.op _ _ qK (fun w' hI hS=>?_)) ?_
       · have hbb:=jH hI.1 (.cells yZ 65);have hgl:=jL (hS g rfl);exact qZw
       rintro v ⟨g',rfl,hg',hgn⟩;simp only[Act.put,jZ,jX,jY];have HSX:Hid (∀w':World,(w'.heap[g]? =some (.cells yZ 65 (0,0))∧∀g'',Value.pointer (some ⟨g',0,none⟩)=.pointer (some ⟨g'',0,none⟩)→w'.heap[g'']? =some (.cells yZ 65 (0,0)))→w'.heap[g']? =some (.cells yZ 65 (0,0))∧w'.heap[g]? =some (.cells yZ 65 (0,0))):=Hd (fun w' h=>⟨h.2 g' rfl,h.1⟩);have hne:g'≠g:=by omega
       refine Go.RL.AtL.one 12 (o:=⟨none,.store 65 (.tmp 6) (.tmp 17),_,_,_,_⟩) (fun _=>True) (fun _ w'=>w'.heap[g']? =some (.cells (kQ c).toArray 65 (0,0))∧w'.heap[g]? =some (.cells yZ 65 (0,0))) qV qQ rfl (Go.RL.StabL.unit _ _ qK (fun w' hI hS=>?_)) ?_
       · obtain⟨h6,h7⟩:w'.heap[g']? =some (.cells yZ 65 (0,0))∧w'.heap[g]? =some (.cells yZ 65 (0,0)):=HSX.o w' hS;obtain⟨hb,hI1,hI2⟩:=hI;have hbb:Below wr.heap.size wr (w'.setCells g' 0 (kQ c)):=gG hb qJ _ _;refine⟨_,mN 65 (.tmp 6) (.tmp 17) rfl g' 0 (kQ c).toArray rfl rfl (show World.there _ g' 0 8 from pX h6) uG (pA c),trivial,⟨hbb,HCA.o.below hbb,HDA.o.below hbb⟩,?_,?_⟩
         · exact uC (kQ c) 0 yZ.toList w' h6 qV6
         · exact((vM (X:=[g']) (.inl (jW.2 rfl)) (kQ c) 0 w' (Mod.refl _ _)).block g (jL h7) (fun h=>hne (jW.1 h).symm)).trans h7
       rintro vS -;simp only[Act.put];refine Go.RL.AtL.done qQ (fun w' hI hS=>?_);obtain⟨h6,h7⟩:=hS;obtain⟨hb,hI1,hI2⟩:=hI;have hbb:Below wr.heap.size wr (w'.setCells g 0 (kQ d)):=gG hb qJ _ _;have q6:(w'.setCells g 0 (kQ d)).heap[g']? =some (.cells (kQ c).toArray 65 (0,0)):=((vM (X:=[g]) (.inl (jW.2 rfl)) (kQ d) 0 w' (Mod.refl _ _)).block g' (jL h6) (fun h=>hne (jW.1 h))).trans h6;have q7:(w'.setCells g 0 (kQ d)).heap[g]? =some (.cells (kQ d).toArray 65 (0,0)):=uC (kQ d) 0 yZ.toList w' h7 qV6;have HBB:=Hd hbb;have HQ6:=Hd q6;have HQ7:=Hd q7;have HTH:Hid (World.there w' g 0 8):=Hd (pX h7);clear hI1 hI2 hb hbb q6 q7 h6 h7;simp only[jR,jO];refine wpList_store_mid rfl 65 (.tmp 7) (.tmp 23) rfl (g) (0) ((kQ d).toArray) rfl rfl (HTH.o) uG (pA d) ?_
       go_wp2_with fail
       go_meet
       exact⟨_,_,rfl,rfl,HBB.o,HQ6.o,HQ7.o⟩
    case rest=>
     obtain⟨g6,g7,rfl,rfl,hb2,h6,h7⟩:=hcut;have hB3:=jM HBW.o hb2;have HB3:=Hd hB3;clear hB3 hb2 hca hda HCA HDA HBW HCA0 HC;have a0:wc.cell? ⟨g6,0,none⟩=some (.int .i32 c.r):=(at_ h6 0 _ rfl).1;have a3:wc.cell? ⟨g6,3,none⟩=some (.int .i64 c.fk):=(at_ h6 3 _ rfl).1;have a4:wc.cell? ⟨g6,4,none⟩=some (.int .i64 c.fn):=(at_ h6 4 _ rfl).1;have a5:wc.cell? ⟨g6,5,none⟩=some (.int .i64 c.bk):=(at_ h6 5 _ rfl).1;have a6:wc.cell? ⟨g6,6,none⟩=some (.int .i64 c.bn):=(at_ h6 6 _ rfl).1;have a7:wc.cell? ⟨g6,7,none⟩=some (.int .i64 c.fl):=(at_ h6 7 _ rfl).1;have b0:wc.cell? ⟨g7,0,none⟩=some (.int .i32 d.r):=(at_ h7 0 _ rfl).1;have b3:wc.cell? ⟨g7,3,none⟩=some (.int .i64 d.fk):=(at_ h7 3 _ rfl).1;have b4:wc.cell? ⟨g7,4,none⟩=some (.int .i64 d.fn):=(at_ h7 4 _ rfl).1;have b5:wc.cell? ⟨g7,5,none⟩=some (.int .i64 d.bk):=(at_ h7 5 _ rfl).1;have b6:wc.cell? ⟨g7,6,none⟩=some (.int .i64 d.bn):=(at_ h7 6 _ rfl).1;have b7:wc.cell? ⟨g7,7,none⟩=some (.int .i64 d.fl):=(at_ h7 7 _ rfl).1;clear h6 h7;have hsame:zK c d=((decide (c.r=0)==decide (d.r=0))&& !(decide (c.r=0)&& !eqA (vB c) (vB d))):=rfl;have HS:=Hd hsame;have HXI:=Hd (show ∀m:Nat,m≤cs.length→(jE.wrap (m:Int))=m from fun m hm=>jF _ qJ);clear hsame
     unfold eqA vB at HS;obtain⟨cr,cm,chf,c3,c4,c5,c6,c7⟩:=c;obtain⟨dr,dm,dhf,d3,d4,d5,d6,d7⟩:=d;simp only at a0 a3 a4 a5 a6 a7 b0 b3 b4 b5 b6 b7 HS;have hgo:zK ⟨cr,cm,chf,c3,c4,c5,c6,c7⟩ ⟨dr,dm,dhf,d3,d4,d5,d6,d7⟩=true→R=n+1+((cs.drop (x+(n+1))).takeWhile (zK ⟨cr,cm,chf,c3,c4,c5,c6,c7⟩)).length:=fun h=>by
      have :=HRUN.o;rw[if_pos h]at this;exact HR.o.symm.trans this
     have hstop:zK ⟨cr,cm,chf,c3,c4,c5,c6,c7⟩ ⟨dr,dm,dhf,d3,d4,d5,d6,d7⟩=false→R=n:=fun h=>by
      have :=HRUN.o;rw[if_neg (by rw[h];decide)]at this;exact HR.o.symm.trans this
     have HGO:=Hd hgo;have HST:=Hd hstop;clear hgo hstop HRUN
     by_cases h1:cr=0
     · subst h1
       by_cases h2:dr=0
       · subst h2
         by_cases h3:c3=d3∧c4=d4∧c5=d5∧c6=d6∧c7=d7
         · obtain⟨rfl,rfl,rfl,rfl,rfl⟩:=h3;have HG2:=Hd (HGO.o (by rw[HS.o];simp));clear HGO HST HS
           go_wp2_with fail
           go_roundw
           case rel=>exact⟨n+1,by omega,by have :=HQX.o;omega,by go_num,HB3.o,HG2.o⟩
           case measure=>simp[intOf];have :=HQX.o;omega
         · have hne:(c3==d3&&(c4==d4&&(c5==d5&&(c6==d6&&(c7==d7)))))=false:=by
            simp only[Bool.and_eq_false_iff,beq_eq_false_iff_ne];omega
           have HG2:=Hd (HST.o (by rw[HS.o];simp;omega));clear HGO HST HS
           go_wp2_with fail
           all_goals(go_ret;exact⟨by rw[HG2.o];rfl,HB3.o⟩)
       · have hd0:(dr==0)=false:=by simpa using h2
         have HG2:=Hd (HST.o (by rw[HS.o];simp[h2]));clear HGO HST HS
         go_wp2_with fail
         go_ret
         exact⟨by rw[HG2.o];rfl,HB3.o⟩
     · have hc0:(cr==0)=false:=by simpa using h1
       by_cases h2:dr=0
       · subst h2;have HG2:=Hd (HST.o (by rw[HS.o];simp[h1]));clear HGO HST HS
         go_wp2_with fail
         go_ret
         exact⟨by rw[HG2.o];rfl,HB3.o⟩
       · have hd0:(dr==0)=false:=by simpa using h2
         have HG2:=Hd (HGO.o (by rw[HS.o];simp[h1,h2]));clear HGO HST HS
         go_wp2_with fail
         go_roundw
         case rel=>exact⟨n+1,by omega,by have :=HQX.o;omega,by go_num,HB3.o,HG2.o⟩
         case measure=>simp[intOf];have :=HQX.o;omega
  · have hend:R=n:=by
     rw[gN qJ]at hrun;exact hrun
    have HE:=Hd hend;clear hend hrun hqx
    go_wp2_with fail
    go_ret
    exact⟨by rw[HE.o];rfl,hB⟩
abbrev B8(xs:List Int):List UInt8:=u8 xs
def KY(y x n:Nat)(on:Atr)(c:Cl)(cs:List Cl):List Int:=if c.r=0 then dY y x n on (vB c)else cQ y x++(vH on cs).1
def WU(n:Nat)(on:Atr)(c:Cl)(cs:List Cl):Atr:=if c.r=0 then mE on (vB c)else(vH on cs).2
theorem qQv{cs:List Cl}{x:Nat}{c:Cl}(y:Nat)(on:Atr)(h:cs[x]? =some c):sA y x on (cs.drop x)=(KY y x (zJ (cs.drop x)) on c ((cs.drop x).take (zJ (cs.drop x))),WU (zJ (cs.drop x)) on c ((cs.drop x).take (zJ (cs.drop x)))):=by
 obtain⟨hx,rfl⟩:=jP.1 h;obtain⟨r,hr⟩:∃r,cs.drop x=cs[x]::r:=⟨_,List.drop_eq_getElem_cons hx⟩;rw[hr];unfold KY WU dY mE;show(if _ then(if _ then _ else _)else _)=_
 split
 · split<;>rfl
 · rfl
theorem KU{cs:List Cl}{x:Nat}(hx:x<cs.length):1≤zJ (cs.drop x)∧x+zJ (cs.drop x)≤cs.length:=by
 rw[VP (jN hx)];have h1:((cs.drop (x+1)).takeWhile (zK cs[x])).length≤(cs.drop (x+1)).length:=(List.takeWhile_sublist _).length_le;rw[List.length_drop]at h1;omega
theorem JX{cs:List Cl}{x:Nat}(k y:Nat)(on:Atr)(hx:x<cs.length):zS (k+1) y x on (cs.drop x)=((sA y x on (cs.drop x)).1++(zS k y (x+zJ (cs.drop x)) (sA y x on (cs.drop x)).2 (cs.drop (x+zJ (cs.drop x)))).1,(zS k y (x+zJ (cs.drop x)) (sA y x on (cs.drop x)).2 (cs.drop (x+zJ (cs.drop x)))).2):=by
 rw[zS,if_neg jJ,List.drop_drop]
theorem VR(k y x:Nat)(on:Atr):zS k y x on []=([],on):=by
 cases k with
 |zero=>rfl
 |succ k=>rfl
theorem Yn(y x n:Nat)(on:Atr){a:Atr}(hy:y≤1000)(hx:x≤1000)(hn:n≤1000)(ha:gQ a):(dY y x n on a).length≤154:=by
 unfold dY;have h1:=iV y x hy hx;have h2:=eW on ha;have h3:=ZA n hn
 split
 · exact kB _
 · simp only[jC];omega
theorem VM{y x n:Nat}{on:Atr}{c:Cl}{cs:List Cl}(hy:y≤1000)(hx:x≤1000)(hn:n≤1000)(h1:1≤n)(hc:gL c)(hcs:∀c∈cs,gL c)(hl:cs.length≤n):(KY y x n on c cs).length≤181*n:=by
 have h1:=iV y x hy hx;have h2:=lX cs on hcs;have h3:=Yn y x n on hy hx hn hc.at_;unfold KY
 split
 · omega
 · rw[jC];omega
theorem VL:∀(k y x:Nat) (on:Atr) (cs:List Cl),y≤1000→cs.length≤1000→x≤cs.length→(∀c∈cs,gL c)→(zS k y x on (cs.drop x)).1.length≤181*(cs.length-x)
 |0,_,_,_,_,_,_,_,_=>kB _
 |k+1,y,x,on,cs,hy,hz,hx,hok=>by
  by_cases hlt:x<cs.length
  · have hn:=KU hlt;rw[JX k y on hlt,qQv y on (jN hlt)];have h1:=VL k y (x+zJ (cs.drop x)) (WU (zJ (cs.drop x)) on cs[x] ((cs.drop x).take (zJ (cs.drop x)))) cs hy hz hn.2 hok;have h2:(KY y x (zJ (cs.drop x)) on cs[x] ((cs.drop x).take (zJ (cs.drop x)))).length≤181*zJ (cs.drop x):=VM hy qJ qJ hn.1 (hok _ (List.getElem_mem hlt)) (fun c hc=>hok c (List.mem_of_mem_drop (List.mem_of_mem_take hc))) qR;simp only[jC];omega
  · rw[gN qJ,VR];exact kB _
def oV(y:Nat)(on:Atr)(cs:List Cl)(x:Nat)(pre:List Int)(on1:Atr):Prop:=∃k,cs.length≤x+k∧zS cs.length y 0 on cs=(pre++(zS k y x on1 (cs.drop x)).1,(zS k y x on1 (cs.drop x)).2)∧pre.length≤181*x
theorem oV.start(y:Nat)(on:Atr)(cs:List Cl):oV y on cs 0 [] on:=⟨cs.length,by omega,by rw[jO];rfl,kB _⟩
theorem oV.next{y:Nat}{on:Atr}{cs:List Cl}{x:Nat}{pre:List Int}{on1:Atr}{c:Cl}(h:oV y on cs x pre on1)(hc:cs[x]? =some c)(hy:y≤1000)(hz:cs.length≤1000)(hok:∀c∈cs,gL c):
 oV y on cs (x+zJ (cs.drop x)) (pre++KY y x (zJ (cs.drop x)) on1 c ((cs.drop x).take (zJ (cs.drop x)))) (WU (zJ (cs.drop x)) on1 c ((cs.drop x).take (zJ (cs.drop x)))):=by
 obtain⟨k,hk,he,hp⟩:=h;have hx:=(jP.1 hc).1;have hn:=KU hx;obtain⟨k,rfl⟩:∃j,k=j+1:=⟨k-1,by omega⟩;refine⟨k,by omega,?_,?_⟩
 · rw[he,JX k y on1 hx,qQv y on1 hc,kG]
 · have h2:(KY y x (zJ (cs.drop x)) on1 c ((cs.drop x).take (zJ (cs.drop x)))).length≤181*zJ (cs.drop x):=VM hy qJ qJ hn.1 (hok _ (uW hc)) (fun c hc=>hok c (List.mem_of_mem_drop (List.mem_of_mem_take hc))) qR;rw[jC];omega
theorem oV.end_{y:Nat}{on:Atr}{cs:List Cl}{x:Nat}{pre:List Int}{on1:Atr}(h:oV y on cs x pre on1)(hx:cs.length≤x):zS cs.length y 0 on cs=(pre,on1):=by
 obtain⟨k,-,he,-⟩:=h;rw[he,gN hx,VR,List.append_nil]
theorem zL.part{w:World}{b off:Nat}{cs:List Cl}(h:zL w (some ⟨b,off,none⟩) cs)(x n:Nat):zL w (some ⟨b,off+x*8,none⟩) ((cs.drop x).take n):=fun h0=>⟨b,off+x*8,rfl,fun i c hc=>by
 have hi:i<n:=by
  have :=(jP.1 hc).1;rw[kS]at this;omega
 rw[List.getElem?_take_of_lt hi,gH]at hc;have :=h.cell hc;rw[show off+x*8+i*8=off+(x+i)*8 by omega];exact this⟩
section
variable {base:Nat}{w:World}{v:Pn}{on:Atr}{l:List UInt8}
set_option maxHeartbeats 3200000 in
theorem qJe(h:PnO base w v on l)(hbw:base≤w.heap.size)(ht:TB base w)(y:Nat)(hy:y≤1000)(A:Option Addr)(cs:List Cl)(ca:Nat)(hc:CB base w A cs)(hok:∀c∈cs,gL c)(hz:cs.length≤1000)(hca:cs.length≤ca)(hl:l.length≤79000000):
 Calls jG 156 #[.pointer (some ⟨v.P,0,none⟩),.int .i64 y,.slice A cs.length ca] w (nQ base w v (zS cs.length y 0 on cs).2 (l++u8 (zS cs.length y 0 on cs).1)):=by
 have HO:=Hd h;have HT:=Hd ht;have HBW:=Hd hbw;have HC:=Hd hc;have HOK:=Hd hok;have HL:=Hd (kX hl (kX hy hz));have HCAP:=Hd hca;have HEND:Hid (∀on1 pre x,oV y on cs x pre on1→cs.length≤x→(zS cs.length y 0 on cs).2=on1∧(zS cs.length y 0 on cs).1=pre):=Hd (fun on1 pre x h1 h2=>by rw[h1.end_ h2];exact⟨rfl,rfl⟩);obtain⟨RA,hRA⟩:∃RA,(zS cs.length y 0 on cs).2=RA:=⟨_,rfl⟩;obtain⟨RB,hRB⟩:∃RB,(zS cs.length y 0 on cs).1=RB:=⟨_,rfl⟩;rw[hRA,hRB]at HEND;rw[hRA,hRB];clear h hbw ht hc hok hl hRA hRB hca hy
 go_enter Tryz.func156,Tryz.ntmps156
 go_wp2_with fail
 go_loopw [6] (fun i wr=>∃(x:Nat) (pre:List Int) (on1:Atr),x≤cs.length∧i=.int .i64 x∧oV y on cs x pre on1∧gW base w v on1 (l++B8 pre) wr) (fun i _=>cs.length-(intOf i).toNat)
 case atStart=>exact⟨0,[],on,kB _,rfl,oV.start _ _ _,by rw[show l++B8 []=l from List.append_nil l];exact HO.o.res⟩
 case round=>
  obtain⟨x,pre,on1,hx,rfl,hst,hR⟩:=hrel
  by_cases hlt:x<cs.length
  · have hB:Below base w wr:=gW.below HO.o HBW.o hR;have hsz:base≤wr.heap.size:=jI HBW.o hB.size;have hCB:=HC.o.on hB;obtain⟨b,off,c,rfl,hcg,-⟩:=(HC.o wr hB).at_ hlt;have HCB:=Hd hCB;have hT:=HT.o.on hB;have hD:=HOK.o c (uW hcg);have hn:=KU hlt;have hnx:=hst.next hcg HL.o.2.1 HL.o.2.2 HOK.o;have hpl:=hst.choose_spec.2.2;have hsub:∀c∈(cs.drop x).take (zJ (cs.drop x)),gL c:=fun c hc=>HOK.o c (List.mem_of_mem_drop (List.mem_of_mem_take hc));have hsl:((cs.drop x).take (zJ (cs.drop x))).length=zJ (cs.drop x):=by rw[kS,List.length_drop];omega
    have HRUN:=Hd (qKd (some ⟨b,off,none⟩) cs ca x wr (hCB wr (jU _ _)) hlt HL.o.2.2);have HPT:Hid (∀w',Below base wr w'→CB base w' (some ⟨b,off+x*8,none⟩) ((cs.drop x).take (zJ (cs.drop x)))):=Hd (fun w' hb w2 hb2=>(hCB w2 (hb.trans hb2)).part x _);generalize zJ (cs.drop x)=n at hn hnx hsub hsl HRUN HPT;generalize (cs.drop x).take n=sub at hnx hsub hsl HPT;obtain⟨q,hq⟩:∃q:Nat,(x:Int)+n=q:=⟨x+n,by omega⟩;have hqx:q=x+n:=by omega
    have hwq:jE.wrap (q:Int)=q:=jF _ qJ;have HNX:=Hd hnx;have HSUB:=Hd hsub;have HSL:=Hd hsl;have HN:=Hd hn;have HQX:=Hd hqx;have hll:(l++B8 pre).length≤79181000:=by rw[jC,eH];have :=HL.o.1;have :=HL.o.2.2;omega
    have HLL:=Hd hll;have HD:=Hd hD;have HS:=Hd hsz;have HTT:=Hd hT;have HRR:=Hd hR;have HCG:=Hd hcg;have hq1:(q:Int)≤ca:=by have :=HCAP.o;omega
    clear hB hsz hCB hT hD hn hnx hpl hsub hsl hqx hll hcg hst hR
    go_upto_region 3 with(go_at_call 245;(with_reducible refine HRUN.o.mono ?_);rintro e w2 ⟨rfl,hb2⟩)
    have hB2:Below base wr w2:=hb2.mono HS.o;have hs2:base≤w2.heap.size:=jI HS.o hb2.size;have hca2:=(HCB.o w2 hB2).cell HCG.o;obtain⟨v1,a1,a2,a3,a4,a5⟩:=HRR.o.post hb2;obtain⟨cr,cm,chf,c3,c4,c5,c6,c7⟩:=c;obtain⟨r0,-,-,r3,r4,r5,r6,r7⟩:=hca2;have hat:gQ ⟨c3,c4,c5,c6,c7⟩:=HD.o.at_;simp only at r0 r3 r4 r5 r6 r7;have H1:=Hd (kX a1 (kX a2 (kX a4 a5)))
    by_cases h0:cr=0
    · subst h0;have HBl:=Hd (Vb a3 hs2 (HTT.o.on hB2) y x n HL.o.2.1 (by have :=HL.o.2.2;omega) (by have :=HN.o;have :=HL.o.2.2;omega) ⟨c3,c4,c5,c6,c7⟩ hat qV2);rw[a1]at HBl;clear hB2 hs2 a1 a2 a3 a4 a5 hat hb2
      go_wp2_with(go_at_call 246;(with_reducible refine HBl.o.mono ?_);rintro e w3 ⟨rfl,hr⟩;have HR3:=Hd hr;clear hr)
      go_roundw
      case rel=>
       obtain⟨a1,a2,a4,a5⟩:=H1.o;have hqx:=HQX.o;refine⟨q,_,_,by have :=HN.o;omega,by go_num,by rw[hqx];exact HNX.o,gW.trans a1 a2 a5 a4 ?_⟩;have :=HR3.o;rw[show KY y x n on1 ⟨0,cm,chf,c3,c4,c5,c6,c7⟩ sub=dY y x n on1 ⟨c3,c4,c5,c6,c7⟩from if_pos rfl,show WU n on1 ⟨0,cm,chf,c3,c4,c5,c6,c7⟩ sub=mE on1 ⟨c3,c4,c5,c6,c7⟩from if_pos rfl,show B8 (pre++dY y x n on1 ⟨c3,c4,c5,c6,c7⟩)=B8 pre++B8 (dY y x n on1 ⟨c3,c4,c5,c6,c7⟩)from bX _ _,←kG];exact this
      case measure=>simp[intOf];have :=HQX.o;have :=HN.o;omega
    · have hb0:(cr==0)=false:=by simpa using h0
      have HW:=Hd (KN a3 hs2 (HTT.o.on hB2) y x HL.o.2.1 (by have :=HL.o.2.2;omega) (some ⟨b,off+x*8,none⟩) sub (ca-x) (HPT.o w2 hB2) HSUB.o (by have :=HN.o;have :=HL.o.2.2;have :=HSL.o;omega) qV2);rw[a1,HSL.o,show n=q-x by have :=HQX.o;omega]at HW;clear hB2 hs2 a1 a2 a3 a4 a5 hat hb2;have hxq:(x:Int)≤q:=by have :=HQX.o;omega
      have hcx:¬ca=x:=by have :=HCAP.o;omega
      go_wp2_with(go_at_call 247;(with_reducible refine HW.o.mono ?_);rintro e w3 ⟨rfl,hr⟩;have HR3:=Hd hr;clear hr)
      go_roundw
      case rel=>
       obtain⟨a1,a2,a4,a5⟩:=H1.o;have hqx:=HQX.o;refine⟨q,_,_,by have :=HN.o;omega,by go_num,by rw[hqx];exact HNX.o,gW.trans a1 a2 a5 a4 ?_⟩;have :=HR3.o;rw[show KY y x n on1 ⟨cr,cm,chf,c3,c4,c5,c6,c7⟩ sub=cQ y x++(vH on1 sub).1 from if_neg h0,show WU n on1 ⟨cr,cm,chf,c3,c4,c5,c6,c7⟩ sub=(vH on1 sub).2 from if_neg h0,show B8 (pre++(cQ y x++(vH on1 sub).1))=B8 pre++B8 (cQ y x++(vH on1 sub).1)from bX _ _,←kG];exact this
      case measure=>simp[intOf];have :=HQX.o;have :=HN.o;omega
  · obtain rfl:x=cs.length:=by omega
    obtain⟨e1,e2⟩:=HEND.o _ _ _ hst (jD _);have HE:=Hd (kX e1 e2);have HRR:=Hd hR;clear e1 e2 hst hR
    go_wp2
    go_end0
    obtain⟨e1,e2⟩:=HE.o;exact⟨rfl,by rw[e1,e2];exact HRR.o⟩
end
def vD(rows:List Rw):List (List Cl):=rows.map (·.cs)
def RB(base:Nat)(w:World)(A:Option Addr)(rows:List Rw):Prop:=∀w',Below base w w'→bM w' A rows
theorem RB.on{base:Nat}{w w':World}{A:Option Addr}{rows:List Rw}(h:RB base w A rows)(hb:Below base w w'):RB base w' A rows:=fun w2 h2=>h w2 (hb.trans h2)
def qK7(rows:List Rw):Prop:=∀r∈rows,r.cs.length≤1000∧r.cs.length≤r.cap∧∀c∈r.cs,gL c
theorem Xq(y:Nat)(on:Atr){rows:List Rw}{k:Nat}{r:Rw}(h:rows[k]? =some r):yK y on (vD (rows.drop k))=((zS r.cs.length y 0 on r.cs).1++(yK (y+1) (zS r.cs.length y 0 on r.cs).2 (vD (rows.drop (k+1)))).1,(yK (y+1) (zS r.cs.length y 0 on r.cs).2 (vD (rows.drop (k+1)))).2):=by
 obtain⟨hk,rfl⟩:=jP.1 h;rw[List.drop_eq_getElem_cons hk];rfl
def dG(on:Atr)(rows:List Rw)(k:Nat)(pre:List Int)(on1:Atr):Prop:=yK 0 on (vD rows)=(pre++(yK k on1 (vD (rows.drop k))).1,(yK k on1 (vD (rows.drop k))).2)∧pre.length≤181000*k
theorem dG.start(on:Atr)(rows:List Rw):dG on rows 0 [] on:=⟨rfl,kB _⟩
theorem dG.next{on:Atr}{rows:List Rw}{k:Nat}{pre:List Int}{on1:Atr}{r:Rw}(h:dG on rows k pre on1)(hr:rows[k]? =some r)(hk:k≤1000)(hok:r.cs.length≤1000∧r.cs.length≤r.cap∧∀c∈r.cs,gL c):
 dG on rows (k+1) (pre++(zS r.cs.length k 0 on1 r.cs).1) (zS r.cs.length k 0 on1 r.cs).2:=by
 obtain⟨he,hp⟩:=h;refine⟨?_,?_⟩
 · rw[he,Xq k on1 hr,kG]
 · have :=VL r.cs.length k 0 on1 r.cs hk hok.1 (kB _) hok.2.2;rw[jO]at this;rw[jC];omega
theorem dG.end_{on:Atr}{rows:List Rw}{pre:List Int}{on1:Atr}(h:dG on rows rows.length pre on1):(yK 0 on (vD rows)).2=on1∧(yK 0 on (vD rows)).1=pre:=by
 obtain⟨he,-⟩:=h;rw[he,List.drop_length];exact⟨rfl,by rw[show(yK rows.length on1 (vD [])).1=[]from rfl,List.append_nil]⟩
section
variable {base:Nat}{w:World}{v:Pn}{on:Atr}{l:List UInt8}
set_option maxHeartbeats 3200000 in
theorem V6(h:PnO base w v on l)(hbw:base≤w.heap.size)(ht:TB base w)(A:Option Addr)(rows:List Rw)(ca:Nat)(hr:RB base w A rows)(hok:qK7 rows)(hz:rows.length≤400)(hl:l.length≤1000):
 Calls jG 155 #[.slice A rows.length ca,.func (.func 156) #[.pointer (some ⟨v.P,0,none⟩)] #[]] w (nQ base w v (yK 0 on (vD rows)).2 (l++u8 (yK 0 on (vD rows)).1)):=by
 have HO:=Hd h;have HT:=Hd ht;have HBW:=Hd hbw;have HR:=Hd hr;have HOK:=Hd hok;have HL:=Hd (kX hl hz);have HEND:Hid (∀on1 pre,dG on rows rows.length pre on1→(yK 0 on (vD rows)).2=on1∧(yK 0 on (vD rows)).1=pre):=Hd (fun on1 pre h1=>h1.end_);obtain⟨RA,hRA⟩:∃RA,(yK 0 on (vD rows)).2=RA:=⟨_,rfl⟩;obtain⟨RX,hRX⟩:∃RX,(yK 0 on (vD rows)).1=RX:=⟨_,rfl⟩;rw[hRA,hRX]at HEND;rw[hRA,hRX];clear h hbw ht hr hok hl hRA hRX
 go_enter Tryz.func155,Tryz.ntmps155
 go_wp2_with fail
 go_loopw [8] (fun i wr=>∃(k:Nat) (pre:List Int) (on1:Atr),k≤rows.length∧i=.int .i64 k∧dG on rows k pre on1∧gW base w v on1 (l++B8 pre) wr) (fun i _=>rows.length-(intOf i).toNat)
 case atStart=>exact⟨0,[],on,kB _,rfl,dG.start _ _,by rw[show l++B8 []=l from List.append_nil l];exact HO.o.res⟩
 case round=>
  obtain⟨k,pre,on1,hk,rfl,hst,hR⟩:=hrel
  by_cases hlt:k<rows.length
  · have hB:Below base w wr:=gW.below HO.o HBW.o hR;have hsz:base≤wr.heap.size:=jI HBW.o hB.size;have hRB:=HR.o.on hB;obtain⟨b,off,rfl,hrr⟩:=(HR.o wr hB) qJ;have hget:=jN hlt;have hcb:CB base wr rows[k].A rows[k].cs:=fun w' hb=>by
     obtain⟨b',off',-,hq⟩:=hRB w' hb qJ;exact(hq k _ hget).2.1
    obtain⟨⟨c0,c1⟩,-,-⟩:=hrr k _ hget;have hD:=HOK.o _ (List.getElem_mem hlt);have hnx:=hst.next hget (by have :=HL.o.2;omega) hD;have hpl:=hst.2;have hll:(l++B8 pre).length≤79000000:=by rw[jC,eH];have :=HL.o.1;have :=HL.o.2;omega
    generalize rows[k]=r at c0 c1 hD hnx hcb;obtain⟨rA,cs,cap,cont⟩:=r;simp only at c0 c1 hD hnx hcb;have hbn:=jH (jU wr.heap.size wr) (.cells #[.slice rA cs.length cap,.bool cont] 52);have HBN:=Hd hbn;have hT:=HT.o.on hB;obtain⟨v1,a1,a2,a3,a4,a5⟩:=hR;have HRow:=Hd (qJe (a3.below hbn) (jI hsz hbn.size) (hT.on (hbn.mono hsz)) k (by have :=HL.o.2;omega) rA cs cap (hcb.on (hbn.mono hsz)) hD.2.2 hD.1 hD.2.1 hll);rw[a1]at HRow;have H1:=Hd (kX a1 (kX a2 (kX a4 (kX a5 hnx))));clear hB hsz hRB hrr hget hcb hD hnx hpl hll hbn hT a1 a2 a3 a4 a5 hst
    go_wp2_with((with_reducible refine HRow.o.mono ?_);rintro e w3 ⟨rfl,hr⟩;have HR3:=Hd hr;clear hr)
    go_roundw
    case rel=>
     obtain⟨a1,a2,a4,a5,hnx⟩:=H1.o;refine⟨k+1,_,_,by omega,by go_num,hnx,gW.trans a1 a2 a5 a4 (gW.pre HBN.o ?_)⟩;have :=HR3.o;rw[show B8 (pre++(zS cs.length k 0 on1 cs).1)=B8 pre++B8 (zS cs.length k 0 on1 cs).1 from bX _ _,←kG];exact this
    case measure=>simp[intOf];omega
  · obtain rfl:k=rows.length:=by omega
    obtain⟨e1,e2⟩:=HEND.o _ _ hst;have HE:=Hd (kX e1 e2);have HRR:=Hd hR;clear e1 e2 hst hR
    go_wp2
    go_end0
    obtain⟨e1,e2⟩:=HE.o;exact⟨rfl,by rw[e1,e2];exact HRR.o⟩
end
end Go.Proofs.YtaefcahblmopfaaGreatDoor
