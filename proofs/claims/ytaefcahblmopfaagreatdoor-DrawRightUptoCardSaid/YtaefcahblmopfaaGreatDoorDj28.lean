/- Joined by a tool of this claim out of smaller texts. Conditions: as stated. -/
import Derived.Test.YtaefcahblmopfaaGreatDoorDj27
set_option linter.unusedVariables false
set_option linter.unusedSimpArgs false
set_option maxRecDepth 100000
open Go.Lib renaming hid → Hd
open List renaming setIfInBounds_toArray → jZ, set_cons_zero → jX, set_cons_succ → jY, mem_singleton → jM, getElem?_eq_getElem → jN, getElem?_eq_some_iff → jP, length_append → jC, drop_succ_cons → jL, take_succ_cons → jS, drop_zero → jO, take_succ_eq_append_getElem → kQ, take_zero → kK, getD_eq_getElem?_getD → kX, mem_append → kU, getElem?_eq_none → uZ, mem_of_getElem? → uB, map_append → vX
open Go.Proofs.Tryz renaming prog → jG
open Go.RowKit.Below renaming refl → jU
open Nat renaming le_refl → jD, le_trans → jI, zero_le → kM, zero_add → kP
open Go.IntWalk renaming i64_in → jF
open Go.IntKind renaming i64 → jE
open And renaming intro → kY
open Go.World renaming ownsRow → kL, ownsRow_nil → kS, setCell → uN
namespace Go.Proofs.YtaefcahblmopfaaGreatDoor
open Go.RowKit
theorem fst_le{G:List (List Int)}(hc:qV9 G)(i:Nat):yR G i≤65535:=by
 unfold yR
 by_cases hi:i<G.length
 · have hm:G.getD i []∈G:=by rw[kX,jN hi];exact List.getElem_mem hi
   obtain⟨h1,-,h2⟩:=hc _ hm;cases hg:G.getD i []with
   |nil=>rw[hg]at h1;simp at h1
   |cons x l=>have :=(h2 x (by rw[hg];exact List.mem_cons_self)).2;show max 0 x≤65535;omega
 · rw[kX,uZ qJ];decide
theorem wD{b k:Nat}(h:k≠b):∀(vs:List Value) (o:Nat) (w:World),(w.setCells b o vs).heap[k]? =w.heap[k]?
 |[],_,_=>rfl
 |v::vs,o,w=>(wD h vs (o+1) (w.setCell ⟨b,o,none⟩ v)).trans (vT h)
section
variable {w:World}{A:Option Addr}{H:List Gh}
set_option maxHeartbeats 6400000 in
theorem qQq(hG:dC w A H)(ca:Nat)(hcl:qV9 (vU H))(hz:H.length≤1000)(a:Atr)(hf:cP a.fl):Calls jG 306 #[.agg (aL a).toArray,.slice A H.length ca] w (iA (fX a (vU H)) w):=by
 obtain⟨W,hW⟩:∃W,(w.alloc (.cells (aL a).toArray 63)).alloc (.cells (aL vI).toArray 63)=W:=⟨_,rfl⟩;have hb:Below w.heap.size w W:=by rw[←hW];exact jH (jH (jU _ _) _) _
 have hcx:W.heap[w.heap.size]? =some (.cells (aL a).toArray 63 (0,0)):=by rw[←hW];exact vJ (jT rfl)
 have hcy:W.heap[w.heap.size+1]? =some (.cells (aL vI).toArray 63 (0,0)):=by rw[←hW];exact jT qV
 have HB0:=Hd hb;have HX0:=Hd hcx;have HY0:=Hd hcy;have HW:=Hd hW;have hgl:(vU H).length=H.length:=by unfold vU;simp
 obtain⟨L,hL⟩:∃L,H.length=L:=⟨_,rfl⟩;have HGET:Hid (∀i,i<L→∃(x:Gh) (gb off:Nat),A=some ⟨gb,off,none⟩∧w.cell? ⟨gb,off+i,none⟩=some (.slice x.A x.g.length x.cap)∧(vU H).getD i []=x.g∧x.g.length≤8∧x.g.length≤x.cap∧(∀W',Below w.heap.size w W'→Calls jG 359 #[.slice x.A x.g.length x.cap] W' fun e w'=>e=.returned (.int .i64 (QZ x.g))∧W'=w')∧(1<x.g.length→∀W',Below w.heap.size w W'→Calls jG 360 #[.slice x.A x.g.length x.cap] W' (rF (tL x.g) W'))):=Hd (fun i hi=>by
  obtain⟨x,gb,off,h1,h2,h3,⟨h4,h4b⟩,h5⟩:=hG.get (i:=i) qJ;have hm:(vU H).getD i []∈vU H:=by
   have hi':i<(vU H).length:=by omega
   rw[kX,jN hi'];exact List.getElem_mem hi'
  have h8:=(hcl _ hm).2.1;rw[h5]at h8;exact⟨x,gb,off,h2,h3,h5,h8,h4b,fun W' hb'=>qQn (h4.below hb') x.cap qJ,fun hx W' hb'=>XW (h4.below hb') x.cap hx h8 h4b⟩)
 have HFI:Hid (∀W',Below w.heap.size w W'→∀i:Nat,Calls jG 358 #[.slice A L ca,.int .i64 i] W' fun e w'=>e=.returned (.int .i64 (yR (vU H) i))∧W'=w'):=Hd (fun W' hb' i=>by rw[←hL];exact Qi (hG.below hb') ca i qJ);have HBE:Hid (∀W',Below w.heap.size w W'→∀i:Nat,i<L→Calls jG 361 #[.slice A L ca,.int .i64 i] W' (WU (lL (vU H) i) W')):=Hd (fun W' hb' i hi=>by rw[←hL]at hi ⊢;exact XB (hG.below hb') ca i hi hz);have HV:Hid (∀i:Nat,0≤yR (vU H) i∧yR (vU H) i≤65535):=Hd (fun i=>⟨sC _ i,fst_le hcl i⟩);have HEND:Hid (∀a':Atr,bB L a' (vU H) L=fX a (vU H)→a'=fX a (vU H)):=Hd (fun a' h=>by rw[eV _ _ _ _ qJ]at h;exact h);have HST:Hid (∀(a':Atr) (i:Nat),i<L→bB L a' (vU H) i=fX a (vU H)→∃j:Nat,(rS a' (vU H) i).2=j∧i<j∧j≤L∧bB L (rS a' (vU H) i).1 (vU H) j=fX a (vU H)):=Hd (fun a' i hi h=>by
  have e:(vU H).length=L:=by omega
  obtain⟨j,h1,h2,h3,h4⟩:=Xy a' (vU H) i qJ;rw[e]at h3 h4;exact⟨j,h1,h2,h3,h4.trans h⟩)
 have HS0:Hid (bB L a (vU H) 0=fX a (vU H)):=Hd (by unfold fX;rw[hgl,hL]);have HFL:=Hd hf;rw[hL]at hz ⊢;obtain⟨T,hT⟩:∃T,fX a (vU H)=T:=⟨_,rfl⟩;rw[hT]at HEND HST HS0 ⊢;generalize vU H=G at HGET HFI HBE HV HEND HST HS0;clear hG hcl hb hcx hcy hW hgl hL hf hT
 go_enter Tryz.func306,Tryz.ntmps306
 go_upto_region 1 with fail
 have hW2:(w.alloc (.cells (aL a).toArray 63)).alloc (.cells #[.int .i64 0,.int .i64 0,.int .i64 0,.int .i64 0,.int .i64 0] 63)=W:=HW.o;rw[hW2];clear hW2
 go_wp2_with fail
 go_loopw [5] (fun s5 wr=>∃(i:Nat) (a':Atr),s5=.int .i64 i∧i≤L∧cP a'.fl∧bB L a' G i=T∧wr.heap[w.heap.size]? =some (.cells (aL a').toArray 63 (0,0))∧wr.heap[w.heap.size+1]? =some (.cells (aL vI).toArray 63 (0,0))∧Below w.heap.size w wr) (fun s5 _=>L-(intOf s5).toNat)
 case atStart=>exact⟨0,a,rfl,kM _,HFL.o,HS0.o,HX0.o,HY0.o,HB0.o⟩
 case round=>
  obtain⟨i,a',rfl,hi,hok,htn,hx,hy,hbw⟩:=hrel;have HX:=Hd hx;have HY:=Hd hy;have HB:=Hd hbw;have HOK:=Hd hok;have HTN:=Hd htn;have hwi:jE.wrap ((i:Int)+1)=(i:Int)+1:=jF _ qJ;clear HX0 HY0 HB0 HFL HS0 HW hx hy hbw hok htn
  by_cases hlt:i<L
  rotate_left
  · have hltI:¬(i:Int)<(L:Int):=by omega
    obtain rfl:i=L:=by omega
    obtain rfl:=HEND.o a' HTN.o;obtain⟨fk,fn,bk,bn,fl⟩:=a'
    go_upto_region 21 with fail
    refine wp_region_lit ?_;refine vK qK 63 (.tmp 2) rfl (w.heap.size) (0) rfl (aL ⟨fk,fn,bk,bn,fl⟩) _ (uH HX.o) Tryz.underlying63 rfl pR ?_;simp only[Act.put,jZ,jX,jY];refine wpList_store_mid rfl 63 (.tmp 4) (.tmp 77) rfl (w.heap.size+1) (0) ((aL ⟨fk,fn,bk,bn,fl⟩).toArray) rfl rfl ((show World.there _ (w.heap.size+1) 0 5 from pW HY.o)) pR (all_oneCell_toArray (K5 _)) ?_;simp only[Act.put]
    go_wp2
    have hw:=uF (aL ⟨fk,fn,bk,bn,fl⟩) 0 _ _ HY.o (by simp[aL]);exact bodyPost_ret (bW rfl _ _ (w.heap.size+1) (aL ⟨fk,fn,bk,bn,fl⟩) rfl (uH hw) Tryz.underlying63 rfl pR) rfl ⟨rfl,yF HB.o qJ _ _⟩
  · have hltI:(i:Int)<(L:Int):=by omega
    obtain⟨j,hj1,hj2,hj3,hj4⟩:=HST.o a' i hlt HTN.o;obtain⟨x,gb,off,rfl,hcg,hge,hg8,hgc,hln,hin⟩:=HGET.o i hlt;have hcg2:=kZ HB.o hcg;have HF:=Hd (HFI.o wr HB.o i);have HVI:=Hd (HV.o i);have HBI:=Hd (fun W' hb'=>HBE.o W' hb' i hlt);have HLN:=Hd hln;have HIN:=Hd hin;have HGE:=Hd hge;have HOK2:=Hd (qQ4 HOK.o G i);obtain⟨a2,ha2⟩:∃a2,(rS a' G i).1=a2:=⟨_,rfl⟩;rw[ha2]at hj4 HOK2;have HJ1:=Hd hj1;have HA2:=Hd ha2;have HJ4:=Hd hj4;have HJ:=Hd (kY hj2 hj3);unfold rS at HJ1 HA2;rw[HGE.o]at HA2;unfold qJ5 at HA2;unfold qJ4 at HJ1;rw[HGE.o]at HA2 HJ1;obtain⟨v,hv⟩:∃v,yR G i=v:=⟨_,rfl⟩;rw[hv]at HF HVI HJ1 HA2;clear hcg hln hin hge hj1 ha2 hj4 hj2 hj3 hv HTN HEND HST HGET HFI HBE HV
    by_cases h4:v=4
    · subst h4;have hj:Hid ((i:Int)+1=(j:Int)):=Hd (by rw[←HJ1.o,if_neg qZ]);obtain⟨lv,hlv⟩:∃lv,QZ x.g=lv:=⟨_,rfl⟩;rw[hlv]at HLN;obtain⟨nf,hnf⟩:∃nf,bits .or .i64 (bits .andNot .i64 a'.fl 264) lv=nf:=⟨_,rfl⟩;have ha:Hid (a2={a' with fl:=nf}):=Hd (by rw[←HA2.o,if_neg qZ];show dF a' 4 x.g=_;rw[simpA_4 HOK.o,hlv,hnf]);obtain⟨fk,fn,bk,bn,fl⟩:=a';simp only[]at ha hnf;obtain⟨c4,f4⟩:=at_ HX.o 4 (.int .i64 fl) rfl;have HNF:=Hd hnf;clear HJ1 HA2 HBI HIN hlv hnf
      go_upto_region 8 with(go_at_call 358;(with_reducible refine HF.o.mono ?_);rintro e w2 ⟨rfl,rfl⟩)
      refine kW 10 (fun w'=>Below wr.heap.size wr w'∧w'.cell? ⟨w.heap.size,4,none⟩=some (.int .i64 fl)∧w'.cell? ⟨gb,off+i,none⟩=some (.slice x.A x.g.length x.cap)) qQ qQ ?_ ?_
      · exact⟨(jU _ _).drew,c4,hcg2⟩
      simp only[jS,kK,jL,jO]
      repeat(
       (first
        |refine kF qK ?_
        |((refine uO 359 #[.slice x.A x.g.length x.cap] (.int .i64 lv) qK ?_ (fun w' hS=>(HLN.o w' (jW HB.o hS.1)).mono fun e w2 ⟨he,hw⟩=>⟨he,hw▸hS⟩) ?_;(focus(intro w2;go_simp;done))))
        |(refine kT ?_ qK ?_ ?_;rotate_left;(focus(intro w' hS;obtain⟨_,_,_⟩:=hS;go_simp;first|done|with_reducible rfl))))
       simp only[Act.put,jZ,jX,jY])
      refine kE (fun w' hS=>?_);have hx8:=(hS.1.block _ (jR HX.o)).trans HX.o;have hy8:=(hS.1.block _ (jR HY.o)).trans HY.o;have hb8:=jW HB.o hS.1;clear hS c4 f4;obtain⟨c4,f4⟩:=at_ hx8 4 (.int .i64 fl) rfl;have hNF:=HNF.o
      go_upto_region 3 with fail
      have HX9:Hid ((w'.setCell ⟨w.heap.size,4,none⟩ (.int .i64 nf)).heap[w.heap.size]? =some (.cells (aL a2).toArray 63 (0,0))):=Hd (by rw[ha.o];exact kA hx8 4 _ rfl);have HY9:=Hd (uW (i:=4) (v:=.int .i64 nf) hy8 (show w.heap.size+1≠w.heap.size by omega));have HB9:=Hd (uK hb8 (jD w.heap.size) (o:=4) (.int .i64 nf));clear hx8 hy8 hb8 c4 f4 hNF
      go_wp2
      go_roundw
      case rel=>exact⟨j,a2,by rw[hj.o],HJ.o.2,HOK2.o,HJ4.o,HX9.o,HY9.o,HB9.o⟩
      case measure=>have h1:=HJ.o;have h2:=hj.o;simp[intOf];omega
    · have e4:(v==4)=false:=beq_eq_false_iff_ne.2 h4
      by_cases h38:v=38
      · subst h38;have HJF:Hid ((if 1<x.g.length then(i:Int)+1 else(i:Int)+(lL G i).2+1)=(j:Int)):=Hd (by rw[←HJ1.o,if_pos (c:=(38:Int)=38∨(38:Int)=48) (.inl rfl)]);have HAF:Hid (xG a' 38 (if 1<x.g.length then tL x.g else(lL G i).1)=a2):=Hd (by rw[←HA2.o,if_pos (c:=(38:Int)=38∨(38:Int)=48) (.inl rfl)]);clear HJ1 HA2 HLN HGE HVI h4 e4
        by_cases hx1:1<x.g.length
        · have hx1I:(1:Int)<(x.g.length:Int):=by omega
          have HNE:Hid (w.heap.size≠wr.heap.size∧w.heap.size+1≠wr.heap.size):=Hd qE
          go_upto_region 12 with(go_at_call 358;(with_reducible refine HF.o.mono ?_);rintro e w2 ⟨rfl,rfl⟩)
          obtain⟨W12,hW12⟩:∃W12,wr.alloc (Obj.cells #[.int .i64 0,.int .i64 0] 61)=W12:=⟨_,rfl⟩;have hb12:Below wr.heap.size wr W12:=by rw[←hW12];exact jH (jU _ _) _
          have HZ12:Hid (W12.heap[wr.heap.size]? =some (.cells #[.int .i64 0,.int .i64 0] 61 (0,0))):=Hd qZw;have HX12:=Hd ((hb12.block _ (jR HX.o)).trans HX.o);have HY12:=Hd ((hb12.block _ (jR HY.o)).trans HY.o);have HB12:=Hd (jW HB.o hb12);have hcg12:=kZ hb12 hcg2;rw[hW12];clear hW12 hcg2 hb12;obtain⟨oc,hoc⟩:∃oc,tL x.g=oc:=⟨_,rfl⟩;have hJ:Hid ((i:Int)+1=(j:Int)):=Hd (by rw[←HJF.o,if_pos hx1]);have hA:Hid (xG a' 38 oc=a2):=Hd (by rw[←HAF.o,if_pos hx1,hoc]);have HC:=Hd (HIN.o hx1 W12 HB12.o);rw[hoc]at HC;clear hoc hx1 HJF HAF HIN HBI
          go_upto_region 17 with(go_at_call 360;(with_reducible refine HC.o.mono ?_);rintro e w13 ⟨rfl,hb13⟩;have hz13:=(hb13.block _ (jR HZ12.o)).trans HZ12.o;obtain⟨d0,d0f⟩:=at_ hz13 0 (.int .i64 0) rfl;obtain⟨d1,d1f⟩:=at_ hz13 1 (.int .i64 0) rfl)
          have hz17:=kA (kA hz13 0 (.int .i64 (ocK oc)) rfl) 1 (.int .i64 (ocN oc)) rfl;have hx17:=uW (i:=1) (v:=.int .i64 (ocN oc)) (uW (i:=0) (v:=.int .i64 (ocK oc)) ((hb13.block _ (jR HX12.o)).trans HX12.o) HNE.o.1) HNE.o.1;have hy17:=uW (i:=1) (v:=.int .i64 (ocN oc)) (uW (i:=0) (v:=.int .i64 (ocK oc)) ((hb13.block _ (jR HY12.o)).trans HY12.o) HNE.o.2) HNE.o.2;have hb17:=uK (uK (jW HB12.o hb13) HB.o.size (o:=0) (.int .i64 (ocK oc))) HB.o.size (o:=1) (.int .i64 (ocN oc));clear hz13 hb13 d0 d0f d1 d1f;generalize (uN w13 ⟨wr.heap.size,0,none⟩ (.int .i64 (ocK oc))).setCell ⟨wr.heap.size,1,none⟩ (.int .i64 (ocN oc))=W17 at hz17 hx17 hy17 hb17 ⊢;have HZ17:=Hd hz17;have HX17:=Hd hx17;have HY17:=Hd hy17;have HB17:=Hd hb17;clear hz17 hx17 hy17 hb17;obtain⟨fk,fn,bk,bn,fl⟩:=a';cases oc with
          |none=>
           have HX9:Hid (W17.heap[w.heap.size]? =some (.cells (aL a2).toArray 63 (0,0))):=Hd qZx;have HY9:=HY17;have HB9:=HB17
           go_wp2
           go_roundw
           case rel=>exact⟨j,a2,by rw[hJ.o],HJ.o.2,HOK2.o,HJ4.o,HX9.o,HY9.o,HB9.o⟩
           case measure=>have h1:=HJ.o;have h2:=hJ.o;simp[intOf];omega
          |some c=>
           obtain⟨ck,cn⟩:=c;have hz17:=HZ17.o;have hx17:=HX17.o;obtain⟨d0,d0f⟩:=at_ hz17 0 (.int .i64 ck) rfl;obtain⟨d1,d1f⟩:=at_ hz17 1 (.int .i64 cn) rfl;obtain⟨x0,x0f⟩:=at_ hx17 0 (.int .i64 fk) rfl;obtain⟨x1,x1f⟩:=at_ hx17 1 (.int .i64 fn) rfl;have HX9:Hid (((W17.setCell ⟨w.heap.size,0,none⟩ (.int .i64 ck)).setCell ⟨w.heap.size,1,none⟩ (.int .i64 cn)).heap[w.heap.size]? =some (.cells (aL a2).toArray 63 (0,0))):=Hd (by rw[←hA.o];exact kA (kA hx17 0 _ rfl) 1 _ rfl);have HY9:Hid (((W17.setCell ⟨w.heap.size,0,none⟩ (.int .i64 ck)).setCell ⟨w.heap.size,1,none⟩ (.int .i64 cn)).heap[w.heap.size+1]? =some (.cells (aL vI).toArray 63 (0,0))):=Hd (uW (uW HY17.o qJ) qJ);have HB9:=Hd (uK (uK HB17.o (jD w.heap.size) (o:=0) (.int .i64 ck)) (jD w.heap.size) (o:=1) (.int .i64 cn));clear hz17 hx17
           go_wp2
           go_roundw
           case rel=>exact⟨j,a2,by rw[hJ.o],HJ.o.2,HOK2.o,HJ4.o,HX9.o,HY9.o,HB9.o⟩
           case measure=>have h1:=HJ.o;have h2:=hJ.o;simp[intOf];omega
        · have hx1I:¬(1:Int)<(x.g.length:Int):=by omega
          have HNE:Hid (w.heap.size≠wr.heap.size∧w.heap.size+1≠wr.heap.size):=Hd qE
          go_upto_region 12 with(go_at_call 358;(with_reducible refine HF.o.mono ?_);rintro e w2 ⟨rfl,rfl⟩)
          obtain⟨W12,hW12⟩:∃W12,wr.alloc (Obj.cells #[.int .i64 0,.int .i64 0] 61)=W12:=⟨_,rfl⟩;have hb12:Below wr.heap.size wr W12:=by rw[←hW12];exact jH (jU _ _) _
          have HZ12:Hid (W12.heap[wr.heap.size]? =some (.cells #[.int .i64 0,.int .i64 0] 61 (0,0))):=Hd qZw;have HX12:=Hd ((hb12.block _ (jR HX.o)).trans HX.o);have HY12:=Hd ((hb12.block _ (jR HY.o)).trans HY.o);have HB12:=Hd (jW HB.o hb12);have hcg12:=kZ hb12 hcg2;rw[hW12];clear hW12 hcg2 hb12;have HC:=Hd (HBI.o W12 HB12.o);obtain⟨bh,hbh⟩:∃bh,lL G i=bh:=⟨_,rfl⟩;obtain⟨oc,bn⟩:=bh;have hJ:Hid ((i:Int)+bn+1=(j:Int)):=Hd (by rw[←HJF.o,if_neg hx1,hbh]);have hA:Hid (xG a' 38 oc=a2):=Hd (by rw[←HAF.o,if_neg hx1,hbh]);rw[hbh]at HC;have hwb:jE.wrap ((i:Int)+bn)=(i:Int)+bn:=jF _ jV;have hwb1:jE.wrap ((i:Int)+bn+1)=(i:Int)+bn+1:=jF _ jV;clear hbh hx1 HJF HAF HIN HBI
          go_upto_region 17 with(go_at_call 361;(with_reducible refine HC.o.mono ?_);rintro e w13 ⟨rfl,hb13⟩;have hz13:=(hb13.block _ (jR HZ12.o)).trans HZ12.o;obtain⟨d0,d0f⟩:=at_ hz13 0 (.int .i64 0) rfl;obtain⟨d1,d1f⟩:=at_ hz13 1 (.int .i64 0) rfl)
          have hz17:=kA (kA hz13 0 (.int .i64 (ocK oc)) rfl) 1 (.int .i64 (ocN oc)) rfl;have hx17:=uW (i:=1) (v:=.int .i64 (ocN oc)) (uW (i:=0) (v:=.int .i64 (ocK oc)) ((hb13.block _ (jR HX12.o)).trans HX12.o) HNE.o.1) HNE.o.1;have hy17:=uW (i:=1) (v:=.int .i64 (ocN oc)) (uW (i:=0) (v:=.int .i64 (ocK oc)) ((hb13.block _ (jR HY12.o)).trans HY12.o) HNE.o.2) HNE.o.2;have hb17:=uK (uK (jW HB12.o hb13) HB.o.size (o:=0) (.int .i64 (ocK oc))) HB.o.size (o:=1) (.int .i64 (ocN oc));clear hz13 hb13 d0 d0f d1 d1f;generalize (uN w13 ⟨wr.heap.size,0,none⟩ (.int .i64 (ocK oc))).setCell ⟨wr.heap.size,1,none⟩ (.int .i64 (ocN oc))=W17 at hz17 hx17 hy17 hb17 ⊢;have HZ17:=Hd hz17;have HX17:=Hd hx17;have HY17:=Hd hy17;have HB17:=Hd hb17;clear hz17 hx17 hy17 hb17;obtain⟨fk,fn,bk,bn,fl⟩:=a';cases oc with
          |none=>
           have HX9:Hid (W17.heap[w.heap.size]? =some (.cells (aL a2).toArray 63 (0,0))):=Hd qZx;have HY9:=HY17;have HB9:=HB17
           go_wp2
           go_roundw
           case rel=>exact⟨j,a2,by rw[hJ.o],HJ.o.2,HOK2.o,HJ4.o,HX9.o,HY9.o,HB9.o⟩
           case measure=>have h1:=HJ.o;have h2:=hJ.o;simp[intOf];omega
          |some c=>
           obtain⟨ck,cn⟩:=c;have hz17:=HZ17.o;have hx17:=HX17.o;obtain⟨d0,d0f⟩:=at_ hz17 0 (.int .i64 ck) rfl;obtain⟨d1,d1f⟩:=at_ hz17 1 (.int .i64 cn) rfl;obtain⟨x0,x0f⟩:=at_ hx17 0 (.int .i64 fk) rfl;obtain⟨x1,x1f⟩:=at_ hx17 1 (.int .i64 fn) rfl;have HX9:Hid (((W17.setCell ⟨w.heap.size,0,none⟩ (.int .i64 ck)).setCell ⟨w.heap.size,1,none⟩ (.int .i64 cn)).heap[w.heap.size]? =some (.cells (aL a2).toArray 63 (0,0))):=Hd (by rw[←hA.o];exact kA (kA hx17 0 _ rfl) 1 _ rfl);have HY9:Hid (((W17.setCell ⟨w.heap.size,0,none⟩ (.int .i64 ck)).setCell ⟨w.heap.size,1,none⟩ (.int .i64 cn)).heap[w.heap.size+1]? =some (.cells (aL vI).toArray 63 (0,0))):=Hd (uW (uW HY17.o qJ) qJ);have HB9:=Hd (uK (uK HB17.o (jD w.heap.size) (o:=0) (.int .i64 ck)) (jD w.heap.size) (o:=1) (.int .i64 cn));clear hz17 hx17
           go_wp2
           go_roundw
           case rel=>exact⟨j,a2,by rw[hJ.o],HJ.o.2,HOK2.o,HJ4.o,HX9.o,HY9.o,HB9.o⟩
           case measure=>have h1:=HJ.o;have h2:=hJ.o;simp[intOf];omega
      · by_cases h48:v=48
        · subst h48;have HJF:Hid ((if 1<x.g.length then(i:Int)+1 else(i:Int)+(lL G i).2+1)=(j:Int)):=Hd (by rw[←HJ1.o,if_pos (c:=(48:Int)=38∨(48:Int)=48) (.inr rfl)]);have HAF:Hid (xG a' 48 (if 1<x.g.length then tL x.g else(lL G i).1)=a2):=Hd (by rw[←HA2.o,if_pos (c:=(48:Int)=38∨(48:Int)=48) (.inr rfl)]);clear HJ1 HA2 HLN HGE HVI h4 e4
          by_cases hx1:1<x.g.length
          · have hx1I:(1:Int)<(x.g.length:Int):=by omega
            have HNE:Hid (w.heap.size≠wr.heap.size∧w.heap.size+1≠wr.heap.size):=Hd qE
            go_upto_region 12 with(go_at_call 358;(with_reducible refine HF.o.mono ?_);rintro e w2 ⟨rfl,rfl⟩)
            obtain⟨W12,hW12⟩:∃W12,wr.alloc (Obj.cells #[.int .i64 0,.int .i64 0] 61)=W12:=⟨_,rfl⟩;have hb12:Below wr.heap.size wr W12:=by rw[←hW12];exact jH (jU _ _) _
            have HZ12:Hid (W12.heap[wr.heap.size]? =some (.cells #[.int .i64 0,.int .i64 0] 61 (0,0))):=Hd qZw;have HX12:=Hd ((hb12.block _ (jR HX.o)).trans HX.o);have HY12:=Hd ((hb12.block _ (jR HY.o)).trans HY.o);have HB12:=Hd (jW HB.o hb12);have hcg12:=kZ hb12 hcg2;rw[hW12];clear hW12 hcg2 hb12;obtain⟨oc,hoc⟩:∃oc,tL x.g=oc:=⟨_,rfl⟩;have hJ:Hid ((i:Int)+1=(j:Int)):=Hd (by rw[←HJF.o,if_pos hx1]);have hA:Hid (xG a' 48 oc=a2):=Hd (by rw[←HAF.o,if_pos hx1,hoc]);have HC:=Hd (HIN.o hx1 W12 HB12.o);rw[hoc]at HC;clear hoc hx1 HJF HAF HIN HBI
            go_upto_region 17 with(go_at_call 360;(with_reducible refine HC.o.mono ?_);rintro e w13 ⟨rfl,hb13⟩;have hz13:=(hb13.block _ (jR HZ12.o)).trans HZ12.o;obtain⟨d0,d0f⟩:=at_ hz13 0 (.int .i64 0) rfl;obtain⟨d1,d1f⟩:=at_ hz13 1 (.int .i64 0) rfl)
            have hz17:=kA (kA hz13 0 (.int .i64 (ocK oc)) rfl) 1 (.int .i64 (ocN oc)) rfl;have hx17:=uW (i:=1) (v:=.int .i64 (ocN oc)) (uW (i:=0) (v:=.int .i64 (ocK oc)) ((hb13.block _ (jR HX12.o)).trans HX12.o) HNE.o.1) HNE.o.1;have hy17:=uW (i:=1) (v:=.int .i64 (ocN oc)) (uW (i:=0) (v:=.int .i64 (ocK oc)) ((hb13.block _ (jR HY12.o)).trans HY12.o) HNE.o.2) HNE.o.2;have hb17:=uK (uK (jW HB12.o hb13) HB.o.size (o:=0) (.int .i64 (ocK oc))) HB.o.size (o:=1) (.int .i64 (ocN oc));clear hz13 hb13 d0 d0f d1 d1f;generalize (uN w13 ⟨wr.heap.size,0,none⟩ (.int .i64 (ocK oc))).setCell ⟨wr.heap.size,1,none⟩ (.int .i64 (ocN oc))=W17 at hz17 hx17 hy17 hb17 ⊢;have HZ17:=Hd hz17;have HX17:=Hd hx17;have HY17:=Hd hy17;have HB17:=Hd hb17;clear hz17 hx17 hy17 hb17;obtain⟨fk,fn,bk,bn,fl⟩:=a';cases oc with
            |none=>
             have HX9:Hid (W17.heap[w.heap.size]? =some (.cells (aL a2).toArray 63 (0,0))):=Hd qZx;have HY9:=HY17;have HB9:=HB17
             go_wp2
             go_roundw
             case rel=>exact⟨j,a2,by rw[hJ.o],HJ.o.2,HOK2.o,HJ4.o,HX9.o,HY9.o,HB9.o⟩
             case measure=>have h1:=HJ.o;have h2:=hJ.o;simp[intOf];omega
            |some c=>
             obtain⟨ck,cn⟩:=c;have hz17:=HZ17.o;have hx17:=HX17.o;obtain⟨d0,d0f⟩:=at_ hz17 0 (.int .i64 ck) rfl;obtain⟨d1,d1f⟩:=at_ hz17 1 (.int .i64 cn) rfl;obtain⟨x0,x0f⟩:=at_ hx17 2 (.int .i64 bk) rfl;obtain⟨x1,x1f⟩:=at_ hx17 3 (.int .i64 bn) rfl;have HX9:Hid (((W17.setCell ⟨w.heap.size,2,none⟩ (.int .i64 ck)).setCell ⟨w.heap.size,3,none⟩ (.int .i64 cn)).heap[w.heap.size]? =some (.cells (aL a2).toArray 63 (0,0))):=Hd (by rw[←hA.o];exact kA (kA hx17 2 _ rfl) 3 _ rfl);have HY9:Hid (((W17.setCell ⟨w.heap.size,2,none⟩ (.int .i64 ck)).setCell ⟨w.heap.size,3,none⟩ (.int .i64 cn)).heap[w.heap.size+1]? =some (.cells (aL vI).toArray 63 (0,0))):=Hd (uW (uW HY17.o qJ) qJ);have HB9:=Hd (uK (uK HB17.o (jD w.heap.size) (o:=2) (.int .i64 ck)) (jD w.heap.size) (o:=3) (.int .i64 cn));clear hz17 hx17
             go_wp2
             go_roundw
             case rel=>exact⟨j,a2,by rw[hJ.o],HJ.o.2,HOK2.o,HJ4.o,HX9.o,HY9.o,HB9.o⟩
             case measure=>have h1:=HJ.o;have h2:=hJ.o;simp[intOf];omega
          · have hx1I:¬(1:Int)<(x.g.length:Int):=by omega
            have HNE:Hid (w.heap.size≠wr.heap.size∧w.heap.size+1≠wr.heap.size):=Hd qE
            go_upto_region 12 with(go_at_call 358;(with_reducible refine HF.o.mono ?_);rintro e w2 ⟨rfl,rfl⟩)
            obtain⟨W12,hW12⟩:∃W12,wr.alloc (Obj.cells #[.int .i64 0,.int .i64 0] 61)=W12:=⟨_,rfl⟩;have hb12:Below wr.heap.size wr W12:=by rw[←hW12];exact jH (jU _ _) _
            have HZ12:Hid (W12.heap[wr.heap.size]? =some (.cells #[.int .i64 0,.int .i64 0] 61 (0,0))):=Hd qZw;have HX12:=Hd ((hb12.block _ (jR HX.o)).trans HX.o);have HY12:=Hd ((hb12.block _ (jR HY.o)).trans HY.o);have HB12:=Hd (jW HB.o hb12);have hcg12:=kZ hb12 hcg2;rw[hW12];clear hW12 hcg2 hb12;have HC:=Hd (HBI.o W12 HB12.o);obtain⟨bh,hbh⟩:∃bh,lL G i=bh:=⟨_,rfl⟩;obtain⟨oc,bn⟩:=bh;have hJ:Hid ((i:Int)+bn+1=(j:Int)):=Hd (by rw[←HJF.o,if_neg hx1,hbh]);have hA:Hid (xG a' 48 oc=a2):=Hd (by rw[←HAF.o,if_neg hx1,hbh]);rw[hbh]at HC;have hwb:jE.wrap ((i:Int)+bn)=(i:Int)+bn:=jF _ jV;have hwb1:jE.wrap ((i:Int)+bn+1)=(i:Int)+bn+1:=jF _ jV;clear hbh hx1 HJF HAF HIN HBI
            go_upto_region 17 with(go_at_call 361;(with_reducible refine HC.o.mono ?_);rintro e w13 ⟨rfl,hb13⟩;have hz13:=(hb13.block _ (jR HZ12.o)).trans HZ12.o;obtain⟨d0,d0f⟩:=at_ hz13 0 (.int .i64 0) rfl;obtain⟨d1,d1f⟩:=at_ hz13 1 (.int .i64 0) rfl)
            have hz17:=kA (kA hz13 0 (.int .i64 (ocK oc)) rfl) 1 (.int .i64 (ocN oc)) rfl;have hx17:=uW (i:=1) (v:=.int .i64 (ocN oc)) (uW (i:=0) (v:=.int .i64 (ocK oc)) ((hb13.block _ (jR HX12.o)).trans HX12.o) HNE.o.1) HNE.o.1;have hy17:=uW (i:=1) (v:=.int .i64 (ocN oc)) (uW (i:=0) (v:=.int .i64 (ocK oc)) ((hb13.block _ (jR HY12.o)).trans HY12.o) HNE.o.2) HNE.o.2;have hb17:=uK (uK (jW HB12.o hb13) HB.o.size (o:=0) (.int .i64 (ocK oc))) HB.o.size (o:=1) (.int .i64 (ocN oc));clear hz13 hb13 d0 d0f d1 d1f;generalize (uN w13 ⟨wr.heap.size,0,none⟩ (.int .i64 (ocK oc))).setCell ⟨wr.heap.size,1,none⟩ (.int .i64 (ocN oc))=W17 at hz17 hx17 hy17 hb17 ⊢;have HZ17:=Hd hz17;have HX17:=Hd hx17;have HY17:=Hd hy17;have HB17:=Hd hb17;clear hz17 hx17 hy17 hb17;obtain⟨fk,fn,bk,bn,fl⟩:=a';cases oc with
            |none=>
             have HX9:Hid (W17.heap[w.heap.size]? =some (.cells (aL a2).toArray 63 (0,0))):=Hd qZx;have HY9:=HY17;have HB9:=HB17
             go_wp2
             go_roundw
             case rel=>exact⟨j,a2,by rw[hJ.o],HJ.o.2,HOK2.o,HJ4.o,HX9.o,HY9.o,HB9.o⟩
             case measure=>have h1:=HJ.o;have h2:=hJ.o;simp[intOf];omega
            |some c=>
             obtain⟨ck,cn⟩:=c;have hz17:=HZ17.o;have hx17:=HX17.o;obtain⟨d0,d0f⟩:=at_ hz17 0 (.int .i64 ck) rfl;obtain⟨d1,d1f⟩:=at_ hz17 1 (.int .i64 cn) rfl;obtain⟨x0,x0f⟩:=at_ hx17 2 (.int .i64 bk) rfl;obtain⟨x1,x1f⟩:=at_ hx17 3 (.int .i64 bn) rfl;have HX9:Hid (((W17.setCell ⟨w.heap.size,2,none⟩ (.int .i64 ck)).setCell ⟨w.heap.size,3,none⟩ (.int .i64 cn)).heap[w.heap.size]? =some (.cells (aL a2).toArray 63 (0,0))):=Hd (by rw[←hA.o];exact kA (kA hx17 2 _ rfl) 3 _ rfl);have HY9:Hid (((W17.setCell ⟨w.heap.size,2,none⟩ (.int .i64 ck)).setCell ⟨w.heap.size,3,none⟩ (.int .i64 cn)).heap[w.heap.size+1]? =some (.cells (aL vI).toArray 63 (0,0))):=Hd (uW (uW HY17.o qJ) qJ);have HB9:=Hd (uK (uK HB17.o (jD w.heap.size) (o:=2) (.int .i64 ck)) (jD w.heap.size) (o:=3) (.int .i64 cn));clear hz17 hx17
             go_wp2
             go_roundw
             case rel=>exact⟨j,a2,by rw[hJ.o],HJ.o.2,HOK2.o,HJ4.o,HX9.o,HY9.o,HB9.o⟩
             case measure=>have h1:=HJ.o;have h2:=hJ.o;simp[intOf];omega
        · have e38:(v==38)=false:=beq_eq_false_iff_ne.2 h38;have e48:(v==48)=false:=beq_eq_false_iff_ne.2 h48;have hj:Hid ((i:Int)+1=(j:Int)):=Hd (by rw[←HJ1.o,if_neg (fun h=>h.elim h38 h48)]);have ha:Hid (dF a' v x.g=a2):=Hd (by rw[←HA2.o,if_neg (fun h=>h.elim h38 h48)]);have HSI:Hid (Calls jG 362 #[.agg (aL a').toArray,.int .i64 v] wr (iA a2 wr)):=Hd (by rw[←ha.o];exact qVs HOK.o v x.g wr h4 HVI.o.1 HVI.o.2);clear HJ1 HA2 HBI HIN HLN HGE HVI ha h4 h38 h48;obtain⟨fk,fn,bk,bn,fl⟩:=a';obtain⟨gk,gn,hk,hn,gl⟩:=a2
          go_upto_region 6 with(go_at_call 358;(with_reducible refine HF.o.mono ?_);rintro e w2 ⟨rfl,rfl⟩)
          refine wp_region_lit ?_;refine vK qK 63 (.tmp 2) rfl (w.heap.size) (0) rfl (aL ⟨fk,fn,bk,bn,fl⟩) _ (uH HX.o) Tryz.underlying63 rfl pR ?_;simp only[Act.put,jZ,jX,jY];refine jB (.int .i64 v) qK qK ?_;simp only[Act.put,jZ,jX,jY];refine zM rfl 362 #[.agg (aL ⟨fk,fn,bk,bn,fl⟩).toArray,.int .i64 v] qX HSI.o (.agg (aL ⟨gk,gn,hk,hn,gl⟩).toArray) (fun e w' h=>h.1) ?_;rintro w5 ⟨-,hb5⟩;simp only[Act.put,jZ,jX,jY];have hx5:=(hb5.block _ (jR HX.o)).trans HX.o;have hy5:=(hb5.block _ (jR HY.o)).trans HY.o;have HB9:=Hd (yF (jW HB.o hb5) (jD w.heap.size) (aL ⟨gk,gn,hk,hn,gl⟩) 0);have HX9:=Hd (uF (aL ⟨gk,gn,hk,hn,gl⟩) 0 _ _ hx5 (by simp[aL]));have HY9:=Hd ((wD (show w.heap.size+1≠w.heap.size by omega) (aL ⟨gk,gn,hk,hn,gl⟩) 0 w5).trans hy5);refine wpList_store_mid rfl 63 (.tmp 2) (.tmp 22) rfl (w.heap.size) (0) ((aL ⟨gk,gn,hk,hn,gl⟩).toArray) rfl rfl ((show World.there _ w.heap.size 0 5 from pW hx5)) pR (all_oneCell_toArray (K5 _)) ?_;simp only[Act.put];clear hx5 hy5 hb5
          go_wp2
          go_roundw
          case rel=>exact⟨j,⟨gk,gn,hk,hn,gl⟩,by rw[hj.o],HJ.o.2,HOK2.o,HJ4.o,HX9.o,HY9.o,HB9.o⟩
          case measure=>have h1:=HJ.o;have h2:=hj.o;simp[intOf];omega
end
theorem YM(n:Int)(w:World):Calls jG 353 #[.int .i64 n] w fun e w'=>e=.returned (.int .i64 (fI n))∧w=w':=by
 unfold fI
 go_enter Tryz.func353,Tryz.ntmps353
 go_wp2
 all_goals
  go_ret
  refine⟨?_,rfl⟩;show Ending.returned (Value.int .i64 _)=_
  congr 2
  first
   |omega
   |(rename_i h1 h2;rw[if_neg qJ]at h1;omega)
theorem Kh{w:World}{base:Nat}{e:TypeId}{A:Option Addr}{n c k:Nat}{X:List Value}(h:w.ownsRow base e 1 (.slice A n c) k X):n≤c:=by
 obtain⟨-,h|⟨g,cap,cur,h1,h2,h3,h4,h5,h6,h7⟩⟩:=h
 · simp only[Value.slice.injEq]at h;omega
 · simp only[Value.slice.injEq]at h1;omega
def WX(X:List Int)(w:World)(e:Ending)(w':World):Prop:=∃b off c:Nat,e=.returned (.slice (some ⟨b,off,none⟩) X.length c)∧pT pO 1 w' (some ⟨b,off,none⟩) X∧X.length≤c∧w.heap.size≤b∧b<w'.heap.size∧Below w.heap.size w w'
section
variable {w:World}
set_option maxHeartbeats 3200000 in
theorem YW{B:Option Addr}{g:List Int}(hG:pT pO 1 w B g)(ca:Nat)(hca:g.length≤ca)(hz:g.length≤1000000):Calls jG 297 #[.slice B g.length ca] w (WX (bE g) w):=by
 obtain⟨j0,hj,gz0,gz1,gz2⟩:=info_parts QH
 by_cases h0:g.length=0
 · have hX:bE g=[-1]:=by unfold bE;rw[if_pos h0]
   rw[hX,h0];clear hG hX h0 hz hca
   go_enter Tryz.func297,Tryz.ntmps297
   go_wp2
   go_ret
   have hc:=jT (W:=w) (b:=w.heap.size) (o:=.cells #[.int .i64 (-1)] 3) rfl;refine⟨w.heap.size,0,1,rfl,fun _=>⟨w.heap.size,0,rfl,fun i y hi j v hv=>?_⟩,jD _,jD _,jR hc,jH (jU _ _) _⟩;have hi0:i=0:=by have :=(jP.1 hi).1;simpa using this
   subst hi0;obtain rfl:(-1:Int)=y:=by simpa using hi
   have hj0:j=0:=by have :=(jP.1 hv).1;simpa[pO]using this
   subst hj0;obtain rfl:Value.int .i64 (-1)=v:=by simpa[pO]using hv
   exact(at_ hc 0 _ rfl).1
 · obtain⟨b,off,rfl,-⟩:=fS hG (i:=0) qJ;have HC:Hid (∀i,i<g.length→w.cell? ⟨b,off+i,none⟩=some (.int .i64 (g.getD i 0))):=Hd (fun i hi=>by
    obtain⟨b',off',h1,h2⟩:=fS hG hi;injection h1 with h1
    injection h1 with e1 e2
    subst e1 e2;exact h2)
   obtain⟨X,hX⟩:∃X:Nat→List Int,X=fun k=>(g.take k).map fI:=⟨_,rfl⟩;have HXS:Hid (∀k,k<g.length→X (k+1)=X k++[fI (g.getD k 0)]):=Hd (fun k hk=>by rw[hX];simp only[];rw[kQ hk,vX];congr 2;rw[kX,jN hk];rfl);have HX0:Hid (X 0=[]):=Hd (by rw[hX];rfl);have HXE:Hid (X (min g.length 8)=bE g∧(X (min g.length 8)).length=min g.length 8):=Hd (by
    have e:g.take (min g.length 8)=g.take 8:=by rw[Nat.min_comm,←List.take_take,List.take_length]
    rw[hX];unfold bE;rw[if_neg h0];exact⟨by simp only[];rw[e],by simp⟩)
   rw[←HXE.o.1];obtain⟨L,hL⟩:∃L,g.length=L:=⟨_,rfl⟩;rw[hL]at h0 HC HXS HXE hca hz ⊢;obtain⟨M,hM⟩:∃M,min L 8=M:=⟨_,rfl⟩;rw[hM]at HXE ⊢;have hmI:(if(8:Int)<(L:Int)then(8:Int)else(L:Int))=(M:Int):=by by_cases h8:(8:Int)<(L:Int)<;>simp only[h8,if_true,if_false]<;>omega
   have h0q:((L:Int)==0)=false:=beq_eq_false_iff_ne.2 qJ;have hMI1:(0:Int)≤(M:Int):=by omega
   have hMI2:(M:Int)≤(ca:Int):=by omega
   have hM8:M≤8:=by omega
   have hML:M≤L:=by omega
   have hM0:0<M:=by omega
   have HM:=Hd (kY hM8 (kY hML (kY hca hM0)));clear hG hX hL hM h0 hz hM8 hML hca hM0
   go_enter Tryz.func297,Tryz.ntmps297
   go_upto_region 4 with fail
   refine wp_region_lit ?_;refine jB (.slice (some ⟨b,off,none⟩) L ca) qK qK ?_;simp only[Act.put,jZ,jX,jY];refine jB (.slice (some ⟨b,off,none⟩) L ca) qK qK ?_;simp only[Act.put,jZ,jX,jY];refine jB (.int .i64 L) qK qX ?_;simp only[Act.put,jZ,jX,jY];refine jB (.int .i64 M) qK qX ?_;simp only[Act.put,jZ,jX,jY];refine jB (.slice (some ⟨b,off,none⟩) M ca) qK qX ?_;simp only[Act.put,jZ,jX,jY];refine jB (.int .i64 M) qK qX ?_;simp only[Act.put,jZ,jX,jY];refine jB (.int .i64 0) qK qK ?_;simp only[Act.put,jZ,jX,jY]
   go_wp2_with fail
   go_loopw [3,16] (fun s3 s16 wr=>∃k:Nat,s16=.int .i64 k∧k≤M∧wr.ownsRow w.heap.size 3 1 s3 k (uM pO (X k))∧Below w.heap.size w wr) (fun _ s16 _=>M-(intOf s16).toNat)
   case atStart=>exact⟨0,rfl,kM _,by rw[HX0.o];exact kS _ _ _ _,jU _ _⟩
   case round=>
    obtain⟨k,rfl,hk,hO,hB⟩:=hrel;obtain⟨bx,rfl⟩:∃bx:Value×Unit,u3=bx.1:=⟨(u3,()),rfl⟩;have HO:=Hd hO;have HB:=Hd hB;have hwk:jE.wrap ((k:Int)+1)=(k:Int)+1:=jF _ (by have :=HM.o.1;omega);clear hO hB
    by_cases hlt:k<M
    · have hltI:(k:Int)<(M:Int):=by omega
      have hcell:=kZ HB.o (HC.o k qXb);have HXK:=HXS.o k qXb;obtain⟨n,hn⟩:∃n,g.getD k 0=n:=⟨_,rfl⟩;rw[hn]at hcell HXK;have HP:=Hd (YM n wr);have HXK:=Hd HXK;obtain⟨vj,hvj⟩:∃vj,fI n=vj:=⟨_,rfl⟩;rw[hvj]at HP HXK;have HSZ:=Hd HB.o.size;clear hn hvj
      go_upto_region 7 with fail
      refine wp_region_lit ?_;refine jB (bx.1) qK qK ?_;simp only[Act.put,jZ,jX,jY];refine jB (.int .i64 n) qK qK ?_;simp only[Act.put,jZ,jX,jY];refine zM rfl 353 #[.int .i64 n] qX HP.o (.int .i64 vj) (fun e w' h=>h.1) ?_;rintro w5 ⟨-,rfl⟩;simp only[Act.put,jZ,jX,jY];have HO3:=Hd (kD HO.o (Mod.of_below (X:=[]) (jH (jU wr.heap.size wr) (.cells #[.int .i64 vj] 3))) (fun _ _ h=>by cases h));have HBX:=Hd (jH HB.o (.cells #[.int .i64 vj] 3));refine uC (.slice (some ⟨wr.heap.size,0,none⟩) 1 1) (wr.alloc (.cells #[.int .i64 vj] 3)) qK qX ?_;simp only[Act.put,jZ,jX,jY];refine vG (o:=⟨some 24,_,_,_,_,_⟩) rfl (.tmp 20) (.tmp 23) 241 rfl w.heap.size 3 j0 _ 1 8 Tryz.underlying241 hj gz0 gz1 gz2 rfl qZ bx.1 k (uM pO (X k)) rfl HO3.o ⟨wr.heap.size,0,none⟩ 1 1 [.int .i64 vj] rfl rfl (fun j u hj=>by rw[vF,kP];exact(at_ (jT rfl) j u qW).1) (mL _) jQ qJ qZo ?_;intro v' w7 ho hg hv';have HO7:Hid (w7.ownsRow w.heap.size 3 1 v' (k+1) (uM pO (X (k+1)))):=Hd (by rw[HXK.o,uI];exact ho);have HB7:=Hd (HBX.o.grown hg HBX.o.size (fun b hb=>(kL.lt (show kL _ _ _ _ _ _ _ from HO3.o) b hb).1));simp only[Act.put,jZ,jX,jY];clear ho hg hv'
      go_wp2
      go_roundw
      case rel=>exact⟨k+1,by go_num,by omega,HO7.o,HB7.o⟩
      case measure=>simp[intOf];omega
    · have hltI:¬(k:Int)<(M:Int):=by omega
      obtain rfl:k=M:=by omega
      obtain⟨b8,c8,hv8⟩:=gH HO.o HM.o.2.2.2;obtain⟨bv,bu⟩:=bx;simp only at hv8;subst hv8;have hgr:=eE (X:=X k) mR (by rw[HXE.o.2];exact HO.o);have hcc:=Kh HO.o;have hlt8:=kL.lt (show kL _ _ _ _ _ _ _ from HO.o) b8 rfl
      go_wp2
      go_ret
      exact⟨b8,0,c8,by rw[HXE.o.2];rfl,hgr,by rw[HXE.o.2];exact hcc,hlt8.1,hlt8.2,HB.o⟩
end
theorem zE{P:Program}{ops:Array Oper}{rest:List Oper}{o:Oper}{a:Act}{w:World}{Q:Exit→Act→World→Prop}(hg:o.guard=none)(f:FuncId)(args:Array Value)(hrun:(execOp a.eval o).run P w=.ok (.enter f args) w)
 {R:Value→World→Prop} (hc:Calls P f args w (fun e w'=>∃v,e=.returned v∧R v w')) (h:∀v w',R v w'→wpList P ops Q rest (a.put o.dst v) w'):wpList P ops Q (o::rest) a w:=by
 refine wpList_plain hg fun K hK=>?_;unfold Oper.wp;rw[hrun,Oper.upon_enter];refine hc.mono fun e w'' hh=>?_;obtain⟨v,rfl,hr⟩:=hh;exact hK _ _ (h _ _ hr)
theorem Z4:(jG.info? 241).map (fun i=>(i.zero,i.size,i.bytes))=some (some (.slice none 0 0),1,24):=by kernel_rfl
def GhB(w:World)(v:Value)(h:Gh):Prop:=∃b off,h.A=some ⟨b,off,none⟩∧pT pO 1 w h.A h.g∧h.g.length≤h.cap∧b<w.heap.size∧v.ownBlock≠some b
def WY(X:List (List Int))(w:World)(e:Ending)(w':World):Prop:=∃(A:Option Addr) (H:List Gh) (c:Nat),e=.returned (.slice A H.length c)∧dC w' A H∧vU H=X∧Below w.heap.size w w'
section
variable {w:World}{A:Option Addr}{H:List Gh}
set_option maxHeartbeats 3200000 in
theorem oE(hG:dC w A H)(ca:Nat)(hca:H.length≤ca)(hz:H.length≤1000000)(hzg:∀h∈H,h.g.length≤1000000):Calls jG 200 #[.slice A H.length ca] w (WY (yP (vU H)) w):=by
 obtain⟨j0,hj,gz0,gz1,gz2⟩:=info_parts Z4
 by_cases h0:H.length=0
 · have hX:yP (vU H)=[[-1]]:=by unfold yP vU;rw[if_pos (by simpa using h0)]
   rw[hX,h0];clear hG hX h0 hz hca hzg
   go_enter Tryz.func200,Tryz.ntmps200
   go_wp2
   go_ret
   have hc:=vJ (o:=.cells #[.slice (some ⟨w.heap.size,0,none⟩) 1 1] 241) (jT (W:=w) (b:=w.heap.size) (o:=.cells #[.int .i64 (-1)] 3) rfl);have hc2:=jT (W:=w.alloc (.cells #[.int .i64 (-1)] 3)) (b:=w.heap.size+1) (o:=.cells #[.slice (some ⟨w.heap.size,0,none⟩) 1 1] 241) qV;refine⟨some ⟨w.heap.size+1,0,none⟩,[⟨some ⟨w.heap.size,0,none⟩,[-1],1⟩],1,by simp;try rfl,⟨fun _=>⟨w.heap.size+1,0,rfl,fun i y hi j v hv=>?_⟩,fun h hh=>?_⟩,rfl,jH (jH (jU _ _) _) _⟩
   · have hi0:i=0:=by have :=(jP.1 hi).1;simpa using this
     subst hi0;obtain rfl:=Option.some.inj hi;have hj0:j=0:=by have :=(jP.1 hv).1;simpa[oZ]using this
     subst hj0;obtain rfl:=Option.some.inj hv;exact(at_ hc2 0 _ rfl).1
   · rw[jM.1 hh];refine⟨fun _=>⟨w.heap.size,0,rfl,fun i y hi j v hv=>?_⟩,jD _⟩;have hi0:i=0:=by have :=(jP.1 hi).1;simpa using this
     subst hi0;obtain rfl:=Option.some.inj hi;have hj0:j=0:=by have :=(jP.1 hv).1;simpa[pO]using this
     subst hj0;obtain rfl:=Option.some.inj hv;exact(at_ hc 0 _ rfl).1
 · obtain⟨x0,b,off,-,rfl,-⟩:=hG.get (i:=0) qJ;have hgl:(vU H).length=H.length:=by unfold vU;simp
   have HC:Hid (∀i,i<H.length→∃x:Gh,w.cell? ⟨b,off+i,none⟩=some (.slice x.A x.g.length x.cap)∧(vU H).getD i []=x.g∧(∀W',Below w.heap.size w W'→Calls jG 297 #[.slice x.A x.g.length x.cap] W' (WX (bE x.g) W'))):=Hd (fun i hi=>by
    obtain⟨x,b',off',h1,h2,h3,⟨h4,h5⟩,h6⟩:=hG.get hi;injection h2 with h2
    injection h2 with e1 e2
    subst e1 e2;exact⟨x,h3,h6,fun W' hb'=>YW (h4.below hb') x.cap h5 (hzg x (uB h1))⟩)
   obtain⟨X,hX⟩:∃X:Nat→List (List Int),X=fun k=>((vU H).take k).map bE:=⟨_,rfl⟩;have HXS:Hid (∀k,k<H.length→X (k+1)=X k++[bE ((vU H).getD k [])]):=Hd (fun k hk=>by
    have hk':k<(vU H).length:=by omega
    rw[hX];simp only[];rw[kQ hk',vX];congr 2;rw[kX,jN hk'];rfl)
   have HX0:Hid (X 0=[]):=Hd (by rw[hX];rfl);have HXE:Hid (X (min H.length 32)=yP (vU H)):=Hd (by
    have e:(vU H).take (min H.length 32)=(vU H).take 32:=by rw[←hgl,Nat.min_comm,←List.take_take,List.take_length]
    rw[hX];unfold yP;rw[if_neg qJ];simp only[];rw[e])
   rw[←HXE.o];obtain⟨L,hL⟩:∃L,H.length=L:=⟨_,rfl⟩;rw[hL]at h0 HC HXS hca hz ⊢;generalize vU H=G at HC HXS;obtain⟨M,hM⟩:∃M,min L 32=M:=⟨_,rfl⟩;rw[hM];have hmI:(if(32:Int)<(L:Int)then(32:Int)else(L:Int))=(M:Int):=by by_cases h8:(32:Int)<(L:Int)<;>simp only[h8,if_true,if_false]<;>omega
   have h0q:((L:Int)==0)=false:=beq_eq_false_iff_ne.2 qJ;have hMI1:(0:Int)≤(M:Int):=by omega
   have hMI2:(M:Int)≤(ca:Int):=by omega
   have hM8:M≤32:=by omega
   have hML:M≤L:=by omega
   have HM:=Hd (kY hM8 (kY hML hca));clear hG hX hL hM h0 hz hM8 hML hca HXE hgl hzg
   go_enter Tryz.func200,Tryz.ntmps200
   go_upto_region 4 with fail
   refine wp_region_lit ?_;refine jB (.slice (some ⟨b,off,none⟩) L ca) qK qK ?_;simp only[Act.put,jZ,jX,jY];refine jB (.slice (some ⟨b,off,none⟩) L ca) qK qK ?_;simp only[Act.put,jZ,jX,jY];refine jB (.int .i64 L) qK qX ?_;simp only[Act.put,jZ,jX,jY];refine jB (.int .i64 M) qK qX ?_;simp only[Act.put,jZ,jX,jY];refine jB (.slice (some ⟨b,off,none⟩) M ca) qK qX ?_;simp only[Act.put,jZ,jX,jY];refine jB (.int .i64 M) qK qX ?_;simp only[Act.put,jZ,jX,jY];refine jB (.int .i64 0) qK qK ?_;simp only[Act.put,jZ,jX,jY]
   go_wp2_with fail
   go_loopw [3,17] (fun s3 s17 wr=>∃(k:Nat) (H':List Gh),s17=.int .i64 k∧k≤M∧H'.length=k∧vU H'=X k∧wr.ownsRow w.heap.size 241 1 s3 k (uM oZ H')∧(∀h∈H',GhB wr s3 h)∧Below w.heap.size w wr) (fun _ s17 _=>M-(intOf s17).toNat)
   case atStart=>exact⟨0,[],rfl,kM _,rfl,by rw[HX0.o];rfl,kS _ _ _ _,(fun h hh=>by cases hh),jU _ _⟩
   case round=>
    obtain⟨k,H',rfl,hk,hHl,hHX,hO,hHB,hB⟩:=hrel;obtain⟨bx,rfl⟩:∃bx:Value×Unit,u3=bx.1:=⟨(u3,()),rfl⟩;have HO:=Hd hO;have HB:=Hd hB;have HHB:=Hd hHB;have HHX:=Hd (kY hHl hHX);have hwk:jE.wrap ((k:Int)+1)=(k:Int)+1:=jF _ (by have :=HM.o.1;omega);clear hO hB hHB hHl hHX
    by_cases hlt:k<M
    · have hltI:(k:Int)<(M:Int):=by omega
      obtain⟨x,hc,hx,hgr⟩:=HC.o k qXb;have hcell:=kZ HB.o hc;have HXK:=Hd (HXS.o k qXb);rw[hx]at HXK;obtain⟨C,hC⟩:∃C,bE x.g=C:=⟨_,rfl⟩;rw[hC]at HXK;have HP:Hid (Calls jG 297 #[.slice x.A x.g.length x.cap] wr (fun e w'=>∃v,e=.returned v∧∃b off c:Nat,v=.slice (some ⟨b,off,none⟩) C.length c∧pT pO 1 w' (some ⟨b,off,none⟩) C∧C.length≤c∧wr.heap.size≤b∧b<w'.heap.size∧Below wr.heap.size wr w')):=Hd ((hgr wr HB.o).mono (fun e w' h=>by rw[hC]at h;obtain⟨b,off,c,h1,h2⟩:=h;exact⟨_,h1,b,off,c,rfl,h2⟩));clear hc hx hgr hC
      go_upto_region 7 with fail
      refine wp_region_lit ?_;refine jB (bx.1) qK qK ?_;simp only[Act.put,jZ,jX,jY];refine jB (.slice x.A x.g.length x.cap) qK qK ?_;simp only[Act.put,jZ,jX,jY];refine zE rfl 297 #[.slice x.A x.g.length x.cap] qX HP.o ?_;rintro v5 w5 ⟨b5,off5,c5,rfl,hg5,hl5,hge5,hlt5,hb5⟩;simp only[Act.put,jZ,jX,jY];have hO5:=kD HO.o (Mod.of_below (X:=[]) hb5) (fun _ _ h=>by cases h);have HO3:=Hd (kD hO5 (Mod.of_below (X:=[]) (jH (jU w5.heap.size w5) (.cells #[.slice (some ⟨b5,off5,none⟩) C.length c5] 241))) (fun _ _ h=>by cases h));have HBX:=Hd (jH (jW HB.o hb5) (.cells #[.slice (some ⟨b5,off5,none⟩) C.length c5] 241));have hlo:=kL.lt (show kL _ _ _ _ _ _ _ from HO.o);have hba:Below w5.heap.size w5 (w5.alloc (.cells #[.slice (some ⟨b5,off5,none⟩) C.length c5] 241)):=jH (jU _ _) _;have HH8:Hid (∀h∈H'++[⟨some ⟨b5,off5,none⟩,C,c5⟩],GhB (w5.alloc (.cells #[.slice (some ⟨b5,off5,none⟩) C.length c5] 241)) bx.1 h):=Hd (fun h hh=>by
       rcases kU.1 hh with hh|hh
       · obtain⟨b,off,h1,h2,h3,h4,h5⟩:=HHB.o h hh;exact⟨b,off,h1,(h2.below hb5).below hba,h3,Nat.lt_of_lt_of_le h4 (jI hb5.size hba.size),h5⟩
       · rw[jM.1 hh];exact⟨b5,off5,rfl,hg5.below hba,hl5,Nat.lt_of_lt_of_le hlt5 hba.size,fun he=>by have :=(hlo b5 he).2;omega⟩)
      have HSZ:=Hd (kY HB.o.size hb5.size);clear hO5 hlo hba hg5 hl5 hge5 hlt5 hb5;refine uC (.slice (some ⟨w5.heap.size,0,none⟩) 1 1) (w5.alloc (.cells #[.slice (some ⟨b5,off5,none⟩) C.length c5] 241)) qK qX ?_;simp only[Act.put,jZ,jX,jY];refine vG (o:=⟨some 25,_,_,_,_,_⟩) rfl (.tmp 21) (.tmp 24) 81 rfl w.heap.size 241 j0 _ 1 24 Tryz.underlying81 hj gz0 gz1 gz2 rfl qZ bx.1 k (uM oZ H') rfl HO3.o ⟨w5.heap.size,0,none⟩ 1 1 [.slice (some ⟨b5,off5,none⟩) C.length c5] rfl rfl (fun j u hj=>by rw[vF,kP];exact(at_ (jT rfl) j u qW).1) (Y5 ⟨some ⟨b5,off5,none⟩,C,c5⟩) (by have :=HM.o.1;simp only[maxLen];omega) (by have :=HM.o.1;omega) qZo ?_;intro v' w7 ho hg hv';have HO7:Hid (w7.ownsRow w.heap.size 241 1 v' (k+1) (uM oZ (H'++[⟨some ⟨b5,off5,none⟩,C,c5⟩]))):=Hd (by rw[uI];exact ho);have HB7:=Hd (HBX.o.grown hg HBX.o.size (fun b hb=>(kL.lt (show kL _ _ _ _ _ _ _ from HO3.o) b hb).1));have HH9:Hid (∀h∈H'++[⟨some ⟨b5,off5,none⟩,C,c5⟩],GhB w7 v' h):=Hd (fun h hh=>by
       obtain⟨b,off,h1,h2,h3,h4,h5⟩:=HH8.o h hh;refine⟨b,off,h1,?_,h3,Nat.lt_of_lt_of_le h4 hg.size,fun he=>?_⟩
       · rw[h1]at h2 ⊢;exact tR h2 (Mod.of_grown (X:=bx.1.ownBlock.toList) hg (fun b hb=>by simp[hb])) (fun hm=>h5 (by simpa using hm))
       · rcases hv' b he with h6|h6
         · exact h5 h6
         · omega)
      simp only[Act.put,jZ,jX,jY];clear ho hg hv'
      go_wp2
      go_roundw
      case rel=>exact⟨k+1,_,by go_num,by omega,by rw[jC,HHX.o.1];rfl,by rw[HXK.o,←HHX.o.2];unfold vU;rw[vX];rfl,HO7.o,HH9.o,HB7.o⟩
      case measure=>simp[intOf];omega
    · have hltI:¬(k:Int)<(M:Int):=by omega
      obtain rfl:k=M:=by omega
      obtain⟨A8,c8,hv8⟩:=uT HO.o;obtain⟨bv,bu⟩:=bx;simp only at hv8;subst hv8;have hgr:=eE (X:=H') KK (by rw[HHX.o.1];exact HO.o)
      go_wp2
      go_ret
      exact⟨A8,H',c8,by rw[HHX.o.1];rfl,⟨hgr,fun h hh=>by obtain⟨b,off,h1,h2,h3,-⟩:=HHB.o h hh;exact⟨h2,h3⟩⟩,HHX.o.2,HB.o⟩
end
end Go.Proofs.YtaefcahblmopfaaGreatDoor
