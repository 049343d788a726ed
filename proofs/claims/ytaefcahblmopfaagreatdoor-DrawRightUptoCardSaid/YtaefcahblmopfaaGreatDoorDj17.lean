/- Joined by a tool of this claim out of smaller texts. Conditions: as stated. -/
import Derived.Test.YtaefcahblmopfaaGreatDoorDj15
import Derived.Test.YtaefcahblmopfaaGreatDoorDj16
set_option linter.unusedVariables false
set_option linter.unusedSimpArgs false
set_option maxRecDepth 100000
open Go.Lib renaming hid → Hd
open List renaming setIfInBounds_toArray → jZ, set_cons_zero → jX, set_cons_succ → jY, mem_singleton → jM, getElem?_eq_getElem → jN, getElem?_eq_some_iff → jP, length_append → jC, drop_succ_cons → jL, take_succ_cons → jS, drop_zero → jO, take_succ_eq_append_getElem → kQ, take_zero → kK, append_assoc → kG, take_of_length_le → vY, drop_eq_nil_of_le → gU, getElem?_drop → gN
open Go.Proofs.Tryz renaming prog → jG
open Go.RowKit.Below renaming refl → jU
open Go.IntWalk renaming i64_in → jF
open Go.IntKind renaming i64 → jE
open Nat renaming zero_le → kM, zero_add → kP
open Go.World renaming ownsRow → kL, ownsRow_nil → kS
namespace Go.Proofs.YtaefcahblmopfaaGreatDoor
open Go.RowKit
instance:DecidableEq Atr:=fun a b=>by
 cases a;cases b;simp only[Atr.mk.injEq];exact inferInstance
theorem Kf(a b:Cl)(h:a.half=1):yE a b=(decide (b.half=2)&&decide (b.r=a.r)&&decide (b.more=a.more)&&decide (vC b=vC a)):=by
 obtain⟨ar,am,ah,a1,a2,a3,a4,a5⟩:=a;obtain⟨br,bm,bh,b1,b2,b3,b4,b5⟩:=b;simp only at h;subst h;unfold yE vC;simp only[decide_true,Bool.true_and,Cl.mk.injEq,Atr.mk.injEq,true_and]
 by_cases e1:bh=2<;>by_cases e2:ar=br<;>by_cases e3:am=bm<;>simp[e1,e2,e3,eq_comm]
 all_goals try(intro h;exact absurd h.symm e2)
 all_goals try(intro _ h;exact absurd h.symm e3)
def ClO(base:Nat)(w:World)(v:Value)(l:List Cl):Prop:=w.ownsRow base 65 8 v l.length (uM kV l)
theorem ClO.below{base:Nat}{w w':World}{v:Value}{l:List Cl}(h:ClO base w v l)(hb:Below w.heap.size w w'):ClO base w' v l:=kD h (Mod.of_below (X:=[]) hb) (fun _ _ h=>by cases h)
theorem ClO.form{base:Nat}{w:World}{v:Value}{l:List Cl}(h:ClO base w v l)(h0:0<l.length):∃g cap,v=.slice (some ⟨g,0,none⟩) l.length cap∧CrO w base g cap l:=by
 obtain⟨g,cap,rfl⟩:=Je h h0;exact⟨g,cap,rfl,h⟩
def JW(l P:List Cl)(i:Nat)(pr:Bool):Prop:=if pr=true then(∃c,l[i]? =some c∧uJ l=P++(c::uJ (l.drop (i+1))))else uJ l=P++uJ (l.drop i)
theorem oC{w:World}{g:Nat}{t:TypeId}{c x:Cl}(h:w.heap[g]? =some (.cells (kV c).toArray t (0,0))):w.there g 0 (kV x).toArray.size:=by
 have :=pW h;exact this
theorem bX{w:World}{g:Nat}{t:TypeId}{cr:Int}{cm:ByteArray}{ch c1 c2 c3 c4 c5:Int}(h:w.heap[g]? =some (.cells (kV ⟨cr,cm,ch,c1,c2,c3,c4,c5⟩).toArray t (0,0))):w.rangeAt g 3 [.int .i64 c1,.int .i64 c2,.int .i64 c3,.int .i64 c4,.int .i64 c5]:=fun j v hj=>by
 match j,hj with
 |0,hj=>simp at hj;subst hj;exact(at_ h 3 _ rfl).1
 |1,hj=>simp at hj;subst hj;exact(at_ h 4 _ rfl).1
 |2,hj=>simp at hj;subst hj;exact(at_ h 5 _ rfl).1
 |3,hj=>simp at hj;subst hj;exact(at_ h 6 _ rfl).1
 |4,hj=>simp at hj;subst hj;exact(at_ h 7 _ rfl).1
theorem JW.emit{l P:List Cl}{i:Nat}{c:Cl}(h:JW l P i true)(hc:l[i]? =some c):JW l (P++[c]) (i+1) false:=by
 obtain⟨d,hd,hm⟩:=h;rw[hc]at hd;injection hd with hd
 subst hd;show uJ l=_;rw[hm,kG];rfl
theorem JW.keep{l P:List Cl}{i:Nat}{c x:Cl}(h:JW l P i false)(hc:l[i]? =some c)(hx:uJ (c::l.drop (i+1))=x::uJ (l.drop (i+1))):JW l (P++[x]) (i+1) false:=by
 have h':uJ l=P++uJ (l.drop i):=h;have hlt:=(jP.1 hc).1;show uJ l=_;rw[h',List.drop_eq_getElem_cons hlt,(jP.1 hc).2,hx,kG];rfl
theorem JW.pair{l P:List Cl}{i:Nat}{c d:Cl}(h:JW l P i false)(hc:l[i]? =some c)(hd:l[i+1]? =some d)(hp:yE c d=true):JW l (P++[c]) (i+1) true:=by
 have h':uJ l=P++uJ (l.drop i):=h;have hlt:=(jP.1 hc).1;have hlt2:=(jP.1 hd).1;refine⟨d,hd,?_⟩;rw[h',List.drop_eq_getElem_cons hlt,(jP.1 hc).2,List.drop_eq_getElem_cons hlt2,(jP.1 hd).2,rJ hp,kG];rfl
set_option maxHeartbeats 6400000 in
theorem Jv(A:Option Addr)(l:List Cl)(ca:Nat)(w:World)(hl:pT kV 8 w A l)(h0:0<l.length)(hz:l.length≤10000):
 Calls jG 30 #[.slice A l.length ca] w (pG (uJ l) w):=by
 obtain⟨j0,hj,gz0,gz1,gz2⟩:=info_parts lK;obtain⟨b,off,rfl,hcell⟩:=hl h0;have HR:Hid (∀i c,l[i]? =some c→w.rangeAt b (off+i*8) (kV c)):=Hd (fun i c hi j v hv=>hcell i c hi j v hv);clear hl hcell
 go_enter Tryz.func30,Tryz.ntmps30
 go_wp2_with fail
 go_loopw [3,4,5] (fun s3 s4 s5 wr=>∃(i:Nat) (P:List Cl) (pr:Bool),s5=.int .i64 i∧s4=.bool pr∧i≤l.length∧P.length=i∧ClO w.heap.size wr s3 P∧Below w.heap.size w wr∧JW l P i pr) (fun _ _ s5 _=>l.length-(intOf s5).toNat)
 case atStart=>exact⟨0,[],false,rfl,rfl,kM _,rfl,kS _ _ _ _,jU _ _,rfl⟩
 case round=>
  obtain⟨i,P,pr,rfl,rfl,hi,hP,hO,hB,hM⟩:=hrel;obtain⟨bx,rfl⟩:∃bx:Value×Unit,u3=bx.1:=⟨(u3,()),rfl⟩;have HO:=Hd hO;have HB:=Hd hB;have HM:=Hd hM;have HP:=Hd hP;clear hO hB hM hP
  by_cases hlt:i<l.length
  rotate_left
  · have hge:¬(i:Int)<(l.length:Int):=by omega
    have hpr:pr=false:=by
     cases pr with
     |false=>rfl
     |true=>obtain⟨c,hc,-⟩:=HM.o;have :=(jP.1 hc).1;omega
    subst hpr;have HE:Hid (P=uJ l):=Hd (by
     have h':uJ l=P++uJ (l.drop i):=HM.o;rw[h',gU qJ];simp[uJ])
    go_wp2
    go_ret
    have hO2:=HO.o;rw[HE.o]at hO2;obtain⟨g,cap,hv,hc⟩:=ClO.form hO2 (by rw[uL];exact h0);exact⟨g,cap,by rw[←hv];rfl,hc,HB.o⟩
  · have hltI:(i:Int)<(l.length:Int):=by omega
    obtain⟨c,hc⟩:∃c,l[i]? =some c:=⟨l[i],jN hlt⟩;have HC:=Hd hc;have HRI:=Hd (yM (HR.o i c hc) HB.o);clear hc
    go_upto_region 6 with fail
    refine wp_region_lit ?_;refine jB (.slice (some ⟨b,off,none⟩) l.length ca) qK qK ?_;simp only[Act.put,jZ,jX,jY];refine jB (.int .i64 (i:Int)) qK qK ?_;simp only[Act.put,jZ,jX,jY];refine jB (.pointer (some ⟨b,off+i*8,none⟩)) qK qX ?_;simp only[Act.put,jZ,jX,jY];refine vK qK 65 (.tmp 17) rfl (b) (off+i*8) rfl (kV c) _ (HRI.o) Tryz.underlying65 rfl uP ?_;simp only[Act.put,jZ,jX,jY];obtain⟨cr,cm,ch,c1,c2,c3,c4,c5⟩:=c;simp only[kV]
    go_upto_region 7 with fail
    have HBW:=Hd (jH HB.o (.cells (kV ⟨cr,cm,ch,c1,c2,c3,c4,c5⟩).toArray 65));have HOW:=Hd (ClO.below HO.o (jH (jU wr.heap.size wr) (.cells (kV ⟨cr,cm,ch,c1,c2,c3,c4,c5⟩).toArray 65)));have HCW:=Hd (show(wr.alloc (.cells (kV ⟨cr,cm,ch,c1,c2,c3,c4,c5⟩).toArray 65)).heap[wr.heap.size]? =_ from jT rfl);change Code.wp _ _ _ _ (wr.alloc (.cells (kV ⟨cr,cm,ch,c1,c2,c3,c4,c5⟩).toArray 65));obtain⟨k,hk⟩:∃k,wr.heap.size=k:=⟨_,rfl⟩;have HKO:Hid (∀g,bx.1.ownBlock=some g→g≠k):=Hd (fun g hg=>by have :=(kL.lt (show wr.ownsRow _ _ _ _ _ _ from HO.o) g hg).2;omega);have HKW:Hid (w.heap.size≤k):=Hd (by have :=HB.o.size;omega);generalize wr.alloc (.cells (kV ⟨cr,cm,ch,c1,c2,c3,c4,c5⟩).toArray 65)=W at HBW HOW HCW ⊢;rw[hk]at HCW ⊢;clear hk;cases pr with
    |true=>
     go_upto_region 8 with fail
     refine wp_region_lit ?_;refine jB (bx.1) qK qK ?_;simp only[Act.put,jZ,jX,jY];refine vK qK 65 (.tmp 6) rfl (k) (0) rfl (kV (⟨cr,cm,ch,c1,c2,c3,c4,c5⟩)) _ (uH HCW.o) Tryz.underlying65 rfl uP ?_;simp only[Act.put,jZ,jX,jY];refine uC (.slice (some ⟨W.heap.size,0,none⟩) 1 1) (W.alloc (.cells (kV (⟨cr,cm,ch,c1,c2,c3,c4,c5⟩)).toArray 65)) qK qP ?_;simp only[Act.put,jZ,jX,jY];refine gX rfl (.tmp 20) (.tmp 22) 50 rfl w.heap.size 65 j0 _ 8 72 Tryz.underlying50 hj gz0 gz1 gz2 rfl qZ bx.1 P.length (uM kV P) rfl (ClO.below HOW.o (jH (jU _ _) _)) ⟨W.heap.size,0,none⟩ 1 1 (kV (⟨cr,cm,ch,c1,c2,c3,c4,c5⟩)) rfl rfl (fun j u hj=>by rw[vF,kP];exact(at_ (jT rfl) j u qW).1) (yZ _) qU qF qZ4 ?_;intro v' w7 ho hg hv';have HO7:Hid (ClO w.heap.size w7 v' (P++[⟨cr,cm,ch,c1,c2,c3,c4,c5⟩])):=Hd qM;have HB7:=Hd ((jH HBW.o (.cells (kV (⟨cr,cm,ch,c1,c2,c3,c4,c5⟩)).toArray 65)).grown hg (jH HBW.o _).size (fun b hb=>(kL.lt (show W.ownsRow _ _ _ _ _ _ from HOW.o) b hb).1));simp only[Act.put,jZ,jX,jY];clear ho hg hv'
     go_wp2
     go_roundw
     case rel=>exact⟨i+1,P++[⟨cr,cm,ch,c1,c2,c3,c4,c5⟩],false,by go_num,rfl,by omega,by rw[jC,HP.o];rfl,HO7.o,HB7.o,HM.o.emit HC.o⟩
     case measure=>simp[intOf];omega
    |false=>
     have z2:W.cell? ⟨k,2,none⟩=some (.int .i64 ch):=(at_ HCW.o 2 _ rfl).1;have hw:jE.wrap ((l.length:Int)-1)=(l.length:Int)-1:=jF _ qJ
     by_cases h0:ch=0
     · subst h0
       go_upto_region 16 with fail
       refine wp_region_lit ?_;refine jB (bx.1) qK qK ?_;simp only[Act.put,jZ,jX,jY];refine vK qK 65 (.tmp 6) rfl (k) (0) rfl (kV (⟨cr,cm,0,c1,c2,c3,c4,c5⟩)) _ (uH HCW.o) Tryz.underlying65 rfl uP ?_;simp only[Act.put,jZ,jX,jY];refine uC (.slice (some ⟨W.heap.size,0,none⟩) 1 1) (W.alloc (.cells (kV (⟨cr,cm,0,c1,c2,c3,c4,c5⟩)).toArray 65)) qK qP ?_;simp only[Act.put,jZ,jX,jY];refine gX rfl (.tmp 86) (.tmp 88) 50 rfl w.heap.size 65 j0 _ 8 72 Tryz.underlying50 hj gz0 gz1 gz2 rfl qZ bx.1 P.length (uM kV P) rfl (ClO.below HOW.o (jH (jU _ _) _)) ⟨W.heap.size,0,none⟩ 1 1 (kV (⟨cr,cm,0,c1,c2,c3,c4,c5⟩)) rfl rfl (fun j u hj=>by rw[vF,kP];exact(at_ (jT rfl) j u qW).1) (yZ _) qU qF qZ4 ?_;intro v' w7 ho hg hv';have HO7:Hid (ClO w.heap.size w7 v' (P++[⟨cr,cm,0,c1,c2,c3,c4,c5⟩])):=Hd qM;have HB7:=Hd ((jH HBW.o (.cells (kV (⟨cr,cm,0,c1,c2,c3,c4,c5⟩)).toArray 65)).grown hg (jH HBW.o _).size (fun b hb=>(kL.lt (show W.ownsRow _ _ _ _ _ _ from HOW.o) b hb).1));simp only[Act.put,jZ,jX,jY];clear ho hg hv'
       go_wp2
       go_roundw
       case rel=>exact⟨i+1,P++[⟨cr,cm,0,c1,c2,c3,c4,c5⟩],false,by go_num,rfl,by omega,by rw[jC,HP.o];rfl,HO7.o,HB7.o,HM.o.keep HC.o (zO rfl _)⟩
       case measure=>simp[intOf];omega
     have h0b:(ch==0)=false:=beq_eq_false_iff_ne.2 h0
     by_cases h3:ch=3∧i+1=l.length
     · obtain⟨rfl,hil⟩:=h3;have hib:((i:Int)==(l.length:Int)-1)=true:=by simp;omega
       have hib2:(l.length:Int)-1=(i:Int):=by omega
       have HNI:Hid (l.drop (i+1)=[]):=Hd (gU qJ)
       go_upto_region 16 with fail
       refine wp_region_lit ?_;refine jB (bx.1) qK qK ?_;simp only[Act.put,jZ,jX,jY];refine vK qK 65 (.tmp 6) rfl (k) (0) rfl (kV (⟨cr,cm,3,c1,c2,c3,c4,c5⟩)) _ (uH HCW.o) Tryz.underlying65 rfl uP ?_;simp only[Act.put,jZ,jX,jY];refine uC (.slice (some ⟨W.heap.size,0,none⟩) 1 1) (W.alloc (.cells (kV (⟨cr,cm,3,c1,c2,c3,c4,c5⟩)).toArray 65)) qK qP ?_;simp only[Act.put,jZ,jX,jY];refine gX rfl (.tmp 86) (.tmp 88) 50 rfl w.heap.size 65 j0 _ 8 72 Tryz.underlying50 hj gz0 gz1 gz2 rfl qZ bx.1 P.length (uM kV P) rfl (ClO.below HOW.o (jH (jU _ _) _)) ⟨W.heap.size,0,none⟩ 1 1 (kV (⟨cr,cm,3,c1,c2,c3,c4,c5⟩)) rfl rfl (fun j u hj=>by rw[vF,kP];exact(at_ (jT rfl) j u qW).1) (yZ _) qU qF qZ4 ?_;intro v' w7 ho hg hv';have HO7:Hid (ClO w.heap.size w7 v' (P++[⟨cr,cm,3,c1,c2,c3,c4,c5⟩])):=Hd qM;have HB7:=Hd ((jH HBW.o (.cells (kV (⟨cr,cm,3,c1,c2,c3,c4,c5⟩)).toArray 65)).grown hg (jH HBW.o _).size (fun b hb=>(kL.lt (show W.ownsRow _ _ _ _ _ _ from HOW.o) b hb).1));simp only[Act.put,jZ,jX,jY];clear ho hg hv'
       go_wp2
       go_roundw
       case rel=>exact⟨i+1,P++[⟨cr,cm,3,c1,c2,c3,c4,c5⟩],false,by go_num,rfl,by omega,by rw[jC,HP.o];rfl,HO7.o,HB7.o,HM.o.keep HC.o (by rw[HNI.o,Jh rfl];rfl)⟩
       case measure=>simp[intOf];omega
     have HN3:=Hd h3;have h3b:ch=3→((i:Int)==(l.length:Int)-1)=false:=fun e=>beq_eq_false_iff_ne.2 (by have :=HN3.o;omega)
     by_cases h1:ch=1
     rotate_left
     · have h1b:(ch==1)=false:=beq_eq_false_iff_ne.2 h1;have HMO:Hid (uJ (⟨cr,cm,ch,c1,c2,c3,c4,c5⟩::l.drop (i+1))=kR ⟨cr,cm,ch,c1,c2,c3,c4,c5⟩::uJ (l.drop (i+1))):=Hd (zS h0 (fun hh=>HN3.o ⟨hh.1,by have :=congrArg List.length hh.2;simp at this;omega⟩) (fun d m _=>by unfold yE;simp[h1]))
       by_cases h33:ch=3
       · have h3t:(ch==3)=true:=beq_iff_eq.2 h33;have hib:=h3b h33;clear h3b h33 h3
         go_upto_region 15 with fail
         refine wp_region_lit ?_;refine jB (.pointer (some ⟨k,3,none⟩)) qK qX ?_;simp only[Act.put,jZ,jX,jY];refine vK qK 63 (.tmp 83) rfl (k) (3) rfl ([.int .i64 c1,.int .i64 c2,.int .i64 c3,.int .i64 c4,.int .i64 c5]) _ (bX HCW.o) Tryz.underlying63 rfl bR ?_;simp only[Act.put,jZ,jX,jY];refine jB (.agg (kV (kR ⟨cr,cm,ch,c1,c2,c3,c4,c5⟩)).toArray) qK qB ?_;simp only[Act.put,jZ,jX,jY];refine wpList_store_mid rfl 65 (.tmp 6) (.tmp 85) rfl (k) (0) ((kV (kR ⟨cr,cm,ch,c1,c2,c3,c4,c5⟩)).toArray) rfl rfl (oC HCW.o) uP (zV (kR ⟨cr,cm,ch,c1,c2,c3,c4,c5⟩)) ?_;simp only[Act.put];have HXE:Hid ((W.setCells k 0 (kV (kR ⟨cr,cm,ch,c1,c2,c3,c4,c5⟩))).heap[k]? =some (.cells (kV (kR ⟨cr,cm,ch,c1,c2,c3,c4,c5⟩)).toArray 65 (0,0))):=Hd (by
          have :=uF (kV (kR ⟨cr,cm,ch,c1,c2,c3,c4,c5⟩)) 0 _ W HCW.o qZ8;simpa[kV]using this)
         have HBE:=Hd (gW HBW.o HKW.o (kV (kR ⟨cr,cm,ch,c1,c2,c3,c4,c5⟩)) 0);have HOE:Hid (ClO w.heap.size (W.setCells k 0 (kV (kR ⟨cr,cm,ch,c1,c2,c3,c4,c5⟩))) bx.1 P):=Hd (kD HOW.o (vN (X:=[k]) (.inl qV) _ _ _ (Mod.refl _ _)) (fun g hg hx=>HKO.o g hg (jM.1 hx)));change wpList _ _ _ _ _ (W.setCells k 0 (kV (kR ⟨cr,cm,ch,c1,c2,c3,c4,c5⟩)));generalize W.setCells k 0 (kV (kR ⟨cr,cm,ch,c1,c2,c3,c4,c5⟩))=WE at HXE HBE HOE ⊢
         go_upto_region 16 with fail
         refine wp_region_lit ?_;refine jB (bx.1) qK qK ?_;simp only[Act.put,jZ,jX,jY];refine vK qK 65 (.tmp 6) rfl (k) (0) rfl (kV (kR ⟨cr,cm,ch,c1,c2,c3,c4,c5⟩)) _ (uH HXE.o) Tryz.underlying65 rfl uP ?_;simp only[Act.put,jZ,jX,jY];refine uC (.slice (some ⟨WE.heap.size,0,none⟩) 1 1) (WE.alloc (.cells (kV (kR ⟨cr,cm,ch,c1,c2,c3,c4,c5⟩)).toArray 65)) qK qP ?_;simp only[Act.put,jZ,jX,jY];refine gX rfl (.tmp 86) (.tmp 88) 50 rfl w.heap.size 65 j0 _ 8 72 Tryz.underlying50 hj gz0 gz1 gz2 rfl qZ bx.1 P.length (uM kV P) rfl (ClO.below HOE.o (jH (jU _ _) _)) ⟨WE.heap.size,0,none⟩ 1 1 (kV (kR ⟨cr,cm,ch,c1,c2,c3,c4,c5⟩)) rfl rfl (fun j u hj=>by rw[vF,kP];exact(at_ (jT rfl) j u qW).1) (yZ _) qU qF qL ?_;intro v' w7 ho hg hv';have HO7:Hid (ClO w.heap.size w7 v' (P++[kR ⟨cr,cm,ch,c1,c2,c3,c4,c5⟩])):=Hd qM;have HB7:=Hd ((jH HBE.o (.cells (kV (kR ⟨cr,cm,ch,c1,c2,c3,c4,c5⟩)).toArray 65)).grown hg (jH HBE.o _).size (fun b hb=>(kL.lt (show WE.ownsRow _ _ _ _ _ _ from HOE.o) b hb).1));simp only[Act.put,jZ,jX,jY];clear ho hg hv'
         go_wp2
         go_roundw
         case rel=>exact⟨i+1,P++[kR ⟨cr,cm,ch,c1,c2,c3,c4,c5⟩],false,by go_num,rfl,by omega,by rw[jC,HP.o];rfl,HO7.o,HB7.o,HM.o.keep HC.o HMO.o⟩
         case measure=>simp[intOf];omega
       · have h3t:(ch==3)=false:=beq_eq_false_iff_ne.2 h33;clear h3b h33 h3
         go_upto_region 15 with fail
         refine wp_region_lit ?_;refine jB (.pointer (some ⟨k,3,none⟩)) qK qX ?_;simp only[Act.put,jZ,jX,jY];refine vK qK 63 (.tmp 83) rfl (k) (3) rfl ([.int .i64 c1,.int .i64 c2,.int .i64 c3,.int .i64 c4,.int .i64 c5]) _ (bX HCW.o) Tryz.underlying63 rfl bR ?_;simp only[Act.put,jZ,jX,jY];refine jB (.agg (kV (kR ⟨cr,cm,ch,c1,c2,c3,c4,c5⟩)).toArray) qK qB ?_;simp only[Act.put,jZ,jX,jY];refine wpList_store_mid rfl 65 (.tmp 6) (.tmp 85) rfl (k) (0) ((kV (kR ⟨cr,cm,ch,c1,c2,c3,c4,c5⟩)).toArray) rfl rfl (oC HCW.o) uP (zV (kR ⟨cr,cm,ch,c1,c2,c3,c4,c5⟩)) ?_;simp only[Act.put];have HXE:Hid ((W.setCells k 0 (kV (kR ⟨cr,cm,ch,c1,c2,c3,c4,c5⟩))).heap[k]? =some (.cells (kV (kR ⟨cr,cm,ch,c1,c2,c3,c4,c5⟩)).toArray 65 (0,0))):=Hd (by
          have :=uF (kV (kR ⟨cr,cm,ch,c1,c2,c3,c4,c5⟩)) 0 _ W HCW.o qZ8;simpa[kV]using this)
         have HBE:=Hd (gW HBW.o HKW.o (kV (kR ⟨cr,cm,ch,c1,c2,c3,c4,c5⟩)) 0);have HOE:Hid (ClO w.heap.size (W.setCells k 0 (kV (kR ⟨cr,cm,ch,c1,c2,c3,c4,c5⟩))) bx.1 P):=Hd (kD HOW.o (vN (X:=[k]) (.inl qV) _ _ _ (Mod.refl _ _)) (fun g hg hx=>HKO.o g hg (jM.1 hx)));change wpList _ _ _ _ _ (W.setCells k 0 (kV (kR ⟨cr,cm,ch,c1,c2,c3,c4,c5⟩)));generalize W.setCells k 0 (kV (kR ⟨cr,cm,ch,c1,c2,c3,c4,c5⟩))=WE at HXE HBE HOE ⊢
         go_upto_region 16 with fail
         refine wp_region_lit ?_;refine jB (bx.1) qK qK ?_;simp only[Act.put,jZ,jX,jY];refine vK qK 65 (.tmp 6) rfl (k) (0) rfl (kV (kR ⟨cr,cm,ch,c1,c2,c3,c4,c5⟩)) _ (uH HXE.o) Tryz.underlying65 rfl uP ?_;simp only[Act.put,jZ,jX,jY];refine uC (.slice (some ⟨WE.heap.size,0,none⟩) 1 1) (WE.alloc (.cells (kV (kR ⟨cr,cm,ch,c1,c2,c3,c4,c5⟩)).toArray 65)) qK qP ?_;simp only[Act.put,jZ,jX,jY];refine gX rfl (.tmp 86) (.tmp 88) 50 rfl w.heap.size 65 j0 _ 8 72 Tryz.underlying50 hj gz0 gz1 gz2 rfl qZ bx.1 P.length (uM kV P) rfl (ClO.below HOE.o (jH (jU _ _) _)) ⟨WE.heap.size,0,none⟩ 1 1 (kV (kR ⟨cr,cm,ch,c1,c2,c3,c4,c5⟩)) rfl rfl (fun j u hj=>by rw[vF,kP];exact(at_ (jT rfl) j u qW).1) (yZ _) qU qF qL ?_;intro v' w7 ho hg hv';have HO7:Hid (ClO w.heap.size w7 v' (P++[kR ⟨cr,cm,ch,c1,c2,c3,c4,c5⟩])):=Hd qM;have HB7:=Hd ((jH HBE.o (.cells (kV (kR ⟨cr,cm,ch,c1,c2,c3,c4,c5⟩)).toArray 65)).grown hg (jH HBE.o _).size (fun b hb=>(kL.lt (show WE.ownsRow _ _ _ _ _ _ from HOE.o) b hb).1));simp only[Act.put,jZ,jX,jY];clear ho hg hv'
         go_wp2
         go_roundw
         case rel=>exact⟨i+1,P++[kR ⟨cr,cm,ch,c1,c2,c3,c4,c5⟩],false,by go_num,rfl,by omega,by rw[jC,HP.o];rfl,HO7.o,HB7.o,HM.o.keep HC.o HMO.o⟩
         case measure=>simp[intOf];omega
     subst h1;clear h3b h3
     by_cases hlast:i+1=l.length
     · have hni:¬(i:Int)<(l.length:Int)-1:=by omega
       have HMO:Hid (uJ (⟨cr,cm,1,c1,c2,c3,c4,c5⟩::l.drop (i+1))=kR ⟨cr,cm,1,c1,c2,c3,c4,c5⟩::uJ (l.drop (i+1))):=Hd (zS (show ¬(1:Int)=0 from by decide) (fun hh=>by simp at hh) (fun d m e=>by have :=congrArg List.length e;simp at this;omega))
       go_upto_region 15 with fail
       refine wp_region_lit ?_;refine jB (.pointer (some ⟨k,3,none⟩)) qK qX ?_;simp only[Act.put,jZ,jX,jY];refine vK qK 63 (.tmp 83) rfl (k) (3) rfl ([.int .i64 c1,.int .i64 c2,.int .i64 c3,.int .i64 c4,.int .i64 c5]) _ (bX HCW.o) Tryz.underlying63 rfl bR ?_;simp only[Act.put,jZ,jX,jY];refine jB (.agg (kV (kR ⟨cr,cm,1,c1,c2,c3,c4,c5⟩)).toArray) qK qB ?_;simp only[Act.put,jZ,jX,jY];refine wpList_store_mid rfl 65 (.tmp 6) (.tmp 85) rfl (k) (0) ((kV (kR ⟨cr,cm,1,c1,c2,c3,c4,c5⟩)).toArray) rfl rfl (oC HCW.o) uP (zV (kR ⟨cr,cm,1,c1,c2,c3,c4,c5⟩)) ?_;simp only[Act.put];have HXE:Hid ((W.setCells k 0 (kV (kR ⟨cr,cm,1,c1,c2,c3,c4,c5⟩))).heap[k]? =some (.cells (kV (kR ⟨cr,cm,1,c1,c2,c3,c4,c5⟩)).toArray 65 (0,0))):=Hd (by
        have :=uF (kV (kR ⟨cr,cm,1,c1,c2,c3,c4,c5⟩)) 0 _ W HCW.o qZ8;simpa[kV]using this)
       have HBE:=Hd (gW HBW.o HKW.o (kV (kR ⟨cr,cm,1,c1,c2,c3,c4,c5⟩)) 0);have HOE:Hid (ClO w.heap.size (W.setCells k 0 (kV (kR ⟨cr,cm,1,c1,c2,c3,c4,c5⟩))) bx.1 P):=Hd (kD HOW.o (vN (X:=[k]) (.inl qV) _ _ _ (Mod.refl _ _)) (fun g hg hx=>HKO.o g hg (jM.1 hx)));change wpList _ _ _ _ _ (W.setCells k 0 (kV (kR ⟨cr,cm,1,c1,c2,c3,c4,c5⟩)));generalize W.setCells k 0 (kV (kR ⟨cr,cm,1,c1,c2,c3,c4,c5⟩))=WE at HXE HBE HOE ⊢
       go_upto_region 16 with fail
       refine wp_region_lit ?_;refine jB (bx.1) qK qK ?_;simp only[Act.put,jZ,jX,jY];refine vK qK 65 (.tmp 6) rfl (k) (0) rfl (kV (kR ⟨cr,cm,1,c1,c2,c3,c4,c5⟩)) _ (uH HXE.o) Tryz.underlying65 rfl uP ?_;simp only[Act.put,jZ,jX,jY];refine uC (.slice (some ⟨WE.heap.size,0,none⟩) 1 1) (WE.alloc (.cells (kV (kR ⟨cr,cm,1,c1,c2,c3,c4,c5⟩)).toArray 65)) qK qP ?_;simp only[Act.put,jZ,jX,jY];refine gX rfl (.tmp 86) (.tmp 88) 50 rfl w.heap.size 65 j0 _ 8 72 Tryz.underlying50 hj gz0 gz1 gz2 rfl qZ bx.1 P.length (uM kV P) rfl (ClO.below HOE.o (jH (jU _ _) _)) ⟨WE.heap.size,0,none⟩ 1 1 (kV (kR ⟨cr,cm,1,c1,c2,c3,c4,c5⟩)) rfl rfl (fun j u hj=>by rw[vF,kP];exact(at_ (jT rfl) j u qW).1) (yZ _) qU qF qL ?_;intro v' w7 ho hg hv';have HO7:Hid (ClO w.heap.size w7 v' (P++[kR ⟨cr,cm,1,c1,c2,c3,c4,c5⟩])):=Hd qM;have HB7:=Hd ((jH HBE.o (.cells (kV (kR ⟨cr,cm,1,c1,c2,c3,c4,c5⟩)).toArray 65)).grown hg (jH HBE.o _).size (fun b hb=>(kL.lt (show WE.ownsRow _ _ _ _ _ _ from HOE.o) b hb).1));simp only[Act.put,jZ,jX,jY];clear ho hg hv'
       go_wp2
       go_roundw
       case rel=>exact⟨i+1,P++[kR ⟨cr,cm,1,c1,c2,c3,c4,c5⟩],false,by go_num,rfl,by omega,by rw[jC,HP.o];rfl,HO7.o,HB7.o,HM.o.keep HC.o HMO.o⟩
       case measure=>simp[intOf];omega
     obtain⟨j,hj⟩:∃j:Nat,j=i+1:=⟨_,rfl⟩;have hjI:(i:Int)+1=(j:Int):=by omega
     have hwj:jE.wrap (j:Int)=(j:Int):=jF _ qJ;have hjl:j<l.length:=by omega
     have hjlI:(j:Int)<(l.length:Int):=by omega
     have hil:(i:Int)<(l.length:Int)-1:=by omega
     have HJ:=Hd hj;obtain⟨d,hd⟩:∃d,l[j]? =some d:=⟨l[j],jN hjl⟩;have HD:=Hd hd;have HRJ:=Hd (yM (HR.o j d hd) HBW.o);clear hd hj hlast
     go_upto_region 11 with fail
     refine wp_region_lit ?_;refine jB (.slice (some ⟨b,off,none⟩) l.length ca) qK qK ?_;simp only[Act.put,jZ,jX,jY];refine jB (.int .i64 (i:Int)) qK qK ?_;simp only[Act.put,jZ,jX,jY];refine jB (.int .i64 (j:Int)) qK qX ?_;simp only[Act.put,jZ,jX,jY];refine jB (.pointer (some ⟨b,off+j*8,none⟩)) qK qX ?_;simp only[Act.put,jZ,jX,jY];refine vK qK 65 (.tmp 37) rfl (b) (off+j*8) rfl (kV d) _ (HRJ.o) Tryz.underlying65 rfl uP ?_;simp only[Act.put,jZ,jX,jY];obtain⟨dr,dm,dh,d1,d2,d3,d4,d5⟩:=d;simp only[kV]
     go_upto_region 12 with fail
     have HBV:=Hd (jH HBW.o (.cells (kV ⟨dr,dm,dh,d1,d2,d3,d4,d5⟩).toArray 65));have HOV:=Hd (ClO.below HOW.o (jH (jU W.heap.size W) (.cells (kV ⟨dr,dm,dh,d1,d2,d3,d4,d5⟩).toArray 65)));have HCV:=Hd (show(W.alloc (.cells (kV ⟨dr,dm,dh,d1,d2,d3,d4,d5⟩).toArray 65)).heap[k]? =_ from vJ HCW.o);have HDV:=Hd (show(W.alloc (.cells (kV ⟨dr,dm,dh,d1,d2,d3,d4,d5⟩).toArray 65)).heap[W.heap.size]? =_ from jT rfl);change Code.wp _ _ _ _ (W.alloc (.cells (kV ⟨dr,dm,dh,d1,d2,d3,d4,d5⟩).toArray 65));obtain⟨m,hm⟩:∃m,W.heap.size=m:=⟨_,rfl⟩;generalize W.alloc (.cells (kV ⟨dr,dm,dh,d1,d2,d3,d4,d5⟩).toArray 65)=V at HBV HOV HCV HDV ⊢;rw[hm]at HDV ⊢;clear hm z2;have zk2:V.cell? ⟨k,2,none⟩=some (.int .i64 1):=(at_ HCV.o 2 _ rfl).1;have zk0:V.cell? ⟨k,0,none⟩=some (.int .i32 cr):=(at_ HCV.o 0 _ rfl).1;have zk1:V.cell? ⟨k,1,none⟩=some (.string cm):=(at_ HCV.o 1 _ rfl).1;have zm2:V.cell? ⟨m,2,none⟩=some (.int .i64 dh):=(at_ HDV.o 2 _ rfl).1;have zm0:V.cell? ⟨m,0,none⟩=some (.int .i32 dr):=(at_ HDV.o 0 _ rfl).1;have zm1:V.cell? ⟨m,1,none⟩=some (.string dm):=(at_ HDV.o 1 _ rfl).1
     have HNP:Hid (yE ⟨cr,cm,1,c1,c2,c3,c4,c5⟩ ⟨dr,dm,dh,d1,d2,d3,d4,d5⟩=false→uJ (⟨cr,cm,1,c1,c2,c3,c4,c5⟩::l.drop (i+1))=kR ⟨cr,cm,1,c1,c2,c3,c4,c5⟩::uJ (l.drop (i+1))):=Hd (fun hp=>zS (show ¬(1:Int)=0 from by decide) (fun hh=>absurd (show(1:Int)=3 from hh.1) qZ) (fun d mm e=>by
      have h2:=HD.o;have h3:(l.drop (i+1))[0]? =some ⟨dr,dm,dh,d1,d2,d3,d4,d5⟩:=by rw[gN];simpa[←HJ.o]using h2
      rw[e]at h3;simp at h3;subst h3;exact hp))
     have HPE:=Hd (Kf ⟨cr,cm,1,c1,c2,c3,c4,c5⟩ ⟨dr,dm,dh,d1,d2,d3,d4,d5⟩ rfl);clear hjI hwj hjl hjlI hil
     by_cases e1:dh=2
     rotate_left
     · have e1b:(dh==2)=false:=beq_eq_false_iff_ne.2 e1;have HMO:=Hd (HNP.o (by rw[HPE.o];simp[e1]));clear e1
       go_upto_region 15 with fail
       refine wp_region_lit ?_;refine jB (.pointer (some ⟨k,3,none⟩)) qK qX ?_;simp only[Act.put,jZ,jX,jY];refine vK qK 63 (.tmp 83) rfl (k) (3) rfl ([.int .i64 c1,.int .i64 c2,.int .i64 c3,.int .i64 c4,.int .i64 c5]) _ (bX HCV.o) Tryz.underlying63 rfl bR ?_;simp only[Act.put,jZ,jX,jY];refine jB (.agg (kV (kR ⟨cr,cm,1,c1,c2,c3,c4,c5⟩)).toArray) qK qB ?_;simp only[Act.put,jZ,jX,jY];refine wpList_store_mid rfl 65 (.tmp 6) (.tmp 85) rfl (k) (0) ((kV (kR ⟨cr,cm,1,c1,c2,c3,c4,c5⟩)).toArray) rfl rfl (oC HCV.o) uP (zV (kR ⟨cr,cm,1,c1,c2,c3,c4,c5⟩)) ?_;simp only[Act.put];have HXE:Hid ((V.setCells k 0 (kV (kR ⟨cr,cm,1,c1,c2,c3,c4,c5⟩))).heap[k]? =some (.cells (kV (kR ⟨cr,cm,1,c1,c2,c3,c4,c5⟩)).toArray 65 (0,0))):=Hd (by
        have :=uF (kV (kR ⟨cr,cm,1,c1,c2,c3,c4,c5⟩)) 0 _ V HCV.o qZ8;simpa[kV]using this)
       have HBE:=Hd (gW HBV.o HKW.o (kV (kR ⟨cr,cm,1,c1,c2,c3,c4,c5⟩)) 0);have HOE:Hid (ClO w.heap.size (V.setCells k 0 (kV (kR ⟨cr,cm,1,c1,c2,c3,c4,c5⟩))) bx.1 P):=Hd (kD HOV.o (vN (X:=[k]) (.inl qV) _ _ _ (Mod.refl _ _)) (fun g hg hx=>HKO.o g hg (jM.1 hx)));change wpList _ _ _ _ _ (V.setCells k 0 (kV (kR ⟨cr,cm,1,c1,c2,c3,c4,c5⟩)));generalize V.setCells k 0 (kV (kR ⟨cr,cm,1,c1,c2,c3,c4,c5⟩))=WE at HXE HBE HOE ⊢
       go_upto_region 16 with fail
       refine wp_region_lit ?_;refine jB (bx.1) qK qK ?_;simp only[Act.put,jZ,jX,jY];refine vK qK 65 (.tmp 6) rfl (k) (0) rfl (kV (kR ⟨cr,cm,1,c1,c2,c3,c4,c5⟩)) _ (uH HXE.o) Tryz.underlying65 rfl uP ?_;simp only[Act.put,jZ,jX,jY];refine uC (.slice (some ⟨WE.heap.size,0,none⟩) 1 1) (WE.alloc (.cells (kV (kR ⟨cr,cm,1,c1,c2,c3,c4,c5⟩)).toArray 65)) qK qP ?_;simp only[Act.put,jZ,jX,jY];refine gX rfl (.tmp 86) (.tmp 88) 50 rfl w.heap.size 65 j0 _ 8 72 Tryz.underlying50 hj gz0 gz1 gz2 rfl qZ bx.1 P.length (uM kV P) rfl (ClO.below HOE.o (jH (jU _ _) _)) ⟨WE.heap.size,0,none⟩ 1 1 (kV (kR ⟨cr,cm,1,c1,c2,c3,c4,c5⟩)) rfl rfl (fun j u hj=>by rw[vF,kP];exact(at_ (jT rfl) j u qW).1) (yZ _) qU qF qL ?_;intro v' w7 ho hg hv';have HO7:Hid (ClO w.heap.size w7 v' (P++[kR ⟨cr,cm,1,c1,c2,c3,c4,c5⟩])):=Hd qM;have HB7:=Hd ((jH HBE.o (.cells (kV (kR ⟨cr,cm,1,c1,c2,c3,c4,c5⟩)).toArray 65)).grown hg (jH HBE.o _).size (fun b hb=>(kL.lt (show WE.ownsRow _ _ _ _ _ _ from HOE.o) b hb).1));simp only[Act.put,jZ,jX,jY];clear ho hg hv'
       go_wp2
       go_roundw
       case rel=>exact⟨i+1,P++[kR ⟨cr,cm,1,c1,c2,c3,c4,c5⟩],false,by go_num,rfl,by omega,by rw[jC,HP.o];rfl,HO7.o,HB7.o,HM.o.keep HC.o HMO.o⟩
       case measure=>simp[intOf];omega
     subst e1
     by_cases e2:dr=cr
     rotate_left
     · have e2b:(dr==cr)=false:=beq_eq_false_iff_ne.2 e2;have HMO:=Hd (HNP.o (by rw[HPE.o];simp[e2]));clear e2
       go_upto_region 15 with fail
       refine wp_region_lit ?_;refine jB (.pointer (some ⟨k,3,none⟩)) qK qX ?_;simp only[Act.put,jZ,jX,jY];refine vK qK 63 (.tmp 83) rfl (k) (3) rfl ([.int .i64 c1,.int .i64 c2,.int .i64 c3,.int .i64 c4,.int .i64 c5]) _ (bX HCV.o) Tryz.underlying63 rfl bR ?_;simp only[Act.put,jZ,jX,jY];refine jB (.agg (kV (kR ⟨cr,cm,1,c1,c2,c3,c4,c5⟩)).toArray) qK qB ?_;simp only[Act.put,jZ,jX,jY];refine wpList_store_mid rfl 65 (.tmp 6) (.tmp 85) rfl (k) (0) ((kV (kR ⟨cr,cm,1,c1,c2,c3,c4,c5⟩)).toArray) rfl rfl (oC HCV.o) uP (zV (kR ⟨cr,cm,1,c1,c2,c3,c4,c5⟩)) ?_;simp only[Act.put];have HXE:Hid ((V.setCells k 0 (kV (kR ⟨cr,cm,1,c1,c2,c3,c4,c5⟩))).heap[k]? =some (.cells (kV (kR ⟨cr,cm,1,c1,c2,c3,c4,c5⟩)).toArray 65 (0,0))):=Hd (by
        have :=uF (kV (kR ⟨cr,cm,1,c1,c2,c3,c4,c5⟩)) 0 _ V HCV.o qZ8;simpa[kV]using this)
       have HBE:=Hd (gW HBV.o HKW.o (kV (kR ⟨cr,cm,1,c1,c2,c3,c4,c5⟩)) 0);have HOE:Hid (ClO w.heap.size (V.setCells k 0 (kV (kR ⟨cr,cm,1,c1,c2,c3,c4,c5⟩))) bx.1 P):=Hd (kD HOV.o (vN (X:=[k]) (.inl qV) _ _ _ (Mod.refl _ _)) (fun g hg hx=>HKO.o g hg (jM.1 hx)));change wpList _ _ _ _ _ (V.setCells k 0 (kV (kR ⟨cr,cm,1,c1,c2,c3,c4,c5⟩)));generalize V.setCells k 0 (kV (kR ⟨cr,cm,1,c1,c2,c3,c4,c5⟩))=WE at HXE HBE HOE ⊢
       go_upto_region 16 with fail
       refine wp_region_lit ?_;refine jB (bx.1) qK qK ?_;simp only[Act.put,jZ,jX,jY];refine vK qK 65 (.tmp 6) rfl (k) (0) rfl (kV (kR ⟨cr,cm,1,c1,c2,c3,c4,c5⟩)) _ (uH HXE.o) Tryz.underlying65 rfl uP ?_;simp only[Act.put,jZ,jX,jY];refine uC (.slice (some ⟨WE.heap.size,0,none⟩) 1 1) (WE.alloc (.cells (kV (kR ⟨cr,cm,1,c1,c2,c3,c4,c5⟩)).toArray 65)) qK qP ?_;simp only[Act.put,jZ,jX,jY];refine gX rfl (.tmp 86) (.tmp 88) 50 rfl w.heap.size 65 j0 _ 8 72 Tryz.underlying50 hj gz0 gz1 gz2 rfl qZ bx.1 P.length (uM kV P) rfl (ClO.below HOE.o (jH (jU _ _) _)) ⟨WE.heap.size,0,none⟩ 1 1 (kV (kR ⟨cr,cm,1,c1,c2,c3,c4,c5⟩)) rfl rfl (fun j u hj=>by rw[vF,kP];exact(at_ (jT rfl) j u qW).1) (yZ _) qU qF qL ?_;intro v' w7 ho hg hv';have HO7:Hid (ClO w.heap.size w7 v' (P++[kR ⟨cr,cm,1,c1,c2,c3,c4,c5⟩])):=Hd qM;have HB7:=Hd ((jH HBE.o (.cells (kV (kR ⟨cr,cm,1,c1,c2,c3,c4,c5⟩)).toArray 65)).grown hg (jH HBE.o _).size (fun b hb=>(kL.lt (show WE.ownsRow _ _ _ _ _ _ from HOE.o) b hb).1));simp only[Act.put,jZ,jX,jY];clear ho hg hv'
       go_wp2
       go_roundw
       case rel=>exact⟨i+1,P++[kR ⟨cr,cm,1,c1,c2,c3,c4,c5⟩],false,by go_num,rfl,by omega,by rw[jC,HP.o];rfl,HO7.o,HB7.o,HM.o.keep HC.o HMO.o⟩
       case measure=>simp[intOf];omega
     obtain rfl:cr=dr:=e2.symm
     by_cases e3:dm.toList=cm.toList
     rotate_left
     · have e3b:(dm.toList==cm.toList)=false:=beq_eq_false_iff_ne.2 e3;have HMO:=Hd (HNP.o (by rw[HPE.o];simp[show ¬dm=cm from fun e=>e3 (by rw[e])]));clear e3
       go_upto_region 15 with fail
       refine wp_region_lit ?_;refine jB (.pointer (some ⟨k,3,none⟩)) qK qX ?_;simp only[Act.put,jZ,jX,jY];refine vK qK 63 (.tmp 83) rfl (k) (3) rfl ([.int .i64 c1,.int .i64 c2,.int .i64 c3,.int .i64 c4,.int .i64 c5]) _ (bX HCV.o) Tryz.underlying63 rfl bR ?_;simp only[Act.put,jZ,jX,jY];refine jB (.agg (kV (kR ⟨cr,cm,1,c1,c2,c3,c4,c5⟩)).toArray) qK qB ?_;simp only[Act.put,jZ,jX,jY];refine wpList_store_mid rfl 65 (.tmp 6) (.tmp 85) rfl (k) (0) ((kV (kR ⟨cr,cm,1,c1,c2,c3,c4,c5⟩)).toArray) rfl rfl (oC HCV.o) uP (zV (kR ⟨cr,cm,1,c1,c2,c3,c4,c5⟩)) ?_;simp only[Act.put];have HXE:Hid ((V.setCells k 0 (kV (kR ⟨cr,cm,1,c1,c2,c3,c4,c5⟩))).heap[k]? =some (.cells (kV (kR ⟨cr,cm,1,c1,c2,c3,c4,c5⟩)).toArray 65 (0,0))):=Hd (by
        have :=uF (kV (kR ⟨cr,cm,1,c1,c2,c3,c4,c5⟩)) 0 _ V HCV.o qZ8;simpa[kV]using this)
       have HBE:=Hd (gW HBV.o HKW.o (kV (kR ⟨cr,cm,1,c1,c2,c3,c4,c5⟩)) 0);have HOE:Hid (ClO w.heap.size (V.setCells k 0 (kV (kR ⟨cr,cm,1,c1,c2,c3,c4,c5⟩))) bx.1 P):=Hd (kD HOV.o (vN (X:=[k]) (.inl qV) _ _ _ (Mod.refl _ _)) (fun g hg hx=>HKO.o g hg (jM.1 hx)));change wpList _ _ _ _ _ (V.setCells k 0 (kV (kR ⟨cr,cm,1,c1,c2,c3,c4,c5⟩)));generalize V.setCells k 0 (kV (kR ⟨cr,cm,1,c1,c2,c3,c4,c5⟩))=WE at HXE HBE HOE ⊢
       go_upto_region 16 with fail
       refine wp_region_lit ?_;refine jB (bx.1) qK qK ?_;simp only[Act.put,jZ,jX,jY];refine vK qK 65 (.tmp 6) rfl (k) (0) rfl (kV (kR ⟨cr,cm,1,c1,c2,c3,c4,c5⟩)) _ (uH HXE.o) Tryz.underlying65 rfl uP ?_;simp only[Act.put,jZ,jX,jY];refine uC (.slice (some ⟨WE.heap.size,0,none⟩) 1 1) (WE.alloc (.cells (kV (kR ⟨cr,cm,1,c1,c2,c3,c4,c5⟩)).toArray 65)) qK qP ?_;simp only[Act.put,jZ,jX,jY];refine gX rfl (.tmp 86) (.tmp 88) 50 rfl w.heap.size 65 j0 _ 8 72 Tryz.underlying50 hj gz0 gz1 gz2 rfl qZ bx.1 P.length (uM kV P) rfl (ClO.below HOE.o (jH (jU _ _) _)) ⟨WE.heap.size,0,none⟩ 1 1 (kV (kR ⟨cr,cm,1,c1,c2,c3,c4,c5⟩)) rfl rfl (fun j u hj=>by rw[vF,kP];exact(at_ (jT rfl) j u qW).1) (yZ _) qU qF qL ?_;intro v' w7 ho hg hv';have HO7:Hid (ClO w.heap.size w7 v' (P++[kR ⟨cr,cm,1,c1,c2,c3,c4,c5⟩])):=Hd qM;have HB7:=Hd ((jH HBE.o (.cells (kV (kR ⟨cr,cm,1,c1,c2,c3,c4,c5⟩)).toArray 65)).grown hg (jH HBE.o _).size (fun b hb=>(kL.lt (show WE.ownsRow _ _ _ _ _ _ from HOE.o) b hb).1));simp only[Act.put,jZ,jX,jY];clear ho hg hv'
       go_wp2
       go_roundw
       case rel=>exact⟨i+1,P++[kR ⟨cr,cm,1,c1,c2,c3,c4,c5⟩],false,by go_num,rfl,by omega,by rw[jC,HP.o];rfl,HO7.o,HB7.o,HM.o.keep HC.o HMO.o⟩
       case measure=>simp[intOf];omega
     obtain rfl:cm=dm:=(WideShapes.bytes_inj (by rw[←ByteArray.toList_eq,←ByteArray.toList_eq,e3])).symm;clear e3;refine wp_region_lit ?_;refine jB (.pointer (some ⟨m,2,none⟩)) qK qX ?_;simp only[Act.put,jZ,jX,jY];refine jB (.int .i64 2) qK qX ?_;simp only[Act.put,jZ,jX,jY];refine jB (.bool true) qK qX ?_;simp only[Act.put,jZ,jX,jY];refine jB (.bool true) qK qX ?_;simp only[Act.put,jZ,jX,jY];refine jB (.pointer (some ⟨m,0,none⟩)) qK qX ?_;simp only[Act.put,jZ,jX,jY];refine jB (.int .i32 cr) qK qX ?_;simp only[Act.put,jZ,jX,jY];refine jB (.pointer (some ⟨k,0,none⟩)) qK qX ?_;simp only[Act.put,jZ,jX,jY];refine jB (.int .i32 cr) qK qX ?_;simp only[Act.put,jZ,jX,jY];refine jB (.bool true) qK qX ?_;simp only[Act.put,jZ,jX,jY];refine jB (.bool true) qK qX ?_;simp only[Act.put,jZ,jX,jY];refine jB (.bool true) qK qX ?_;simp only[Act.put,jZ,jX,jY];refine jB (.pointer (some ⟨m,1,none⟩)) qK qX ?_;simp only[Act.put,jZ,jX,jY];refine jB (.string cm) qK qX ?_;simp only[Act.put,jZ,jX,jY];refine jB (.pointer (some ⟨k,1,none⟩)) qK qX ?_;simp only[Act.put,jZ,jX,jY];refine jB (.string cm) qK qX ?_;simp only[Act.put,jZ,jX,jY];refine jB (.bool true) qK qX ?_;simp only[Act.put,jZ,jX,jY]
     refine jB (.bool true) qK qX ?_;simp only[Act.put,jZ,jX,jY];refine jB (.bool true) qK qX ?_;simp only[Act.put,jZ,jX,jY];refine jB (.pointer (some ⟨m,3,none⟩)) qK qX ?_;simp only[Act.put,jZ,jX,jY];refine vK qK 63 (.tmp 57) rfl (m) (3) rfl ([.int .i64 d1,.int .i64 d2,.int .i64 d3,.int .i64 d4,.int .i64 d5]) _ (bX HDV.o) Tryz.underlying63 rfl bR ?_;simp only[Act.put,jZ,jX,jY];refine jB (.pointer (some ⟨k,3,none⟩)) qK qX ?_;simp only[Act.put,jZ,jX,jY];refine vK qK 63 (.tmp 59) rfl (k) (3) rfl ([.int .i64 c1,.int .i64 c2,.int .i64 c3,.int .i64 c4,.int .i64 c5]) _ (bX HCV.o) Tryz.underlying63 rfl bR ?_;simp only[Act.put,jZ,jX,jY]
     by_cases e4:c1=d1∧c2=d2∧c3=d3∧c4=d4∧c5=d5
     · obtain⟨rfl,rfl,rfl,rfl,rfl⟩:=e4;clear HNP;have HPT:Hid (yE ⟨cr,cm,1,c1,c2,c3,c4,c5⟩ ⟨cr,cm,2,c1,c2,c3,c4,c5⟩=true):=Hd (by rw[HPE.o];simp[vC]);refine jB (.bool true) qK qX ?_;simp only[Act.put,jZ,jX,jY];refine jB (.bool true) qK qX ?_;simp only[Act.put,jZ,jX,jY]
       go_upto_region 16 with fail
       refine wp_region_lit ?_;refine jB (bx.1) qK qK ?_;simp only[Act.put,jZ,jX,jY];refine vK qK 65 (.tmp 6) rfl (k) (0) rfl (kV (⟨cr,cm,1,c1,c2,c3,c4,c5⟩)) _ (uH HCV.o) Tryz.underlying65 rfl uP ?_;simp only[Act.put,jZ,jX,jY];refine uC (.slice (some ⟨V.heap.size,0,none⟩) 1 1) (V.alloc (.cells (kV (⟨cr,cm,1,c1,c2,c3,c4,c5⟩)).toArray 65)) qK qP ?_;simp only[Act.put,jZ,jX,jY];refine gX rfl (.tmp 86) (.tmp 88) 50 rfl w.heap.size 65 j0 _ 8 72 Tryz.underlying50 hj gz0 gz1 gz2 rfl qZ bx.1 P.length (uM kV P) rfl (ClO.below HOV.o (jH (jU _ _) _)) ⟨V.heap.size,0,none⟩ 1 1 (kV (⟨cr,cm,1,c1,c2,c3,c4,c5⟩)) rfl rfl (fun j u hj=>by rw[vF,kP];exact(at_ (jT rfl) j u qW).1) (yZ _) qU qF (by have :=HBV.o.size;simp;omega) ?_;intro v' w7 ho hg hv';have HO7:Hid (ClO w.heap.size w7 v' (P++[⟨cr,cm,1,c1,c2,c3,c4,c5⟩])):=Hd qM;have HB7:=Hd ((jH HBV.o (.cells (kV (⟨cr,cm,1,c1,c2,c3,c4,c5⟩)).toArray 65)).grown hg (jH HBV.o _).size (fun b hb=>(kL.lt (show V.ownsRow _ _ _ _ _ _ from HOV.o) b hb).1));simp only[Act.put,jZ,jX,jY];clear ho hg hv'
       go_wp2
       go_roundw
       case rel=>exact⟨i+1,P++[⟨cr,cm,1,c1,c2,c3,c4,c5⟩],true,by go_num,rfl,by omega,by rw[jC,HP.o];rfl,HO7.o,HB7.o,HM.o.pair HC.o (by rw[←HJ.o];exact HD.o) HPT.o⟩
       case measure=>simp[intOf];omega
     · have HMO:=Hd (HNP.o (by rw[HPE.o];simp[vC];exact fun a1 a2 a3 a4 a5=>e4 ⟨a1.symm,a2.symm,a3.symm,a4.symm,a5.symm⟩));refine jB (.bool false) qK (by go_simp;exact fun a1 a2 a3 a4 a5=>e4 ⟨a1.symm,a2.symm,a3.symm,a4.symm,a5.symm⟩) ?_;simp only[Act.put,jZ,jX,jY];refine jB (.bool false) qK qX ?_;simp only[Act.put,jZ,jX,jY]
       go_upto_region 15 with fail
       refine wp_region_lit ?_;refine jB (.pointer (some ⟨k,3,none⟩)) qK qX ?_;simp only[Act.put,jZ,jX,jY];refine vK qK 63 (.tmp 83) rfl (k) (3) rfl ([.int .i64 c1,.int .i64 c2,.int .i64 c3,.int .i64 c4,.int .i64 c5]) _ (bX HCV.o) Tryz.underlying63 rfl bR ?_;simp only[Act.put,jZ,jX,jY];refine jB (.agg (kV (kR ⟨cr,cm,1,c1,c2,c3,c4,c5⟩)).toArray) qK qB ?_;simp only[Act.put,jZ,jX,jY];refine wpList_store_mid rfl 65 (.tmp 6) (.tmp 85) rfl (k) (0) ((kV (kR ⟨cr,cm,1,c1,c2,c3,c4,c5⟩)).toArray) rfl rfl (oC HCV.o) uP (zV (kR ⟨cr,cm,1,c1,c2,c3,c4,c5⟩)) ?_;simp only[Act.put];have HXE:Hid ((V.setCells k 0 (kV (kR ⟨cr,cm,1,c1,c2,c3,c4,c5⟩))).heap[k]? =some (.cells (kV (kR ⟨cr,cm,1,c1,c2,c3,c4,c5⟩)).toArray 65 (0,0))):=Hd (by
        have :=uF (kV (kR ⟨cr,cm,1,c1,c2,c3,c4,c5⟩)) 0 _ V HCV.o qZ8;simpa[kV]using this)
       have HBE:=Hd (gW HBV.o HKW.o (kV (kR ⟨cr,cm,1,c1,c2,c3,c4,c5⟩)) 0);have HOE:Hid (ClO w.heap.size (V.setCells k 0 (kV (kR ⟨cr,cm,1,c1,c2,c3,c4,c5⟩))) bx.1 P):=Hd (kD HOV.o (vN (X:=[k]) (.inl qV) _ _ _ (Mod.refl _ _)) (fun g hg hx=>HKO.o g hg (jM.1 hx)));change wpList _ _ _ _ _ (V.setCells k 0 (kV (kR ⟨cr,cm,1,c1,c2,c3,c4,c5⟩)));generalize V.setCells k 0 (kV (kR ⟨cr,cm,1,c1,c2,c3,c4,c5⟩))=WE at HXE HBE HOE ⊢
       go_upto_region 16 with fail
       refine wp_region_lit ?_;refine jB (bx.1) qK qK ?_;simp only[Act.put,jZ,jX,jY];refine vK qK 65 (.tmp 6) rfl (k) (0) rfl (kV (kR ⟨cr,cm,1,c1,c2,c3,c4,c5⟩)) _ (uH HXE.o) Tryz.underlying65 rfl uP ?_;simp only[Act.put,jZ,jX,jY];refine uC (.slice (some ⟨WE.heap.size,0,none⟩) 1 1) (WE.alloc (.cells (kV (kR ⟨cr,cm,1,c1,c2,c3,c4,c5⟩)).toArray 65)) qK qP ?_;simp only[Act.put,jZ,jX,jY];refine gX rfl (.tmp 86) (.tmp 88) 50 rfl w.heap.size 65 j0 _ 8 72 Tryz.underlying50 hj gz0 gz1 gz2 rfl qZ bx.1 P.length (uM kV P) rfl (ClO.below HOE.o (jH (jU _ _) _)) ⟨WE.heap.size,0,none⟩ 1 1 (kV (kR ⟨cr,cm,1,c1,c2,c3,c4,c5⟩)) rfl rfl (fun j u hj=>by rw[vF,kP];exact(at_ (jT rfl) j u qW).1) (yZ _) qU qF qL ?_;intro v' w7 ho hg hv';have HO7:Hid (ClO w.heap.size w7 v' (P++[kR ⟨cr,cm,1,c1,c2,c3,c4,c5⟩])):=Hd qM;have HB7:=Hd ((jH HBE.o (.cells (kV (kR ⟨cr,cm,1,c1,c2,c3,c4,c5⟩)).toArray 65)).grown hg (jH HBE.o _).size (fun b hb=>(kL.lt (show WE.ownsRow _ _ _ _ _ _ from HOE.o) b hb).1));simp only[Act.put,jZ,jX,jY];clear ho hg hv'
       go_wp2
       go_roundw
       case rel=>exact⟨i+1,P++[kR ⟨cr,cm,1,c1,c2,c3,c4,c5⟩],false,by go_num,rfl,by omega,by rw[jC,HP.o];rfl,HO7.o,HB7.o,HM.o.keep HC.o HMO.o⟩
       case measure=>simp[intOf];omega
theorem Kj{α:Type}[DecidableEq α]{l m:List α}{k:Nat}{a b:α}(ha:l[k]? =some a)(hb:m[k]? =some b)(h:l.take k=m.take k)(e:a=b):l.take (k+1)=m.take (k+1):=by
 have h1:=(jP.1 ha);have h2:=(jP.1 hb);obtain⟨p1,q1⟩:=h1;obtain⟨p2,q2⟩:=h2;rw[kQ p1,kQ p2,h,q1,q2,e]
theorem qKi{α:Type}{l m:List α}{k:Nat}{a b:α}(ha:l[k]? =some a)(hb:m[k]? =some b)(e:a≠b):l≠m:=by
 rintro rfl;rw[ha]at hb;injection hb with hb
 exact e hb
set_option maxHeartbeats 1600000 in
theorem hZ(A B:Option Addr)(l m:List Cl)(ca cb:Nat)(w:World)(hl:zL w A l)(hm:zL w B m)(hz:l.length≤9223372036854775807)(hz2:m.length≤9223372036854775807):
 Calls jG 57 #[.slice A l.length ca,.slice B m.length cb] w fun e w'=>e=.returned (.bool (decide (l=m)))∧Below w.heap.size w w':=by
 have HL:=Hd hl;have HM:=Hd hm;clear hl hm
 by_cases hlen:l.length=m.length
 rotate_left
 · have e:decide (l=m)=false:=by simp;rintro rfl;exact hlen rfl
   rw[e];clear e;have h':((l.length:Int) != (m.length:Int))=true:=by simp;omega
   clear hlen
   go_enter Tryz.func57,Tryz.ntmps57
   go_wp2
   go_ret
   exact⟨rfl,jU _ _⟩
 · have HE:=Hd hlen;have h':((l.length:Int) != (m.length:Int))=false:=by simp;omega
   have hle:l.length≤m.length:=by omega
   have hge:m.length≤l.length:=by omega
   clear hlen;generalize hX:decide (l=m)=X;have HX:=Hd hX;clear hX
   go_enter Tryz.func57,Tryz.ntmps57
   go_wp2_with fail
   go_loopw [5] (fun i wr=>∃k:Nat,k≤l.length∧i=.int .i64 k∧Below w.heap.size w wr∧l.take k=m.take k) (fun i _=>l.length-(intOf i).toNat)
   case atStart=>exact⟨0,kM _,rfl,jU _ _,rfl⟩
   case round=>
    obtain⟨k,hk,rfl,hB,htk⟩:=hrel;have HT:=Hd htk;clear htk
    by_cases hlt:k<l.length
    rotate_left
    · go_wp2
      go_ret
      refine⟨?_,hB⟩;have h1:=HT.o;rw[vY qJ,vY qJ]at h1;rw[←HX.o,h1];simp
    · have hltm:k<m.length:=by omega
      obtain⟨b,off,x,rfl,hx,cx⟩:=HL.o.at_ hlt;obtain⟨b',off',y,rfl,hy,cy⟩:=HM.o.at_ hltm;have HXX:=Hd hx;have HYY:=Hd hy;clear hx hy;replace cx:=cx.below hB;replace cy:=cy.below hB;unfold Qs at cx cy
      go_wp2_with fail
      refine kW 8 (fun w'=>Below wr.heap.size wr w'∧(w'.cell? ⟨b,off+k*8,none⟩=some (.int .i32 x.r)∧w'.cell? ⟨b,off+k*8+1,none⟩=some (.string x.more)∧w'.cell? ⟨b,off+k*8+2,none⟩=some (.int .i64 x.half)∧w'.cell? ⟨b,off+k*8+3,none⟩=some (.int .i64 x.fk)∧w'.cell? ⟨b,off+k*8+4,none⟩=some (.int .i64 x.fn)∧w'.cell? ⟨b,off+k*8+5,none⟩=some (.int .i64 x.bk)∧w'.cell? ⟨b,off+k*8+6,none⟩=some (.int .i64 x.bn)∧w'.cell? ⟨b,off+k*8+7,none⟩=some (.int .i64 x.fl))∧(w'.cell? ⟨b',off'+k*8,none⟩=some (.int .i32 y.r)∧w'.cell? ⟨b',off'+k*8+1,none⟩=some (.string y.more)∧w'.cell? ⟨b',off'+k*8+2,none⟩=some (.int .i64 y.half)∧w'.cell? ⟨b',off'+k*8+3,none⟩=some (.int .i64 y.fk)∧w'.cell? ⟨b',off'+k*8+4,none⟩=some (.int .i64 y.fn)∧w'.cell? ⟨b',off'+k*8+5,none⟩=some (.int .i64 y.bk)∧w'.cell? ⟨b',off'+k*8+6,none⟩=some (.int .i64 y.bn)∧w'.cell? ⟨b',off'+k*8+7,none⟩=some (.int .i64 y.fl))) qQ qQ ?_ ?_
      · exact⟨(jU _ _).drew,cx,cy⟩
      simp only[jS,kK,jL,jO]
      repeat(refine kT ?_ qK ?_ ?_;rotate_left;· (intro w' hS;obtain⟨_,_,_⟩:=hS;go_simp;first|done|with_reducible rfl)
             simp only[Act.put,jZ,jX,jY])
      refine kE (fun w' hS=>?_);have hB4:=hS.1;clear hS;refine xT (.bool (!decide (x=y))) rfl (oV _ _ _ _ _ _ _ _ x y rfl rfl w') ?_
      by_cases hxy:x=y
      · rw[show(!decide (x=y))=false from by simp[hxy]];simp only[Act.put,jZ,jX,jY];have HXY:=Hd hxy;clear hxy
        go_wp2
        go_roundw
        case rel=>exact⟨k+1,by omega,by go_num,jW hB hB4,Kj HXX.o HYY.o HT.o HXY.o⟩
        case measure=>simp[intOf];omega
      · rw[show(!decide (x=y))=true from by simp[hxy]];simp only[Act.put,jZ,jX,jY];have HXY:=Hd hxy;clear hxy
        go_wp2
        go_ret
        refine⟨?_,jW hB hB4⟩;rw[←HX.o,show decide (l=m)=false from by simp;exact qKi HXX.o HYY.o HXY.o];rfl
end Go.Proofs.YtaefcahblmopfaaGreatDoor
