/- Joined by a tool of this claim out of smaller texts. Conditions: as stated. -/
import Derived.Test.YtaefcahblmopfaaGreatDoorDj02
import Derived.Lib.SmallJoins
import Derived.OwnWalk
set_option linter.unusedVariables false
set_option linter.unusedSimpArgs false
set_option maxRecDepth 100000
open Go.Lib renaming hid → Hd
open List renaming setIfInBounds_toArray → jZ, set_cons_zero → jX, set_cons_succ → jY, mem_singleton → jM, getElem?_eq_getElem → jN, getElem?_eq_some_iff → jP, length_append → jC, drop_succ_cons → jL, take_succ_cons → jS, drop_zero → jO, take_zero → kK, append_assoc → kG, replicate → kN, getElem?_append_right → kI, getElem?_eq_none → uZ, getElem?_map → uX, length_replicate → uG, drop_eq_nil_of_le → gU, ext_getElem? → gM
open Go.Proofs.Tryz renaming prog → jG
open Go.RowKit.Below renaming refl → jU
open Nat renaming le_refl → jD, zero_le → kM, zero_add → kP
open Go.IntWalk renaming i64_in → jF
open Go.IntKind renaming i64 → jE
open ByteArray renaming empty → kH
open Array renaming getElem?_eq_some_iff → kB
open Go.World renaming ownsRow_nil → kS, setCell → uN
namespace Go.Proofs.YtaefcahblmopfaaGreatDoor
open Go.RowKit
theorem iC{P:Program}{ρ:Operand→Value}{op:Oper}{w:World}(ty:TypeId)(x:Operand)(ho:op.op=.load ty x)(b o:Nat)(hx:ρ x=.pointer (some ⟨b,o,none⟩))(cs:List Value)(d:TypeDesc)(hc:w.rangeAt b o cs)
 (hu:P.underlying ty=some d) (hd:d.isRow=true) (hi:(P.info? ty).map (·.size)=some cs.length):(execOp ρ op).run P w=.ok (.value (.agg cs.toArray)) w:=by
 unfold execOp;simp only[ho,hx,Instr.loadAt,Instr.sureAddr,Sem.run_bind,Sem.run_pure,Result.andThen_ok,run_loadVar_mid w b o ty cs d hc hu hd hi]
def cJ(base g cap:Nat)(l:List Cl)(w:World)(e:Ending)(w':World):Prop:=e=.returned (.tuple #[])∧CrO w' base g cap l∧Mod [g] w w'
set_option maxHeartbeats 3200000 in
theorem KM(base g cap:Nat)(l:List Cl)(w:World)(h:CrO w base g cap l)(hz:l.length≤10000):
 Calls jG 172 #[.slice (some ⟨g,0,none⟩) l.length cap] w (cJ base g cap (uJ l) w):=by
 have H:=Hd h;clear h
 go_enter Tryz.func172,Tryz.ntmps172
 go_wp2_with fail
 go_loopw [2] (fun s2 wr=>∃(i:Nat) (P:List Cl),s2=.int .i64 i∧i≤l.length∧P.length=i∧uJ l=P++uJ (l.drop i)∧CrO wr base g cap (P++l.drop i)∧Mod [g] w wr) (fun s2 _=>l.length-(intOf s2).toNat)
 case atStart=>exact⟨0,[],rfl,kM _,rfl,rfl,H.o,Mod.refl _ _⟩
 case round=>
  obtain⟨i,P,rfl,hi,hP,hm,hO,hM⟩:=hrel;have HO:=Hd hO;have HM:=Hd hM;have HE:=Hd hm;have HP:=Hd hP;clear hO hM hm hP
  by_cases hlt:i<l.length
  rotate_left
  · have hge:¬(i:Int)<(l.length:Int):=by omega
    go_wp2
    go_end0
    refine⟨rfl,?_,HM.o⟩;have h1:=HE.o;have h2:=HO.o;rw[gU qJ]at h1 h2;rw[h1];exact h2
  · have hltI:(i:Int)<(l.length:Int):=by omega
    obtain⟨c,hc⟩:∃c,l[i]? =some c:=⟨l[i],jN hlt⟩;have hdr:l.drop i=c::l.drop (i+1):=by rw[List.drop_eq_getElem_cons hlt,(jP.1 hc).2]
    have hci:(P++l.drop i)[i]? =some c:=by rw[kI qZh,HP.o,Nat.sub_self,hdr];rfl
    have HR:=Hd (HO.o.range hci);have HDR:=Hd hdr;have HC:=Hd hc;have hgl:=HO.o.lt.2;clear hc hdr hci
    go_upto_region 3 with fail
    refine wp_region_lit ?_;refine jB (.slice (some ⟨g,0,none⟩) l.length cap) qK qK ?_;simp only[Act.put,jZ,jX,jY];refine jB (.int .i64 (i:Int)) qK qK ?_;simp only[Act.put,jZ,jX,jY];refine jB (.pointer (some ⟨g,i*8,none⟩)) qK qX ?_;simp only[Act.put,jZ,jX,jY];refine wpList_load_mid rfl 65 (.tmp 12) rfl g (i*8) rfl (kV c) _ HR.o Tryz.underlying65 rfl uP ?_;simp only[Act.put,jZ,jX,jY,kV];obtain⟨cr,cm,ch,c1,c2,c3,c4,c5⟩:=c
    by_cases h0:ch=0
    · subst h0;have HS:=Hd (zO (c:=⟨cr,cm,0,c1,c2,c3,c4,c5⟩) rfl (l.drop (i+1)));have hb:Below wr.heap.size wr (wr.alloc (.cells (kV ⟨cr,cm,0,c1,c2,c3,c4,c5⟩).toArray 65)):=jH (jU _ _) _;have HB:=Hd hb;clear hb
      go_wp2
      go_roundw
      case rel=>
       refine⟨i+1,P++[⟨cr,cm,0,c1,c2,c3,c4,c5⟩],by go_num,by omega,by simp[HP.o],?_,?_,HM.o.then_below HB.o⟩
       · rw[HE.o,HDR.o,HS.o];simp
       · have :=HO.o.below HB.o;rw[HDR.o]at this;rw[kG];exact this
      case measure=>simp[intOf];omega
    · have h0b:(ch==0)=false:=beq_eq_false_iff_ne.2 h0;have hw:jE.wrap ((l.length:Int)-1)=(l.length:Int)-1:=jF _ qJ
      by_cases h3:ch=3∧i+1=l.length
      · obtain⟨rfl,hil⟩:=h3;have hib:((i:Int)==(l.length:Int)-1)=true:=by simp;omega
        have hib2:(l.length:Int)-1=(i:Int):=by omega
        have hnil:l.drop (i+1)=[]:=gU qJ;have HS:=Hd (Jh (c:=⟨cr,cm,3,c1,c2,c3,c4,c5⟩) rfl);have HNI:=Hd hnil;have HB:=Hd (jH (jU wr.heap.size wr) (.cells (kV ⟨cr,cm,3,c1,c2,c3,c4,c5⟩).toArray 65));clear hnil
        go_wp2
        go_roundw
        case rel=>
         refine⟨i+1,P++[⟨cr,cm,3,c1,c2,c3,c4,c5⟩],by go_num,by omega,by simp[HP.o],?_,?_,HM.o.then_below HB.o⟩
         · rw[HE.o,HDR.o,HNI.o,HS.o];simp[uJ]
         · have :=HO.o.below HB.o;rw[HDR.o]at this;rw[kG];exact this
        case measure=>simp[intOf];omega
      · have HEM:=Hd (fun w=>Qg ⟨c1,c2,c3,c4,c5⟩ w);have h3b:ch=3→((i:Int)==(l.length:Int)-1)=false:=fun e=>beq_eq_false_iff_ne.2 qJ
        by_cases h1:ch=1
        · subst h1;clear h0b h3b
          go_upto_region 6 with fail
          generalize hW:World.alloc _ _=W;have HBW:=Hd (show Below wr.heap.size wr W from by rw[←hW];exact jH (jU _ _) _);have HCW:=Hd (show W.heap[wr.heap.size]? =some (.cells (kV ⟨cr,cm,1,c1,c2,c3,c4,c5⟩).toArray 65 (0,0))from by rw[←hW];exact jT rfl);have HLW:=Hd (show wr.heap.size<W.heap.size from by rw[←hW];simp);clear hW;have x2:=(uS HCW.o 2 _ rfl).1;obtain⟨j,hj⟩:∃j,j=i+1:=⟨_,rfl⟩;have hjI:(i:Int)+1=(j:Int):=by omega
          have hwj:jE.wrap (j:Int)=(j:Int):=jF _ qJ;have HJ:=Hd hj
          by_cases hlast:i+1=l.length
          · have hjl:¬(j:Int)<(l.length:Int):=by omega
            clear hj;refine kW 28 (fun w'=>Below W.heap.size W w'∧w'.cell? ⟨wr.heap.size,2,none⟩=some (.int .i64 1)) qQ qQ ?_ ?_
            · exact⟨(jU _ _).drew,x2⟩
            simp only[jS,kK,jL,jO]
            repeat(first
             |(refine kF qK ?_;simp only[Act.put,jZ,jX,jY])
             |(refine kT ?_ qK ?_ ?_;rotate_left;· (intro w' hS;obtain⟨_,_⟩:=hS;go_simp;first|done|with_reducible rfl)
               simp only[Act.put,jZ,jX,jY]))
            refine kE (fun w' hS=>?_);have HB6:=Hd (jW HBW.o hS.1);have y3:=kZ hS.1 (uS HCW.o 3 _ rfl).1;have y4:=kZ hS.1 (uS HCW.o 4 _ rfl).1;have y5:=kZ hS.1 (uS HCW.o 5 _ rfl).1;have y6:=kZ hS.1 (uS HCW.o 6 _ rfl).1;have y7:=kZ hS.1 (uS HCW.o 7 _ rfl).1;clear hS x2
            go_wp2_with(first
             |(go_at_call 263;refine(HEM.o _).mono ?_;rintro e w1 ⟨rfl,hb1⟩;have HB7:=Hd (jW HB6.o hb1);clear hb1;have HTH:=Hd ((HO.o.below HB7.o).there (i:=i) qC))
             |(refine wpList_store_mid (op:=⟨none,.store 65 (.tmp 19) (.tmp 18),_,_,_,_⟩) rfl 65 (.tmp 19) (.tmp 18) rfl g (i*8) (kV (gC ⟨c1,c2,c3,c4,c5⟩)).toArray rfl rfl HTH.o uP (zV (gC ⟨c1,c2,c3,c4,c5⟩)) ?_))
            obtain⟨k1,k2⟩:=(HO.o.below HB7.o).set (i:=i) qC (gC ⟨c1,c2,c3,c4,c5⟩);have K1:=Hd k1;have K2:=Hd k2;clear k1 k2;have HS:=Hd (zS (c:=⟨cr,cm,1,c1,c2,c3,c4,c5⟩) (l:=l.drop (i+1)) h0 (fun hh=>by simp at hh) (fun d m e=>by have :=congrArg List.length e;rw[List.length_drop]at this;simp at this;have :=HJ.o;omega))
            go_roundw
            case rel=>
             refine⟨i+1,P++[gC ⟨c1,c2,c3,c4,c5⟩],by go_num,by omega,by simp[HP.o],?_,?_,(HM.o.then_below HB7.o).trans K2.o (fun k hk=>.inl hk)⟩
             · rw[HE.o,HDR.o,HS.o,kG];rfl
             · have hk:=K1.o;rw[HDR.o,List.set_append_right _ _ qZh,HP.o,Nat.sub_self,jX]at hk;rw[kG];exact hk
            case measure=>simp[intOf];omega
          · have hjl:(j:Int)<(l.length:Int):=by omega
            obtain⟨d,hd⟩:∃d,l[j]? =some d:=⟨l[j],jN qJ⟩;have hdr2:l.drop (i+1)=d::l.drop (i+2):=by rw[←hj,List.drop_eq_getElem_cons qJ,(jP.1 hd).2,hj]
            have hdi:(P++l.drop i)[j]? =some d:=by rw[hj,kI (by rw[HP.o];omega),HP.o,HDR.o,show i+1-i=1 by omega,hdr2];rfl
            have HRD:=Hd (yM (HO.o.range hdi) HBW.o);have HDR2:=Hd hdr2;have z2:W.cell? ⟨g,j*8+2,none⟩=some (.int .i64 d.half):=HRD.o 2 _ rfl;have hjN:j<l.length:=by omega
            clear hj hd hdr2 hdi
            by_cases hd2:d.half=2
            rotate_left
            · have hd2b:(d.half==2)=false:=beq_eq_false_iff_ne.2 hd2;have HD2:=Hd hd2;refine kW 28 (fun w'=>Below W.heap.size W w'∧w'.cell? ⟨wr.heap.size,2,none⟩=some (.int .i64 1)∧w'.cell? ⟨g,j*8+2,none⟩=some (.int .i64 d.half)) qQ qQ ?_ ?_
              · exact⟨(jU _ _).drew,x2,z2⟩
              simp only[jS,kK,jL,jO]
              repeat(first
               |(refine kF qK ?_;simp only[Act.put,jZ,jX,jY])
               |(refine kT ?_ qK ?_ ?_;rotate_left;· (intro w' hS;obtain⟨_,_,_⟩:=hS;go_simp;first|done|with_reducible rfl)
                 simp only[Act.put,jZ,jX,jY]))
              refine kE (fun w' hS=>?_);clear z2;have HB6:=Hd (jW HBW.o hS.1);have y3:=kZ hS.1 (uS HCW.o 3 _ rfl).1;have y4:=kZ hS.1 (uS HCW.o 4 _ rfl).1;have y5:=kZ hS.1 (uS HCW.o 5 _ rfl).1;have y6:=kZ hS.1 (uS HCW.o 6 _ rfl).1;have y7:=kZ hS.1 (uS HCW.o 7 _ rfl).1;clear hS x2
              go_wp2_with(first
               |(go_at_call 263;refine(HEM.o _).mono ?_;rintro e w1 ⟨rfl,hb1⟩;have HB7:=Hd (jW HB6.o hb1);clear hb1;have HTH:=Hd ((HO.o.below HB7.o).there (i:=i) qC))
               |(refine wpList_store_mid (op:=⟨none,.store 65 (.tmp 19) (.tmp 18),_,_,_,_⟩) rfl 65 (.tmp 19) (.tmp 18) rfl g (i*8) (kV (gC ⟨c1,c2,c3,c4,c5⟩)).toArray rfl rfl HTH.o uP (zV (gC ⟨c1,c2,c3,c4,c5⟩)) ?_))
              obtain⟨k1,k2⟩:=(HO.o.below HB7.o).set (i:=i) qC (gC ⟨c1,c2,c3,c4,c5⟩);have K1:=Hd k1;have K2:=Hd k2;clear k1 k2;have HS:=Hd (zS (c:=⟨cr,cm,1,c1,c2,c3,c4,c5⟩) (l:=l.drop (i+1)) h0 (fun hh=>by simp at hh) (fun d' m e=>by rw[HDR2.o]at e;injection e with e1 e2;subst e1;unfold yE;simp[HD2.o]))
              go_roundw
              case rel=>
               refine⟨i+1,P++[gC ⟨c1,c2,c3,c4,c5⟩],by go_num,by omega,by simp[HP.o],?_,?_,(HM.o.then_below HB7.o).trans K2.o (fun k hk=>.inl hk)⟩
               · rw[HE.o,HDR.o,HS.o,kG];rfl
               · have hk:=K1.o;rw[HDR.o,List.set_append_right _ _ qZh,HP.o,Nat.sub_self,jX]at hk;rw[kG];exact hk
              case measure=>simp[intOf];omega
            · have HPA:=Hd (fun w'=>qQb ⟨cr,cm,1,c1,c2,c3,c4,c5⟩ d w');have HD2:=Hd hd2;rw[hd2]at z2;have HRC:=Hd (uH HCW.o);cases hp:wW ⟨cr,cm,1,c1,c2,c3,c4,c5⟩ d with
              |false=>
               rw[hp]at HPA;have HPF:=Hd hp;clear hp hd2;refine kW 28 (fun w'=>Below W.heap.size W w'∧w'.cell? ⟨wr.heap.size,2,none⟩=some (.int .i64 1)∧w'.cell? ⟨g,j*8+2,none⟩=some (.int .i64 2)∧w'.rangeAt wr.heap.size 0 (kV ⟨cr,cm,1,c1,c2,c3,c4,c5⟩)∧w'.rangeAt g (j*8) (kV d)) qQ qQ ?_ ?_
               · exact⟨(jU _ _).drew,x2,z2,HRC.o,HRD.o⟩
               simp only[jS,kK,jL,jO]
               repeat(first
                |(refine kF qK ?_;simp only[Act.put,jZ,jX,jY])
                |(refine kT (.agg (kV ⟨cr,cm,1,c1,c2,c3,c4,c5⟩).toArray) qK (fun w' hS=>iC 65 (.tmp 3) rfl wr.heap.size 0 rfl (kV ⟨cr,cm,1,c1,c2,c3,c4,c5⟩) _ hS.2.2.2.1 Tryz.underlying65 rfl uP) ?_
                  simp only[Act.put,jZ,jX,jY])
                |(refine kT (.agg (kV d).toArray) qK (fun w' hS=>iC 65 (.tmp 61) rfl g (j*8) rfl (kV d) _ hS.2.2.2.2 Tryz.underlying65 rfl uP) ?_
                  simp only[Act.put,jZ,jX,jY])
                |(refine uO 262 #[.agg (kV ⟨cr,cm,1,c1,c2,c3,c4,c5⟩).toArray,.agg (kV d).toArray] (.bool false) qK ?_ (fun w' hS=>(HPA.o w').mono fun e w2 ⟨he,hb⟩=>⟨he,jW hS.1 hb,kZ hb hS.2.1,kZ hb hS.2.2.1,yM hS.2.2.2.1 hb,yM hS.2.2.2.2 hb⟩) ?_;· (intro w';go_simp;done)
                  simp only[Act.put,jZ,jX,jY])
                |(refine kT ?_ qK ?_ ?_;rotate_left;· (intro w' hS;obtain⟨_,_,_,_,_⟩:=hS;go_simp;first|done|with_reducible rfl)
                  simp only[Act.put,jZ,jX,jY]))
               refine kE (fun w' hS=>?_);clear z2;have HB6:=Hd (jW HBW.o hS.1);have y3:=kZ hS.1 (uS HCW.o 3 _ rfl).1;have y4:=kZ hS.1 (uS HCW.o 4 _ rfl).1;have y5:=kZ hS.1 (uS HCW.o 5 _ rfl).1;have y6:=kZ hS.1 (uS HCW.o 6 _ rfl).1;have y7:=kZ hS.1 (uS HCW.o 7 _ rfl).1;clear hS x2
               go_wp2_with(first
                |(go_at_call 263;refine(HEM.o _).mono ?_;rintro e w1 ⟨rfl,hb1⟩;have HB7:=Hd (jW HB6.o hb1);clear hb1;have HTH:=Hd ((HO.o.below HB7.o).there (i:=i) qC))
                |(refine wpList_store_mid (op:=⟨none,.store 65 (.tmp 19) (.tmp 18),_,_,_,_⟩) rfl 65 (.tmp 19) (.tmp 18) rfl g (i*8) (kV (gC ⟨c1,c2,c3,c4,c5⟩)).toArray rfl rfl HTH.o uP (zV (gC ⟨c1,c2,c3,c4,c5⟩)) ?_))
               obtain⟨k1,k2⟩:=(HO.o.below HB7.o).set (i:=i) qC (gC ⟨c1,c2,c3,c4,c5⟩);have K1:=Hd k1;have K2:=Hd k2;clear k1 k2;have HS:=Hd (zS (c:=⟨cr,cm,1,c1,c2,c3,c4,c5⟩) (l:=l.drop (i+1)) h0 (fun hh=>by simp at hh) (fun d' m e=>by rw[HDR2.o]at e;injection e with e1 e2;subst e1;rw[Ud,HPF.o];rfl))
               go_roundw
               case rel=>
                refine⟨i+1,P++[gC ⟨c1,c2,c3,c4,c5⟩],by go_num,by omega,by simp[HP.o],?_,?_,(HM.o.then_below HB7.o).trans K2.o (fun k hk=>.inl hk)⟩
                · rw[HE.o,HDR.o,HS.o,kG];rfl
                · have hk:=K1.o;rw[HDR.o,List.set_append_right _ _ qZh,HP.o,Nat.sub_self,jX]at hk;rw[kG];exact hk
               case measure=>simp[intOf];omega
              |true=>
               rw[hp]at HPA;have HPF:=Hd hp;clear hp hd2;refine kW 28 (fun w'=>Below W.heap.size W w'∧w'.cell? ⟨wr.heap.size,2,none⟩=some (.int .i64 1)∧w'.cell? ⟨g,j*8+2,none⟩=some (.int .i64 2)∧w'.rangeAt wr.heap.size 0 (kV ⟨cr,cm,1,c1,c2,c3,c4,c5⟩)∧w'.rangeAt g (j*8) (kV d)) qQ qQ ?_ ?_
               · exact⟨(jU _ _).drew,x2,z2,HRC.o,HRD.o⟩
               simp only[jS,kK,jL,jO]
               repeat(first
                |(refine kF qK ?_;simp only[Act.put,jZ,jX,jY])
                |(refine kT (.agg (kV ⟨cr,cm,1,c1,c2,c3,c4,c5⟩).toArray) qK (fun w' hS=>iC 65 (.tmp 3) rfl wr.heap.size 0 rfl (kV ⟨cr,cm,1,c1,c2,c3,c4,c5⟩) _ hS.2.2.2.1 Tryz.underlying65 rfl uP) ?_
                  simp only[Act.put,jZ,jX,jY])
                |(refine kT (.agg (kV d).toArray) qK (fun w' hS=>iC 65 (.tmp 61) rfl g (j*8) rfl (kV d) _ hS.2.2.2.2 Tryz.underlying65 rfl uP) ?_
                  simp only[Act.put,jZ,jX,jY])
                |(refine uO 262 #[.agg (kV ⟨cr,cm,1,c1,c2,c3,c4,c5⟩).toArray,.agg (kV d).toArray] (.bool true) qK ?_ (fun w' hS=>(HPA.o w').mono fun e w2 ⟨he,hb⟩=>⟨he,jW hS.1 hb,kZ hb hS.2.1,kZ hb hS.2.2.1,yM hS.2.2.2.1 hb,yM hS.2.2.2.2 hb⟩) ?_;· (intro w';go_simp;done)
                  simp only[Act.put,jZ,jX,jY])
                |(refine kT ?_ qK ?_ ?_;rotate_left;· (intro w' hS;obtain⟨_,_,_,_,_⟩:=hS;go_simp;first|done|with_reducible rfl)
                  simp only[Act.put,jZ,jX,jY]))
               refine kE (fun w' hS=>?_);have HB6:=Hd (jW HBW.o hS.1);clear hS x2 z2;have HS:=Hd (rJ (c:=⟨cr,cm,1,c1,c2,c3,c4,c5⟩) (d:=d) (by rw[Ud,HPF.o,HD2.o];rfl) (l.drop (i+2)))
               go_wp2
               go_roundw
               case rel=>
                refine⟨i+2,P++[⟨cr,cm,1,c1,c2,c3,c4,c5⟩,d],by have :=HJ.o;go_num,by have :=HJ.o;omega,by simp[HP.o],?_,?_,HM.o.then_below HB6.o⟩
                · rw[HE.o,HDR.o,HDR2.o,HS.o];simp
                · have hk:=HO.o.below HB6.o;rw[HDR.o,HDR2.o]at hk;rw[kG];exact hk
               case measure=>have :=HJ.o;simp[intOf];omega
        · have h1b:(ch==1)=false:=beq_eq_false_iff_ne.2 h1
          by_cases h33:ch=3
          · subst h33;have hib:=h3b rfl;clear h3b h0b
            go_upto_region 6 with fail
            generalize hW:World.alloc _ _=W;have HBW:=Hd (show Below wr.heap.size wr W from by rw[←hW];exact jH (jU _ _) _);have HCW:=Hd (show W.heap[wr.heap.size]? =some (.cells (kV ⟨cr,cm,3,c1,c2,c3,c4,c5⟩).toArray 65 (0,0))from by rw[←hW];exact jT rfl);have HLW:=Hd (show wr.heap.size<W.heap.size from by rw[←hW];simp);clear hW;have x2:=(uS HCW.o 2 _ rfl).1;refine kW 28 (fun w'=>Below W.heap.size W w'∧w'.cell? ⟨wr.heap.size,2,none⟩=some (.int .i64 3)) qQ qQ ?_ ?_
            · exact⟨(jU _ _).drew,x2⟩
            simp only[jS,kK,jL,jO]
            repeat(first
             |(refine kF qK ?_;simp only[Act.put,jZ,jX,jY])
             |(refine kT ?_ qK ?_ ?_;rotate_left;· (intro w' hS;obtain⟨_,_⟩:=hS;go_simp;first|done|with_reducible rfl)
               simp only[Act.put,jZ,jX,jY]))
            refine kE (fun w' hS=>?_);have HB6:=Hd (jW HBW.o hS.1);have y3:=kZ hS.1 (uS HCW.o 3 _ rfl).1;have y4:=kZ hS.1 (uS HCW.o 4 _ rfl).1;have y5:=kZ hS.1 (uS HCW.o 5 _ rfl).1;have y6:=kZ hS.1 (uS HCW.o 6 _ rfl).1;have y7:=kZ hS.1 (uS HCW.o 7 _ rfl).1;clear hS x2
            go_wp2_with(first
             |(go_at_call 263;refine(HEM.o _).mono ?_;rintro e w1 ⟨rfl,hb1⟩;have HB7:=Hd (jW HB6.o hb1);clear hb1;have HTH:=Hd ((HO.o.below HB7.o).there (i:=i) qC))
             |(refine wpList_store_mid (op:=⟨none,.store 65 (.tmp 19) (.tmp 18),_,_,_,_⟩) rfl 65 (.tmp 19) (.tmp 18) rfl g (i*8) (kV (gC ⟨c1,c2,c3,c4,c5⟩)).toArray rfl rfl HTH.o uP (zV (gC ⟨c1,c2,c3,c4,c5⟩)) ?_))
            obtain⟨k1,k2⟩:=(HO.o.below HB7.o).set (i:=i) qC (gC ⟨c1,c2,c3,c4,c5⟩);have K1:=Hd k1;have K2:=Hd k2;clear k1 k2;have HS:=Hd (zS (c:=⟨cr,cm,3,c1,c2,c3,c4,c5⟩) (l:=l.drop (i+1)) qV (fun hh=>by have h5:=congrArg List.length hh.2;rw[List.length_drop,List.length_nil]at h5;have h6:(i:Int)=(l.length:Int)-1:=qJ;exact(beq_eq_false_iff_ne.1 hib) h6) (fun d m _=>rfl))
            go_roundw
            case rel=>
             refine⟨i+1,P++[gC ⟨c1,c2,c3,c4,c5⟩],by go_num,by omega,by simp[HP.o],?_,?_,(HM.o.then_below HB7.o).trans K2.o (fun k hk=>.inl hk)⟩
             · rw[HE.o,HDR.o,HS.o,kG];rfl
             · have hk:=K1.o;rw[HDR.o,List.set_append_right _ _ qZh,HP.o,Nat.sub_self,jX]at hk;rw[kG];exact hk
            case measure=>simp[intOf];omega
          · have h3c:(ch==3)=false:=beq_eq_false_iff_ne.2 h33;clear h3b
            go_upto_region 6 with fail
            generalize hW:World.alloc _ _=W;have HBW:=Hd (show Below wr.heap.size wr W from by rw[←hW];exact jH (jU _ _) _);have HCW:=Hd (show W.heap[wr.heap.size]? =some (.cells (kV ⟨cr,cm,ch,c1,c2,c3,c4,c5⟩).toArray 65 (0,0))from by rw[←hW];exact jT rfl);have HLW:=Hd (show wr.heap.size<W.heap.size from by rw[←hW];simp);clear hW;have x2:=(uS HCW.o 2 _ rfl).1;refine kW 28 (fun w'=>Below W.heap.size W w'∧w'.cell? ⟨wr.heap.size,2,none⟩=some (.int .i64 ch)) qQ qQ ?_ ?_
            · exact⟨(jU _ _).drew,x2⟩
            simp only[jS,kK,jL,jO]
            repeat(first
             |(refine kF qK ?_;simp only[Act.put,jZ,jX,jY])
             |(refine kT ?_ qK ?_ ?_;rotate_left;· (intro w' hS;obtain⟨_,_⟩:=hS;go_simp;first|done|with_reducible rfl)
               simp only[Act.put,jZ,jX,jY]))
            refine kE (fun w' hS=>?_);have HB6:=Hd (jW HBW.o hS.1);have y3:=kZ hS.1 (uS HCW.o 3 _ rfl).1;have y4:=kZ hS.1 (uS HCW.o 4 _ rfl).1;have y5:=kZ hS.1 (uS HCW.o 5 _ rfl).1;have y6:=kZ hS.1 (uS HCW.o 6 _ rfl).1;have y7:=kZ hS.1 (uS HCW.o 7 _ rfl).1;clear hS x2
            go_wp2_with(first
             |(go_at_call 263;refine(HEM.o _).mono ?_;rintro e w1 ⟨rfl,hb1⟩;have HB7:=Hd (jW HB6.o hb1);clear hb1;have HTH:=Hd ((HO.o.below HB7.o).there (i:=i) qC))
             |(refine wpList_store_mid (op:=⟨none,.store 65 (.tmp 19) (.tmp 18),_,_,_,_⟩) rfl 65 (.tmp 19) (.tmp 18) rfl g (i*8) (kV (gC ⟨c1,c2,c3,c4,c5⟩)).toArray rfl rfl HTH.o uP (zV (gC ⟨c1,c2,c3,c4,c5⟩)) ?_))
            obtain⟨k1,k2⟩:=(HO.o.below HB7.o).set (i:=i) qC (gC ⟨c1,c2,c3,c4,c5⟩);have K1:=Hd k1;have K2:=Hd k2;clear k1 k2;have HS:=Hd (zS (c:=⟨cr,cm,ch,c1,c2,c3,c4,c5⟩) (l:=l.drop (i+1)) h0 (fun hh=>h33 hh.1) (fun d m _=>by unfold yE;simp[h1]))
            go_roundw
            case rel=>
             refine⟨i+1,P++[gC ⟨c1,c2,c3,c4,c5⟩],by go_num,by omega,by simp[HP.o],?_,?_,(HM.o.then_below HB7.o).trans K2.o (fun k hk=>.inl hk)⟩
             · rw[HE.o,HDR.o,HS.o,kG];rfl
             · have hk:=K1.o;rw[HDR.o,List.set_append_right _ _ qZh,HP.o,Nat.sub_self,jX]at hk;rw[kG];exact hk
            case measure=>simp[intOf];omega
theorem lK:(jG.info? 65).map (fun i=>(i.zero,i.size,i.bytes))=some (some (.agg #[.int .i32 0,.string kH,.int .i64 0,.int .i64 0,.int .i64 0,.int .i64 0,.int .i64 0,.int .i64 0]),8,72):=by kernel_rfl
def pG(l:List Cl)(w:World)(e:Ending)(w':World):Prop:=∃g cap,e=.returned (.slice (some ⟨g,0,none⟩) l.length cap)∧CrO w' w.heap.size g cap l∧Below w.heap.size w w'
set_option maxHeartbeats 3200000 in
theorem eU(A:Option Addr)(l:List Cl)(ca:Nat)(f:FuncId)(capt:Array Value)(F:List Cl→List Cl)(w:World)(hl:pT kV 8 w A l)(h0:0<l.length)(hz:l.length≤10000)(hF:(F (uJ l)).length=l.length)(hf:∀(args:Array Value) (w:World),(callFunc f args).run jG w=.ok (.enter f args) w)
 (hdo:∀g cap w',CrO w' w.heap.size g cap (uJ l)→Below w.heap.size w w'→Calls jG f (#[.slice (some ⟨g,0,none⟩) l.length cap]++capt) w' (cJ w.heap.size g cap (F (uJ l)) w')):
 Calls jG 104 #[.slice A l.length ca,.func (.func f) #[] capt] w (pG (uJ (F (uJ l))) w):=by
 obtain⟨j0,hj,gz0,gz1,gz2⟩:=info_parts lK;obtain⟨b,off,rfl,-⟩:=hl h0;have HN:=Hd (hl.news vQ);have HFL:=Hd (pM vQ l);have HDO:=Hd hdo;clear hl hdo
 go_enter Tryz.func104,Tryz.ntmps104
 go_upto_region 1 with fail
 refine wp_region_lit ?_;refine jB (.slice (some ⟨b,off,none⟩) l.length ca) qK qK ?_;simp only[Act.put,jZ,jX,jY];refine wpList_append_own _ rfl (.const (.slice none 0 0)) (.tmp 6) _ rfl w.heap.size 65 j0 (.agg #[.int .i32 0,.string kH,.int .i64 0,.int .i64 0,.int .i64 0,.int .i64 0,.int .i64 0,.int .i64 0]) 8 72 Tryz.underlying50 hj gz0 gz1 gz2 rfl qZ _ _ _ rfl (kS _ _ _ _) ⟨b,off,none⟩ l.length ca (uM kV l) rfl HFL.o HN.o (sD yZ l) jQ qJ jK ?_;intro v1 w1 hown1 hg1 _;rw[kP]at hown1;obtain⟨g,cap,hv⟩:=Go.Joins.ownsRow_form hown1 qJ;subst hv;have hB1:Below w.heap.size w w1:=(jU _ _).grown hg1 (jD _) (fun k hk=>by cases hk);have C1:CrO w1 w.heap.size g cap l:=by unfold CrO;simpa using hown1
 have HB1:=Hd hB1;have HM1:=Hd (KM w.heap.size g cap l w1 C1 hz);have HM2:Hid (∀w',CrO w' w.heap.size g cap (F (uJ l))→Calls jG 172 #[.slice (some ⟨g,0,none⟩) l.length cap] w' (cJ w.heap.size g cap (uJ (F (uJ l))) w')):=Hd (fun w' h=>by
  have :=KM w.heap.size g cap (F (uJ l)) w' h (by rw[hF];exact hz)
  rwa[hF]at this)
 have hgb:=C1.lt;clear hown1 hg1 hB1 C1
 go_wp2_with(first
  |(go_at_call 172;first
     |(have hpv:=HC3.o;clear hpv;refine(HM2.o _ HC3.o).mono ?_;rintro e w4 ⟨rfl,hc4,hm4⟩;have HC4:=Hd hc4;have HB4:=Hd (HB3.o.trans (hm4.below (B:=w.heap.size) (fun x hx=>by rw[jM.1 hx];exact hgb.1) HB3.o.size));clear hc4 hm4)
     |(refine HM1.o.mono ?_;rintro e w2 ⟨rfl,hc2,hm2⟩;have HC2:=Hd hc2;have HB2:=Hd (HB1.o.trans (hm2.below (B:=w.heap.size) (fun x hx=>by rw[jM.1 hx];exact hgb.1) HB1.o.size));clear hc2 hm2))
  |(refine(HDO.o g cap _ HC2.o HB2.o).mono ?_;rintro e w3 ⟨rfl,hc3,hm3⟩;have HC3:=Hd hc3;have HB3:=Hd (HB2.o.trans (hm3.below (B:=w.heap.size) (fun x hx=>by rw[jM.1 hx];exact hgb.1) HB2.o.size));clear hc3 hm3))
 go_ret
 exact⟨g,cap,by rw[uL,hF];rfl,HC4.o,HB4.o⟩
theorem K8(v:Value)(w:World):Calls jG 105 #[v] w fun e w'=>e=.returned (.tuple #[])∧w=w':=by
 go_enter Tryz.func105,Tryz.ntmps105
 go_wp2
 go_end0
 exact⟨rfl,rfl⟩
theorem UH(args:Array Value)(w:World):(callFunc 105 args).run jG w=.ok (.enter 105 args) w:=by kernel_rfl
theorem KP(A:Option Addr)(l:List Cl)(ca:Nat)(w:World)(hl:pT kV 8 w A l)(h0:0<l.length)(hz:l.length≤10000):
 Calls jG 56 #[.slice A l.length ca] w (pG (uJ l) w):=by
 have HW:=Hd (eU A l ca 105 #[] id w hl h0 hz (uL l) UH (fun g cap w' hc _=>(K8 _ w').mono fun e w'' ⟨he,hw⟩=>⟨he,hw▸hc,hw▸Mod.refl _ _⟩));rw[show uJ (id (uJ l))=uJ l from cZ l]at HW;clear hl
 go_enter Tryz.func56,Tryz.ntmps56
 go_wp2_with(go_at_call 104;refine HW.o.mono ?_;rintro e w1 ⟨g,cap,rfl,hc,hb⟩;have HC:=Hd hc;clear hc)
 go_ret
 exact qXe
theorem V7(z:Cl)(n:Nat):(madeCells (kV z).toArray (n*8)).toList=uM kV (kN n z):=by
 refine gM fun m=>?_
 by_cases hm:m<n*8
 · have h1:(kN n z)[m/8]? =some z:=by rw[List.getElem?_replicate];rw[if_pos qJ]
   have h2:=yN vQ (kN n z) (m/8) z (m%8) h1 (Nat.mod_lt _ qZ);rw[show m/8*8+m%8=m by omega]at h2;rw[h2];have hj:m%8<(kV z).length:=by rw[vQ];exact Nat.mod_lt _ qZ
   unfold madeCells;simp only[Array.toList_map,Array.toList_range,uX,List.getElem?_range hm,Option.map_some];rw[jN hj]
   congr 1
   have hs:(kV z).toArray.size=8:=by rw[List.size_toArray,vQ]
   rw[hs,getElem!_pos _ _ (by rw[hs];exact Nat.mod_lt _ qZ)];simp
 · rw[uZ qZ6,uZ (by rw[pM vQ,uG];omega)]
theorem JK{n i:Nat}{c d:Cl}(h:i<n):(kN i c++kN (n-i) d).set i c=kN (i+1) c++kN (n-(i+1)) d:=by
 rw[List.set_append_right _ _ qV,uG,Nat.sub_self,show n-i=(n-(i+1))+1 by omega,List.replicate_succ,jX,List.replicate_succ',kG];rfl
def UO:Cl:=gC ⟨0,0,0,0,0⟩
set_option maxHeartbeats 3200000 in
theorem XJ(n:Nat)(b:Col)(w:World)(hn0:0<n)(hn:n≤1000):
 Calls jG 267 #[.int .i64 n,.agg #[.int .i64 b.k,.int .i64 b.n]] w (pG (kN n (pY b)) w):=by
 obtain⟨j0,hj,gz0,gz1,gz2⟩:=info_parts lK;have hmin:min (n:Int) 1000=(n:Int):=by omega
 have hmax:max 0 (n:Int)=(n:Int):=by omega
 have hpos:(0:Int)<(n:Int):=by omega
 have hnle:¬(n:Int)≤0:=by omega
 have hn1k:¬(1000:Int)<(n:Int):=by omega
 have HBL:=Hd (fun w=>Qy b w);have HB0:=Hd (jH (jU w.heap.size w) (.cells #[.int .i64 b.k,.int .i64 b.n] 61));have HK:Hid (nV (w.alloc (.cells #[.int .i64 b.k,.int .i64 b.n] 61)) w.heap.size 0 (.int .i64 b.k)∧nV (w.alloc (.cells #[.int .i64 b.k,.int .i64 b.n] 61)) w.heap.size 1 (.int .i64 b.n)):=Hd ⟨at_ (jT rfl) 0 _ rfl,at_ (jT rfl) 1 _ rfl⟩
 go_enter Tryz.func267,Tryz.ntmps267
 go_wp2_with(refine wpList_make_full _ rfl (.tmp 9) (.tmp 9) _ rfl w.heap.size 65 j0 _ 8 Tryz.underlying50 hj gz0 gz1 .i64 .i64 _ _ n rfl rfl ?_ ?_ ?_ ?_ ?_ ?_)
 all_goals first
  |rfl
  |omega
  |(simp only[maxLen];omega)
  |(rw[gz2];omega)
  |(simp;done)
  |skip
 intro w1 hown hg;have HO:=Hd hown;have HG:=Hd hg;clear hown hg
 go_wp2_with fail
 have hC:CrO w1 w.heap.size (w.heap.size+1) n (kN n UO):=by
  have h:=HO.o;have e:=V7 UO n;unfold CrO;rw[uG,←e];exact h
 have HC:=Hd hC;have HB1:=Hd (show Below w.heap.size w w1 from HB0.o.grown HG.o qV (fun k hk=>by cases hk));have HK1:=Hd (show nV w1 w.heap.size 0 (.int .i64 b.k)∧nV w1 w.heap.size 1 (.int .i64 b.n)from⟨⟨HG.o.cell HK.o.1.1 (fun e=>by cases e),wM HG.o HK.o.1.1 HK.o.1.2⟩,⟨HG.o.cell HK.o.2.1 (fun e=>by cases e),wM HG.o HK.o.2.1 HK.o.2.2⟩⟩);have hsz:=hC.lt.2;clear hC HO HG
 go_loopw [13] (fun s13 wr=>∃i:Nat,s13=.int .i64 i∧i≤n∧CrO wr w.heap.size (w.heap.size+1) n (kN i (pY b)++kN (n-i) UO)∧Mod [w.heap.size+1] w1 wr) (fun s13 _=>n-(intOf s13).toNat)
 case atStart=>exact⟨0,rfl,kM _,by simpa using HC.o,Mod.refl _ _⟩
 case round=>
  obtain⟨i,rfl,hi,hO,hM⟩:=hrel;have HO:=Hd hO;have HM:=Hd hM;have k0:=(hM.hold qV HK1.o.1).1;have k1:=(hM.hold qV HK1.o.2).1;clear hO hM
  by_cases hlt:i<n
  rotate_left
  · obtain rfl:i=n:=by omega
    go_wp2
    go_ret
    refine⟨w.heap.size+1,i,by simp,?_,HB1.o.trans (HM.o.below (fun x hx=>by rw[jM.1 hx];omega) HB1.o.size)⟩;simpa using HO.o
  · have hltI:(i:Int)<(n:Int):=by omega
    go_wp2_with(first
     |(go_at_call 335;refine(HBL.o _).mono ?_;rintro e w3 ⟨rfl,hb⟩;have HB3:=Hd hb;clear hb;have HTH:=Hd ((HO.o.below HB3.o).there (i:=i) qY))
     |(refine wpList_store_mid (op:=⟨none,.store 65 (.tmp 20) (.tmp 19),_,_,_,_⟩) rfl 65 (.tmp 20) (.tmp 19) rfl (w.heap.size+1) (i*8) (kV (pY b)).toArray rfl rfl HTH.o uP (zV (pY b)) ?_))
    obtain⟨q1,q2⟩:=(HO.o.below HB3.o).set (i:=i) qY (pY b);rw[JK hlt]at q1;have Q1:=Hd q1;have Q2:=Hd q2;clear q1 q2
    go_roundw
    case rel=>exact⟨i+1,by go_num,by omega,Q1.o,(HM.o.then_below HB3.o).trans Q2.o (fun k hk=>.inl hk)⟩
    case measure=>simp[intOf];omega
def JV(o:List Cl)(x r:Int)(a:Atr):List Cl:=
 if vB r=1∧0≤x∧x<o.length then o.set x.toNat (gZ r kH 0 a)
 else if vB r=2∧0≤x∧x+1<o.length then(o.set x.toNat (gZ r kH 1 a)).set (x.toNat+1) (gZ r kH 2 a)
 else o
theorem qJv(o:List Cl)(x r:Int)(a:Atr):(JV o x r a).length=o.length:=by
 unfold JV
 split
 · simp
 split
 · simp
 · rfl
theorem qJz(l:List Cl)(x r:Int)(a:Atr):uJ (JV (uJ l) x r a)=fV l x r a:=by
 unfold JV fV;simp only[]
 split
 · rfl
 split
 · rfl
 · exact cZ l
theorem WD(r:Int):vB r= -1∨vB r=0∨vB r=2∨vB r=1:=by
 unfold vB
 split
 · exact .inl rfl
 split
 · exact .inr (.inl rfl)
 split
 · exact .inr (.inr (.inl rfl))
 · exact .inr (.inr (.inr rfl))
def encAt(a:Atr):List Value:=[.int .i64 a.fk,.int .i64 a.fn,.int .i64 a.bk,.int .i64 a.bn,.int .i64 a.fl]
theorem bR:(jG.info? 63).map (·.size)=some 5:=by kernel_rfl
theorem CrO.mend_post{w:World}{base g cap:Nat}{l:List Cl}(h:CrO w base g cap l):cJ base g cap l w (.returned (.tuple #[])) w:=⟨rfl,h,Mod.refl _ _⟩
set_option maxHeartbeats 3200000 in
theorem UX(base g cap:Nat)(o:List Cl)(w:World)(h:CrO w base g cap o)(h0:0<o.length)(hz:o.length≤10000):
 Calls jG 402 #[.slice (some ⟨g,0,none⟩) o.length cap] w (cJ base g cap (o.set (o.length-1) ZH) w):=by
 obtain⟨n,hn⟩:∃n,o.length=n+1:=⟨o.length-1,by omega⟩;have hpos:(0:Int)<(o.length:Int):=by omega
 have hw:jE.wrap ((o.length:Int)-1)=(n:Int):=by rw[jF _ qJ];omega
 have HTH:=Hd (h.there (i:=n) qJ);have HS:=Hd (h.set (i:=n) qJ ZH);have hnl:(n:Int)<(o.length:Int):=by omega
 have HN:=Hd hn;clear h hn
 go_enter Tryz.func402,Tryz.ntmps402
 go_wp2_with(refine wpList_store_mid (op:=⟨none,.store 65 (.tmp 10) (.tmp 9),_,_,_,_⟩) rfl 65 (.tmp 10) (.tmp 9) rfl g (n*8) (kV ZH).toArray rfl rfl HTH.o uP (zV ZH) ?_)
 go_end0
 refine⟨rfl,?_,HS.o.2⟩;have :=HS.o.1;rw[show o.length-1=n by have :=HN.o;omega];exact this
set_option maxHeartbeats 3200000 in
theorem qJ0(base g cap:Nat)(o:List Cl)(br bx ba:Nat)(x r:Int)(a:Atr)(w:World)(h:CrO w base g cap o)(hz:o.length≤10000)(hr:w.cell? ⟨br,0,none⟩=some (.int .i32 r))(hx:w.cell? ⟨bx,0,none⟩=some (.int .i64 x))(ha:w.rangeAt ba 0 (encAt a))
 (hb1:br<base) (hb2:bx<base) (hb3:ba<base):
 Calls jG 352 #[.slice (some ⟨g,0,none⟩) o.length cap,.pointer (some ⟨br,0,none⟩),.pointer (some ⟨bx,0,none⟩),.pointer (some ⟨ba,0,none⟩)] w (cJ base g cap (JV o x r a) w):=by
 have HW:=Hd (fun w=>cT r w);have H:=Hd h;have hgb:=h.lt;have HX:=Hd hx;have HA:=Hd ha;have HR:=Hd hr;clear h ha;have HV:=Hd (show JV o x r a=if vB r=1∧0≤x∧x<o.length then o.set x.toNat (gZ r kH 0 a)else if vB r=2∧0≤x∧x+1<o.length then(o.set x.toNat (gZ r kH 1 a)).set (x.toNat+1) (gZ r kH 2 a)else o from rfl);generalize JV o x r a=RES at HV;have HWR:=Hd (WD r);generalize vB r=wd at HW HV HWR
 by_cases hx0:x<0
 · go_enter Tryz.func352,Tryz.ntmps352
   go_wp2_with(go_at_call 162;refine(HW.o _).mono ?_;rintro e w1 ⟨rfl,hb⟩;have HB:=Hd hb;have hx':=kZ hb HX.o;clear hx hr hb)
   go_end0
   rw[HV.o,if_neg qJ,if_neg qJ];exact qXf
 by_cases hw1:wd<1
 · go_enter Tryz.func352,Tryz.ntmps352
   go_wp2_with(go_at_call 162;refine(HW.o _).mono ?_;rintro e w1 ⟨rfl,hb⟩;have HB:=Hd hb;have hx':=kZ hb HX.o;clear hx hr hb)
   go_end0
   rw[HV.o,if_neg qJ,if_neg qJ];exact qXf
 have hwI:jE.wrap ((o.length:Int)-wd)=(o.length:Int)-wd:=jF _ (by have :=HWR.o;omega)
 by_cases hbig:(o.length:Int)-wd<x
 · go_enter Tryz.func352,Tryz.ntmps352
   go_wp2_with(go_at_call 162;refine(HW.o _).mono ?_;rintro e w1 ⟨rfl,hb⟩;have HB:=Hd hb;have hx':=kZ hb HX.o;clear hx hr hb)
   go_end0
   rw[HV.o,if_neg qJ,if_neg qJ];exact qXf
 obtain⟨k,hk⟩:∃k:Nat,x=(k:Int):=⟨x.toNat,by omega⟩;subst hk;obtain⟨fk,fn,bk,bn,fl⟩:=a;clear hwI;have hxl:(k:Int)+wd≤(o.length:Int):=by omega
 rcases HWR.o with hw|hw|hw|hw
 · omega
 · omega
 · subst hw;obtain⟨j,hj⟩:∃j:Nat,j=k+1:=⟨_,rfl⟩;have hkk:(k:Int)+1=(j:Int):=by omega
   have hwj:jE.wrap (j:Int)=(j:Int):=jF _ qJ;have hkl:(j:Int)<(o.length:Int):=by omega
   have hkl2:(k:Int)<(o.length:Int):=by omega
   have hkl3:j<o.length:=by omega
   have hkl4:k<o.length:=by omega
   have HJ:=Hd hj;clear hj;have HK:=Hd (show 0≤(k:Int)∧(k:Int)+1<(o.length:Int)from by omega);have hw2:jE.wrap ((o.length:Int)-2)=(o.length:Int)-2:=jF _ qJ;have htn:((k:Int)).toNat=k:=by omega
   have HTN:=Hd htn;clear htn;clear HWR
   go_enter Tryz.func352,Tryz.ntmps352
   go_upto_region 4 with(first
    |(go_at_call 162;refine(HW.o _).mono ?_;rintro e w1 ⟨rfl,hb⟩;have HB:=Hd hb;have hx':=kZ hb HX.o;have hr':=kZ hb HR.o;have HA1:=yM HA.o hb
      have a0:=HA1 0 _ rfl;have a1:=HA1 1 _ rfl;have a2:=HA1 2 _ rfl;have a3:=HA1 3 _ rfl;have a4:=HA1 4 _ rfl;have l1:=uE hx';have l2:=uE hr';have l3:=uE a0;clear HA1 hx hr hb)
    |fail)
   generalize hW2:World.alloc _ _=W2;have hb2:Below w1.heap.size w1 W2:=by rw[←hW2];exact jH (jU _ _) _
   have hc2:W2.heap[w1.heap.size]? =some (.cells (kV (gZ r kH 0 ⟨fk,fn,bk,bn,fl⟩)).toArray 65 (0,0)):=by rw[←hW2];exact jT rfl
   have x2:=kZ hb2 hx';obtain⟨y2,y2f⟩:=uS hc2 2 _ rfl;have HB2:=Hd (jW HB.o (uK hb2 (jD _) (o:=2) (.int .i64 2)));have HC2:=Hd (kA hc2 2 (.int .i64 2) (cs':=kV (gZ r kH 2 ⟨fk,fn,bk,bn,fl⟩)) rfl);have X2:=Hd (show(W2.setCell ⟨w1.heap.size,2,none⟩ (.int .i64 2)).cell? ⟨bx,0,none⟩=some (.int .i64 k)from(World.cell?_setCell_other _ _ _ _ (fun e=>by injection e with e1 e2;omega)).trans x2);clear hW2 hb2 hc2 hx' hr' a0 a1 a2 a3 a4 l2 l3 l1
   go_upto_region 5 with fail
   generalize uN _ _ _=W3 at HB2 HC2 X2 ⊢;have x3:=X2.o;have HTH:=Hd ((H.o.below HB2.o).there (i:=j) qJ);have HS:=Hd ((H.o.below HB2.o).set (i:=j) qJ (gZ r kH 2 ⟨fk,fn,bk,bn,fl⟩));clear X2 x2 y2 y2f;refine wp_region_lit ?_;refine jB (.slice (some ⟨g,0,none⟩) o.length cap) qK qK ?_;simp only[Act.put,jZ,jX,jY];refine jB (.int .i64 (k:Int)) qK qX ?_;simp only[Act.put,jZ,jX,jY];refine jB (.int .i64 (j:Int)) qK qX ?_;simp only[Act.put,jZ,jX,jY];refine vK qK 65 (.tmp 6) rfl (w1.heap.size) (0) rfl (kV (gZ r kH 2 ⟨fk,fn,bk,bn,fl⟩)) _ (uH HC2.o) Tryz.underlying65 rfl uP ?_;simp only[Act.put,jZ,jX,jY];refine jB (.pointer (some ⟨g,j*8,none⟩)) qK qX ?_;simp only[Act.put,jZ,jX,jY];refine wpList_store_mid rfl 65 (.tmp 33) (.tmp 32) rfl (g) (j*8) ((kV (gZ r kH 2 ⟨fk,fn,bk,bn,fl⟩)).toArray) rfl rfl (HTH.o) uP (zV _) ?_;simp only[Act.put];have hne:g≠w1.heap.size:=by have :=HB.o.size;omega
   have HC3:Hid ((W3.setCells g (j*8) (kV (gZ r kH 2 ⟨fk,fn,bk,bn,fl⟩))).heap[w1.heap.size]? =some (.cells (kV (gZ r kH 2 ⟨fk,fn,bk,bn,fl⟩)).toArray 65 (0,0))):=Hd ((HS.o.2.block _ (kB.1 HC2.o).1 qY).trans HC2.o);have x4:(W3.setCells g (j*8) (kV (gZ r kH 2 ⟨fk,fn,bk,bn,fl⟩))).cell? ⟨bx,0,none⟩=some (.int .i64 k):=HS.o.2.cell qY x3;change wpList _ _ _ _ _ (W3.setCells g (j*8) (kV (gZ r kH 2 ⟨fk,fn,bk,bn,fl⟩)));generalize W3.setCells g (j*8) (kV (gZ r kH 2 ⟨fk,fn,bk,bn,fl⟩))=W4 at HS HC3 x4 ⊢;obtain⟨y4,y4f⟩:=uS HC3.o 2 _ rfl;clear x3
   go_upto_region 7 with fail
   have l1:=uE x4;have HC5:=Hd (kA HC3.o 2 (.int .i64 1) (cs':=kV (gZ r kH 1 ⟨fk,fn,bk,bn,fl⟩)) rfl);have HM5:Hid (Mod [g] w (W4.setCell ⟨w1.heap.size,2,none⟩ (.int .i64 1))):=Hd (((Mod.of_below HB2.o).trans HS.o.2 (fun b hb=>.inl hb)).setCell (a:=⟨w1.heap.size,2,none⟩) (.inr HB.o.size) _);have HO5:Hid (CrO (W4.setCell ⟨w1.heap.size,2,none⟩ (.int .i64 1)) base g cap (o.set j (gZ r kH 2 ⟨fk,fn,bk,bn,fl⟩))):=Hd (HS.o.1.mod ((Mod.refl [w1.heap.size] W4).setCell (a:=⟨w1.heap.size,2,none⟩) (.inl qV) _) qY);have X5:Hid ((W4.setCell ⟨w1.heap.size,2,none⟩ (.int .i64 1)).cell? ⟨bx,0,none⟩=some (.int .i64 k)):=Hd ((World.cell?_setCell_other _ _ _ _ (fun e=>by injection e with e1 e2;have :=HB.o.size;omega)).trans x4);generalize uN _ _ _=W5 at HC5 HM5 HO5 X5 ⊢;have x5:=X5.o;have HTH5:=Hd (HO5.o.there (i:=k) qY);have HS5:=Hd (HO5.o.set (i:=k) qY (gZ r kH 1 ⟨fk,fn,bk,bn,fl⟩));clear X5 x4 y4 y4f HTH;refine wp_region_lit ?_;refine jB (.slice (some ⟨g,0,none⟩) o.length cap) qK qK ?_;simp only[Act.put,jZ,jX,jY];refine jB (.int .i64 (k:Int)) qK qX ?_;simp only[Act.put,jZ,jX,jY]
   refine vK qK 65 (.tmp 6) rfl (w1.heap.size) (0) rfl (kV (gZ r kH 1 ⟨fk,fn,bk,bn,fl⟩)) _ (uH HC5.o) Tryz.underlying65 rfl uP ?_;simp only[Act.put,jZ,jX,jY];refine jB (.pointer (some ⟨g,k*8,none⟩)) qK qX ?_;simp only[Act.put,jZ,jX,jY];refine wpList_store_mid rfl 65 (.tmp 38) (.tmp 37) rfl (g) (k*8) ((kV (gZ r kH 1 ⟨fk,fn,bk,bn,fl⟩)).toArray) rfl rfl (HTH5.o) uP (zV _) ?_
   go_wp2
   go_end0
   rw[HV.o,if_neg qV,if_pos (by first|exact⟨rfl,HK.o⟩|exact⟨trivial,HK.o⟩),HTN.o,List.set_comm _ _ qJ,←HJ.o];refine⟨rfl,?_,HM5.o.trans HS5.o.2 (fun b hb=>.inl hb)⟩;have :=HS5.o.1;unfold CrO at this ⊢;simpa using this
 · subst hw;have hkl:(k:Int)<(o.length:Int):=by omega
   have HK:=Hd (show 0≤(k:Int)∧(k:Int)<(o.length:Int)from by omega);have hw2:jE.wrap ((o.length:Int)-1)=(o.length:Int)-1:=jF _ qJ;clear HWR
   go_enter Tryz.func352,Tryz.ntmps352
   go_upto_region 7 with(first
    |(go_at_call 162;refine(HW.o _).mono ?_;rintro e w1 ⟨rfl,hb⟩;have HB:=Hd hb;have hx':=kZ hb HX.o;have hr':=kZ hb HR.o;have HA1:=yM HA.o hb
      have a0:=HA1 0 _ rfl;have a1:=HA1 1 _ rfl;have a2:=HA1 2 _ rfl;have a3:=HA1 3 _ rfl;have a4:=HA1 4 _ rfl;have l1:=uE hx';have l2:=uE hr';have l3:=uE a0;clear HA1 hx hr hb)
    |fail)
   generalize hW2:World.alloc _ _=W2;have hb2:Below w1.heap.size w1 W2:=by rw[←hW2];exact jH (jU _ _) _
   have hc2:W2.heap[w1.heap.size]? =some (.cells (kV (gZ r kH 0 ⟨fk,fn,bk,bn,fl⟩)).toArray 65 (0,0)):=by rw[←hW2];exact jT rfl
   have HB2:=Hd (jW HB.o hb2);have HC2:=Hd hc2;have x2:=kZ hb2 hx';have HTH:=Hd ((H.o.below HB2.o).there (i:=k) qJ);have HS:=Hd ((H.o.below HB2.o).set (i:=k) qJ (gZ r kH 0 ⟨fk,fn,bk,bn,fl⟩));clear hW2 hb2 hc2 hx' hr' a0 a1 a2 a3 a4 l1 l2 l3;refine wp_region_lit ?_;refine jB (.slice (some ⟨g,0,none⟩) o.length cap) qK qK ?_;simp only[Act.put,jZ,jX,jY];refine jB (.int .i64 (k:Int)) qK qX ?_;simp only[Act.put,jZ,jX,jY];refine vK qK 65 (.tmp 6) rfl w1.heap.size 0 rfl (kV (gZ r kH 0 ⟨fk,fn,bk,bn,fl⟩)) _ (uH HC2.o) Tryz.underlying65 rfl uP ?_;simp only[Act.put,jZ,jX,jY];refine jB (.pointer (some ⟨g,k*8,none⟩)) qK qX ?_;simp only[Act.put,jZ,jX,jY];refine wpList_store_mid rfl 65 (.tmp 38) (.tmp 37) rfl g (k*8) (kV (gZ r kH 0 ⟨fk,fn,bk,bn,fl⟩)).toArray rfl rfl HTH.o uP (zV _) ?_
   go_wp2
   go_end0
   rw[HV.o,if_pos (by first|exact⟨rfl,HK.o⟩|exact⟨trivial,HK.o⟩)];exact⟨rfl,HS.o.1,(Mod.of_below HB2.o).trans HS.o.2 (fun b hb=>.inl hb)⟩
end Go.Proofs.YtaefcahblmopfaaGreatDoor
