/- Joined by a tool of this claim out of smaller texts. Conditions: as stated. -/
import Derived.Test.YtaefcahblmopfaaGreatDoorDj26
set_option linter.unusedVariables false
set_option linter.unusedSimpArgs false
set_option maxRecDepth 100000
open Go.Lib renaming hid → Hd
open List renaming setIfInBounds_toArray → jZ, set_cons_zero → jX, set_cons_succ → jY, mem_singleton → jM, getElem?_eq_some_iff → jP, map_append → vX
open Go.Proofs.Tryz renaming prog → jG
open Go.RowKit.Below renaming refl → jU
open Nat renaming le_refl → jD, zero_le → kM, zero_add → kP
open Go.IntWalk renaming i64_in → jF
open Go.IntKind renaming i64 → jE
open Go.World renaming ownsRow → kL, ownsRow_nil → kS
namespace Go.Proofs.YtaefcahblmopfaaGreatDoor
open Go.RowKit
theorem eE{α:Type}{enc:α→List Value}{K:Nat}(hl:∀x,(enc x).length=K){w:World}{base:Nat}{e:TypeId}{A:Option Addr}{n c:Nat}{X:List α}(h:w.ownsRow base e K (.slice A n c) X.length (uM enc X)):pT enc K w A X:=fun h0=>by
 obtain⟨g,c',hv⟩:=gH h h0;simp only[Value.slice.injEq]at hv;obtain⟨rfl,rfl,rfl⟩:=hv;refine⟨g,0,rfl,fun i x hi j v hj=>?_⟩;rw[kP];exact(gS h (i:=i*K+j) jJ).1
theorem QH:(jG.info? 3).map (fun i=>(i.zero,i.size,i.bytes))=some (some (.int .i64 0),1,8):=by kernel_rfl
def cW(G:List (List Int))(i:Nat):Nat:=if yR G (i+1)=5 then 1 else if yR G (i+1)=2 then 3 else 0
def zP(G:List (List Int))(i n:Nat):List Int:=(List.range n).map (fun k=>yR G (i+2+k))
theorem eK(G:List (List Int))(i n:Nat):(zP G i n).length=n:=by unfold zP;simp
theorem xI(G:List (List Int))(i n:Nat):zP G i (n+1)=zP G i n++[yR G (i+2+n)]:=by unfold zP;rw[List.range_succ,vX];rfl
def lL(G:List (List Int))(i:Nat):Option Col×Int:=
 if G.length≤i+1+cW G i then(none,(G.length:Int)-1-i)else if cW G i=0 then(none,1)else(b3V (zP G i (cW G i)),1+(cW G i:Int))
def WU(c:Option Col×Int)(w:World)(e:Ending)(w':World):Prop:=e=.returned (.tuple #[.agg #[.int .i64 (ocK c.1),.int .i64 (ocN c.1)],.bool c.1.isSome,.int .i64 c.2])∧Below w.heap.size w w'
section
variable {w:World}{A:Option Addr}{H:List Gh}
set_option maxHeartbeats 6400000 in
theorem XB(hG:dC w A H)(ca i:Nat)(hi:i<H.length)(hz:H.length≤1000):Calls jG 361 #[.slice A H.length ca,.int .i64 i] w (WU (lL (vU H) i) w):=by
 obtain⟨j0,hj,gz0,gz1,gz2⟩:=info_parts QH;obtain⟨W,hW⟩:∃W,w.alloc (.cells #[.int .i64 0,.int .i64 0] 61)=W:=⟨_,rfl⟩;have hb:Below w.heap.size w W:=by rw[←hW];exact jH (jU _ _) _
 have hcz:W.heap[w.heap.size]? =some (.cells #[.int .i64 0,.int .i64 0] 61 (0,0)):=by rw[←hW];exact jT rfl
 have hlW:w.heap.size<W.heap.size:=jR hcz;have HB:=Hd hb;have HC:=Hd hcz;have HW:=Hd hW;have HLW:=Hd hlW;have HGW:Hid (∀W',Below W.heap.size W W'→∀k:Nat,Calls jG 358 #[.slice A H.length ca,.int .i64 k] W' fun e w'=>e=.returned (.int .i64 (yR (vU H) k))∧W'=w'):=Hd (fun W' hb' k=>Qi (hG.below (jW hb hb')) ca k qJ);have hgl:(vU H).length=H.length:=by unfold vU;simp
 obtain⟨co,hco⟩:∃co,lL (vU H) i=co:=⟨_,rfl⟩;rw[hco];have hbe:co=if H.length≤i+1+cW (vU H) i then(none,(H.length:Int)-1-i)else if cW (vU H) i=0 then(none,1)else(b3V (zP (vU H) i (cW (vU H) i)),1+(cW (vU H) i:Int)):=by rw[←hco];unfold lL;rw[hgl]
 have HV:=Hd hbe;generalize vU H=G at HGW HV;obtain⟨L,hL⟩:∃L,H.length=L:=⟨_,rfl⟩;rw[hL]at HGW HV hi hz ⊢;have hi1:(i:Int)+1=((i+1:Nat):Int):=by omega
 obtain⟨i1,hi1e⟩:∃i1:Nat,i1=i+1:=⟨_,rfl⟩;have hi1I:(i:Int)+1=(i1:Int):=by omega
 have hw1:jE.wrap (i1:Int)=(i1:Int):=jF _ qJ;have HF1:=Hd (HGW.o W (jU _ _) i1);obtain⟨v1,hv1⟩:∃v1,yR G i1=v1:=⟨_,rfl⟩;rw[hv1]at HF1;have HN:Hid (cW G i=if v1=5 then 1 else if v1=2 then 3 else 0):=Hd (by unfold cW;rw[←hi1e,hv1]);have HI1:=Hd hi1e;clear hG hb hcz hW hlW hgl hco hbe hL hi1 hi1e hv1;have cend:∀W5,Below W.heap.size W W5→∀(c:Option Col) (n:Int),co=(c,n)→∀W6,W6=(W5.setCell ⟨w.heap.size,0,none⟩ (.int .i64 (ocK c))).setCell ⟨w.heap.size,1,none⟩ (.int .i64 (ocN c))→W6.rangeAt w.heap.size 0 [.int .i64 (ocK co.1),.int .i64 (ocN co.1)]∧Below w.heap.size w W6:=fun W5 hb5 c n hc W6 h6=>by
  have hz:=(hb5.block _ HLW.o).trans HC.o;rw[hc,h6];exact⟨uH (kA (kA hz 0 (.int .i64 (ocK c)) rfl) 1 (.int .i64 (ocN c)) rfl),uK (uK (jW HB.o (jW (jU _ _) hb5)) (jD _) _) (jD _) _⟩
 have HEND:=Hd cend;clear cend
 by_cases h5:v1=5
 · subst h5;have HNV:Hid (cW G i=1):=Hd (by rw[HN.o];rw[if_pos rfl]);have hwn:jE.wrap ((i1:Int)+1)=(i1:Int)+1:=jF _ qJ
   by_cases hle:L≤i1+1
   · have hleI:(L:Int)≤(i1:Int)+1:=by omega
     have hwL:jE.wrap ((L:Int)-1)=(L:Int)-1:=jF _ qJ;have hwL2:jE.wrap ((L:Int)-1-(i:Int))=(L:Int)-1-(i:Int):=jF _ qJ;have HVV:Hid (co=(none,(L:Int)-1-i)):=Hd qZe;clear hle;have hz5:=(((jU W.heap.size W).block _ HLW.o)).trans HC.o;obtain⟨z0,z0f⟩:=at_ hz5 0 (.int .i64 0) rfl;obtain⟨z1,z1f⟩:=at_ hz5 1 (.int .i64 0) rfl;clear hz5
     go_enter Tryz.func361,Tryz.ntmps361
     go_upto_region 1 with fail
     rw[HW.o]
     go_wp2_with(go_at_call 358;(with_reducible refine HF1.o.mono ?_);rintro e w2 ⟨rfl,rfl⟩)
     obtain⟨hr,hbe⟩:=HEND.o W (jU _ _) none (((L:Int)-1-i)) HVV.o _ rfl;exact qX5
   · have hleI:¬(L:Int)≤(i1:Int)+1:=by omega
     have HVV:Hid (co=(b3V (zP G i 1),1+(1:Int))):=Hd qZf;clear hle
     go_enter Tryz.func361,Tryz.ntmps361
     go_upto_region 1 with fail
     rw[HW.o]
     go_wp2_with(go_at_call 358;(with_reducible refine HF1.o.mono ?_);rintro e w2 ⟨rfl,rfl⟩)
     go_loopw [8,37] (fun s8 s37 wr=>∃k:Nat,s37=.int .i64 k∧k≤1∧wr.ownsRow W.heap.size 3 1 s8 k (uM pO (zP G i k))∧Below W.heap.size W wr) (fun _ s37 _=>1-(intOf s37).toNat)
     case atStart=>exact⟨0,rfl,kM _,kS _ _ _ _,jU _ _⟩
     case round=>
      obtain⟨k,rfl,hk,hO,hB⟩:=hrel;obtain⟨bx,rfl⟩:∃bx:Value×Unit,u8=bx.1:=⟨(u8,()),rfl⟩;have HO:=Hd hO;have HBk:=Hd hB;have hwk:jE.wrap ((k:Int)+1)=(k:Int)+1:=jF _ qJ;have hwi2:jE.wrap ((i:Int)+2)=(i:Int)+2:=jF _ qJ;obtain⟨j,hje⟩:∃j:Nat,j=i+2+k:=⟨_,rfl⟩;have hjI:(i:Int)+2+(k:Int)=(j:Int):=by omega
      have hwj:jE.wrap (j:Int)=(j:Int):=jF _ qJ;have HJ:=Hd hje;clear hO hB hje
      by_cases hlt:k<1
      · have hltI:(k:Int)<1:=by omega
        have HFJ:=Hd (HGW.o wr HBk.o j);obtain⟨vj,hvj⟩:∃vj,yR G j=vj:=⟨_,rfl⟩;rw[hvj]at HFJ;have HVJ:Hid (zP G i (k+1)=zP G i k++[vj]):=Hd (by rw[xI,←hvj,HJ.o]);clear hvj;have HSZ:=Hd HBk.o.size
        go_upto_region 15 with fail
        refine wp_region_lit ?_;refine jB (bx.1) qK qK ?_;simp only[Act.put,jZ,jX,jY];refine jB (.slice A L ca) qK qK ?_;simp only[Act.put,jZ,jX,jY];refine jB (.int .i64 i) qK qK ?_;simp only[Act.put,jZ,jX,jY];refine jB (.int .i64 ((i:Int)+2)) qK qX ?_;simp only[Act.put,jZ,jX,jY];refine jB (.int .i64 k) qK qK ?_;simp only[Act.put,jZ,jX,jY];refine jB (.int .i64 j) qK qX ?_;simp only[Act.put,jZ,jX,jY];refine zM rfl 358 #[.slice A L ca,.int .i64 j] qX HFJ.o (.int .i64 vj) (fun e w' h=>h.1) ?_;rintro w5 ⟨-,rfl⟩;simp only[Act.put,jZ,jX,jY];have HO3:=Hd (kD HO.o (Mod.of_below (X:=[]) (jH (jU wr.heap.size wr) (.cells #[.int .i64 vj] 3))) (fun _ _ h=>by cases h));have HBX:=Hd (jH HBk.o (.cells #[.int .i64 vj] 3));refine uC (.slice (some ⟨wr.heap.size,0,none⟩) 1 1) (wr.alloc (.cells #[.int .i64 vj] 3)) qK qX ?_;simp only[Act.put,jZ,jX,jY];refine vG (o:=⟨some 48,_,_,_,_,_⟩) rfl (.tmp 40) (.tmp 47) 241 rfl W.heap.size 3 j0 _ 1 8 Tryz.underlying241 hj gz0 gz1 gz2 rfl qZ bx.1 k (uM pO (zP G i k)) rfl HO3.o ⟨wr.heap.size,0,none⟩ 1 1 [.int .i64 vj] rfl rfl (fun j u hj=>by rw[vF,kP];exact(at_ (jT rfl) j u qW).1) (mL _) jQ qJ qZo ?_;intro v' w7 ho hg hv'
        have HO7:Hid (w7.ownsRow W.heap.size 3 1 v' (k+1) (uM pO (zP G i (k+1)))):=Hd (by rw[HVJ.o,uI];exact ho);have HB7:=Hd (HBX.o.grown hg HBX.o.size (fun b hb=>(kL.lt (show kL _ _ _ _ _ _ _ from HO3.o) b hb).1));simp only[Act.put,jZ,jX,jY];clear ho hg hv'
        go_wp2
        go_roundw
        case rel=>exact⟨k+1,by go_num,by omega,HO7.o,HB7.o⟩
        case measure=>simp[intOf];omega
      · have hltI:¬(k:Int)<1:=by omega
        obtain rfl:k=1:=by omega
        obtain⟨A8,c8,hv8⟩:=uT HO.o;obtain⟨bv,bu⟩:=bx;simp only at hv8;subst hv8;have H3:Hid (Calls jG 384 #[.slice A8 1 c8] wr (rF (b3V (zP G i 1)) wr)):=Hd (by
         have hgr:=eE (X:=zP G i 1) mR (by rw[eK];exact HO.o);have :=lN hgr c8 (by rw[eK];omega);rw[eK]at this;exact this)
        obtain⟨cc,hcc⟩:∃cc,b3V (zP G i 1)=cc:=⟨_,rfl⟩;rw[hcc]at H3 HVV;clear hcc
        go_upto_region 18 with(go_at_call 384;(with_reducible refine H3.o.mono ?_);rintro e w6 ⟨rfl,hb6⟩;have HB6:=Hd (jW HBk.o hb6);clear hb6)
        generalize hW7:World.alloc _ _=W7;have hb7:Below w6.heap.size w6 W7:=by rw[←hW7];exact jH (jU _ _) _
        have hc7:W7.heap[w6.heap.size]? =some (.cells #[.int .i64 (ocK cc),.int .i64 (ocN cc)] 61 (0,0)):=by rw[←hW7];exact jT rfl
        have HB7:=Hd (jW HB6.o hb7);obtain⟨d0,-⟩:=at_ hc7 0 (.int .i64 (ocK cc)) rfl;obtain⟨d1,-⟩:=at_ hc7 1 (.int .i64 (ocN cc)) rfl;clear hW7 hb7 hc7;have hz5:=((HB7.o.block _ HLW.o)).trans HC.o;obtain⟨z0,z0f⟩:=at_ hz5 0 (.int .i64 0) rfl;obtain⟨z1,z1f⟩:=at_ hz5 1 (.int .i64 0) rfl;clear hz5
        go_wp2
        obtain⟨hr,hbe⟩:=HEND.o W7 HB7.o cc ((1+(1:Int))) HVV.o _ rfl;exact qX5
 have e5:(v1==5)=false:=beq_eq_false_iff_ne.2 h5
 by_cases h2:v1=2
 · subst h2;clear h5 e5;have HNV:Hid (cW G i=3):=Hd (by rw[HN.o];rw[if_neg qZ,if_pos rfl]);have hwn:jE.wrap ((i1:Int)+3)=(i1:Int)+3:=jF _ qJ
   by_cases hle:L≤i1+3
   · have hleI:(L:Int)≤(i1:Int)+3:=by omega
     have hwL:jE.wrap ((L:Int)-1)=(L:Int)-1:=jF _ qJ;have hwL2:jE.wrap ((L:Int)-1-(i:Int))=(L:Int)-1-(i:Int):=jF _ qJ;have HVV:Hid (co=(none,(L:Int)-1-i)):=Hd qZe;clear hle;have hz5:=(((jU W.heap.size W).block _ HLW.o)).trans HC.o;obtain⟨z0,z0f⟩:=at_ hz5 0 (.int .i64 0) rfl;obtain⟨z1,z1f⟩:=at_ hz5 1 (.int .i64 0) rfl;clear hz5
     go_enter Tryz.func361,Tryz.ntmps361
     go_upto_region 1 with fail
     rw[HW.o]
     go_wp2_with(go_at_call 358;(with_reducible refine HF1.o.mono ?_);rintro e w2 ⟨rfl,rfl⟩)
     obtain⟨hr,hbe⟩:=HEND.o W (jU _ _) none (((L:Int)-1-i)) HVV.o _ rfl;exact qX5
   · have hleI:¬(L:Int)≤(i1:Int)+3:=by omega
     have HVV:Hid (co=(b3V (zP G i 3),1+(3:Int))):=Hd qZf;clear hle
     go_enter Tryz.func361,Tryz.ntmps361
     go_upto_region 1 with fail
     rw[HW.o]
     go_wp2_with(go_at_call 358;(with_reducible refine HF1.o.mono ?_);rintro e w2 ⟨rfl,rfl⟩)
     go_loopw [8,37] (fun s8 s37 wr=>∃k:Nat,s37=.int .i64 k∧k≤3∧wr.ownsRow W.heap.size 3 1 s8 k (uM pO (zP G i k))∧Below W.heap.size W wr) (fun _ s37 _=>3-(intOf s37).toNat)
     case atStart=>exact⟨0,rfl,kM _,kS _ _ _ _,jU _ _⟩
     case round=>
      obtain⟨k,rfl,hk,hO,hB⟩:=hrel;obtain⟨bx,rfl⟩:∃bx:Value×Unit,u8=bx.1:=⟨(u8,()),rfl⟩;have HO:=Hd hO;have HBk:=Hd hB;have hwk:jE.wrap ((k:Int)+1)=(k:Int)+1:=jF _ qJ;have hwi2:jE.wrap ((i:Int)+2)=(i:Int)+2:=jF _ qJ;obtain⟨j,hje⟩:∃j:Nat,j=i+2+k:=⟨_,rfl⟩;have hjI:(i:Int)+2+(k:Int)=(j:Int):=by omega
      have hwj:jE.wrap (j:Int)=(j:Int):=jF _ qJ;have HJ:=Hd hje;clear hO hB hje
      by_cases hlt:k<3
      · have hltI:(k:Int)<3:=by omega
        have HFJ:=Hd (HGW.o wr HBk.o j);obtain⟨vj,hvj⟩:∃vj,yR G j=vj:=⟨_,rfl⟩;rw[hvj]at HFJ;have HVJ:Hid (zP G i (k+1)=zP G i k++[vj]):=Hd (by rw[xI,←hvj,HJ.o]);clear hvj;have HSZ:=Hd HBk.o.size
        go_upto_region 15 with fail
        refine wp_region_lit ?_;refine jB (bx.1) qK qK ?_;simp only[Act.put,jZ,jX,jY];refine jB (.slice A L ca) qK qK ?_;simp only[Act.put,jZ,jX,jY];refine jB (.int .i64 i) qK qK ?_;simp only[Act.put,jZ,jX,jY];refine jB (.int .i64 ((i:Int)+2)) qK qX ?_;simp only[Act.put,jZ,jX,jY];refine jB (.int .i64 k) qK qK ?_;simp only[Act.put,jZ,jX,jY];refine jB (.int .i64 j) qK qX ?_;simp only[Act.put,jZ,jX,jY];refine zM rfl 358 #[.slice A L ca,.int .i64 j] qX HFJ.o (.int .i64 vj) (fun e w' h=>h.1) ?_;rintro w5 ⟨-,rfl⟩;simp only[Act.put,jZ,jX,jY];have HO3:=Hd (kD HO.o (Mod.of_below (X:=[]) (jH (jU wr.heap.size wr) (.cells #[.int .i64 vj] 3))) (fun _ _ h=>by cases h));have HBX:=Hd (jH HBk.o (.cells #[.int .i64 vj] 3));refine uC (.slice (some ⟨wr.heap.size,0,none⟩) 1 1) (wr.alloc (.cells #[.int .i64 vj] 3)) qK qX ?_;simp only[Act.put,jZ,jX,jY];refine vG (o:=⟨some 48,_,_,_,_,_⟩) rfl (.tmp 40) (.tmp 47) 241 rfl W.heap.size 3 j0 _ 1 8 Tryz.underlying241 hj gz0 gz1 gz2 rfl qZ bx.1 k (uM pO (zP G i k)) rfl HO3.o ⟨wr.heap.size,0,none⟩ 1 1 [.int .i64 vj] rfl rfl (fun j u hj=>by rw[vF,kP];exact(at_ (jT rfl) j u qW).1) (mL _) jQ qJ qZo ?_;intro v' w7 ho hg hv'
        have HO7:Hid (w7.ownsRow W.heap.size 3 1 v' (k+1) (uM pO (zP G i (k+1)))):=Hd (by rw[HVJ.o,uI];exact ho);have HB7:=Hd (HBX.o.grown hg HBX.o.size (fun b hb=>(kL.lt (show kL _ _ _ _ _ _ _ from HO3.o) b hb).1));simp only[Act.put,jZ,jX,jY];clear ho hg hv'
        go_wp2
        go_roundw
        case rel=>exact⟨k+1,by go_num,by omega,HO7.o,HB7.o⟩
        case measure=>simp[intOf];omega
      · have hltI:¬(k:Int)<3:=by omega
        obtain rfl:k=3:=by omega
        obtain⟨A8,c8,hv8⟩:=uT HO.o;obtain⟨bv,bu⟩:=bx;simp only at hv8;subst hv8;have H3:Hid (Calls jG 384 #[.slice A8 3 c8] wr (rF (b3V (zP G i 3)) wr)):=Hd (by
         have hgr:=eE (X:=zP G i 3) mR (by rw[eK];exact HO.o);have :=lN hgr c8 (by rw[eK];omega);rw[eK]at this;exact this)
        obtain⟨cc,hcc⟩:∃cc,b3V (zP G i 3)=cc:=⟨_,rfl⟩;rw[hcc]at H3 HVV;clear hcc
        go_upto_region 18 with(go_at_call 384;(with_reducible refine H3.o.mono ?_);rintro e w6 ⟨rfl,hb6⟩;have HB6:=Hd (jW HBk.o hb6);clear hb6)
        generalize hW7:World.alloc _ _=W7;have hb7:Below w6.heap.size w6 W7:=by rw[←hW7];exact jH (jU _ _) _
        have hc7:W7.heap[w6.heap.size]? =some (.cells #[.int .i64 (ocK cc),.int .i64 (ocN cc)] 61 (0,0)):=by rw[←hW7];exact jT rfl
        have HB7:=Hd (jW HB6.o hb7);obtain⟨d0,-⟩:=at_ hc7 0 (.int .i64 (ocK cc)) rfl;obtain⟨d1,-⟩:=at_ hc7 1 (.int .i64 (ocN cc)) rfl;clear hW7 hb7 hc7;have hz5:=((HB7.o.block _ HLW.o)).trans HC.o;obtain⟨z0,z0f⟩:=at_ hz5 0 (.int .i64 0) rfl;obtain⟨z1,z1f⟩:=at_ hz5 1 (.int .i64 0) rfl;clear hz5
        go_wp2
        obtain⟨hr,hbe⟩:=HEND.o W7 HB7.o cc ((1+(3:Int))) HVV.o _ rfl;exact qX5
 have e2:(v1==2)=false:=beq_eq_false_iff_ne.2 h2;have HNV:Hid (cW G i=0):=Hd (by rw[HN.o];rw[if_neg h5,if_neg h2]);have hwn:jE.wrap ((i1:Int)+0)=(i1:Int)+0:=jF _ qJ
 by_cases hle:L≤i1+0
 · have hleI:(L:Int)≤(i1:Int)+0:=by omega
   have hwL:jE.wrap ((L:Int)-1)=(L:Int)-1:=jF _ qJ;have hwL2:jE.wrap ((L:Int)-1-(i:Int))=(L:Int)-1-(i:Int):=jF _ qJ;have HVV:Hid (co=(none,(L:Int)-1-i)):=Hd qZe;clear hle;have hz5:=(((jU W.heap.size W).block _ HLW.o)).trans HC.o;obtain⟨z0,z0f⟩:=at_ hz5 0 (.int .i64 0) rfl;obtain⟨z1,z1f⟩:=at_ hz5 1 (.int .i64 0) rfl;clear hz5
   go_enter Tryz.func361,Tryz.ntmps361
   go_upto_region 1 with fail
   rw[HW.o]
   go_wp2_with(go_at_call 358;(with_reducible refine HF1.o.mono ?_);rintro e w2 ⟨rfl,rfl⟩)
   obtain⟨hr,hbe⟩:=HEND.o W (jU _ _) none (((L:Int)-1-i)) HVV.o _ rfl;exact qX5
 · have hleI:¬(L:Int)≤(i1:Int)+0:=by omega
   have HVV:Hid (co=(none,1)):=Hd (by rw[HV.o,HNV.o,if_neg qZk,if_pos rfl]);clear hle;have hz5:=(((jU W.heap.size W).block _ HLW.o)).trans HC.o;obtain⟨z0,z0f⟩:=at_ hz5 0 (.int .i64 0) rfl;obtain⟨z1,z1f⟩:=at_ hz5 1 (.int .i64 0) rfl;clear hz5
   go_enter Tryz.func361,Tryz.ntmps361
   go_upto_region 1 with fail
   rw[HW.o]
   go_wp2_with(go_at_call 358;(with_reducible refine HF1.o.mono ?_);rintro e w2 ⟨rfl,rfl⟩)
   obtain⟨hr,hbe⟩:=HEND.o W (jU _ _) none (1) HVV.o _ rfl;exact qX5
end
def qJ5(l:List (List Int))(i:Nat):Option Col:=if 1<(l.getD i []).length then tL (l.getD i [])else(lL l i).1
def qJ4(l:List (List Int))(i:Nat):Int:=if 1<(l.getD i []).length then(i:Int)+1 else(i:Int)+(lL l i).2+1
theorem Ui{x:Int}:x≤255↔x<256:=by omega
theorem b3V_1(x:Int):b3V [x]=if x<256 then some ⟨1,max 0 x⟩else none:=by
 unfold b3V rP
 by_cases h:x<256
 · rw[if_pos h,if_pos (fun y hy=>by rw[jM.1 hy];omega)];simp
 · rw[if_neg h,if_neg (fun h'=>h (Ui.1 (h' _ (jM.2 rfl))))]
theorem b3V_3(x y z:Int):b3V [x,y,z]=if x<256∧y<256∧z<256 then some ⟨2,65536*max 0 x+256*max 0 y+max 0 z⟩else none:=by
 unfold b3V rP
 by_cases h:x<256∧y<256∧z<256
 · rw[if_pos h,if_pos (fun u hu=>by simp at hu;rcases hu with rfl|rfl|rfl<;>omega),if_neg qV];simp only[List.foldl]
   congr 2
   omega
 · rw[if_neg h,if_neg (fun h'=>h ⟨Ui.1 (h' _ qV),Ui.1 (h' _ qV),Ui.1 (h' _ qV)⟩)]
theorem drop3(g:List Int)(hl:g.length=5∨g.length=6):g.drop (g.length-3)=[g.getD (g.length-3) 0,g.getD (g.length-2) 0,g.getD (g.length-1) 0]:=by
 rcases hl with hl|hl
 · match g,hl with
   |[a,b,c,d,e],_=>rfl
 · match g,hl with
   |[a,b,c,d,e,f],_=>rfl
theorem and3{a b c:Prop}:(a∧b∧c)↔(c∧b∧a):=⟨fun h=>⟨h.2.2,h.2.1,h.1⟩,fun h=>⟨h.2.2,h.2.1,h.1⟩⟩
theorem qKn(l:List (List Int))(i:Nat)(h:1<(l.getD i []).length):nI l i=(tL (l.getD i []),i+1):=by
 unfold nI tL;simp only[];rw[if_pos h];generalize l.getD i []=g at h ⊢;rw[b3V_1]
 by_cases h5:g.getD 1 0=5∧g.length=3
 · obtain⟨h5,hl⟩:=h5;have h2:¬g.getD 1 0=2:=by omega
   rw[if_pos (c:=g.getD 1 0=5∧g.length=3) ⟨h5,hl⟩]
   by_cases h9:g.getD 2 0<256
   · rw[if_pos (c:=g.getD 1 0=5∧g.length=3∧g.getD 2 0<256) ⟨h5,hl,h9⟩,if_pos h9];rfl
   · rw[if_neg (c:=g.getD 1 0=5∧g.length=3∧g.getD 2 0<256) (fun h=>h9 h.2.2),if_neg h9,if_neg (fun h=>h2 h.1)]
 · rw[if_neg (c:=g.getD 1 0=5∧g.length=3∧g.getD 2 0<256) (fun h=>h5 ⟨h.1,h.2.1⟩),if_neg h5]
   by_cases h2:g.getD 1 0=2∧(g.length=5∨g.length=6)
   · rw[if_pos h2,drop3 g h2.2,b3V_3]
     by_cases h9:g.getD (g.length-3) 0<256∧g.getD (g.length-2) 0<256∧g.getD (g.length-1) 0<256
     · rw[if_pos ⟨h2.1,h2.2,and3.1 h9⟩,if_pos h9];rfl
     · rw[if_neg (fun h=>h9 (and3.1 h.2.2)),if_neg h9]
   · rw[if_neg h2,if_neg (fun h=>h2 ⟨h.1,h.2.1⟩)]
theorem sC(l:List (List Int))(i:Nat):0≤yR l i:=by unfold yR;omega
theorem qVp(l:List (List Int))(i:Nat)(hi:i<l.length)(h:¬1<(l.getD i []).length):
 (nI l i).1=(lL l i).1∧((((nI l i).2:Nat):Int)=i+(lL l i).2+1∨(l.length≤(nI l i).2∧(i:Int)+(lL l i).2+1=l.length)):=by
 unfold nI lL;simp only[];rw[if_neg h];have p2:=sC l (i+2);have p3:=sC l (i+3);have p4:=sC l (i+4)
 by_cases h5:yR l (i+1)=5
 · rw[if_pos h5];have hn:cW l i=1:=by unfold cW;rw[if_pos h5]
   rw[hn]
   by_cases hl:l.length≤i+1+1
   · rw[if_pos hl,if_neg (fun h=>by omega)];exact⟨rfl,.inr ⟨by omega,by simp only[];omega⟩⟩
   · rw[if_neg hl,if_neg (c:=(1:Nat)=0) qZ];have hv:zP l i 1=[yR l (i+2)]:=rfl;rw[hv];refine⟨?_,.inl (by simp only[];omega)⟩;rw[b3V_1]
     by_cases h9:yR l (i+2)<256
     · rw[if_pos ⟨by omega,h9⟩,if_pos h9];show some _=some _
       congr 2
       omega
     · rw[if_neg (fun h=>h9 h.2),if_neg h9]
 · rw[if_neg h5]
   by_cases h2:yR l (i+1)=2
   · rw[if_pos h2];have hn:cW l i=3:=by unfold cW;rw[if_neg h5,if_pos h2]
     rw[hn]
     by_cases hl:l.length≤i+1+3
     · rw[if_pos hl,if_neg (fun h=>by omega)];exact⟨rfl,.inr ⟨by omega,by simp only[];omega⟩⟩
     · rw[if_neg hl,if_neg (c:=(3:Nat)=0) qZ];have hv:zP l i 3=[yR l (i+2),yR l (i+3),yR l (i+4)]:=rfl;rw[hv];refine⟨?_,.inl (by simp only[];omega)⟩;rw[b3V_3]
       by_cases h9:yR l (i+2)<256∧yR l (i+3)<256∧yR l (i+4)<256
       · rw[if_pos ⟨by omega,h9⟩,if_pos h9];show some _=some _
         congr 2
         omega
       · rw[if_neg (fun h=>h9 h.2),if_neg h9]
   · rw[if_neg h2];have hn:cW l i=0:=by unfold cW;rw[if_neg h5,if_neg h2]
     rw[hn]
     by_cases hl:l.length≤i+1+0
     · rw[if_pos hl];exact⟨rfl,.inr ⟨by simp only[];omega,by simp only[];omega⟩⟩
     · rw[if_neg hl,if_pos rfl];exact⟨rfl,.inl (by simp only[];omega)⟩
def rS(a:Atr)(l:List (List Int))(i:Nat):Atr×Int:=
 if yR l i=38∨yR l i=48 then(xG a (yR l i) (qJ5 l i),qJ4 l i)else(dF a (yR l i) (l.getD i []),(i:Int)+1)
theorem Xy(a:Atr)(l:List (List Int))(i:Nat)(hi:i<l.length):∃j:Nat,(rS a l i).2=j∧i<j∧j≤l.length∧bB l.length (rS a l i).1 l j=bB l.length a l i:=by
 rw[iO l a i hi];unfold rS eL
 by_cases h:yR l i=38∨yR l i=48
 · rw[if_pos h,if_pos h];unfold qJ5 qJ4;simp only[]
   by_cases hg:1<(l.getD i []).length
   · rw[if_pos hg,if_pos hg,qKn l i hg];exact⟨i+1,by omega,by omega,by omega,rfl⟩
   · rw[if_neg hg,if_neg hg];obtain⟨e1,e2⟩:=qVp l i hi hg;rw[e1];have hm:i<(nI l i).2:=by
      have :=oF a l i;unfold eL at this;rw[if_pos h]at this;exact this
     rcases e2 with e2|⟨e2,e3⟩
     · by_cases hle:(nI l i).2≤l.length
       · exact⟨(nI l i).2,e2.symm,hm,hle,rfl⟩
       · exfalso;have hb:(i:Int)+(lL l i).2+1≤l.length:=by
          unfold lL
          split
          · simp only[];omega
          · split
            · simp only[];omega
            · simp only[];omega
         omega
     · exact⟨l.length,e3,hi,jD _,by rw[eV l _ _ _ (jD _),eV l _ _ _ e2]⟩
 · rw[if_neg h,if_neg h];exact⟨i+1,by simp only[];omega,by omega,by omega,rfl⟩
theorem putA_fl(a:Atr)(v:Int)(c:Option Col):(xG a v c).fl=a.fl:=by
 unfold xG;cases c with
 |none=>rfl
 |some c=>simp only[];split<;>rfl
theorem qJh{a:Atr}(h:cP a.fl)(v:Int)(g:List Int):cP (dF a v g).fl:=by
 unfold dF
 split
 · exact⟨by decide,by decide⟩
 · exact h.flags v g
theorem qQ4{a:Atr}(h:cP a.fl)(l:List (List Int))(i:Nat):cP (rS a l i).1.fl:=by
 unfold rS
 split
 · show cP (xG _ _ _).fl;rw[putA_fl];exact h
 · exact qJh h _ _
theorem simpA_4{a:Atr}(h:cP a.fl)(g:List Int):dF a 4 g={a with fl:=bits .or .i64 (bits .andNot .i64 a.fl 264) (QZ g)}:=by
 rw[flags4 h];rfl
set_option maxHeartbeats 6400000 in
theorem VU(a:Atr)(w:World):Calls jG 362 #[.agg (aL a).toArray,.int .i64 0] w (iA vI w):=by
 obtain⟨fk,fn,bk,bn,fl⟩:=a;unfold aL
 go_enter Tryz.func362,Tryz.ntmps362
 go_wp2
 exact bodyPost_ret (bW rfl _ _ (w.heap.size+1) (aL vI) rfl (uH (jT qV)) Tryz.underlying63 rfl pR) rfl ⟨rfl,jH (jH (jU _ _) _) _⟩
theorem qVs{a:Atr}(hf:cP a.fl)(v:Int)(g:List Int)(w:World)(h4:v≠4)(hv:0≤v)(hv2:v≤65535):Calls jG 362 #[.agg (aL a).toArray,.int .i64 v] w (iA (dF a v g) w):=by
 by_cases h0:v=0
 · subst h0;exact VU a w
 · rw[←simpB_A hf v hv h0 h4 g];exact XU a v w h0 hv hv2
end Go.Proofs.YtaefcahblmopfaaGreatDoor
