/- Joined by a tool of this claim out of smaller texts. Conditions: as stated. -/
import Derived.Test.YtaefcahblmopfaaGreatDoorDj30
set_option linter.unusedVariables false
set_option linter.unusedSimpArgs false
set_option maxRecDepth 100000
open Go.Lib renaming hid → Hd
open List renaming setIfInBounds_toArray → jZ, set_cons_zero → jX, set_cons_succ → jY, getElem?_eq_getElem → jN, drop_succ_cons → jL, take_succ_cons → jS, drop_zero → jO, take_zero → kK, getD_eq_getElem?_getD → kX
open Go.Proofs.Tryz renaming prog → jG
open Go.RowKit.Below renaming refl → jU
open Nat renaming le_refl → jD, le_trans → jI, add_zero → uA
open Go.IntWalk renaming i64_in → jF
open Go.IntKind renaming i64 → jE
open Go.World renaming ownsRow_nil → kS
namespace Go.Proofs.YtaefcahblmopfaaGreatDoor
open Go.RowKit
section
variable {w:World}{A:Option Addr}{H:List Gh}
set_option maxHeartbeats 1600000 in
theorem nG(hG:dC w A H)(ca:Nat)(hca:H.length≤ca)(hz:H.length≤1000000)(hzg:∀h∈H,h.g.length≤1000000)(usual:Int):
 Calls jG 132 #[.slice A H.length ca,.int .i64 0,.int .i64 usual] w fun e w'=>e=.returned (.int .i64 (rY (vU H) 0 usual))∧Below w.heap.size w w':=by
 have HC:=Hd (oE hG ca hca hz hzg);have hok:=nS (vU H);have hlen:=rM (vU H);unfold rY;generalize yP (vU H)=X at HC hok hlen ⊢;have HOK:=Hd hok;have HL:=Hd hlen;obtain⟨rv,hrv⟩:∃rv,(if 0<X.length then(if(X.getD 0 []).headD 0= -1 then usual else(X.getD 0 []).headD 0)else usual)=rv:=⟨_,rfl⟩;rw[hrv];have HRV:=Hd hrv;clear hG hok hz hzg hca hlen hrv
 go_enter Tryz.func132,Tryz.ntmps132
 go_upto_region 2 with(go_at_call 200;(with_reducible refine HC.o.mono ?_);rintro e w1 ⟨A1,H1,c1,rfl,hG1,hX,hb⟩;have HB:=Hd hb;have HG:=Hd hG1;have HX:=Hd hX;clear hb hG1 hX)
 have hlX:H1.length=X.length:=by rw[←HX.o];unfold vU;simp
 have hn3:=HL.o
 by_cases hi2:0<H1.length
 · obtain⟨x,gb,off,hx,rfl,hc,⟨hg,-⟩,e⟩:=HG.o.get hi2;rw[HX.o]at e;have h0:0<x.g.length:=by
    rw[←e,kX,jN qJ];exact(HOK.o _ (List.getElem_mem _)).1
   obtain⟨b,off2,hA,hc2⟩:=fS hg h0;rw[hA]at hc
   try rw[uA]at hc
   have hrv:=HRV.o;rw[if_pos qJ,e,rV]at hrv;rw[uA]at hc2;obtain⟨n,hn⟩:∃n,x.g.getD 0 0=n:=⟨_,rfl⟩;obtain⟨K,hK⟩:∃K,x.g.length=K:=⟨_,rfl⟩;obtain⟨L,hL⟩:∃L,H1.length=L:=⟨_,rfl⟩;rw[hn]at hc2 hrv;rw[hK]at h0 hc;rw[hL]at hi2 hlX ⊢;have HRV2:=Hd hrv;clear hrv HRV;have hL2:L≤32:=by omega
   have h0J:(0:Int)<(K:Int):=by omega
   have hiI:(0:Int)<(L:Int):=by omega
   have hiJ:¬(L:Int)≤(0:Int):=by omega
   clear hg hA hK hn e hx hL hlX hn3 HL
   by_cases hn1:n= -1
   · subst hn1
     go_wp2
     go_ret
     exact qYa
   · have hn2:(n== -1)=false:=beq_eq_false_iff_ne.2 hn1
     go_wp2
     go_ret
     exact⟨by rw[←HRV2.o,if_neg hn1];rfl,HB.o⟩
 · have hrv:=HRV.o;rw[if_neg qJ]at hrv;have HRV2:=Hd hrv;clear hrv HRV;obtain⟨L,hL⟩:∃L,H1.length=L:=⟨_,rfl⟩;rw[hL]at hi2 hlX ⊢;have hiI:¬(0:Int)<(L:Int):=by omega
   have hiJ:(L:Int)≤(0:Int):=by omega
   clear hL hlX hn3 HL
   go_wp2
   go_ret
   exact qYa
set_option maxHeartbeats 1600000 in
theorem fG(hG:dC w A H)(ca:Nat)(hca:H.length≤ca)(hz:H.length≤1000000)(hzg:∀h∈H,h.g.length≤1000000):
 Calls jG 211 #[.slice A H.length ca,.int .i64 0] w fun e w'=>e=.returned (.int .i64 (gR (vU H) 0))∧Below w.heap.size w w':=by
 have HG:=Hd (nG hG ca hca hz hzg 1);unfold gR;generalize rY (vU H) 0 1=k at HG ⊢;clear hG hca hz hzg
 go_enter Tryz.func211,Tryz.ntmps211
 go_wp2_with(go_at_call 132;(with_reducible refine HG.o.mono ?_);rintro e w1 ⟨rfl,hb⟩;have HB:=Hd hb;clear hb)
 all_goals
  go_ret
  refine⟨?_,HB.o⟩;show Ending.returned (Value.int .i64 _)=_
  congr 2<;>omega
set_option maxHeartbeats 1600000 in
theorem J4(hG:dC w A H)(ca:Nat)(hca:H.length≤ca)(hz:H.length≤1000000)(hzg:∀h∈H,h.g.length≤1000000)(usual:Int):
 Calls jG 132 #[.slice A H.length ca,.int .i64 1,.int .i64 usual] w fun e w'=>e=.returned (.int .i64 (rY (vU H) 1 usual))∧Below w.heap.size w w':=by
 have HC:=Hd (oE hG ca hca hz hzg);have hok:=nS (vU H);have hlen:=rM (vU H);unfold rY;generalize yP (vU H)=X at HC hok hlen ⊢;have HOK:=Hd hok;have HL:=Hd hlen;obtain⟨rv,hrv⟩:∃rv,(if 1<X.length then(if(X.getD 1 []).headD 0= -1 then usual else(X.getD 1 []).headD 0)else usual)=rv:=⟨_,rfl⟩;rw[hrv];have HRV:=Hd hrv;clear hG hok hz hzg hca hlen hrv
 go_enter Tryz.func132,Tryz.ntmps132
 go_upto_region 2 with(go_at_call 200;(with_reducible refine HC.o.mono ?_);rintro e w1 ⟨A1,H1,c1,rfl,hG1,hX,hb⟩;have HB:=Hd hb;have HG:=Hd hG1;have HX:=Hd hX;clear hb hG1 hX)
 have hlX:H1.length=X.length:=by rw[←HX.o];unfold vU;simp
 have hn3:=HL.o
 by_cases hi2:1<H1.length
 · obtain⟨x,gb,off,hx,rfl,hc,⟨hg,-⟩,e⟩:=HG.o.get hi2;rw[HX.o]at e;have h0:0<x.g.length:=by
    rw[←e,kX,jN qJ];exact(HOK.o _ (List.getElem_mem _)).1
   obtain⟨b,off2,hA,hc2⟩:=fS hg h0;rw[hA]at hc
   try rw[uA]at hc
   have hrv:=HRV.o;rw[if_pos qJ,e,rV]at hrv;rw[uA]at hc2;obtain⟨n,hn⟩:∃n,x.g.getD 0 0=n:=⟨_,rfl⟩;obtain⟨K,hK⟩:∃K,x.g.length=K:=⟨_,rfl⟩;obtain⟨L,hL⟩:∃L,H1.length=L:=⟨_,rfl⟩;rw[hn]at hc2 hrv;rw[hK]at h0 hc;rw[hL]at hi2 hlX ⊢;have HRV2:=Hd hrv;clear hrv HRV;have hL2:L≤32:=by omega
   have h0J:(0:Int)<(K:Int):=by omega
   have hiI:(1:Int)<(L:Int):=by omega
   have hiJ:¬(L:Int)≤(1:Int):=by omega
   clear hg hA hK hn e hx hL hlX hn3 HL
   by_cases hn1:n= -1
   · subst hn1
     go_wp2
     go_ret
     exact qYa
   · have hn2:(n== -1)=false:=beq_eq_false_iff_ne.2 hn1
     go_wp2
     go_ret
     exact⟨by rw[←HRV2.o,if_neg hn1];rfl,HB.o⟩
 · have hrv:=HRV.o;rw[if_neg qJ]at hrv;have HRV2:=Hd hrv;clear hrv HRV;obtain⟨L,hL⟩:∃L,H1.length=L:=⟨_,rfl⟩;rw[hL]at hi2 hlX ⊢;have hiI:¬(1:Int)<(L:Int):=by omega
   have hiJ:(L:Int)≤(1:Int):=by omega
   clear hL hlX hn3 HL
   go_wp2
   go_ret
   exact qYa
set_option maxHeartbeats 1600000 in
theorem wH(hG:dC w A H)(ca:Nat)(hca:H.length≤ca)(hz:H.length≤1000000)(hzg:∀h∈H,h.g.length≤1000000):
 Calls jG 211 #[.slice A H.length ca,.int .i64 1] w fun e w'=>e=.returned (.int .i64 (gR (vU H) 1))∧Below w.heap.size w w':=by
 have HG:=Hd (J4 hG ca hca hz hzg 1);unfold gR;generalize rY (vU H) 1 1=k at HG ⊢;clear hG hca hz hzg
 go_enter Tryz.func211,Tryz.ntmps211
 go_wp2_with(go_at_call 132;(with_reducible refine HG.o.mono ?_);rintro e w1 ⟨rfl,hb⟩;have HB:=Hd hb;clear hb)
 all_goals
  go_ret
  refine⟨?_,HB.o⟩;show Ending.returned (Value.int .i64 _)=_
  congr 2<;>omega
end
def wK(base:Nat)(w:World)(v:Tv)(t':Tm)(b:Bool)(e:Ending)(w':World):Prop:=e=.returned (.bool b)∧zF base w v t' w'
theorem KG(l:List (List Int))(i:Nat):1≤gR l i∧gR l i≤65535:=by
 unfold gR rY;have hok:=nS l
 split
 · next hi=>
   have hh:=hok _ (by rw[kX,jN hi];exact List.getElem_mem hi:(yP l).getD i []∈yP l);have h1:(yP l |>.getD i []).headD 0≤65535:=by
    cases hc:(yP l).getD i []with
    |nil=>show(0:Int)≤65535;decide
    |cons a g=>rw[hc]at hh;exact(hh.2.2 a (List.mem_cons_self ..)).2
   split<;>omega
 · omega
section
variable {base:Nat}{w:World}{v:Tv}{t:Tm}{A:Option Addr}{H:List Gh}
set_option maxHeartbeats 3200000 in
theorem VI(h:TmO base w v t)(hi:ScI (iR t))(k r p:Int)(hG:dC w A H)(ca:Nat)(hca:H.length≤ca)(hz:H.length≤1000000)(hzg:∀h∈H,h.g.length≤1000000)(s1 s2:ByteArray)(ct:Bool):
 Calls jG 140 #[.pointer (some ⟨v.M,0,none⟩),.agg #[.int .i64 k,.int .i32 r,.int .u8 72,.int .u8 p,.slice A H.length ca,.string s1,.string s2,.bool ct]] w (wK base w v (doT t (fun s=>sH s (gR (vU H) 0-1) (gR (vU H) 1-1))) true):=by
 obtain⟨W,hW⟩:∃W,w.alloc (.cells #[.int .i64 k,.int .i32 r,.int .u8 72,.int .u8 p,.slice A H.length ca,.string s1,.string s2,.bool ct] 83)=W:=⟨_,rfl⟩;have hb0:Below w.heap.size w W:=by rw[←hW];exact jH (jU _ _) _
 have hn0:W.heap[w.heap.size]? =some (.cells #[.int .i64 k,.int .i32 r,.int .u8 72,.int .u8 p,.slice A H.length ca,.string s1,.string s2,.bool ct] 83 (0,0)):=by rw[←hW];exact jT rfl
 have HS:Hid (∀w',Below W.heap.size W w'→Calls jG 11 #[.pointer (some ⟨v.M,0,none⟩)] w' fun e w2=>e=.returned (.pointer (some ⟨(fJ v t).S,0,none⟩))∧Below w'.heap.size w' w2):=Hd (fun w' hb=>dV (h.below (jW hb0 hb)));have HC0:Hid (∀w',Below W.heap.size W w'→Calls jG 211 #[.slice A H.length ca,.int .i64 0] w' fun e w2=>e=.returned (.int .i64 (gR (vU H) 0))∧Below w'.heap.size w' w2):=Hd (fun w' hb=>fG (hG.below (jW hb0 hb)) ca hca hz hzg);have HC1:Hid (∀w',Below W.heap.size W w'→Calls jG 211 #[.slice A H.length ca,.int .i64 1] w' fun e w2=>e=.returned (.int .i64 (gR (vU H) 1))∧Below w'.heap.size w' w2):=Hd (fun w' hb=>wH (hG.below (jW hb0 hb)) ca hca hz hzg);have hc0:=KG (vU H) 0;have hc1:=KG (vU H) 1;generalize gR (vU H) 0=n0 at HC0 hc0 ⊢;generalize gR (vU H) 1=n1 at HC1 hc1 ⊢;have HM:Hid (∀w',Below W.heap.size W w'→Calls jG 213 #[.pointer (some ⟨(fJ v t).S,0,none⟩),.int .i64 (n0-1),.int .i64 (n1-1)] w' (fK base w' (fJ v t) (sH (iR t) (n0-1) (n1-1)))):=Hd (fun w' hb=>Wi ((h.below (jW hb0 hb)).cur) hi.t0 hi.tb hi.b1 _ _);have HNX:Hid (w.heap.size∉scX (fJ v t)):=Hd (fun hx=>by have :=(h.cur.lt _ hx).2;omega);have hw0:jE.wrap (n0-1)=n0-1:=jF _ qJ;have hw1:jE.wrap (n1-1)=n1-1:=jF _ qJ
 have HO:=Hd h;have HB0:=Hd hb0;have d2:W.cell? ⟨w.heap.size,2,none⟩=some (.int .u8 72):=(at_ hn0 2 _ rfl).1;have d4:W.cell? ⟨w.heap.size,4,none⟩=some (.slice A H.length ca):=(at_ hn0 4 _ rfl).1;generalize hN:H.length=N at HC0 HC1 d4 hW;clear h hi hb0 hn0 hG hca hz hzg hc0 hc1 hN
 go_enter Tryz.func140,Tryz.ntmps140
 go_upto_region 2 with(go_at_call 11;(with_reducible refine(HS.o _ (jU _ _)).mono ?_);rintro e w1 ⟨rfl,hb⟩;have d2:=kZ hb d2;have d4:=kZ hb d4;have HB1:=Hd hb;clear hb)
 refine kW 6 (fun w'=>Below W.heap.size W w'∧w'.cell? ⟨w.heap.size,4,none⟩=some (.slice A N ca)∧w'.cell? ⟨w.heap.size,2,none⟩=some (.int .u8 72)) qQ qQ ?_ ?_
 · exact⟨HB1.o.drew,d4,d2⟩
 simp only[jS,kK,jL,jO]
 repeat(
  (first
   |refine kF qK ?_
   |((refine uO 211 #[.slice A N ca,.int .i64 0] (.int .i64 n0) qK ?_ (fun w' hS=>(HC0.o w' hS.1).mono fun e w2 ⟨he,hb⟩=>⟨he,jW hS.1 hb,kZ hb hS.2.1,kZ hb hS.2.2⟩) ?_;(focus(intro w2;go_simp;done))))
   |((refine uO 211 #[.slice A N ca,.int .i64 1] (.int .i64 n1) qK ?_ (fun w' hS=>(HC1.o w' hS.1).mono fun e w2 ⟨he,hb⟩=>⟨he,jW hS.1 hb,kZ hb hS.2.1,kZ hb hS.2.2⟩) ?_;(focus(intro w2;go_simp;done))))
   |(refine kT ?_ qK ?_ ?_;rotate_left;(focus(intro w' hS;obtain⟨hS0,hS1,hS2⟩:=hS;go_simp;first|done|with_reducible rfl))))
  simp only[Act.put,jZ,jX,jY])
 refine kE (fun w' hS=>?_);obtain⟨hb2,-,e2⟩:=hS;have HB2:=Hd hb2;clear hb2 d2 d4
 go_wp2_with(go_at_call 213;(with_reducible refine(HM.o _ HB2.o).mono ?_);rintro e w2 ⟨rfl,hr⟩;have HR:=Hd (HO.o.does (jW HB0.o HB2.o) hr);have d2:=(show Mod (scX (fJ v t)) w' w2 from by obtain⟨-,-,-,-,-,hm,-⟩:=hr;exact hm).cell HNX.o e2;clear hr)
 go_ret
 exact⟨rfl,HR.o⟩
set_option maxHeartbeats 3200000 in
theorem rT(h:TmO base w v t)(k r b p:Int)(hb:b=109∨b=88)(hG:dC w A H)(ca:Nat)(hca:H.length≤ca)(hz:H.length≤1000000)(hzg:∀h∈H,h.g.length≤1000000)(s1 s2:ByteArray)(ct:Bool):
 Calls jG 140 #[.pointer (some ⟨v.M,0,none⟩),.agg #[.int .i64 k,.int .i32 r,.int .u8 b,.int .u8 p,.slice A H.length ca,.string s1,.string s2,.bool ct]] w fun e w'=>e=.returned (.bool false)∧Below w.heap.size w w':=by
 obtain⟨W,hW⟩:∃W,w.alloc (.cells #[.int .i64 k,.int .i32 r,.int .u8 b,.int .u8 p,.slice A H.length ca,.string s1,.string s2,.bool ct] 83)=W:=⟨_,rfl⟩;have hb0:Below w.heap.size w W:=by rw[←hW];exact jH (jU _ _) _
 have hn0:W.heap[w.heap.size]? =some (.cells #[.int .i64 k,.int .i32 r,.int .u8 b,.int .u8 p,.slice A H.length ca,.string s1,.string s2,.bool ct] 83 (0,0)):=by rw[←hW];exact jT rfl
 have HS:Hid (∀w',Below W.heap.size W w'→Calls jG 11 #[.pointer (some ⟨v.M,0,none⟩)] w' fun e w2=>e=.returned (.pointer (some ⟨(fJ v t).S,0,none⟩))∧Below w'.heap.size w' w2):=Hd (fun w' hb=>dV (h.below (jW hb0 hb)));have HC0:Hid (∀w',Below W.heap.size W w'→Calls jG 211 #[.slice A H.length ca,.int .i64 0] w' fun e w2=>e=.returned (.int .i64 (gR (vU H) 0))∧Below w'.heap.size w' w2):=Hd (fun w' hb=>fG (hG.below (jW hb0 hb)) ca hca hz hzg);have HC1:Hid (∀w',Below W.heap.size W w'→Calls jG 211 #[.slice A H.length ca,.int .i64 1] w' fun e w2=>e=.returned (.int .i64 (gR (vU H) 1))∧Below w'.heap.size w' w2):=Hd (fun w' hb=>wH (hG.below (jW hb0 hb)) ca hca hz hzg);generalize gR (vU H) 0=n0 at HC0;generalize gR (vU H) 1=n1 at HC1;have HB0:=Hd hb0;have d2:W.cell? ⟨w.heap.size,2,none⟩=some (.int .u8 b):=(at_ hn0 2 _ rfl).1;have d4:W.cell? ⟨w.heap.size,4,none⟩=some (.slice A H.length ca):=(at_ hn0 4 _ rfl).1;generalize hN:H.length=N at HC0 HC1 d4 hW;clear h hb0 hn0 hG hca hz hzg hN
 go_enter Tryz.func140,Tryz.ntmps140
 go_upto_region 2 with(go_at_call 11;(with_reducible refine(HS.o _ (jU _ _)).mono ?_);rintro e w1 ⟨rfl,hb⟩;have d2:=kZ hb d2;have d4:=kZ hb d4;have HB1:=Hd hb;clear hb)
 refine kW 6 (fun w'=>Below W.heap.size W w'∧w'.cell? ⟨w.heap.size,4,none⟩=some (.slice A N ca)∧w'.cell? ⟨w.heap.size,2,none⟩=some (.int .u8 b)) qQ qQ ?_ ?_
 · exact⟨HB1.o.drew,d4,d2⟩
 simp only[jS,kK,jL,jO]
 repeat(
  (first
   |refine kF qK ?_
   |((refine uO 211 #[.slice A N ca,.int .i64 0] (.int .i64 n0) qK ?_ (fun w' hS=>(HC0.o w' hS.1).mono fun e w2 ⟨he,hb⟩=>⟨he,jW hS.1 hb,kZ hb hS.2.1,kZ hb hS.2.2⟩) ?_;(focus(intro w2;go_simp;done))))
   |((refine uO 211 #[.slice A N ca,.int .i64 1] (.int .i64 n1) qK ?_ (fun w' hS=>(HC1.o w' hS.1).mono fun e w2 ⟨he,hb⟩=>⟨he,jW hS.1 hb,kZ hb hS.2.1,kZ hb hS.2.2⟩) ?_;(focus(intro w2;go_simp;done))))
   |(refine kT ?_ qK ?_ ?_;rotate_left;(focus(intro w' hS;obtain⟨hS0,hS1,hS2⟩:=hS;go_simp;first|done|with_reducible rfl))))
  simp only[Act.put,jZ,jX,jY])
 refine kE (fun w' hS=>?_);obtain⟨hb2,-,e2⟩:=hS;have HB2:=Hd hb2;clear hb2 d2 d4;rcases hb with rfl|rfl
 all_goals
  go_wp2_with fail
  go_ret
  exact⟨rfl,jW HB0.o HB2.o⟩
set_option maxHeartbeats 3200000 in
theorem Vq(h:TmO base w v t)(hi:ScI (iR t))(k r p:Int)(hG:dC w A H)(ca:Nat)(hca:H.length≤ca)(hz:H.length≤1000000)(hzg:∀h∈H,h.g.length≤1000000)(s1 s2:ByteArray)(ct:Bool):
 Calls jG 141 #[.pointer (some ⟨v.M,0,none⟩),.agg #[.int .i64 k,.int .i32 r,.int .u8 88,.int .u8 p,.slice A H.length ca,.string s1,.string s2,.bool ct]] w (wK base w v (doT t (fun s=>zT s (gR (vU H) 0))) true):=by
 obtain⟨W,hW⟩:∃W,w.alloc (.cells #[.int .i64 k,.int .i32 r,.int .u8 88,.int .u8 p,.slice A H.length ca,.string s1,.string s2,.bool ct] 83)=W:=⟨_,rfl⟩;have hb0:Below w.heap.size w W:=by rw[←hW];exact jH (jU _ _) _
 have hn0:W.heap[w.heap.size]? =some (.cells #[.int .i64 k,.int .i32 r,.int .u8 88,.int .u8 p,.slice A H.length ca,.string s1,.string s2,.bool ct] 83 (0,0)):=by rw[←hW];exact jT rfl
 have HS:Hid (∀w',Below W.heap.size W w'→Calls jG 11 #[.pointer (some ⟨v.M,0,none⟩)] w' fun e w2=>e=.returned (.pointer (some ⟨(fJ v t).S,0,none⟩))∧Below w'.heap.size w' w2):=Hd (fun w' hb=>dV (h.below (jW hb0 hb)));have HC0:Hid (∀w',Below W.heap.size W w'→Calls jG 211 #[.slice A H.length ca,.int .i64 0] w' fun e w2=>e=.returned (.int .i64 (gR (vU H) 0))∧Below w'.heap.size w' w2):=Hd (fun w' hb=>fG (hG.below (jW hb0 hb)) ca hca hz hzg);generalize gR (vU H) 0=n0 at HC0 ⊢;have HM:Hid (∀w',Below W.heap.size W w'→Calls jG 219 #[.pointer (some ⟨(fJ v t).S,0,none⟩),.int .i64 n0] w' (fK base w' (fJ v t) (zT (iR t) n0))):=Hd (fun w' hb=>xX ((h.below (jW hb0 hb)).cur) hi _);have HO:=Hd h;have HB0:=Hd hb0;have d2:W.cell? ⟨w.heap.size,2,none⟩=some (.int .u8 88):=(at_ hn0 2 _ rfl).1;have d4:W.cell? ⟨w.heap.size,4,none⟩=some (.slice A H.length ca):=(at_ hn0 4 _ rfl).1;generalize hN:H.length=N at HC0 d4 hW;clear h hb0 hn0 hG hca hz hzg hi
 go_enter Tryz.func141,Tryz.ntmps141
 go_wp2_with(first
  |(go_at_call 11;(with_reducible refine(HS.o _ (jU _ _)).mono ?_);rintro e w1 ⟨rfl,hb⟩;have d2:=kZ hb d2;have d4:=kZ hb d4;have HB1:=Hd hb;clear hb)
  |(go_at_call 211;(with_reducible refine(HC0.o _ HB1.o).mono ?_);rintro e w2 ⟨rfl,hb⟩;have d2:=kZ hb d2;have d4:=kZ hb d4;have HB2:=Hd (jW HB1.o hb);clear hb)
  |(go_at_call 219;(with_reducible refine(HM.o _ HB2.o).mono ?_);rintro e w3 ⟨rfl,hr⟩;have HR:=Hd (HO.o.does (jW HB0.o HB2.o) hr);clear hr))
 go_ret
 exact⟨rfl,HR.o⟩
set_option maxHeartbeats 3200000 in
theorem Vj(h:TmO base w v t)(hf:cP (iR t).pen.at_.fl)(k r p:Int)(hG:dC w A H)(ca:Nat)(hca:H.length≤ca)(hz:H.length≤1000000)(hzg:∀h∈H,h.g.length≤1000000)(s1 s2:ByteArray)(ct:Bool):
 Calls jG 141 #[.pointer (some ⟨v.M,0,none⟩),.agg #[.int .i64 k,.int .i32 r,.int .u8 109,.int .u8 p,.slice A H.length ca,.string s1,.string s2,.bool ct]] w (wK base w v (doT t (fun s=>iI s (vU H))) true):=by
 obtain⟨W,hW⟩:∃W,w.alloc (.cells #[.int .i64 k,.int .i32 r,.int .u8 109,.int .u8 p,.slice A H.length ca,.string s1,.string s2,.bool ct] 83)=W:=⟨_,rfl⟩;have hb0:Below w.heap.size w W:=by rw[←hW];exact jH (jU _ _) _
 have hn0:W.heap[w.heap.size]? =some (.cells #[.int .i64 k,.int .i32 r,.int .u8 109,.int .u8 p,.slice A H.length ca,.string s1,.string s2,.bool ct] 83 (0,0)):=by rw[←hW];exact jT rfl
 have HS:Hid (∀w',Below W.heap.size W w'→Calls jG 11 #[.pointer (some ⟨v.M,0,none⟩)] w' fun e w2=>e=.returned (.pointer (some ⟨(fJ v t).S,0,none⟩))∧Below w'.heap.size w' w2):=Hd (fun w' hb=>dV (h.below (jW hb0 hb)));have HC0:Hid (∀w',Below W.heap.size W w'→Calls jG 211 #[.slice A H.length ca,.int .i64 0] w' fun e w2=>e=.returned (.int .i64 (gR (vU H) 0))∧Below w'.heap.size w' w2):=Hd (fun w' hb=>fG (hG.below (jW hb0 hb)) ca hca hz hzg);generalize gR (vU H) 0=n0 at HC0;have HM:Hid (∀w',Below W.heap.size W w'→Calls jG 221 #[.pointer (some ⟨(fJ v t).S,0,none⟩),.slice A H.length ca] w' (fK base w' (fJ v t) (iI (iR t) (vU H)))):=Hd (fun w' hb=>We ((h.below (jW hb0 hb)).cur) hf (hG.below (jW hb0 hb)) ca hca hz hzg);have HO:=Hd h;have HB0:=Hd hb0;have d2:W.cell? ⟨w.heap.size,2,none⟩=some (.int .u8 109):=(at_ hn0 2 _ rfl).1;have d4:W.cell? ⟨w.heap.size,4,none⟩=some (.slice A H.length ca):=(at_ hn0 4 _ rfl).1;generalize hN:H.length=N at HC0 HM d4 hW;clear h hb0 hn0 hG hca hz hzg hf
 go_enter Tryz.func141,Tryz.ntmps141
 go_wp2_with(first
  |(go_at_call 11;(with_reducible refine(HS.o _ (jU _ _)).mono ?_);rintro e w1 ⟨rfl,hb⟩;have d2:=kZ hb d2;have d4:=kZ hb d4;have HB1:=Hd hb;clear hb)
  |(go_at_call 211;(with_reducible refine(HC0.o _ HB1.o).mono ?_);rintro e w2 ⟨rfl,hb⟩;have d2:=kZ hb d2;have d4:=kZ hb d4;have HB2:=Hd (jW HB1.o hb);clear hb)
  |(go_at_call 221;(with_reducible refine(HM.o _ HB2.o).mono ?_);rintro e w3 ⟨rfl,hr⟩;have HR:=Hd (HO.o.does (jW HB0.o HB2.o) hr);clear hr))
 go_ret
 exact⟨rfl,HR.o⟩
end
theorem iS(w:World)(g:Nat)(c:Int)(h:w.cell? ⟨g,0,none⟩=some (.int .u8 c)):(convert 23 9 (.slice (some ⟨g,0,none⟩) 1 1)).run jG w=.ok (.string (strOfNums [c])) w:=by
 refine run_convert_bytes_arg w 23 5 Tryz.underlying23 Tryz.underlying5 g 0 1 1 [c] rfl (fun i hi=>?_) 9 Tryz.underlying9;have hi0:i=0:=by simp at hi;omega
 subst hi0;exact h
section
variable {base:Nat}{w:World}{v:Tv}{t:Tm}{A:Option Addr}{H:List Gh}
set_option maxHeartbeats 3200000 in
theorem aG(h:TmO base w v t)(hi:ScI (iR t))(k r:Int)(hG:dC w A H)(ca:Nat)(hca:H.length≤ca)(hz:H.length≤1000000)(hzg:∀h∈H,h.g.length≤1000000)(s2:ByteArray)(ct:Bool):
 Calls jG 75 #[.pointer (some ⟨v.M,0,none⟩),.agg #[.int .i64 k,.int .i32 r,.int .u8 72,.int .u8 0,.slice A H.length ca,.string ⟨#[]⟩,.string s2,.bool ct]] w (nQ base w v (doT t (fun s=>sH s (gR (vU H) 0-1) (gR (vU H) 1-1)))):=by
 obtain⟨W,hW⟩:∃W,w.alloc (.cells #[.int .i64 k,.int .i32 r,.int .u8 72,.int .u8 0,.slice A H.length ca,.string ⟨#[]⟩,.string s2,.bool ct] 83)=W:=⟨_,rfl⟩;have hb0:Below w.heap.size w W:=by rw[←hW];exact jH (jU _ _) _
 have hn0:W.heap[w.heap.size]? =some (.cells #[.int .i64 k,.int .i32 r,.int .u8 72,.int .u8 0,.slice A H.length ca,.string ⟨#[]⟩,.string s2,.bool ct] 83 (0,0)):=by rw[←hW];exact jT rfl
 have HG0:Hid (∀w',Below W.heap.size W w'→Calls jG 132 #[.slice A H.length ca,.int .i64 0,.int .i64 0] w' fun e w2=>e=.returned (.int .i64 (rY (vU H) 0 0))∧Below w'.heap.size w' w2):=Hd (fun w' hb=>nG (hG.below (jW hb0 hb)) ca hca hz hzg 0);have HM:Hid (∀w',Below W.heap.size W w'→Calls jG 140 #[.pointer (some ⟨v.M,0,none⟩),.agg #[.int .i64 k,.int .i32 r,.int .u8 72,.int .u8 0,.slice A H.length ca,.string ⟨#[]⟩,.string s2,.bool ct]] w' (wK base w' v (doT t (fun s=>sH s (gR (vU H) 0-1) (gR (vU H) 1-1))) true)):=Hd (fun w' hb=>VI (h.below (jW hb0 hb)) hi k r 0 (hG.below (jW hb0 hb)) ca hca hz hzg ⟨#[]⟩ s2 ct);generalize rY (vU H) 0 0=n0 at HG0;have HB0:=Hd hb0;have HN0:=Hd hn0;generalize hN:H.length=N at HG0 HM hW HN0;clear h hi hb0 hn0 hG hca hz hzg hN;have d2:W.cell? ⟨w.heap.size,2,none⟩=some (.int .u8 72):=(at_ HN0.o 2 _ rfl).1;have d3:W.cell? ⟨w.heap.size,3,none⟩=some (.int .u8 0):=(at_ HN0.o 3 _ rfl).1;have d4:W.cell? ⟨w.heap.size,4,none⟩=some (.slice A N ca):=(at_ HN0.o 4 _ rfl).1;have d5:W.cell? ⟨w.heap.size,5,none⟩=some (.string ⟨#[]⟩):=(at_ HN0.o 5 _ rfl).1
 go_enter Tryz.func75,Tryz.ntmps75
 go_upto_region 2 with(go_at_call 132;(with_reducible refine(HG0.o _ (jU _ _)).mono ?_);rintro e w1 ⟨rfl,hb⟩;have d2:=kZ hb d2;have d3:=kZ hb d3;have d5:=kZ hb d5;have HB1:=Hd hb;clear hb)
 refine wp_region_lit ?_;refine jB (.pointer (some ⟨w.heap.size,3,none⟩)) qK qK ?_;simp only[Act.put,jZ,jX,jY];refine jB (.int .u8 0) qK qX ?_;simp only[Act.put,jZ,jX,jY];refine uC (.slice (some ⟨w1.heap.size,0,none⟩) 1 1) (w1.alloc (.cells #[.int .u8 0] 5)) qK qX ?_;simp only[Act.put,jZ,jX,jY];have hba:=jH (jU w1.heap.size w1) (.cells #[.int .u8 0] 5);have hna:=jT (W:=w1) (o:=.cells #[.int .u8 0] 5) rfl;have hcv:(convert 23 9 (.slice (some ⟨w1.heap.size,0,none⟩) 1 1)).run jG (w1.alloc (.cells #[.int .u8 0] 5))=.ok (.string ⟨#[0]⟩) (w1.alloc (.cells #[.int .u8 0] 5)):=iS _ w1.heap.size 0 (at_ hna 0 _ rfl).1;have d2:=kZ hba d2;have d5:=kZ hba d5;have HB2:=Hd (jW HB1.o hba);generalize w1.alloc (.cells #[.int .u8 0] 5)=w2 at hcv d2 d5 HB2 ⊢;clear hba hna;refine jB (.string ⟨#[0]⟩) qK qX ?_;simp only[Act.put,jZ,jX,jY];clear hcv;refine jB (.pointer (some ⟨w.heap.size,5,none⟩)) qK qK ?_;simp only[Act.put,jZ,jX,jY];refine jB (.string ⟨#[]⟩) qK qX ?_;simp only[Act.put,jZ,jX,jY];refine jB (.string ⟨#[0]⟩) qK qK ?_;simp only[Act.put,jZ,jX,jY];refine jB (.pointer (some ⟨w.heap.size,2,none⟩)) qK qK ?_;simp only[Act.put,jZ,jX,jY];refine jB (.int .u8 72) qK qX ?_;simp only[Act.put,jZ,jX,jY]
 refine uC (.slice (some ⟨w2.heap.size,0,none⟩) 1 1) (w2.alloc (.cells #[.int .u8 72] 5)) qK qX ?_;simp only[Act.put,jZ,jX,jY];have hba:=jH (jU w2.heap.size w2) (.cells #[.int .u8 72] 5);have hna:=jT (W:=w2) (o:=.cells #[.int .u8 72] 5) rfl;have hcv:(convert 23 9 (.slice (some ⟨w2.heap.size,0,none⟩) 1 1)).run jG (w2.alloc (.cells #[.int .u8 72] 5))=.ok (.string ⟨#[72]⟩) (w2.alloc (.cells #[.int .u8 72] 5)):=iS _ w2.heap.size 72 (at_ hna 0 _ rfl).1;have HB3:=Hd (jW HB2.o hba);generalize w2.alloc (.cells #[.int .u8 72] 5)=w3 at hcv HB3 ⊢;clear hba hna d2 d5;refine jB (.string ⟨#[72]⟩) qK qX ?_;simp only[Act.put,jZ,jX,jY];clear hcv;refine jB (.string ⟨#[0,72]⟩) qK qK ?_;simp only[Act.put,jZ,jX,jY];have hn3:=(HB3.o.block _ (jR HN0.o)).trans HN0.o;have d3:w3.cell? ⟨w.heap.size,3,none⟩=some (.int .u8 0):=(at_ hn3 3 _ rfl).1;have d5:w3.cell? ⟨w.heap.size,5,none⟩=some (.string ⟨#[]⟩):=(at_ hn3 5 _ rfl).1;have d0:w3.cell? ⟨w.heap.size,0,none⟩=some (.int .i64 k):=(at_ hn3 0 _ rfl).1;have d1:w3.cell? ⟨w.heap.size,1,none⟩=some (.int .i32 r):=(at_ hn3 1 _ rfl).1;have d2:w3.cell? ⟨w.heap.size,2,none⟩=some (.int .u8 72):=(at_ hn3 2 _ rfl).1
 have d4:w3.cell? ⟨w.heap.size,4,none⟩=some (.slice A N ca):=(at_ hn3 4 _ rfl).1;have d6:w3.cell? ⟨w.heap.size,6,none⟩=some (.string s2):=(at_ hn3 6 _ rfl).1;have d7:w3.cell? ⟨w.heap.size,7,none⟩=some (.bool ct):=(at_ hn3 7 _ rfl).1;clear hn3
 go_upto_region 21 with fail
 go_wp2_with(go_at_call 140;(with_reducible refine(HM.o _ HB3.o).mono ?_);rintro e w4 ⟨rfl,hr⟩;have HR:=Hd (zF.pre (jW HB0.o HB3.o) hr);clear hr)
 go_end0
 exact⟨rfl,HR.o⟩
set_option maxHeartbeats 3200000 in
theorem aX(h:TmO base w v t)(hi:ScI (iR t))(k r:Int)(hG:dC w A H)(ca:Nat)(hca:H.length≤ca)(hz:H.length≤1000000)(hzg:∀h∈H,h.g.length≤1000000)(s2:ByteArray)(ct:Bool):
 Calls jG 75 #[.pointer (some ⟨v.M,0,none⟩),.agg #[.int .i64 k,.int .i32 r,.int .u8 88,.int .u8 0,.slice A H.length ca,.string ⟨#[]⟩,.string s2,.bool ct]] w (nQ base w v (doT t (fun s=>zT s (gR (vU H) 0)))):=by
 obtain⟨W,hW⟩:∃W,w.alloc (.cells #[.int .i64 k,.int .i32 r,.int .u8 88,.int .u8 0,.slice A H.length ca,.string ⟨#[]⟩,.string s2,.bool ct] 83)=W:=⟨_,rfl⟩;have hb0:Below w.heap.size w W:=by rw[←hW];exact jH (jU _ _) _
 have hn0:W.heap[w.heap.size]? =some (.cells #[.int .i64 k,.int .i32 r,.int .u8 88,.int .u8 0,.slice A H.length ca,.string ⟨#[]⟩,.string s2,.bool ct] 83 (0,0)):=by rw[←hW];exact jT rfl
 have HG0:Hid (∀w',Below W.heap.size W w'→Calls jG 132 #[.slice A H.length ca,.int .i64 0,.int .i64 0] w' fun e w2=>e=.returned (.int .i64 (rY (vU H) 0 0))∧Below w'.heap.size w' w2):=Hd (fun w' hb=>nG (hG.below (jW hb0 hb)) ca hca hz hzg 0);have HM:Hid (∀w',Below W.heap.size W w'→Calls jG 140 #[.pointer (some ⟨v.M,0,none⟩),.agg #[.int .i64 k,.int .i32 r,.int .u8 88,.int .u8 0,.slice A H.length ca,.string ⟨#[]⟩,.string s2,.bool ct]] w' fun e w2=>e=.returned (.bool false)∧Below w'.heap.size w' w2):=Hd (fun w' hb=>rT (h.below (jW hb0 hb)) k r 88 0 qZ (hG.below (jW hb0 hb)) ca hca hz hzg ⟨#[]⟩ s2 ct);have HE:Hid (∀w',Below W.heap.size W w'→Calls jG 141 #[.pointer (some ⟨v.M,0,none⟩),.agg #[.int .i64 k,.int .i32 r,.int .u8 88,.int .u8 0,.slice A H.length ca,.string ⟨#[]⟩,.string s2,.bool ct]] w' (wK base w' v (doT t (fun s=>zT s (gR (vU H) 0))) true)):=Hd (fun w' hb=>Vq (h.below (jW hb0 hb)) hi k r 0 (hG.below (jW hb0 hb)) ca hca hz hzg ⟨#[]⟩ s2 ct);generalize rY (vU H) 0 0=n0 at HG0;have HB0:=Hd hb0;have HN0:=Hd hn0;generalize hN:H.length=N at HG0 HM hW HN0 HE;clear h hi hb0 hn0 hG hca hz hzg hN;have d2:W.cell? ⟨w.heap.size,2,none⟩=some (.int .u8 88):=(at_ HN0.o 2 _ rfl).1
 have d3:W.cell? ⟨w.heap.size,3,none⟩=some (.int .u8 0):=(at_ HN0.o 3 _ rfl).1;have d4:W.cell? ⟨w.heap.size,4,none⟩=some (.slice A N ca):=(at_ HN0.o 4 _ rfl).1;have d5:W.cell? ⟨w.heap.size,5,none⟩=some (.string ⟨#[]⟩):=(at_ HN0.o 5 _ rfl).1
 go_enter Tryz.func75,Tryz.ntmps75
 go_upto_region 2 with(go_at_call 132;(with_reducible refine(HG0.o _ (jU _ _)).mono ?_);rintro e w1 ⟨rfl,hb⟩;have d2:=kZ hb d2;have d3:=kZ hb d3;have d5:=kZ hb d5;have HB1:=Hd hb;clear hb)
 refine wp_region_lit ?_;refine jB (.pointer (some ⟨w.heap.size,3,none⟩)) qK qK ?_;simp only[Act.put,jZ,jX,jY];refine jB (.int .u8 0) qK qX ?_;simp only[Act.put,jZ,jX,jY];refine uC (.slice (some ⟨w1.heap.size,0,none⟩) 1 1) (w1.alloc (.cells #[.int .u8 0] 5)) qK qX ?_;simp only[Act.put,jZ,jX,jY];have hba:=jH (jU w1.heap.size w1) (.cells #[.int .u8 0] 5);have hna:=jT (W:=w1) (o:=.cells #[.int .u8 0] 5) rfl;have hcv:(convert 23 9 (.slice (some ⟨w1.heap.size,0,none⟩) 1 1)).run jG (w1.alloc (.cells #[.int .u8 0] 5))=.ok (.string ⟨#[0]⟩) (w1.alloc (.cells #[.int .u8 0] 5)):=iS _ w1.heap.size 0 (at_ hna 0 _ rfl).1;have d2:=kZ hba d2;have d5:=kZ hba d5;have HB2:=Hd (jW HB1.o hba);generalize w1.alloc (.cells #[.int .u8 0] 5)=w2 at hcv d2 d5 HB2 ⊢;clear hba hna;refine jB (.string ⟨#[0]⟩) qK qX ?_;simp only[Act.put,jZ,jX,jY];clear hcv;refine jB (.pointer (some ⟨w.heap.size,5,none⟩)) qK qK ?_;simp only[Act.put,jZ,jX,jY];refine jB (.string ⟨#[]⟩) qK qX ?_;simp only[Act.put,jZ,jX,jY];refine jB (.string ⟨#[0]⟩) qK qK ?_;simp only[Act.put,jZ,jX,jY];refine jB (.pointer (some ⟨w.heap.size,2,none⟩)) qK qK ?_;simp only[Act.put,jZ,jX,jY];refine jB (.int .u8 88) qK qX ?_;simp only[Act.put,jZ,jX,jY]
 refine uC (.slice (some ⟨w2.heap.size,0,none⟩) 1 1) (w2.alloc (.cells #[.int .u8 88] 5)) qK qX ?_;simp only[Act.put,jZ,jX,jY];have hba:=jH (jU w2.heap.size w2) (.cells #[.int .u8 88] 5);have hna:=jT (W:=w2) (o:=.cells #[.int .u8 88] 5) rfl;have hcv:(convert 23 9 (.slice (some ⟨w2.heap.size,0,none⟩) 1 1)).run jG (w2.alloc (.cells #[.int .u8 88] 5))=.ok (.string ⟨#[88]⟩) (w2.alloc (.cells #[.int .u8 88] 5)):=iS _ w2.heap.size 88 (at_ hna 0 _ rfl).1;have HB3:=Hd (jW HB2.o hba);generalize w2.alloc (.cells #[.int .u8 88] 5)=w3 at hcv HB3 ⊢;clear hba hna d2 d5;refine jB (.string ⟨#[88]⟩) qK qX ?_;simp only[Act.put,jZ,jX,jY];clear hcv;refine jB (.string ⟨#[0,88]⟩) qK qK ?_;simp only[Act.put,jZ,jX,jY];have hn3:=(HB3.o.block _ (jR HN0.o)).trans HN0.o;have d3:w3.cell? ⟨w.heap.size,3,none⟩=some (.int .u8 0):=(at_ hn3 3 _ rfl).1;have d5:w3.cell? ⟨w.heap.size,5,none⟩=some (.string ⟨#[]⟩):=(at_ hn3 5 _ rfl).1;have d0:w3.cell? ⟨w.heap.size,0,none⟩=some (.int .i64 k):=(at_ hn3 0 _ rfl).1;have d1:w3.cell? ⟨w.heap.size,1,none⟩=some (.int .i32 r):=(at_ hn3 1 _ rfl).1;have d2:w3.cell? ⟨w.heap.size,2,none⟩=some (.int .u8 88):=(at_ hn3 2 _ rfl).1
 have d4:w3.cell? ⟨w.heap.size,4,none⟩=some (.slice A N ca):=(at_ hn3 4 _ rfl).1;have d6:w3.cell? ⟨w.heap.size,6,none⟩=some (.string s2):=(at_ hn3 6 _ rfl).1;have d7:w3.cell? ⟨w.heap.size,7,none⟩=some (.bool ct):=(at_ hn3 7 _ rfl).1;clear hn3
 go_upto_region 21 with fail
 go_wp2_with(first
  |(go_at_call 140;(with_reducible refine(HM.o _ HB3.o).mono ?_);rintro e w4 ⟨rfl,hb⟩;have d0:=kZ hb d0;have d1:=kZ hb d1;have d2:=kZ hb d2;have d3:=kZ hb d3;have d4:=kZ hb d4;have d5:=kZ hb d5;have d6:=kZ hb d6;have d7:=kZ hb d7;have HB4:=Hd (jW HB3.o hb);clear hb)
  |(go_at_call 141;(with_reducible refine(HE.o _ HB4.o).mono ?_);rintro e w5 ⟨rfl,hr⟩;have HR:=Hd (zF.pre (jW HB0.o HB4.o) hr);clear hr))
 go_end0
 exact⟨rfl,HR.o⟩
set_option maxHeartbeats 3200000 in
theorem aY(h:TmO base w v t)(hf:cP (iR t).pen.at_.fl)(k r:Int)(hG:dC w A H)(ca:Nat)(hca:H.length≤ca)(hz:H.length≤1000000)(hzg:∀h∈H,h.g.length≤1000000)(s2:ByteArray)(ct:Bool):
 Calls jG 75 #[.pointer (some ⟨v.M,0,none⟩),.agg #[.int .i64 k,.int .i32 r,.int .u8 109,.int .u8 0,.slice A H.length ca,.string ⟨#[]⟩,.string s2,.bool ct]] w (nQ base w v (doT t (fun s=>iI s (vU H)))):=by
 obtain⟨W,hW⟩:∃W,w.alloc (.cells #[.int .i64 k,.int .i32 r,.int .u8 109,.int .u8 0,.slice A H.length ca,.string ⟨#[]⟩,.string s2,.bool ct] 83)=W:=⟨_,rfl⟩;have hb0:Below w.heap.size w W:=by rw[←hW];exact jH (jU _ _) _
 have hn0:W.heap[w.heap.size]? =some (.cells #[.int .i64 k,.int .i32 r,.int .u8 109,.int .u8 0,.slice A H.length ca,.string ⟨#[]⟩,.string s2,.bool ct] 83 (0,0)):=by rw[←hW];exact jT rfl
 have HG0:Hid (∀w',Below W.heap.size W w'→Calls jG 132 #[.slice A H.length ca,.int .i64 0,.int .i64 0] w' fun e w2=>e=.returned (.int .i64 (rY (vU H) 0 0))∧Below w'.heap.size w' w2):=Hd (fun w' hb=>nG (hG.below (jW hb0 hb)) ca hca hz hzg 0);have HM:Hid (∀w',Below W.heap.size W w'→Calls jG 140 #[.pointer (some ⟨v.M,0,none⟩),.agg #[.int .i64 k,.int .i32 r,.int .u8 109,.int .u8 0,.slice A H.length ca,.string ⟨#[]⟩,.string s2,.bool ct]] w' fun e w2=>e=.returned (.bool false)∧Below w'.heap.size w' w2):=Hd (fun w' hb=>rT (h.below (jW hb0 hb)) k r 109 0 qZ (hG.below (jW hb0 hb)) ca hca hz hzg ⟨#[]⟩ s2 ct);have HE:Hid (∀w',Below W.heap.size W w'→Calls jG 141 #[.pointer (some ⟨v.M,0,none⟩),.agg #[.int .i64 k,.int .i32 r,.int .u8 109,.int .u8 0,.slice A H.length ca,.string ⟨#[]⟩,.string s2,.bool ct]] w' (wK base w' v (doT t (fun s=>iI s (vU H))) true)):=Hd (fun w' hb=>Vj (h.below (jW hb0 hb)) hf k r 0 (hG.below (jW hb0 hb)) ca hca hz hzg ⟨#[]⟩ s2 ct);generalize rY (vU H) 0 0=n0 at HG0;have HB0:=Hd hb0;have HN0:=Hd hn0;generalize hN:H.length=N at HG0 HM hW HN0 HE;clear h hf hb0 hn0 hG hca hz hzg hN;have d2:W.cell? ⟨w.heap.size,2,none⟩=some (.int .u8 109):=(at_ HN0.o 2 _ rfl).1
 have d3:W.cell? ⟨w.heap.size,3,none⟩=some (.int .u8 0):=(at_ HN0.o 3 _ rfl).1;have d4:W.cell? ⟨w.heap.size,4,none⟩=some (.slice A N ca):=(at_ HN0.o 4 _ rfl).1;have d5:W.cell? ⟨w.heap.size,5,none⟩=some (.string ⟨#[]⟩):=(at_ HN0.o 5 _ rfl).1
 go_enter Tryz.func75,Tryz.ntmps75
 go_upto_region 2 with(go_at_call 132;(with_reducible refine(HG0.o _ (jU _ _)).mono ?_);rintro e w1 ⟨rfl,hb⟩;have d2:=kZ hb d2;have d3:=kZ hb d3;have d5:=kZ hb d5;have HB1:=Hd hb;clear hb)
 refine wp_region_lit ?_;refine jB (.pointer (some ⟨w.heap.size,3,none⟩)) qK qK ?_;simp only[Act.put,jZ,jX,jY];refine jB (.int .u8 0) qK qX ?_;simp only[Act.put,jZ,jX,jY];refine uC (.slice (some ⟨w1.heap.size,0,none⟩) 1 1) (w1.alloc (.cells #[.int .u8 0] 5)) qK qX ?_;simp only[Act.put,jZ,jX,jY];have hba:=jH (jU w1.heap.size w1) (.cells #[.int .u8 0] 5);have hna:=jT (W:=w1) (o:=.cells #[.int .u8 0] 5) rfl;have hcv:(convert 23 9 (.slice (some ⟨w1.heap.size,0,none⟩) 1 1)).run jG (w1.alloc (.cells #[.int .u8 0] 5))=.ok (.string ⟨#[0]⟩) (w1.alloc (.cells #[.int .u8 0] 5)):=iS _ w1.heap.size 0 (at_ hna 0 _ rfl).1;have d2:=kZ hba d2;have d5:=kZ hba d5;have HB2:=Hd (jW HB1.o hba);generalize w1.alloc (.cells #[.int .u8 0] 5)=w2 at hcv d2 d5 HB2 ⊢;clear hba hna;refine jB (.string ⟨#[0]⟩) qK qX ?_;simp only[Act.put,jZ,jX,jY];clear hcv;refine jB (.pointer (some ⟨w.heap.size,5,none⟩)) qK qK ?_;simp only[Act.put,jZ,jX,jY];refine jB (.string ⟨#[]⟩) qK qX ?_;simp only[Act.put,jZ,jX,jY];refine jB (.string ⟨#[0]⟩) qK qK ?_;simp only[Act.put,jZ,jX,jY];refine jB (.pointer (some ⟨w.heap.size,2,none⟩)) qK qK ?_;simp only[Act.put,jZ,jX,jY];refine jB (.int .u8 109) qK qX ?_;simp only[Act.put,jZ,jX,jY]
 refine uC (.slice (some ⟨w2.heap.size,0,none⟩) 1 1) (w2.alloc (.cells #[.int .u8 109] 5)) qK qX ?_;simp only[Act.put,jZ,jX,jY];have hba:=jH (jU w2.heap.size w2) (.cells #[.int .u8 109] 5);have hna:=jT (W:=w2) (o:=.cells #[.int .u8 109] 5) rfl;have hcv:(convert 23 9 (.slice (some ⟨w2.heap.size,0,none⟩) 1 1)).run jG (w2.alloc (.cells #[.int .u8 109] 5))=.ok (.string ⟨#[109]⟩) (w2.alloc (.cells #[.int .u8 109] 5)):=iS _ w2.heap.size 109 (at_ hna 0 _ rfl).1;have HB3:=Hd (jW HB2.o hba);generalize w2.alloc (.cells #[.int .u8 109] 5)=w3 at hcv HB3 ⊢;clear hba hna d2 d5;refine jB (.string ⟨#[109]⟩) qK qX ?_;simp only[Act.put,jZ,jX,jY];clear hcv;refine jB (.string ⟨#[0,109]⟩) qK qK ?_;simp only[Act.put,jZ,jX,jY];have hn3:=(HB3.o.block _ (jR HN0.o)).trans HN0.o;have d3:w3.cell? ⟨w.heap.size,3,none⟩=some (.int .u8 0):=(at_ hn3 3 _ rfl).1;have d5:w3.cell? ⟨w.heap.size,5,none⟩=some (.string ⟨#[]⟩):=(at_ hn3 5 _ rfl).1;have d0:w3.cell? ⟨w.heap.size,0,none⟩=some (.int .i64 k):=(at_ hn3 0 _ rfl).1;have d1:w3.cell? ⟨w.heap.size,1,none⟩=some (.int .i32 r):=(at_ hn3 1 _ rfl).1;have d2:w3.cell? ⟨w.heap.size,2,none⟩=some (.int .u8 109):=(at_ hn3 2 _ rfl).1
 have d4:w3.cell? ⟨w.heap.size,4,none⟩=some (.slice A N ca):=(at_ hn3 4 _ rfl).1;have d6:w3.cell? ⟨w.heap.size,6,none⟩=some (.string s2):=(at_ hn3 6 _ rfl).1;have d7:w3.cell? ⟨w.heap.size,7,none⟩=some (.bool ct):=(at_ hn3 7 _ rfl).1;clear hn3
 go_upto_region 21 with fail
 go_wp2_with(first
  |(go_at_call 140;(with_reducible refine(HM.o _ HB3.o).mono ?_);rintro e w4 ⟨rfl,hb⟩;have d0:=kZ hb d0;have d1:=kZ hb d1;have d2:=kZ hb d2;have d3:=kZ hb d3;have d4:=kZ hb d4;have d5:=kZ hb d5;have d6:=kZ hb d6;have d7:=kZ hb d7;have HB4:=Hd (jW HB3.o hb);clear hb)
  |(go_at_call 141;(with_reducible refine(HE.o _ HB4.o).mono ?_);rintro e w5 ⟨rfl,hr⟩;have HR:=Hd (zF.pre (jW HB0.o HB4.o) hr);clear hr))
 go_end0
 exact⟨rfl,HR.o⟩
end
theorem doD(base:Nat):qV5 base evD OkD:=fun W lo v t x hO hx hok=>by
 obtain⟨hk,hi,ht,hf⟩:=hok;have hG:=hx.n.2.1;have hzg:∀h∈x.H,h.g.length≤1000000:=fun h hh=>by have :=hx.z.2 h hh;omega
 have hz:=hx.z.1;unfold evD evS;rcases hk with h0|⟨h1,h2,h3,h4⟩
 · simp only[if_pos h0];unfold mU;rw[if_pos h0];exact Xz hO hi ht _ _ _ _ _ _ _ _ _ _
 · have e0:¬x.e.kind=0:=by omega
   simp only[if_neg e0];unfold mU;rw[if_neg e0,if_neg qJ,if_neg qJ,if_pos h1,h2,h3];have hg:=hx.g;rcases h4 with h4|h4|h4
   · simp only[if_pos h4];rw[h4,←hg];exact aG hO hi _ _ hG _ hx.c qJ hzg _ _
   · simp only[if_neg (show ¬x.e.byte=72 by omega),if_pos h4];rw[h4,←hg];exact aY hO hf _ _ hG _ hx.c qJ hzg _ _
   · simp only[if_neg (show ¬x.e.byte=72 by omega),if_neg (show ¬x.e.byte=109 by omega),if_pos h4];rw[h4,←hg];exact aX hO hi _ _ hG _ hx.c qJ hzg _ _
def qVv(n:Int)(w:World)(e:Ending)(w':World):Prop:=∃v,e=.returned (.tuple #[.pointer (some ⟨v.P,0,none⟩),.int .i64 0])∧PzO w.heap.size w' v (dL n)∧Below w.heap.size w w'
set_option maxHeartbeats 1600000 in
theorem znew_ok(n:Int)(w:World)(h1:1≤n)(h2:n≤65536):Calls jG 36 #[.int .i64 n] w (qVv n w):=by
 have g1:¬n<1:=by omega
 have g2:¬n>65536:=by omega
 have g3:¬65536<n:=by omega
 go_enter Tryz.func36,Tryz.ntmps36
 go_wp2
 go_ret2
 exact⟨⟨w.heap.size,fun _=>.slice none 0 0⟩,rfl,⟨jT rfl,jD _,fun k hk=>by
  match k,hk with
  |0,_=>exact kS _ _ _ _
  |1,_=>exact kS _ _ _ _
  |2,_=>exact kS _ _ _ _,fun i j g _ _ _ h=>by cases h⟩,jH (jU _ _) _⟩
theorem RgO.weakenT{base base':Nat}{w:World}{R:Nat}{vl:Value}{SL:List Rh}{room first n:Nat}{gone:Int}(h:RgO base w R vl SL room first n gone)(hb:base'≤base):RgO base' w R vl SL room first n gone:=
 ⟨h.blk,pQ h.own hb,jI hb h.hb,h.hroom,h.hn,h.hm,h.hf,h.rows⟩
theorem PgO.weakenT{base base':Nat}{w:World}{q:Pv}{g:Pg}(h:PgO base w q g)(hb:base'≤base):PgO base' w q g:=
 ⟨h.blk,jI hb h.hb,h.ring.weakenT hb,pQ h.own hb,pQ h.told hb,h.apart,h.scr,h.hist,h.rows,h.cols2,h.cols1000,h.rows1000,h.gone0⟩
theorem ScO.weakenT{base b2:Nat}{w:World}{v:Sv}{s:Sc}(h:ScO base w v s)(hb:b2≤base):ScO b2 w v s:=⟨h.blk,jI hb h.hb,h.page.weakenT hb,h.tabs.weaken hb⟩
theorem PzO.weakenT{base b2:Nat}{w:World}{v:Zv}{p:Pz}(h:PzO base w v p)(hb:b2≤base):PzO b2 w v p:=⟨h.blk,jI hb h.hb,fun k hk=>pQ (h.row k hk) hb,h.nd⟩
def XC(rows cols lines:Nat)(n:Int)(w:World)(e:Ending)(w':World):Prop:=∃v,e=.returned (.tuple #[.pointer (some ⟨v.M,0,none⟩),.int .i64 0])∧TmO w.heap.size w' v ⟨dL n,rQ rows cols lines (cY [] cols),rQ rows cols 0 (cY [] cols),false,Kn,⟨#[]⟩,[],[]⟩∧Below w.heap.size w w'
set_option maxHeartbeats 3200000 in
theorem qQ6(rows cols lines:Nat)(n:Int)(w:World)(hr1:1≤rows)(hr2:rows≤1000)(hc1:2≤cols)(hc2:cols≤1000)(hl:lines≤100000)(h1:1≤n)(h2:n≤65536):
 Calls jG 7 #[.int .i64 rows,.int .i64 cols,.int .i64 lines,.int .i64 n] w (XC rows cols lines n w):=by
 have HS1:=Hd (fun w=>Uu rows cols lines w hr1 hr2 hc1 hc2 hl);have HS2:Hid (∀w,Calls jG 35 #[.int .i64 rows,.int .i64 cols,.int .i64 0] w (XF rows cols 0 w)):=Hd (fun w=>Uu rows cols 0 w hr1 hr2 hc1 hc2 qJ);have HZ:=Hd (fun w=>znew_ok n w h1 h2);have HM:=Hd (fun w=>ZL w)
 go_enter Tryz.func7,Tryz.ntmps7
 go_upto_region 5 with(first
  |(go_at_call 35;(with_reducible refine(HS1.o _).mono ?_);rintro e w1 ⟨v1,rfl,hO,hb⟩;have HO1:=Hd hO;have HB1:=Hd hb;clear hO hb)
  |(go_at_call 36;(with_reducible refine(HZ.o _).mono ?_);rintro e w2 ⟨v2,rfl,hO,hb⟩;have HO2:=Hd hO;have HB2:=Hd hb;clear hO hb))
 go_wp2_with(first
  |(go_at_call 35;(with_reducible refine(HS2.o _).mono ?_);rintro e w3 ⟨v3,rfl,hO,hb⟩;have HO3:=Hd hO;have HB3:=Hd hb;clear hO hb)
  |(go_at_call 15;(with_reducible refine(HM.o _).mono ?_);rintro e w4 ⟨rfl,hb⟩;have HB4:=Hd hb;clear hb))
 go_ret2
 have hb1:Below w1.heap.size w1 w4:=jW (jW HB2.o HB3.o) HB4.o;have hb2:Below w2.heap.size w2 w4:=jW HB3.o HB4.o;have hbw:=jW HB1.o hb1;have hbM:=fun(o:Obj)=>jH (jU w4.heap.size w4) o;have z1:w.heap.size≤w1.heap.size:=HB1.o.size;have z2:w1.heap.size≤w2.heap.size:=HB2.o.size;have z4:w.heap.size≤w4.heap.size:=hbw.size;exact⟨⟨w4.heap.size,v2,v1,v3,.pointer none,.slice none 0 0,.slice none 0 0⟩,rfl,⟨jT rfl,z4,(HO2.o.weakenT z1).below (jW hb2 (hbM _)),HO1.o.below (jW hb1 (hbM _)),(HO3.o.weakenT (jI z1 z2)).below (jW HB4.o (hbM _)),.inl rfl,kS _ _ _ _,kS _ _ _ _,fun x hx hy=>by
  have :=(HO1.o.lt x hx).2;have :=(HO3.o.lt x hy).1;omega,fun x hx=>by cases hx⟩,jW hbw (hbM _)⟩
end Go.Proofs.YtaefcahblmopfaaGreatDoor
