/- Joined by a tool of this claim out of smaller texts. Conditions: as stated. -/
import Derived.Test.YtaefcahblmopfaaGreatDoorDj24
import Derived.Deep.OwnRows
set_option linter.unusedVariables false
set_option linter.unusedSimpArgs false
set_option maxRecDepth 100000
open Go.Lib renaming hid → Hd
open List renaming setIfInBounds_toArray → jZ, set_cons_zero → jX, set_cons_succ → jY, mem_singleton → jM, getElem?_eq_getElem → jN, getElem?_eq_some_iff → jP, length_append → jC, drop_succ_cons → jL, take_succ_cons → jS, drop_zero → jO, take_succ_eq_append_getElem → kQ, take_zero → kK, mem_append → kU, getElem?_map → uX, mem_of_getElem? → uB, map_append → vX, take_of_length_le → vY
open Go.Proofs.Tryz renaming prog → jG
open Go.RowKit.Below renaming refl → jU
open Nat renaming le_refl → jD, le_trans → jI, zero_le → kM, zero_add → kP
open Go.IntWalk renaming i64_in → jF
open Option renaming mem_toList → jA
open Go.IntKind renaming i64 → jE
open And renaming intro → kY
open Go.World renaming ownsRow → kL, ownsRow_nil → kS
namespace Go.Proofs.YtaefcahblmopfaaGreatDoor
open Go.RowKit
theorem rX{α:Type}{enc:α→List Value}{K:Nat}(hl:∀x,(enc x).length=K){w:World}{base:Nat}{e:TypeId}{A:Option Addr}{n c:Nat}{X:List α}(h:w.ownsRow base e K (.slice A n c) X.length (uM enc X)):pT enc K w A X:=fun h0=>by
 obtain⟨g,c',hv⟩:=gH h h0;simp only[Value.slice.injEq]at hv;obtain⟨rfl,rfl,rfl⟩:=hv;refine⟨g,0,rfl,fun i x hi j v hj=>?_⟩;rw[kP];exact(gS h (i:=i*K+j) jJ).1
def sB(s:List Int):List Int:=(zJ 58 8 s).map xO
theorem oA(c:Int):∀(n:Nat) (xs:List Int),(zJ c n xs).length≤n
 |0,_=>by unfold zJ;simp
 |n+1,xs=>by
  rw[VK];have :=oA c n (lY c xs).2.1
  split<;>simp
  omega
theorem Zy(s:List Int):1≤(sB s).length∧(sB s).length≤8:=by
 unfold sB;rw[List.length_map];exact⟨by rw[VK];simp,oA _ _ _⟩
structure OI(ob:Nat)(W0:World)(pre:List (List Int))(W:World):Prop where
 b:Below ob W0 W
 v:∃ov H,W.heap[ob]? =some (.cells #[ov] 81 (0,0))∧H.length=pre.length∧vU H=pre.map sB∧W.ownsRow ob 241 1 ov H.length (uM oZ H)∧∀h∈H,∃b,h.A=some ⟨b,0,none⟩∧pT pO 1 W h.A h.g∧h.g.length≤h.cap∧h.g.length≤8∧ob≤b∧TyB W b 3∧b≠ob∧ov.ownBlock≠some b
theorem OI.below{ob:Nat}{W0 W W':World}{pre:List (List Int)}(h:OI ob W0 pre W)(hb:Below W.heap.size W W'):OI ob W0 pre W':=by
 obtain⟨ov,H,h1,h2,h3,h4,h5⟩:=h.v;have hl:=jR h1;exact⟨h.b.trans (hb.mono (Nat.le_of_lt hl)),ov,H,(hb.block ob hl).trans h1,h2,h3,kD h4 (Mod.of_below (X:=[]) hb) (fun _ _ h=>by cases h),fun x hx=>by
  obtain⟨b,a1,a2,a3,a4,a5,a6,a7⟩:=h5 x hx;exact⟨b,a1,a2.below hb,a3,a4,a5,a6.mod (Mod.of_below (X:=[]) hb) (fun h=>by cases h),a7⟩⟩
set_option maxHeartbeats 3200000 in
theorem YB(ob:Nat)(W0 W:World)(pre:List (List Int))(part:List Int)(h:OI ob W0 pre W)(hd:∀x∈part,48≤x∧x<59)(hz:part.length≤1000)(hn:pre.length≤1000):Calls jG 270 #[.string (strOfNums part),.pointer (some ⟨ob,0,none⟩)] W fun e W'=>e=.returned (.tuple #[])∧OI ob W0 (pre++[part]) W':=by
 obtain⟨j0,hj,gz0,gz1,gz2⟩:=info_parts YT;obtain⟨lb,hlb⟩:∃lb,W.heap.size=lb:=⟨_,rfl⟩;obtain⟨W1,hW1⟩:∃W1,W.alloc (.cells #[.slice none 0 0] 241)=W1:=⟨_,rfl⟩;have hb1:Below W.heap.size W W1:=by rw[←hW1];exact jH (jU _ _) _
 have hs1:W1.heap.size=lb+1:=by rw[←hW1,←hlb];exact World.size_alloc _ _
 have hLI:LI lb W1 [] W1:=⟨jU _ _,.slice none 0 0,by rw[←hW1];exact jT hlb,kS W1 lb 3 1⟩;have HEa:Hid (Calls jG 269 #[.string (strOfNums part),.string ⟨#[58]⟩,.int .i64 8,.func (.func 271) #[] #[.pointer (some ⟨lb,0,none⟩)]] W1 fun e w'=>e=.returned (.tuple #[])∧LI lb W1 (sB part) w'):=Hd (Jy 271 (.pointer (some ⟨lb,0,none⟩)) 58 8 qJ part (fun x hx=>by have :=hd x hx;omega) hz (fun p W'=>LI lb W1 (p.map xO) W') (fun args w=>by kernel_rfl)
  (fun p q W' hI h1 h2 h3=>by
    have :=ZU lb W1 W' (p.map xO) q hI (fun x hx=>by have h5:=hd x (h1 x hx).1;have h6:=(h1 x hx).2;have h7:¬x=58:=fun e=>h6 (by rw[e];rfl);omega) qJ qY;rw[vX];exact this) (fun p W' W2 hI hb=>hI.below hb) W1 hLI)
 have HO:=Hd h;have HB1:=Hd hb1;have HLB:=Hd hlb;have HS1:=Hd hs1;clear h hd hz hb1 hs1 hLI
 go_enter Tryz.func270,Tryz.ntmps270
 go_upto_region 2 with(go_at_call 269;(with_reducible refine HEa.o.mono ?_);rintro e w2 ⟨rfl,hi⟩;have HI:=Hd hi;clear hi)
 have hLI:LI lb W1 (sB part) w2:=HI.o;have hb2:Below lb W w2:=by
  have :=HB1.o;rw[HLB.o]at this;exact this.trans hLI.b
 have hO2:OI ob W0 pre w2:=HO.o.below (by rw[HLB.o];exact hb2);obtain⟨lv,hl1,hl2⟩:=hLI.v;obtain⟨gb,cg,rfl⟩:=gH hl2 (by have :=(Zy part).1;omega);obtain⟨ov,H,o1,o2,o3,o4,o5⟩:=hO2.v;obtain⟨A,cap,rfl⟩:=uT o4;have hlO:=jR o1;have hobW:ob<lb:=by
  obtain⟨ov',H',o1',-⟩:=HO.o.v;have :=jR o1';rw[HLB.o]at this;exact this
 have c0:=(at_ o1 0 _ rfl).1;have c1:=(at_ hl1 0 _ rfl).1;have hgr:pT pO 1 w2 (some ⟨gb,0,none⟩) (sB part):=rX mR (n:=(sB part).length) hl2;have hcg:(sB part).length≤cg:=by
  rcases hl2.2 with⟨e1,-⟩|⟨g,c,cur,e1,-,-,e4,-⟩
  · cases e1
  · injection e1 with e1 e5 e6;omega
 have hgb:=kL.lt hl2 gb rfl;have HG:=Hd (kY hgr (kY hcg (kY (Zy part).2 (kY hgb.1 (show TyB w2 gb 3 from uR hl2 (g:=gb) rfl)))));have hne:∀g,(Value.slice A H.length cap).ownBlock=some g→g≠ob∧g≠gb:=fun g hg=>by
  obtain⟨cur,hc⟩:=uR o4 hg;obtain⟨cur2,hc2⟩:=uR hl2 (g:=gb) rfl;refine⟨fun e=>?_,fun e=>?_⟩
  · rw[e,o1,Option.some.injEq,Obj.cells.injEq]at hc;exact absurd hc.2.1 qZ
  · rw[e,hc2,Option.some.injEq,Obj.cells.injEq]at hc;exact absurd hc.2.1 qZ
 have HN:=Hd hne;have HO1:=Hd o1;have HO2:=Hd (kY o2 o3);have HO4:=Hd o4;have HO5:=Hd o5;have HBB:=Hd hO2.b;have hn2:H.length≤1000:=by rw[o2];exact hn
 generalize hgl:(sB part).length=gl at c1;have HGL:=Hd hgl;clear hLI hO2 hl1 hl2 o1 o2 o3 o4 o5 hgr hcg hgb hne hgl hb2;refine wp_region_lit ?_;refine jB (.slice A H.length cap) qK qX ?_;simp only[Act.put,jZ,jX,jY];refine jB (.slice (some ⟨gb,0,none⟩) gl cg) qK qX ?_;simp only[Act.put,jZ,jX,jY];refine uC (.slice (some ⟨w2.heap.size,0,none⟩) 1 1) (w2.alloc (.cells #[.slice (some ⟨gb,0,none⟩) gl cg] 241)) qK qX ?_;simp only[Act.put,jZ,jX,jY];have hbA:Below w2.heap.size w2 (w2.alloc (.cells #[.slice (some ⟨gb,0,none⟩) gl cg] 241)):=jH (jU _ _) _;have HBA:=Hd hbA;have H4A:=Hd (kD HO4.o (Mod.of_below (X:=[]) hbA) (fun _ _ h=>by cases h));have HSA:=Hd (World.size_alloc w2 (.cells #[.slice (some ⟨gb,0,none⟩) gl cg] 241));have HNA:=Hd (jT (W:=w2) (o:=.cells #[.slice (some ⟨gb,0,none⟩) gl cg] 241) rfl);have HOA:=Hd ((hbA.block ob hlO).trans HO1.o);generalize w2.alloc (.cells #[.slice (some ⟨gb,0,none⟩) gl cg] 241)=wA at hbA HBA H4A HSA HNA HOA ⊢;clear hbA;refine vG rfl (.tmp 7) (.tmp 9) 81 rfl ob 241 j0 _ 1 24 Tryz.underlying81 hj gz0 gz1 gz2 rfl qZ (.slice A H.length cap) H.length (uM oZ H) rfl H4A.o ⟨w2.heap.size,0,none⟩ 1 1 [.slice (some ⟨gb,0,none⟩) gl cg] rfl rfl ?_ ?_ ?_ ?_ ?_ ?_
 all_goals first
  |omega
  |(simp only[maxLen];omega)
  |exact jI (Nat.le_of_lt hlO) HBA.o.size
  |skip
 · intro j u hj;rw[vF,kP];exact(at_ HNA.o j u qW).1
 · intro u hu;rw[jM.1 hu];rfl
 · intro v' w3 ho hg hv';obtain⟨A4,c4,hv4⟩:=uT ho;subst hv4;have hlw:w3.heap[ob]? =_:=(hg.block ob (Nat.lt_of_lt_of_le hlO HBA.o.size) (fun e=>(HN.o ob e.symm).1 rfl)).trans HOA.o;obtain⟨d0,e0⟩:=at_ hlw 0 _ rfl;have HLW:=Hd hlw;have HOw:=Hd ho;have HGw:Hid (wA.grownBy w3 (Value.slice A H.length cap).ownBlock):=Hd hg;have HV':Hid (∀g,(Value.slice A4 (H.length+1) c4).ownBlock=some g→(Value.slice A H.length cap).ownBlock=some g∨wA.heap.size≤g):=Hd hv';clear ho hg hv' hlw c0 c1
   go_wp2
   refine bodyPost_end (results_none rfl _ _ _) rfl ⟨rfl,⟨?_,.slice A4 (H.length+1) c4,H++[⟨some ⟨gb,0,none⟩,sB part,cg⟩],?_,?_,?_,?_,fun x hx=>?_⟩⟩
   · exact((HBB.o.trans (HBA.o.mono (Nat.le_of_lt hlO))).grown HGw.o (jI (Nat.le_of_lt hlO) HBA.o.size) (fun k hk=>(kL.lt HO4.o k hk).1)).setCell (p:=⟨ob,0,none⟩) (jD _) _
   · have :=vR (o:=0) (v:=.slice A4 (H.length+1) c4) HLW.o;exact this
   · rw[jC,jC,HO2.o.1];rfl
   · unfold vU at *;rw[vX,vX];have :=HO2.o.2;unfold vU at this;rw[this];rfl
   · have h4:=kD HOw.o ((Mod.refl [ob] w3).setCell (a:=⟨ob,0,none⟩) (.inl qV) (.slice A4 (H.length+1) c4)) (fun g hg hx=>by
      rcases HV'.o g hg with h5|h5
      · exact(HN.o g h5).1 (jM.1 hx)
      · have :=HBA.o.size;have :=jM.1 hx;omega)
     rw[jC,uI];have e:uM oZ [⟨some ⟨gb,0,none⟩,sB part,cg⟩]=[.slice (some ⟨gb,0,none⟩) gl cg]:=by rw[←HGL.o];rfl
     rw[e];exact h4
   · have hkeep:∀b (g:List Int),pT pO 1 w2 (some ⟨b,0,none⟩) g→TyB w2 b 3→b≠ob→(Value.slice A H.length cap).ownBlock≠some b→pT pO 1 (w3.setCell ⟨ob,0,none⟩ (.slice A4 (H.length+1) c4)) (some ⟨b,0,none⟩) g∧TyB (w3.setCell ⟨ob,0,none⟩ (.slice A4 (H.length+1) c4)) b 3∧(Value.slice A4 (H.length+1) c4).ownBlock≠some b:=fun b g h1 h2 h3 h4=>by
      have hm:Mod ((Value.slice A H.length cap).ownBlock.toList) wA w3:=Mod.of_grown HGw.o (fun g hg=>by simp[hg]);refine⟨tR (tR (h1.below HBA.o) hm (fun hx=>h4 (jA.1 hx))) ((Mod.refl [ob] w3).setCell (a:=⟨ob,0,none⟩) (.inl qV) _) (fun hx=>h3 (jM.1 hx)),?_,fun e=>?_⟩
      · exact((h2.mod (Mod.of_below (X:=[]) HBA.o) (fun h=>by cases h)).mod hm (fun hx=>h4 (jA.1 hx))).mod ((Mod.refl [ob] w3).setCell (a:=⟨ob,0,none⟩) (.inl qV) _) (fun hx=>h3 (jM.1 hx))
      · rcases HV'.o b e with h5|h5
        · exact h4 h5
        · have :=HBA.o.size;have :=h2.lt;omega
     rcases kU.1 hx with hx|hx
     · obtain⟨b,a1,a2,a3,a4,a5,a6,a7,a8⟩:=HO5.o x hx;rw[a1]at a2;obtain⟨k1,k2,k3⟩:=hkeep b x.g a2 a6 a7 a8;exact⟨b,a1,by rw[a1];exact k1,a3,a4,a5,k2,a7,k3⟩
     · rw[jM.1 hx];obtain⟨g1,g2,g3,g4,g5⟩:=HG.o;have hgo:gb≠ob:=by omega
       obtain⟨k1,k2,k3⟩:=hkeep gb (sB part) g1 g5 hgo (fun e=>(HN.o gb e).2 rfl);exact⟨gb,rfl,k1,g2,g3,by omega,k2,hgo,k3⟩
def KE(xs:List Int)(w:World)(e:Ending)(w':World):Prop:=∃A H ca,e=.returned (.tuple #[.slice A H.length ca,.bool true])∧vU H=ZB xs∧H.length≤ca∧(H.length≤32∧∀h∈H,h.g.length≤8)∧lR w' w.heap.size A H∧Below w.heap.size w w'
theorem OI.post{ob:Nat}{W0 W:World}{pre:List (List Int)}(h:OI ob W0 pre W):∃A H ca,W.heap[ob]? =some (.cells #[.slice A H.length ca] 81 (0,0))∧vU H=pre.map sB∧H.length≤ca∧H.length=pre.length∧(∀h∈H,h.g.length≤8)∧lR W ob A H:=by
 obtain⟨ov,H,h1,h2,h3,h4,h5⟩:=h.v;obtain⟨A,cap,rfl⟩:=uT h4;refine⟨A,H,cap,h1,h3,?_,h2,fun x hx=>?_,fun hn=>?_,⟨rX KK h4,fun x hx=>?_⟩,fun x hx _=>?_⟩
 · rcases h4.2 with⟨e1,e2⟩|⟨g,c,cur,e1,-,-,e4,-⟩
   · omega
   · injection e1 with e1 e5 e6;omega
 · obtain⟨b,a1,a2,a3,a4,-⟩:=h5 x hx;exact a4
 · obtain⟨g,c,he⟩:=gH h4 (List.length_pos_iff.2 hn);obtain rfl:A=some ⟨g,0,none⟩:=by injection he
   exact⟨g,0,rfl,(kL.lt h4 g rfl).1,uR h4 (g:=g) rfl⟩
 · obtain⟨b,a1,a2,a3,-⟩:=h5 x hx;exact⟨a2,a3⟩
 · obtain⟨b,a1,a2,a3,a4,a5,a6,-⟩:=h5 x hx;exact⟨b,0,a1,a5,a6⟩
set_option maxHeartbeats 3200000 in
theorem YY(xs:List Int)(hx:∀x∈xs,48≤x∧x<60)(hz:xs.length≤1000)(w:World):Calls jG 175 #[.string (strOfNums xs)] w (KE xs w):=by
 have HH:=Hd (J3 xs hx hz w);have HE:Hid (∀(W:World) (ob:Nat),W.heap.size=ob→Calls jG 269 #[.string (strOfNums xs),.string ⟨#[59]⟩,.int .i64 32,.func (.func 270) #[] #[.pointer (some ⟨ob,0,none⟩)]] (W.alloc (.cells #[.slice none 0 0] 81)) fun e w'=>e=.returned (.tuple #[])∧OI ob (W.alloc (.cells #[.slice none 0 0] 81)) (zJ 59 32 xs) w'):=Hd (fun W ob ho=>by
  have h0:OI ob (W.alloc (.cells #[.slice none 0 0] 81)) [] (W.alloc (.cells #[.slice none 0 0] 81)):=⟨jU _ _,.slice none 0 0,[],jT ho,rfl,rfl,kS _ ob 241 1,fun h hh=>by cases hh⟩;exact Jy 270 (.pointer (some ⟨ob,0,none⟩)) 59 32 qJ xs (fun x h=>by have :=hx x h;omega) hz (fun p W'=>OI ob (W.alloc (.cells #[.slice none 0 0] 81)) p W') (fun args w=>by kernel_rfl)
   (fun p q W' hI h1 h2 h3=>YB ob _ W' p q hI (fun x hx2=>by have h5:=hx x (h1 x hx2).1;have h6:=(h1 x hx2).2;have h7:¬x=59:=fun e=>h6 (by rw[e];rfl);omega) qJ qJ) (fun p W' W2 hI hb=>hI.below hb) _ h0)
 clear hx hz
 go_enter Tryz.func175,Tryz.ntmps175
 go_upto_region 3 with(go_at_call 268;(with_reducible refine HH.o.mono ?_);rintro e w1 ⟨rfl,hb⟩;have HB:=Hd hb;clear hb)
 have HE1:=Hd (HE.o w1 _ rfl)
 go_upto_region 5 with(go_at_call 269;(with_reducible refine HE1.o.mono ?_);rintro e w2 ⟨rfl,hi⟩;have HI:=Hd hi;clear hi)
 obtain⟨A,H,ca,h1,h2,h3,h4,h5,h6⟩:=HI.o.post;have c0:=(at_ h1 0 _ rfl).1;have hb2:Below w.heap.size w w2:=(jH HB.o (.cells #[.slice none 0 0] 81)).trans (HI.o.b.mono HB.o.size);have HP:Hid (KE xs w (.returned (.tuple #[.slice A H.length ca,.bool true])) w2):=Hd ⟨A,H,ca,rfl,h2,h3,⟨by rw[h4];exact oA _ _ _,h5⟩,h6.weaken HB.o.size,hb2⟩;clear h1 h2 h3 h4 h5 h6 hb2
 go_wp2
 go_ret2
 exact HP.o
theorem dY:(jG.info? 83).map (·.size)=some 8:=by kernel_rfl
theorem qKy{b:Nat}{W:World}{cs:List Value}(h:W.heap[b]? =some (.cells cs.toArray 83 (0,0)))(hl:cs.length=8):W.there b 0 8:=fun j hj=>by
 have :=pW h j (by rw[List.size_toArray,hl];exact hj);exact this
set_option maxHeartbeats 3200000 in
theorem Xv:eH:=by
 intro base w v p k c h hok;obtain⟨⟨c0,-⟩,⟨c1,-⟩,-,-,-,-,-,-,-⟩:=h.blk.facts;obtain⟨A0,cap0,hv0⟩:=uT (h.row 0 qJ);obtain⟨A1,cap1,hv1⟩:=uT (h.row 1 qJ);obtain⟨A2,cap2,hv2⟩:=uT (h.row 2 qJ);have HP:=Hd (fun w=>YY p.head (fun x hx=>hok.head.2 x hx) (by have :=hok.head.1;omega) w);have HO:=Hd h;obtain⟨W,hW⟩:∃W,w.alloc (.cells #[.int .i64 0,.int .i32 0,.int .u8 0,.int .u8 0,.slice none 0 0,.string ⟨#[]⟩,.string ⟨#[]⟩,.bool false] 83)=W:=⟨_,rfl⟩;have hb0:Below w.heap.size w W:=by rw[←hW];exact jH (jU _ _) _
 have hs0:W.heap.size=w.heap.size+1:=by rw[←hW];exact World.size_alloc _ _
 have hn0:W.heap[w.heap.size]? =some (.cells #[.int .i64 0,.int .i32 0,.int .u8 0,.int .u8 0,.slice none 0 0,.string ⟨#[]⟩,.string ⟨#[]⟩,.bool false] 83 (0,0)):=by rw[←hW];exact jT rfl
 have hcv:(convert 23 9 (.slice A0 (p.r 0).length cap0)).run jG W=.ok (.string (strOfNums p.head)) W:=by rw[←hv0];exact mE ((h.below hb0).row 0 qJ)
 have d1:=kZ hb0 c1;rw[hv0]at d1;have HB0:=Hd hb0;have HN0:=Hd hn0;have HS0:=Hd hs0;generalize (p.r 0).length=n0 at d1 hcv;clear h hok hb0 hn0 hs0 c0 c1 hv0
 go_enter Tryz.func116,Tryz.ntmps116
 go_upto_region 2 with(go_at_call 175;(with_reducible refine(HP.o _).mono ?_);rintro e w2 ⟨A,H,ca,rfl,g1,g2,g3,g4,g5⟩;have HG:=Hd (kY g1 (kY g2 (kY g3 g4)));have HB5:=Hd g5;clear g1 g2 g3 g4 g5)
 have HB2:=Hd (jW HB0.o HB5.o);have hO2:=HO.o.below HB2.o;obtain⟨⟨c0,-⟩,-,⟨c2,-⟩,⟨c3,-⟩,-,-,⟨c6,-⟩,-,-⟩:=hO2.blk.facts;have HCV1:Hid (∀w',Below w2.heap.size w2 w'→(convert 23 9 (.slice A1 (p.r 1).length cap1)).run jG w'=.ok (.string (strOfNums p.inter)) w'):=Hd (fun w' hb=>by rw[←hv1];exact mE ((hO2.below hb).row 1 qJ));have HCV2:Hid (∀w',Below w2.heap.size w2 w'→(convert 23 9 (.slice A2 (p.r 2).length cap2)).run jG w'=.ok (.string (strOfNums p.text)) w'):=Hd (fun w' hb=>by rw[←hv2];exact mE ((hO2.below hb).row 2 qJ));rw[hv1]at c2;rw[hv2]at c3;have HN2:=Hd ((HB5.o.block w.heap.size (jR HN0.o)).trans HN0.o);generalize (p.r 1).length=n1 at c2 HCV1;generalize (p.r 2).length=n2 at c3 HCV2;generalize hrb:w.heap.size=rb at HN2 ⊢;have HRB:=Hd hrb;clear hO2 hv1 hv2 hrb d1 hcv;refine kW 25 (fun w'=>Below w2.heap.size w2 w'∧w'.cell? ⟨v.P,0,none⟩=some (.int .u8 p.pre)∧w'.cell? ⟨v.P,2,none⟩=some (.slice A1 n1 cap1)∧w'.cell? ⟨v.P,3,none⟩=some (.slice A2 n2 cap2)∧w'.cell? ⟨v.P,6,none⟩=some (.bool p.cut)∧(convert 23 9 (.slice A1 n1 cap1)).run jG w'=.ok (.string (strOfNums p.inter)) w'∧(convert 23 9 (.slice A2 n2 cap2)).run jG w'=.ok (.string (strOfNums p.text)) w') qQ qQ ?_ ?_
 · exact⟨(jU _ _).drew,c0,c2,c3,c6,HCV1.o _ ((jU _ _).drew),HCV2.o _ ((jU _ _).drew)⟩
 simp only[jS,kK,jL,jO]
 repeat(
  (first
   |refine kF qK ?_
   |(refine kT ?_ qK ?_ ?_;rotate_left;(focus(intro w' hS;obtain⟨_,_,_,_,_,_,_⟩:=hS;go_simp;first|done|with_reducible rfl))))
  simp only[Act.put,jZ,jX,jY])
 refine kE (fun w' hS=>?_);have HBS:=Hd hS.1;have hn3:=(HBS.o.block rb (jR HN2.o)).trans HN2.o;have HN3:=Hd hn3;have HT:=Hd (qKy (cs:=[.int .i64 0,.int .i32 0,.int .u8 0,.int .u8 0,.slice none 0 0,.string ⟨#[]⟩,.string ⟨#[]⟩,.bool false]) hn3 rfl);clear hS hn3 c0 c2 c3 c6;refine jB (.agg #[.int .i64 k,.int .i32 0,.int .u8 c,.int .u8 p.pre,.slice A H.length ca,.string (strOfNums p.inter),.string (strOfNums p.text),.bool p.cut]) qK qX ?_;simp only[Act.put,jZ,jX,jY];refine wpList_store_mid rfl 83 (.tmp 6) (.tmp 44) rfl (rb) (0) (#[.int .i64 k,.int .i32 0,.int .u8 c,.int .u8 p.pre,.slice A H.length ca,.string (strOfNums p.inter),.string (strOfNums p.text),.bool p.cut]) rfl rfl (HT.o) dY (all_oneCell_toArray (tA ⟨oB p k c,A,H,ca⟩)) ?_;simp only[Act.put];have hfin:=uF (b:=rb) (t:=83) [.int .i64 k,.int .i32 0,.int .u8 c,.int .u8 p.pre,.slice A H.length ca,.string (strOfNums p.inter),.string (strOfNums p.text),.bool p.cut] 0 [.int .i64 0,.int .i32 0,.int .u8 0,.int .u8 0,.slice none 0 0,.string ⟨#[]⟩,.string ⟨#[]⟩,.bool false] w' HN3.o (jD 8);have HF:=Hd hfin;clear hfin
 go_wp2
 have hm:Mod [rb] w' (w'.setCells rb 0 [.int .i64 k,.int .i32 0,.int .u8 c,.int .u8 p.pre,.slice A H.length ca,.string (strOfNums p.inter),.string (strOfNums p.text),.bool p.cut]):=vN (.inl qV) [.int .i64 k,.int .i32 0,.int .u8 c,.int .u8 p.pre,.slice A H.length ca,.string (strOfNums p.inter),.string (strOfNums p.text),.bool p.cut] 0 _ (Mod.refl _ _);obtain⟨g1,g2,g3,g4⟩:=HG.o;have hlo:w.heap.size≤W.heap.size:=by have :=HS0.o;omega
 refine bodyPost_ret (bW rfl _ _ rb [.int .i64 k,.int .i32 0,.int .u8 c,.int .u8 p.pre,.slice A H.length ca,.string (strOfNums p.inter),.string (strOfNums p.text),.bool p.cut] rfl (uH HF.o) Tryz.underlying83 rfl dY) rfl ⟨⟨oB p k c,A,H,ca⟩,rfl,rfl,⟨g1,g2,g3,?_⟩,yF (jW HB2.o HBS.o) (Nat.le_of_eq HRB.o) [.int .i64 k,.int .i32 0,.int .u8 c,.int .u8 p.pre,.slice A H.length ca,.string (strOfNums p.inter),.string (strOfNums p.text),.bool p.cut] 0⟩;exact((g4.below HBS.o).mod hm (fun b hb=>.inl (by rw[jM.1 hb,←HRB.o];have :=HS0.o;omega))).weaken hlo
section
variable {base:Nat}{w:World}{v:Tv}{t:Tm}
theorem TmO.facts(h:TmO base w v t):w.cell? ⟨v.M,0,none⟩=some (.pointer (some ⟨v.z.P,0,none⟩))∧w.cell? ⟨v.M,1,none⟩=some (.pointer (some ⟨v.a.S,0,none⟩))∧w.cell? ⟨v.M,2,none⟩=some (.pointer (some ⟨v.b.S,0,none⟩))∧(w.cell? ⟨v.M,3,none⟩=some (.int .i64 (if t.use then 1 else 0))∧w.frozen? ⟨v.M,3,none⟩=false)∧(w.cell? ⟨v.M,4,none⟩=some (.int .u32 t.modes)∧w.frozen? ⟨v.M,4,none⟩=false)∧(w.cell? ⟨v.M,5,none⟩=some (.string t.title)∧w.frozen? ⟨v.M,5,none⟩=false)∧(w.cell? ⟨v.M,6,none⟩=some v.ba∧w.frozen? ⟨v.M,6,none⟩=false)∧(w.cell? ⟨v.M,7,none⟩=some v.bf∧w.frozen? ⟨v.M,7,none⟩=false)∧(w.cell? ⟨v.M,8,none⟩=some v.vc∧w.frozen? ⟨v.M,8,none⟩=false):=
 ⟨(at_ h.blk 0 _ rfl).1,(at_ h.blk 1 _ rfl).1,(at_ h.blk 2 _ rfl).1,at_ h.blk 3 _ rfl,at_ h.blk 4 _ rfl,at_ h.blk 5 _ rfl,at_ h.blk 6 _ rfl,at_ h.blk 7 _ rfl,at_ h.blk 8 _ rfl⟩
def nQ(base:Nat)(w:World)(v:Tv)(t':Tm)(e:Ending)(w':World):Prop:=e=.returned (.tuple #[])∧zF base w v t' w'
theorem dV(h:TmO base w v t):Calls jG 11 #[.pointer (some ⟨v.M,0,none⟩)] w fun e w'=>e=.returned (.pointer (some ⟨(fJ v t).S,0,none⟩))∧Below w.heap.size w w':=by
 obtain⟨-,c1,c2,⟨c3,-⟩,-⟩:=h.facts;unfold fJ;clear h
 by_cases hu:t.use=true
 · rw[if_pos hu]at c3 ⊢;clear hu
   go_enter Tryz.func11,Tryz.ntmps11
   go_upto_region 3 with fail
   refine kW 7 (fun w'=>Below w.heap.size w w'∧w'.cell? ⟨v.M,2,none⟩=some (.pointer (some ⟨v.b.S,0,none⟩))∧w'.cell? ⟨v.M,3,none⟩=some (.int .i64 1)) qQ qQ ?_ ?_
   · exact⟨(jU _ _).drew,c2,c3⟩
   simp only[jS,kK,jL,jO]
   repeat(
    (first
     |refine kF qK ?_
     |(refine kT ?_ qK ?_ ?_;rotate_left;(focus(intro w' hS;obtain⟨_,_,_⟩:=hS;go_simp;first|done|with_reducible rfl))))
    simp only[Act.put,jZ,jX,jY])
   refine kE (fun w' hS=>?_);obtain⟨hb,d2,d3⟩:=hS
   go_wp2
   go_ret
   exact⟨rfl,hb⟩
 · rw[if_neg hu]at c3 ⊢;clear hu
   go_enter Tryz.func11,Tryz.ntmps11
   go_upto_region 3 with fail
   refine kW 7 (fun w'=>Below w.heap.size w w'∧w'.cell? ⟨v.M,1,none⟩=some (.pointer (some ⟨v.a.S,0,none⟩))∧w'.cell? ⟨v.M,3,none⟩=some (.int .i64 0)) qQ qQ ?_ ?_
   · exact⟨(jU _ _).drew,c1,c3⟩
   simp only[jS,kK,jL,jO]
   repeat(
    (first
     |refine kF qK ?_
     |(refine kT ?_ qK ?_ ?_;rotate_left;(focus(intro w' hS;obtain⟨_,_,_⟩:=hS;go_simp;first|done|with_reducible rfl))))
    simp only[Act.put,jZ,jX,jY])
   refine kE (fun w' hS=>?_);obtain⟨hb,d2,d3⟩:=hS
   go_wp2
   go_ret
   exact⟨rfl,hb⟩
theorem oD(h:TmO base w v t):Calls jG 12 #[.pointer (some ⟨v.M,0,none⟩)] w fun e w'=>e=.returned (.pointer (some ⟨v.a.S,0,none⟩))∧w=w':=by
 obtain⟨-,c1,-⟩:=h.facts;clear h
 go_enter Tryz.func12,Tryz.ntmps12
 go_wp2
 go_ret
 exact⟨rfl,rfl⟩
theorem TmO.does{s':Sc}{w1 w2:World}(h:TmO base w v t)(hb:Below w.heap.size w w1)(hs:pU base w1 (fJ v t) s' w2):zF base w v (YK t s') w2:=zF.pre hb ((h.below hb).did hs)
set_option maxHeartbeats 1600000 in
theorem Xz(h:TmO base w v t)(hi:ScI (iR t))(ht:(iR t).pg.told.length≤900000)(k r b p:Int)(A:Option Addr)(n c:Nat)(s1 s2:ByteArray)(ct:Bool):
 Calls jG 72 #[.pointer (some ⟨v.M,0,none⟩),.agg #[.int .i64 k,.int .i32 r,.int .u8 b,.int .u8 p,.slice A n c,.string s1,.string s2,.bool ct]] w (nQ base w v (doT t (fun s=>mY s r))):=by
 obtain⟨W,hW⟩:∃W,w.alloc (.cells #[.int .i64 k,.int .i32 r,.int .u8 b,.int .u8 p,.slice A n c,.string s1,.string s2,.bool ct] 83)=W:=⟨_,rfl⟩;have hb0:Below w.heap.size w W:=by rw[←hW];exact jH (jU _ _) _
 have hn0:W.heap[w.heap.size]? =some (.cells #[.int .i64 k,.int .i32 r,.int .u8 b,.int .u8 p,.slice A n c,.string s1,.string s2,.bool ct] 83 (0,0)):=by rw[←hW];exact jT rfl
 have d1:=(at_ hn0 1 _ rfl).1;have HS:Hid (∀w',Below W.heap.size W w'→Calls jG 11 #[.pointer (some ⟨v.M,0,none⟩)] w' fun e w2=>e=.returned (.pointer (some ⟨(fJ v t).S,0,none⟩))∧Below w'.heap.size w' w2):=Hd (fun w' hb=>dV (h.below (jW hb0 hb)));have HP:Hid (∀w',Below W.heap.size W w'→Calls jG 121 #[.pointer (some ⟨(fJ v t).S,0,none⟩),.int .i32 r] w' (fK base w' (fJ v t) (mY (iR t) r))):=Hd (fun w' hb=>Xr ((h.below (jW hb0 hb)).cur) hi ht r);have HO:=Hd h;have HB0:=Hd hb0;clear h hi ht hb0 hn0
 go_enter Tryz.func72,Tryz.ntmps72
 go_upto_region 1 with fail
 refine kW 4 (fun w'=>Below W.heap.size W w'∧w'.cell? ⟨w.heap.size,1,none⟩=some (.int .i32 r)) qQ qQ ?_ ?_
 · exact⟨(jU _ _).drew,d1⟩
 simp only[jS,kK,jL,jO]
 repeat(
  (first
   |refine kF qK ?_
   |((refine uO 11 #[.pointer (some ⟨v.M,0,none⟩)] (.pointer (some ⟨(fJ v t).S,0,none⟩)) qK ?_ (fun w' hS=>(HS.o w' hS.1).mono fun e w2 ⟨he,hb⟩=>⟨he,jW hS.1 hb,kZ hb hS.2⟩) ?_;(focus(intro w2;go_simp;done))))
   |(refine kT ?_ qK ?_ ?_;rotate_left;(focus(intro w' hS;obtain⟨_,_⟩:=hS;go_simp;first|done|with_reducible rfl))))
  simp only[Act.put,jZ,jX,jY])
 refine kE (fun w' hS=>?_);have HB1:=Hd hS.1;clear hS
 go_wp2_with(go_at_call 121;(with_reducible refine(HP.o _ HB1.o).mono ?_);rintro e w2 ⟨rfl,hr⟩;have HR:=Hd hr;clear hr)
 go_end0
 exact⟨rfl,HO.o.does (jW HB0.o HB1.o) HR.o⟩
end
def Jo(p:Pz):Int:=p.head.length+p.inter.length+p.text.length+p.dec.hv
def Vs(t:Tm):Bool:=decide (t.pz.state=0)&&decide (Jo t.pz=0)
section
variable {base:Nat}{w:World}{v:Tv}{t:Tm}
theorem Xc(h:TmO base w v t):Calls jG 13 #[.pointer (some ⟨v.M,0,none⟩)] w fun e w'=>e=.returned (.bool t.use)∧w=w':=by
 obtain⟨-,-,-,⟨c3,-⟩,-⟩:=h.facts;clear h;cases hu:t.use with
 |true=>
  rw[hu]at c3
  go_enter Tryz.func13,Tryz.ntmps13
  go_wp2
  go_ret
  exact⟨rfl,rfl⟩
 |false=>
  rw[hu]at c3
  go_enter Tryz.func13,Tryz.ntmps13
  go_wp2
  go_ret
  exact⟨rfl,rfl⟩
theorem XO{v:Zv}{p:Pz}(h:PzO base w v p):Calls jG 45 #[.pointer (some ⟨v.P,0,none⟩)] w fun e w'=>e=.returned (.int .i64 p.state)∧w=w':=by
 obtain⟨-,-,-,-,-,-,-,-,⟨c8,-⟩⟩:=h.blk.facts;clear h
 go_enter Tryz.func45,Tryz.ntmps45
 go_wp2
 go_ret
 exact⟨rfl,rfl⟩
set_option maxHeartbeats 1600000 in
theorem WP{v:Zv}{p:Pz}(h:PzO base w v p)(hok:PzOk p):Calls jG 46 #[.pointer (some ⟨v.P,0,none⟩)] w fun e w'=>e=.returned (.int .i64 (Jo p))∧Below w.heap.size w w':=by
 have HSz:Hid (∀w',Below w.heap.size w w'→Calls jG 85 #[.pointer (some ⟨v.P,0,none⟩)] w' fun e w2=>e=.returned (.int .i64 ((p.head.length:Int)+p.inter.length+p.text.length))∧Below w'.heap.size w' w2):=Hd (fun w' hb=>by
  have h:=h.below hb;obtain⟨A0,k0,hv0⟩:=uT (h.row 0 qJ);obtain⟨A1,k1,hv1⟩:=uT (h.row 1 qJ);obtain⟨A2,k2,hv2⟩:=uT (h.row 2 qJ);obtain⟨-,⟨c1,-⟩,⟨c2,-⟩,⟨c3,-⟩,-,-,-,-,-⟩:=h.blk.facts;rw[hv0]at c1;rw[hv1]at c2;rw[hv2]at c3;have z0:(p.r 0).length≤256:=hok.head.1;have z1:(p.r 1).length≤2:=hok.inter.1;have z2:(p.r 2).length≤65536:=by have :=hok.text.1;have :=hok.most;show p.text.length≤_;omega
  show Calls _ _ _ w' fun e w2=>e=.returned (.int .i64 (((p.r 0).length:Int)+(p.r 1).length+(p.r 2).length))∧Below w'.heap.size w' w2;generalize (p.r 0).length=n0 at c1 z0 ⊢;generalize (p.r 1).length=n1 at c2 z1 ⊢;generalize (p.r 2).length=n2 at c3 z2 ⊢;have hw1:jE.wrap ((n0:Int)+n1)=(n0:Int)+n1:=jF _ qJ;have hw2:jE.wrap ((n0:Int)+n1+n2)=(n0:Int)+n1+n2:=jF _ qJ;clear h hok hb hv0 hv1 hv2
  go_enter Tryz.func85,Tryz.ntmps85
  go_upto_region 1 with fail
  refine kW 16 (fun w2=>Below w'.heap.size w' w2∧w2.cell? ⟨v.P,1,none⟩=some (.slice A0 n0 k0)∧w2.cell? ⟨v.P,2,none⟩=some (.slice A1 n1 k1)∧w2.cell? ⟨v.P,3,none⟩=some (.slice A2 n2 k2)) qQ qQ ?_ ?_
  · exact⟨(jU _ _).drew,c1,c2,c3⟩
  simp only[jS,kK,jL,jO]
  repeat(
   (first
    |refine kF qK ?_
    |(refine kT ?_ qK ?_ ?_;rotate_left;(focus(intro w' hS;obtain⟨_,_,_,_⟩:=hS;go_simp;first|done|with_reducible rfl))))
   simp only[Act.put,jZ,jX,jY])
  refine kE (fun w' hS=>?_);obtain⟨hb,-⟩:=hS
  go_wp2
  go_ret
  exact⟨rfl,hb⟩)
 have HLf:Hid (∀w',Below w.heap.size w w'→Calls jG 86 #[.pointer (some ⟨v.P,9,none⟩)] w' fun e w2=>e=.returned (.int .i64 p.dec.hv)∧w'=w2):=Hd (fun w' hb=>by
  obtain⟨c,-⟩:=at_ (h.below hb).blk 11 (.int .i64 p.dec.hv) rfl;clear h hok hb
  go_enter Tryz.func86,Tryz.ntmps86
  go_wp2
  go_ret
  exact⟨rfl,rfl⟩)
 have hz:0≤p.dec.hv∧p.dec.hv≤4:=by have :=hok.dec.hv;have :=hok.dec.need;omega
 have hz2:(p.head.length:Int)+p.inter.length+p.text.length≤100000:=by have :=hok.head.1;have :=hok.inter.1;have :=hok.text.1;have :=hok.most;omega
 have hz3:0≤(p.head.length:Int)+p.inter.length+p.text.length:=by omega
 unfold Jo;generalize (p.head.length:Int)+p.inter.length+p.text.length=n at HSz hz2 hz3 ⊢;generalize p.dec.hv=q at HLf hz ⊢;have hw1:jE.wrap (n+q)=n+q:=jF _ qJ;clear h hok
 go_enter Tryz.func46,Tryz.ntmps46
 go_upto_region 3 with fail
 refine kW 7 (fun w'=>Below w.heap.size w w') qQ qQ ?_ ?_
 · exact(jU _ _).drew
 simp only[jS,kK,jL,jO]
 repeat(
  (first
   |refine kF qK ?_
   |((refine uO 85 #[.pointer (some ⟨v.P,0,none⟩)] (.int .i64 n) qK ?_ (fun w' hS=>(HSz.o w' hS).mono fun e w2 ⟨he,hb⟩=>⟨he,jW hS hb⟩) ?_;(focus(intro w2;go_simp;done))))
   |(refine kT ?_ qK ?_ ?_;rotate_left;(focus(intro w' hS;obtain hS0:=hS;go_simp;first|done|with_reducible rfl))))
  simp only[Act.put,jZ,jX,jY])
 refine kE (fun w' hS=>?_);have HB:=Hd hS;clear hS
 go_wp2_with(go_at_call 86;(with_reducible refine(HLf.o _ HB.o).mono ?_);rintro e w2 ⟨rfl,rfl⟩)
 go_ret
 exact⟨rfl,HB.o⟩
set_option maxHeartbeats 1600000 in
theorem Wp(h:TmO base w v t)(hok:PzOk t.pz):Calls jG 19 #[.pointer (some ⟨v.M,0,none⟩)] w fun e w'=>e=.returned (.bool (Vs t))∧Below w.heap.size w w':=by
 have HS:=Hd (XO h.z);have HH:=Hd (WP h.z hok);obtain⟨c0,-⟩:=h.facts;clear h hok;unfold Vs;generalize t.pz.state=q at HS ⊢;generalize Jo t.pz=n at HH ⊢
 by_cases hq:q=0
 · subst hq
   by_cases hn:n=0
   · subst hn
     go_enter Tryz.func19,Tryz.ntmps19
     go_wp2_with(first
      |(go_at_call 45;(with_reducible refine HS.o.mono ?_);rintro e w1 ⟨rfl,rfl⟩)
      |(go_at_call 46;(with_reducible refine HH.o.mono ?_);rintro e w1 ⟨rfl,hb⟩))
     go_ret
     exact⟨rfl,hb⟩
   · have hn2:(n==0)=false:=by simpa using hn
     go_enter Tryz.func19,Tryz.ntmps19
     go_wp2_with(first
      |(go_at_call 45;(with_reducible refine HS.o.mono ?_);rintro e w1 ⟨rfl,rfl⟩)
      |(go_at_call 46;(with_reducible refine HH.o.mono ?_);rintro e w1 ⟨rfl,hb⟩))
     go_ret
     exact⟨by simp[hn],hb⟩
 · have hq2:(q==0)=false:=by simpa using hq
   clear HH
   go_enter Tryz.func19,Tryz.ntmps19
   go_wp2_with(go_at_call 45;(with_reducible refine HS.o.mono ?_);rintro e w1 ⟨rfl,rfl⟩)
   go_ret
   exact⟨by simp[hq],jU _ _⟩
end
def cQ(ev:Tm→Ev→Tm)(t:Tm)(es:List Ev):Tm:=es.foldl ev t
def Qd(ev:Tm→Ev→Tm)(t:Tm)(c:Int):Tm:=cQ ev {t with pz:=(vP t.pz c).1} (vP t.pz c).2
def bI(ev:Tm→Ev→Tm)(t:Tm)(bs:List Int):Tm:=bs.foldl (Qd ev) t
def lD(ev:Tm→Ev→Tm)(Ok:Tm→Ev→Prop)(t:Tm)(es:List Ev):Prop:=∀j e,es[j]? =some e→Ok (cQ ev t (es.take j)) e
def iJ(ev:Tm→Ev→Tm)(Ok:Tm→Ev→Prop)(t:Tm)(bs:List Int):Prop:=∀k c,bs[k]? =some c→lD ev Ok {bI ev t (bs.take k)with pz:=(vP (bI ev t (bs.take k)).pz c).1} (vP (bI ev t (bs.take k)).pz c).2
def mU(k:Int):FuncId:=if k=0 then 72 else if k=1 then 73 else if k=2 then 74 else if k=3 then 75 else if k=4 then 76 else 77
theorem Ko(k:Int)(args:Array Value)(w:World):(callFunc (mU k) args).run jG w=.ok (.enter (mU k) args) w:=by
 unfold mU
 split
 · kernel_rfl
 split
 · kernel_rfl
 split
 · kernel_rfl
 split
 · kernel_rfl
 split
 · kernel_rfl
 · kernel_rfl
theorem qKh(f:FuncId)(b:Array Value)(w:World):(binOp .neq 84 (.func (.func f) b #[]) .nilFunc).run jG w=.ok (.bool true) w:=by
 have h:∀d:Nat,(Op.equalIn (d+1) 84 (.func (.func f) b #[]) .nilFunc).run jG w=.ok false w:=fun d=>by
  simp[Op.equalIn,run_underlying Tryz.underlying84]
 simp only[binOp];simp[Op.equal,Op.maxDepth,h 9999]
theorem Wv(M:Nat)(k:Int)(hk:0≤k∧k≤5)(w:World):Calls jG 38 #[.pointer (some ⟨M,0,none⟩),.int .i64 k] w fun e w'=>e=.returned (.func (.func (mU k)) #[.pointer (some ⟨M,0,none⟩)] #[])∧w=w':=by
 have hkI:k=0∨k=1∨k=2∨k=3∨k=4∨k=5:=by omega
 rcases hkI with rfl|rfl|rfl|rfl|rfl|rfl
 all_goals
  go_enter Tryz.func38,Tryz.ntmps38
  go_wp2
  go_ret
  exact⟨rfl,rfl⟩
theorem X8(p:Pz)(c:Int):∀e∈(vP p c).2,0≤e.kind∧e.kind≤5:=by
 have fin:∀(p:Pz) (c:Int),∀e∈(bT p c).2,0≤e.kind∧e.kind≤5:=fun p c=>by
  unfold bT
  repeat' split
  all_goals first
   |(intro e h;simp at h;done)
   |(unfold qKz;split<;>intro e h<;>simp at h;subst h;exact(by decide:(0:Int)≤2∧(2:Int)≤5))
 have pr1:∀(p:Pz) (r:Int),∀e∈(print1 p r).2,0≤e.kind∧e.kind≤5:=fun p r=>by
  unfold print1
  split
  · intro e h;rw[jM.1 h];exact(by decide:(0:Int)≤1∧(1:Int)≤5)
  split
  · intro e h;simp at h
  split
  · exact fin _ _
  · intro e h;rw[jM.1 h];exact(by decide:(0:Int)≤0∧(0:Int)≤5)
 have prs:∀(l:List Int) (p:Pz),∀e∈(vZ p l).2,0≤e.kind∧e.kind≤5:=fun l=>by
  induction l with
  |nil=>intro p e h;simp[vZ]at h
  |cons r l ih=>intro p e h;exact(kU.1 h).elim (pr1 _ _ e) (ih _ e)
 have ens:∀(p:Pz),∀e∈mF p,0≤e.kind∧e.kind≤5:=fun p=>by
  unfold mF
  split
  · intro e h;rw[jM.1 h];exact⟨by show(0:Int)≤4;decide,by show(4:Int)≤5;decide⟩
  split
  · intro e h;rw[jM.1 h];exact⟨by show(0:Int)≤5;decide,by show(5:Int)≤5;decide⟩
  · intro e h;cases h
 have one:∀c:Int,∀e∈[sL c],0≤e.kind∧e.kind≤5:=fun c e h=>by rw[jM.1 h];exact⟨by show(0:Int)≤1;decide,by show(1:Int)≤5;decide⟩
 unfold vP
 split
 · intro e h;exact(kU.1 h).elim (prs _ _ e) (one c e)
 split
 · intro e h;exact(kU.1 h).elim (prs _ _ e) (ens _ e)
 split
 · exact prs _ _
 split
 · unfold eG
   split
   · intro e h;cases h
   split
   · intro e h;cases h
   split
   · exact ens _
   split
   · intro e h;cases h
   · intro e h;cases h
 · unfold dO
   split
   · exact prs _ _
   split
   · intro e h;cases h
   split
   · exact one c
   split
   · unfold cI
     split
     · intro e h;cases h
     · exact fin _ _
   · unfold mM
     split
     · intro e h;cases h
     split
     · intro e h;cases h
     split
     · intro e h;cases h
     · show ∀e∈csiE p c,_;unfold csiE
       split
       · intro e h;cases h
       · intro e h;rw[jM.1 h];exact⟨by show(0:Int)≤3;decide,by show(3:Int)≤5;decide⟩
section
variable {base:Nat}{w:World}{v:Tv}{t:Tm}
theorem ExsO.keepT{w':World}{lo:Nat}{u:Value}{L:List Ex}{evs:List Ev}(h:ExsO w lo u L evs)(hO:TmO base w v t)(hm:Mod (tmX v) w w'):ExsO w' lo u L evs:=by
 have hno:∀(b:Nat) (ty:TypeId),TyB w b ty→(ty=241∨ty=3∨ty=83)→b∉tmX v:=fun b ty hb ht hx=>by
  obtain⟨cur,hc⟩:=hb;exact fZ.apart (l1:=[ty]) ⟨cur,ty,hc,by simp⟩ (hO.tyX b hx) (fun t2 h2=>by rw[jM.1 h2];rcases ht with rfl|rfl|rfl<;>decide)
 exact⟨kD h.own hm (fun g hg=>hno g _ (uR h.own hg) (.inr (.inr rfl))),h.es,fun x hx=>(h.ok x hx).modT hm (fun b hb=>.inr (.inr ⟨fun ht=>hno b _ ht (.inl rfl) hb,fun ht=>hno b _ ht (.inr (.inl rfl)) hb⟩))⟩
def qV5(base:Nat)(ev:Tm→Ev→Tm)(Ok:Tm→Ev→Prop):Prop:=∀(W:World) (lo:Nat) (v:Tv) (t:Tm) (x:Ex),TmO base W v t→ExOk W lo x→Ok t x.e→Calls jG (mU x.e.kind) #[.pointer (some ⟨v.M,0,none⟩),.agg #[.int .i64 x.e.kind,.int .i32 x.e.r,.int .u8 x.e.byte,.int .u8 x.e.pre,.slice x.A x.H.length x.ca,.string (strOfNums x.e.inter),.string (strOfNums x.e.text),.bool x.e.cut]] W (nQ base W v (ev t x.e))
def WG(w:World)(A:Option Addr)(bs:List Int)(X:List Nat):Prop:=0<bs.length→∃g off,A=some ⟨g,off,none⟩∧g∉X∧∀i x,bs[i]? =some x→w.cell? ⟨g,off+i,none⟩=some (.int .u8 x)
structure FdI(base:Nat)(w:World)(v:Tv)(ev:Tm→Ev→Tm)(t1:Tm)(lo:Nat)(u:Value)(L:List Ex)(evs:List Ev)(wr:World)(j:Nat):Prop where
 r:zF base w v (cQ ev t1 (evs.take j)) wr
 x:ExsO wr lo u L evs
theorem X9(ev:Tm→Ev→Tm)(t:Tm)(l:List Ev)(e:Ev):cQ ev t (l++[e])=ev (cQ ev t l) e:=by simp[cQ]
theorem Yc(ev:Tm→Ev→Tm)(t:Tm)(l:List Int)(c:Int):bI ev t (l++[c])=Qd ev (bI ev t l) c:=by simp[bI]
set_option maxHeartbeats 3200000 in
theorem Wk(ev:Tm→Ev→Tm)(Ok:Tm→Ev→Prop)(HD:qV5 base ev Ok)(hev:∀t e,(ev t e).pz=t.pz)(h:TmO base w v t)(hok:PzOk t.pz){A:Option Addr}{bs:List Int}{ca:Nat}(hb:WG w A bs (tmX v))(hbs:VB bs)(hz:bs.length≤100000000)(hF:iJ ev Ok t bs):
 Calls jG 9 #[.pointer (some ⟨v.M,0,none⟩),.slice A bs.length ca] w (nQ base w v (bI ev t bs)):=by
 have HDo:=Hd HD;have HFd:=Hd hF;have HO:=Hd h;have hpz:∀k,PzOk (bI ev t (bs.take k)).pz:=fun k=>by
  have h1:∀(es:List Ev) (t:Tm),(cQ ev t es).pz=t.pz:=fun es=>by
   induction es with
   |nil=>intro t;rfl
   |cons e es ih=>intro t;show(cQ ev (ev t e) es).pz=_;rw[ih,hev]
  have h2:∀(l:List Int) (t:Tm),VB l→PzOk t.pz→PzOk (bI ev t l).pz:=fun l=>by
   induction l with
   |nil=>intro t _ h;exact h
   |cons c l ih=>intro t hl h;exact ih _ (fun x hx=>hl x (List.mem_cons_of_mem _ hx)) (by show PzOk (cQ ev _ _).pz;rw[h1];exact h.step (by have :=hl c (List.mem_cons_self ..);omega))
  exact h2 _ _ (fun x hx=>hbs x (List.mem_of_mem_take hx)) hok
 have HPz:=Hd hpz;have HBy:Hid (∀wr,Mod (tmX v) w wr→∀k,k<bs.length→∃g off c,A=some ⟨g,off,none⟩∧bs[k]? =some c∧wr.cell? ⟨g,off+k,none⟩=some (.int .u8 c)∧0≤c∧c≤255):=Hd (fun wr hm k hk=>by
  obtain⟨g,off,e,h1,h2⟩:=hb qJ;have hc:=jN hk;have :=hbs _ (List.getElem_mem hk);exact⟨g,off,bs[k],e,hc,hm.cell h1 (h2 k _ hc),by omega,by omega⟩)
 generalize hN:bs.length=n at hz HBy ⊢;have HN:=Hd hN;clear HD hF h hok hb hbs hpz hN
 go_enter Tryz.func9,Tryz.ntmps9
 go_wp2_with fail
 go_loopw [13] (fun s13 wr=>∃k:Nat,s13=.int .i64 k∧k≤n∧zF base w v (bI ev t (bs.take k)) wr) (fun s13 _=>n-(intOf s13).toNat)
 case atStart=>exact⟨0,rfl,kM _,HO.o.res⟩
 case round=>
  obtain⟨k,rfl,hk,hR⟩:=hrel;obtain⟨W1,rfl⟩:∃W1,W1=wr:=⟨_,rfl⟩;have HR:=Hd hR;clear hR
  by_cases hlt:k<n
  · have hltI:(k:Int)<(n:Int):=by omega
    have hwk:jE.wrap ((k:Int)+1)=(k:Int)+1:=jF _ qJ;obtain⟨v1,hV1,hO1,hm1⟩:=HR.o;obtain⟨g,off,c,rfl,hck,hcell,hc0,hc1⟩:=HBy.o W1 hm1 k hlt;have HSt:=Hd (WM Xv hO1.z (HPz.o k) c ⟨hc0,hc1⟩);have HEo:=Hd (HFd.o k c hck);have htk:bI ev t (bs.take (k+1))=Qd ev (bI ev t (bs.take k)) c:=by
     obtain⟨h1,h2⟩:=jP.1 hck;rw[kQ h1,h2,Yc]
    unfold Qd at htk;have HTk:=Hd htk;have hkd:=X8 (bI ev t (bs.take k)).pz c;have p0:=hO1.facts.1;rw[hV1.M]at p0;have HO1:=Hd hO1;have HV1:=Hd hV1;have HM1:=Hd hm1;have HKd:=Hd hkd;clear hO1 hV1 hm1 htk hkd hck;generalize bI ev t (bs.take k)=tk at HSt HEo HTk HO1 HKd
    go_wp2_with(go_at_call 37;(with_reducible refine HSt.o.mono ?_);rintro e w2 ⟨u,L,rfl,hx,hr⟩;obtain⟨Ae,ce,rfl⟩:=uT hx.own;have HX:=Hd hx;have HZ:=Hd hr;clear hx hr)
    generalize (vP tk.pz c).1=p1 at HEo HTk HZ;generalize (vP tk.pz c).2=evs at HEo HTk HX HKd;have HR1:=Hd (zF.trans HV1.o HM1.o (HO1.o.withZ HZ.o));have HLn:=Hd HX.o.len;have HX0:Hid (ExsO w2 W1.heap.size (.slice Ae L.length ce) L evs):=HX;generalize hm:L.length=m at HX0;have HM:=Hd hm;have hmx:m≤maxLen:=by
     rcases HX0.o.own.2 with⟨e1,-⟩|⟨g,c,cur,e1,-,-,e4,e5,-⟩
     · injection e1 with e1 e2 e3;omega
     · rw[←hm];omega
    have hmx2:m≤9223372036854775807:=by unfold maxLen at hmx;exact hmx
    clear hm HX hcell p0 hmx
    go_loopw [24] (fun s24 wr2=>∃j:Nat,s24=.int .i64 j∧j≤m∧FdI base w v ev {tk with pz:=p1} W1.heap.size (.slice Ae m ce) L evs wr2 j) (fun s24 _=>m-(intOf s24).toNat)
    case atStart=>exact⟨0,rfl,kM _,⟨HR1.o,HX0.o⟩⟩
    case round=>
     obtain⟨j,rfl,hj,hI⟩:=hrel;have HI:=Hd hI;clear hI
     by_cases hlj:j<m
     · have hljI:(j:Int)<(m:Int):=by omega
       have hwj:jE.wrap ((j:Int)+1)=(j:Int)+1:=jF _ qJ;obtain⟨W2,rfl⟩:∃W2,W2=wr:=⟨_,rfl⟩;have hjL:j<L.length:=by have :=HM.o;omega
       obtain⟨x,hx⟩:∃x,L[j]? =some x:=⟨_,jN hjL⟩;obtain⟨eb,ce',he⟩:=gH HI.o.x.own qJ;obtain rfl:Ae=some ⟨eb,0,none⟩:=by injection he
       have hrg:W2.rangeAt eb (j*8) (zA x):=fun i u hi=>by
        have :=kL.cells HI.o.x.own (g:=eb) rfl (j*8+i) u (by rw[yN tE L j x i hx (by have :=(jP.1 hi).1;rw[tE]at this;exact this)];exact hi);rw[vF,kP]at this;exact this
       have HRg:=Hd hrg;have hxe:evs[j]? =some x.e:=by rw[←HI.o.x.es,uX,hx];rfl
       have HXe:=Hd hxe;have HXo:=Hd (HI.o.x.ok x (uB hx));have HKx:=Hd (HKd.o x.e (uB hxe));obtain⟨v2,hV2,hO2,hm2⟩:=HI.o.r;have HV2:=Hd hV2;have HO2:=Hd hO2;have HM2:=Hd hm2;obtain⟨N,hNN⟩:∃N,W2.heap.size=N:=⟨_,rfl⟩;have HNN:=Hd hNN;clear hV2 hO2 hm2 hx hjL he hrg hxe
       go_upto_region 6 with fail
       refine wp_region_lit ?_;refine jB (.pointer (some ⟨eb,j*8,none⟩)) qK qX ?_;simp only[Act.put,jZ,jX,jY];refine vK qK 83 (.tmp 26) rfl (eb) (j*8) rfl (zA x) _ (HRg.o) Tryz.underlying83 rfl dY ?_;simp only[Act.put,jZ,jX,jY];refine uC (.pointer (some ⟨N,0,none⟩)) (W2.alloc (.cells #[.int .i64 0,.int .i32 0,.int .u8 0,.int .u8 0,.slice none 0 0,.string ⟨#[]⟩,.string ⟨#[]⟩,.bool false] 83)) qK (by rw[←hNN];go_simp) ?_;simp only[Act.put,jZ,jX,jY];refine wpList_store_mid rfl 83 (.tmp 7) (.tmp 27) rfl (N) (0) ((zA x).toArray) rfl rfl (qKy (cs:=[.int .i64 0,.int .i32 0,.int .u8 0,.int .u8 0,.slice none 0 0,.string ⟨#[]⟩,.string ⟨#[]⟩,.bool false]) (jT hNN) rfl) dY (all_oneCell_toArray (tA x)) ?_;simp only[Act.put];have hn5:=uF (b:=N) (t:=83) (zA x) 0 [.int .i64 0,.int .i32 0,.int .u8 0,.int .u8 0,.slice none 0 0,.string ⟨#[]⟩,.string ⟨#[]⟩,.bool false] (W2.alloc (.cells #[.int .i64 0,.int .i32 0,.int .u8 0,.int .u8 0,.slice none 0 0,.string ⟨#[]⟩,.string ⟨#[]⟩,.bool false] 83)) (jT hNN) (jD 8)
       have hb5:Below W2.heap.size W2 ((W2.alloc (.cells #[.int .i64 0,.int .i32 0,.int .u8 0,.int .u8 0,.slice none 0 0,.string ⟨#[]⟩,.string ⟨#[]⟩,.bool false] 83)).setCells N 0 (zA x)):=yF (jH (jU _ _) _) (Nat.le_of_eq hNN) (zA x) 0;generalize (W2.alloc (.cells #[.int .i64 0,.int .i32 0,.int .u8 0,.int .u8 0,.slice none 0 0,.string ⟨#[]⟩,.string ⟨#[]⟩,.bool false] 83)).setCells N 0 (zA x)=W5 at hn5 hb5 ⊢;have hn6:W5.heap[N]? =some (.cells #[.int .i64 x.e.kind,.int .i32 x.e.r,.int .u8 x.e.byte,.int .u8 x.e.pre,.slice x.A x.H.length x.ca,.string (strOfNums x.e.inter),.string (strOfNums x.e.text),.bool x.e.cut] 83 (0,0)):=hn5;have d0:=(at_ hn6 0 _ rfl).1;have HRg5:=Hd (uH (cs:=zA x) hn5);have HB5:=Hd hb5;have HDr:=Hd (fun W=>Wv v.M x.e.kind HKx.o W);have hfc:=Ko x.e.kind #[.pointer (some ⟨v.M,0,none⟩),.agg (zA x).toArray];have HDx:Hid (Calls jG (mU x.e.kind) #[.pointer (some ⟨v.M,0,none⟩),.agg #[.int .i64 x.e.kind,.int .i32 x.e.r,.int .u8 x.e.byte,.int .u8 x.e.pre,.slice x.A x.H.length x.ca,.string (strOfNums x.e.inter),.string (strOfNums x.e.text),.bool x.e.cut]] W5 (nQ base W5 v2 (ev (cQ ev {tk with pz:=p1} (evs.take j)) x.e))):=Hd (by
        have :=HDo.o W5 W1.heap.size v2 _ x (HO2.o.below hb5) (HXo.o.below hb5) (HEo.o j x.e HXe.o);rw[HV2.o.M]at this;exact this)
       clear hn5 hn6 hb5 hNN;have hnq:=fun W=>qKh (mU x.e.kind) #[.pointer (some ⟨v.M,0,none⟩)] W
       go_upto_region 9 with(go_at_call 38;(with_reducible refine(HDr.o _).mono ?_);rintro e w6 ⟨rfl,rfl⟩)
       refine wp_region_lit ?_;refine jB (.func (.func (mU x.e.kind)) #[.pointer (some ⟨v.M,0,none⟩)] #[]) qK qK ?_;simp only[Act.put,jZ,jX,jY];refine vK qK 83 (.tmp 7) rfl (N) (0) rfl (zA x) _ (HRg5.o) Tryz.underlying83 rfl dY ?_;simp only[Act.put,jZ,jX,jY];refine pD rfl (mU x.e.kind) #[.pointer (some ⟨v.M,0,none⟩),.agg (zA x).toArray] qX (R:=fun u w'=>u=.tuple #[]∧zF base W5 v2 (ev (cQ ev {tk with pz:=p1} (evs.take j)) x.e) w') (HDx.o.mono (fun e w' ⟨he,hr⟩=>⟨_,he,rfl,hr⟩)) ?_;rintro u7 w7 ⟨rfl,hr⟩;simp only[Act.put,jZ,jX,jY];have HI2:Hid (FdI base w v ev {tk with pz:=p1} W1.heap.size (.slice (some ⟨eb,0,none⟩) m ce) L evs w7 (j+1)):=Hd (by
        refine⟨?_,?_⟩
        · have ht:evs.take (j+1)=evs.take j++[x.e]:=by
           obtain⟨h1,h2⟩:=jP.1 HXe.o;rw[kQ h1,h2]
          rw[ht,X9];exact zF.trans HV2.o HM2.o (zF.pre HB5.o hr)
        · obtain⟨v3,-,-,hm3⟩:=hr;exact(HI.o.x.below HB5.o).keepT (HO2.o.below HB5.o) hm3)
       clear hr
       go_wp2
       go_roundw
       case rel=>exact⟨j+1,by go_num,by omega,HI2.o⟩
       case measure=>simp[intOf];omega
     · have hljI:¬(j:Int)<(m:Int):=by omega
       obtain rfl:j=m:=by omega
       have hR:zF base w v (bI ev t (bs.take (k+1))) wr:=by
        have :=HI.o.r;rw[vY (by rw[←HLn.o,HM.o];exact jD _)]at this;rw[HTk.o];exact this
       have HR2:=Hd hR;clear hR
       go_wp2
       go_roundw
       case rel=>exact⟨k+1,by go_num,by omega,HR2.o⟩
       case measure=>simp[intOf];omega
  · have hltI:¬(k:Int)<(n:Int):=by omega
    obtain rfl:k=n:=by omega
    have hR:zF base w v (bI ev t bs) W1:=by have :=HR.o;rw[←HN.o,List.take_length]at this;exact this
    have HR2:=Hd hR;clear hR
    go_wp2
    go_end0
    exact⟨rfl,HR2.o⟩
end
theorem iJ.nil{ev:Tm→Ev→Tm}{Ok:Tm→Ev→Prop}{t:Tm}:iJ ev Ok t []:=fun k c h=>by simp at h
theorem iJ.cons{ev:Tm→Ev→Tm}{Ok:Tm→Ev→Prop}{t:Tm}{c:Int}{bs:List Int}(h:lD ev Ok {t with pz:=(vP t.pz c).1} (vP t.pz c).2)(hs:iJ ev Ok (Qd ev t c) bs):iJ ev Ok t (c::bs):=fun k x hx=>by
 match k,hx with
 |0,hx=>obtain rfl:c=x:=by simpa using hx
        exact h
 |k+1,hx=>exact hs k x (by simpa using hx)
end Go.Proofs.YtaefcahblmopfaaGreatDoor
