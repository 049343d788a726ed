/- Joined by a tool of this claim out of smaller texts. Conditions: as stated. -/
import Derived.Test.YtaefcahblmopfaaGreatDoorDj21
import Derived.Lib.TrailingZeros
import Derived.Lib.BitFns
set_option linter.unusedVariables false
set_option linter.unusedSimpArgs false
set_option maxRecDepth 100000
open Go.Lib renaming hid → Hd
open List renaming setIfInBounds_toArray → jZ, set_cons_zero → jX, set_cons_succ → jY, mem_singleton → jM, getElem?_eq_getElem → jN, drop_succ_cons → jL, take_succ_cons → jS, drop_zero → jO, mem_cons → kJ, take_zero → kK, getD_eq_getElem?_getD → kX, getElem?_eq_none → uZ, getElem?_map → uX
open Go.Proofs.Tryz renaming prog → jG
open Go.RowKit.Below renaming refl → jU
open Nat renaming le_refl → jD, le_trans → jI, zero_add → kP, add_zero → uA
open Go.IntWalk renaming i64_in → jF
open Go.IntKind renaming i64 → jE
open Go.World renaming ownsRow_nil → kS, setCell → uN
namespace Go.Proofs.YtaefcahblmopfaaGreatDoor
open Go.RowKit
section
variable {base:Nat}{w:World}{v:Sv}{s:Sc}
theorem room_x(hi:ScI s)(hc:2≤s.pg.cols){n:Int}(hn1:1≤n)(hn2:n≤2):0≤(mZ s n).x∧(mZ s n).x+n≤s.pg.cols:=by
 have hx0:=hi.x0;unfold mZ fP
 split
 · exact⟨hx0,by assumption⟩
 split
 · exact⟨by show 0≤(s.pg.cols:Int)-n;omega,by show(s.pg.cols:Int)-n+n≤_;omega⟩
 · unfold onS
   split
   · exact⟨Int.le_refl _,by show 0+n≤_;omega⟩
   · exact⟨Int.le_refl _,by show 0+n≤_;omega⟩
set_option maxHeartbeats 3200000 in
theorem Xn(h:ScO base w v s)(hi:ScI s)(ht:s.pg.told.length≤900000)(r:Int):Calls jG 181 #[.pointer (some ⟨v.S,0,none⟩),.int .i32 r] w (fK base w v (oW s r)):=by
 have HW:=Hd (fun w=>cT r w);have hc2:=h.page.cols2;have hc3:=h.page.cols1000;have hx0:=hi.x0;have hx1:=hi.x1;have HO:=Hd h;have HI:=Hd hi;have hwr:oW s r=if vB r=0 then{s with pg:=zC s.pg s.y (fun l=>cM l (s.x-1) r)}else if vB r<1 then s else V8 (aB (mZ s (vB r)) (vB r)) r (vB r):=rfl;rw[hwr];have hwd:vB r≤2:=by
  unfold vB
  split
  · decide
  split
  · decide
  split<;>decide
 generalize hn:vB r=n at *;clear h hi hwr hn
 by_cases h0:n=0
 · subst h0;rw[if_pos rfl];have hwx:jE.wrap (s.x-1)=s.x-1:=jF _ qJ
   go_enter Tryz.func181,Tryz.ntmps181
   go_upto_region 2 with(go_at_call 162;refine(HW.o _).mono ?_;rintro e w1 ⟨rfl,hb⟩;have HB1:=Hd hb;clear hb)
   rename World=>W1
   have hO1:=HO.o.below HB1.o;have HMK:Hid (∀w',Below W1.heap.size W1 w'→Calls jG 276 #[.pointer (some ⟨v.q.P,0,none⟩),.int .i64 s.y,.int .i64 (s.x-1),.int .i32 r] w' (pJ base w' v.q (zC s.pg s.y (fun l=>cM l (s.x-1) r)))):=Hd (fun w' hb=>J8 (hO1.below hb).page s.y (s.x-1) r);obtain⟨c14,-⟩:=at_ hO1.blk 14 (.pointer (some ⟨v.q.P,0,none⟩)) rfl;obtain⟨c16,-⟩:=at_ hO1.blk 16 (.int .i64 s.y) rfl;obtain⟨c17,-⟩:=at_ hO1.blk 17 (.int .i64 s.x) rfl;have HO1:=Hd hO1;clear hO1;refine kW 14 (fun w'=>Below W1.heap.size W1 w'∧w'.cell? ⟨v.S,14,none⟩=some (.pointer (some ⟨v.q.P,0,none⟩))∧w'.cell? ⟨v.S,16,none⟩=some (.int .i64 s.y)∧w'.cell? ⟨v.S,17,none⟩=some (.int .i64 s.x)) qQ qQ ?_ ?_
   · exact⟨(jU _ _).drew,c14,c16,c17⟩
   simp only[jS,kK,jL,jO]
   repeat(
    (first
     |refine kF qK ?_
     |(refine kT ?_ qK ?_ ?_;rotate_left;(focus(intro w' hS;obtain⟨_,_,_,_⟩:=hS;go_simp;first|done|with_reducible rfl))))
    simp only[Act.put,jZ,jX,jY])
   refine kE (fun w' hS=>?_);have HB2:=Hd hS.1;clear hS c14 c16 c17
   go_wp2_with(go_at_call 276;refine(HMK.o _ HB2.o).mono ?_;rintro e w3 ⟨rfl,hp⟩;have HP3:=Hd hp;clear hp)
   go_end0
   exact⟨rfl,pU.trans ⟨rfl,rfl,rfl,(Mod.of_below HB1.o).then_below HB2.o,fun b hb=>.inl hb⟩ ((HO1.o.below HB2.o).paged HP3.o)⟩
 rw[if_neg h0];have h0b:(n==0)=false:=by simpa using h0
 by_cases h1:n<1
 · rw[if_pos h1]
   go_enter Tryz.func181,Tryz.ntmps181
   go_wp2_with(go_at_call 162;refine(HW.o _).mono ?_;rintro e w1 ⟨rfl,hb⟩;have HB1:=Hd hb;clear hb)
   go_end0
   exact⟨rfl,HO.o.res_below HB1.o⟩
 rw[if_neg h1];have HRM:Hid (∀w',Below w.heap.size w w'→Calls jG 277 #[.pointer (some ⟨v.S,0,none⟩),.int .i64 n] w' (fK base w' v (mZ s n))):=Hd (fun w' hb=>Wf (HO.o.below hb) HI.o ht n qJ hwd);obtain⟨hr0,hr1⟩:=room_x HI.o hc2 (n:=n) qJ hwd;obtain⟨s1,hs1⟩:∃s1,mZ s n=s1:=⟨_,rfl⟩;rw[hs1]at HRM hr0 hr1 ⊢;have hwx:jE.wrap (s1.x+n)=s1.x+n:=jF _ qJ;clear hs1;have hsh:aB s1 n=if s1.pen.put=true then{s1 with pg:=zC s1.pg s1.y (fun l=>bM l s1.x n (XY s1))}else s1:=by unfold aB;cases s1.pen.put<;>rfl
 obtain⟨s2,hs2⟩:∃s2,aB s1 n=s2:=⟨_,rfl⟩;have hs2x:s2.x=s1.x∧s2.y=s1.y∧s2.pen=s1.pen:=by rw[←hs2,hsh];split<;>exact⟨rfl,rfl,rfl⟩
 rw[hs2]at hsh ⊢;have HX2:=Hd hs2x;clear hs2x;have HSH:=Hd hsh;clear hsh hs2;cases hput:s1.pen.put
 all_goals
  go_enter Tryz.func181,Tryz.ntmps181
  go_upto_region 5 with(first
   |(go_at_call 162;refine(HW.o _).mono ?_;rintro e w1 ⟨rfl,hb⟩;have HB1:=Hd hb;clear hb)
   |(go_at_call 277;refine(HRM.o _ HB1.o).mono ?_;rintro e w2 ⟨rfl,hs⟩;have HS2:=Hd (pU.pre HB1.o hs);clear hs))
  obtain⟨v2,e1,e2,e3,hO2,hm2,hx2⟩:=HS2.o
  rename World=>W2
  have HO2:=Hd hO2;have HE2:=Hd (show v2.S=v.S∧v2.T=v.T∧v2.q.P=v.q.P∧Mod (scX v) w W2∧∀b∈scX v2,b∈scX v∨w.heap.size≤b from⟨e1,e2,e3,hm2,hx2⟩);obtain⟨c11,-⟩:=at_ hO2.blk 11 (.bool s1.pen.put) rfl;rw[e1,hput]at c11;clear hO2 hm2 hx2 e2 e3 HS2
 have HR7:Hid (pU base w v s2 W2):=Hd (by
  have e:s2=s1:=by rw[HSH.o,hput];rfl
  rw[e];exact pU.trans HE2.o HO2.o.res)
 go_upto_region 7 with fail
 clear HO2 HE2 c11
 rename World=>W7
 rotate_left;have HBK:Hid (∀w',Below W2.heap.size W2 w'→Calls jG 279 #[.pointer (some ⟨v.S,0,none⟩)] w' fun e w3=>e=.returned (.agg #[.int .i64 s1.pen.at_.bk,.int .i64 s1.pen.at_.bn])∧Below w'.heap.size w' w3):=Hd (fun w' hb=>by rw[←e1];exact tU (HO2.o.below hb));have HIN:Hid (∀w',Below W2.heap.size W2 w'→Calls jG 278 #[.pointer (some ⟨v2.q.P,0,none⟩),.int .i64 s1.y,.int .i64 s1.x,.int .i64 n,.agg #[.int .i64 s1.pen.at_.bk,.int .i64 s1.pen.at_.bn]] w' (pJ base w' v2.q (zC s1.pg s1.y (fun l=>bM l s1.x n ⟨s1.pen.at_.bk,s1.pen.at_.bn⟩)))):=Hd (fun w' hb=>ZM (HO2.o.below hb).page s1.y s1.x n ⟨s1.pen.at_.bk,s1.pen.at_.bn⟩);obtain⟨c14,-⟩:=at_ HO2.o.blk 14 (.pointer (some ⟨v2.q.P,0,none⟩)) rfl;obtain⟨c16,-⟩:=at_ HO2.o.blk 16 (.int .i64 s1.y) rfl;obtain⟨c17,-⟩:=at_ HO2.o.blk 17 (.int .i64 s1.x) rfl;rw[e1]at c14 c16 c17
 go_upto_region 6 with fail
 clear c11;refine kW 15 (fun w'=>Below W2.heap.size W2 w'∧w'.cell? ⟨v.S,14,none⟩=some (.pointer (some ⟨v2.q.P,0,none⟩))∧w'.cell? ⟨v.S,16,none⟩=some (.int .i64 s1.y)∧w'.cell? ⟨v.S,17,none⟩=some (.int .i64 s1.x)) qQ qQ ?_ ?_
 · exact⟨(jU _ _).drew,c14,c16,c17⟩
 simp only[jS,kK,jL,jO]
 repeat(
  (first
   |refine kF qK ?_
   |((refine uO 279 #[.pointer (some ⟨v.S,0,none⟩)] (.agg #[.int .i64 s1.pen.at_.bk,.int .i64 s1.pen.at_.bn]) qK ?_ (fun w' hS=>(HBK.o w' hS.1).mono fun e w2 ⟨he,hb⟩=>⟨he,jW hS.1 hb,kZ hb hS.2.1,kZ hb hS.2.2.1,kZ hb hS.2.2.2⟩) ?_;(focus(intro w2;go_simp;done))))
   |(refine kT ?_ qK ?_ ?_;rotate_left;(focus(intro w' hS;obtain⟨_,_,_,_⟩:=hS;go_simp;first|done|with_reducible rfl))))
  simp only[Act.put,jZ,jX,jY])
 refine kE (fun w' hS=>?_);have HB3:=Hd hS.1;clear hS c14 c16 c17
 go_upto_region 7 with(go_at_call 278;refine(HIN.o _ HB3.o).mono ?_;rintro e w4 ⟨rfl,hp⟩;have HP4:=Hd hp;clear hp)
 have HR7:Hid (pU base w v s2 w4):=Hd (by
  have e:s2={s1 with pg:=zC s1.pg s1.y (fun l=>bM l s1.x n (XY s1))}:=by rw[HSH.o,hput];rfl
  rw[e];exact pU.trans HE2.o (pU.pre HB3.o ((HO2.o.below HB3.o).paged HP4.o)))
 clear HO2 HE2 HB3 HP4 HBK HIN
 rename World=>W7
 rotate_left
 all_goals
  obtain⟨v7,f1,f2,f3,hO7,hm7,hx7⟩:=HR7.o;have HO7:=Hd hO7;have HE7:=Hd (show v7.S=v.S∧v7.T=v.T∧v7.q.P=v.q.P∧Mod (scX v) w W7∧∀b∈scX v7,b∈scX v∨w.heap.size≤b from⟨f1,f2,f3,hm7,hx7⟩);have HPT:Hid (∀w',Below W7.heap.size W7 w'→Calls jG 198 #[.pointer (some ⟨v7.q.P,0,none⟩),.int .i64 s2.y,.int .i64 s2.x,.int .i32 r,.agg #[.int .i64 s2.pen.at_.fk,.int .i64 s2.pen.at_.fn,.int .i64 s2.pen.at_.bk,.int .i64 s2.pen.at_.bn,.int .i64 s2.pen.at_.fl]] w' (pJ base w' v7.q (zC s2.pg s2.y (fun l=>fV l s2.x r s2.pen.at_)))):=Hd (fun w' hb=>qKa (HO7.o.below hb).page s2.y s2.x r s2.pen.at_);obtain⟨c14,-⟩:=at_ hO7.blk 14 (.pointer (some ⟨v7.q.P,0,none⟩)) rfl;obtain⟨c16,-⟩:=at_ hO7.blk 16 (.int .i64 s2.y) rfl;obtain⟨c17,-⟩:=at_ hO7.blk 17 (.int .i64 s2.x) rfl;obtain⟨c0,-⟩:=at_ hO7.blk 0 (.int .i64 s2.pen.at_.fk) rfl;obtain⟨c1,-⟩:=at_ hO7.blk 1 (.int .i64 s2.pen.at_.fn) rfl;obtain⟨c2,-⟩:=at_ hO7.blk 2 (.int .i64 s2.pen.at_.bk) rfl;obtain⟨c3,-⟩:=at_ hO7.blk 3 (.int .i64 s2.pen.at_.bn) rfl;obtain⟨c4,-⟩:=at_ hO7.blk 4 (.int .i64 s2.pen.at_.fl) rfl;rw[f1]at c14 c16 c17 c0 c1 c2 c3 c4;clear hO7 hm7 hx7 HR7 f2 f3
  refine kW 18 (fun w'=>Below W7.heap.size W7 w'∧w'.cell? ⟨v.S,14,none⟩=some (.pointer (some ⟨v7.q.P,0,none⟩))∧w'.cell? ⟨v.S,16,none⟩=some (.int .i64 s2.y)∧w'.cell? ⟨v.S,17,none⟩=some (.int .i64 s2.x)∧w'.cell? ⟨v.S,0,none⟩=some (.int .i64 s2.pen.at_.fk)∧w'.cell? ⟨v.S,1,none⟩=some (.int .i64 s2.pen.at_.fn)∧w'.cell? ⟨v.S,2,none⟩=some (.int .i64 s2.pen.at_.bk)∧w'.cell? ⟨v.S,3,none⟩=some (.int .i64 s2.pen.at_.bn)∧w'.cell? ⟨v.S,4,none⟩=some (.int .i64 s2.pen.at_.fl)) qQ qQ ?_ ?_
  · exact⟨(jU _ _).drew,c14,c16,c17,c0,c1,c2,c3,c4⟩
  simp only[jS,kK,jL,jO]
  repeat(
   (first
    |refine kF qK ?_
    |(refine kT ?_ qK ?_ ?_;rotate_left;(focus(intro w' hS;obtain⟨_,_,_,_,_,_,_,_,_⟩:=hS;go_simp;first|done|with_reducible rfl))))
   simp only[Act.put,jZ,jX,jY])
  refine kE (fun w' hS=>?_);have HB8:=Hd hS.1;clear hS c14 c16 c17 c0 c1 c2 c3 c4
  rename World=>W8
  go_upto_region 8 with(go_at_call 198;refine(HPT.o _ HB8.o).mono ?_;rintro e w9 ⟨rfl,hp⟩;have HS9:=Hd (pU.trans HE7.o (pU.pre HB8.o ((HO7.o.below HB8.o).paged hp)));clear hp)
  obtain⟨v9,g1,g2,g3,hO9,hm9,hx9⟩:=HS9.o;obtain⟨d17,df17⟩:=at_ hO9.blk 17 (.int .i64 s2.x) rfl;obtain⟨d37,df37⟩:=at_ hO9.blk 37 (.int .i32 s2.last) rfl;rw[g1]at d17 df17 d37 df37;rw[HX2.o.1]at d17;have HO10:=Hd (hO9.put 17 (.int .i64 (s1.x+n)) (s':={s2 with pg:=zC s2.pg s2.y (fun l=>fV l s2.x r s2.pen.at_),x:=s1.x+n}) rfl rfl rfl);have HM10:=Hd (hm9.trans (ScO.mod_put (v:=v9) 17 (.int .i64 (s1.x+n))) hx9);have HE10:=Hd (show v9.S=v.S∧v9.T=v.T∧v9.q.P=v.q.P∧∀b∈scX v9,b∈scX v∨w.heap.size≤b from⟨g1,g2,g3,hx9⟩);rw[g1]at HO10 HM10;clear hO9 hm9 hx9 HS9 HE7 HO7 HPT d37 df37 g2 g3
  go_upto_region 9 with fail
  clear d17 df17;generalize uN _ _ _=W10 at HO10 HM10 ⊢;obtain⟨d37,df37⟩:=at_ HO10.o.blk 37 (.int .i32 s2.last) rfl;rw[g1]at d37 df37
  go_wp2
  go_end0
  have hf:V8 s2 r n={s2 with pg:=zC s2.pg s2.y (fun l=>fV l s2.x r s2.pen.at_),x:=s1.x+n,last:=r}:=by unfold V8;rw[HX2.o.1]
  rw[hf];have hO11:=HO10.o.put 37 (.int .i32 r) (s':={s2 with pg:=zC s2.pg s2.y (fun l=>fV l s2.x r s2.pen.at_),x:=s1.x+n,last:=r}) rfl rfl rfl;have hM11:=HM10.o.trans (ScO.mod_put (v:=v9) 37 (.int .i32 r)) HE10.o.2.2.2;rw[g1]at hO11 hM11;exact⟨rfl,v9,g1,HE10.o.2.1,HE10.o.2.2.1,hO11,hM11,HE10.o.2.2.2⟩
end
section
variable {base:Nat}{w:World}{v:Sv}{s:Sc}
theorem JT(n lo hi:Int)(w:World):Calls jG 296 #[.int .i64 n,.int .i64 lo,.int .i64 hi] w fun e w'=>e=.returned (.int .i64 (pP n lo hi))∧w=w':=by
 unfold pP
 go_enter Tryz.func296,Tryz.ntmps296
 go_wp2
 all_goals
  go_ret
  exact⟨by simp;omega,rfl⟩
end
section
variable {base:Nat}{w:World}{v:Sv}{s:Sc}
set_option maxHeartbeats 1600000 in
theorem xX(h:ScO base w v s)(hi:ScI s)(n:Int):Calls jG 219 #[.pointer (some ⟨v.S,0,none⟩),.int .i64 n] w (fK base w v (zT s n)):=by
 have hb3: -1≤inS s∧inS s≤1000:=by have h1:=hi.x0;have h2:=h.page.cols2;have h3:=h.page.cols1000;unfold inS fP;omega
 have hn3:1≤pP n 1 1000∧pP n 1 1000≤1000:=by unfold pP;omega
 have hwx:jE.wrap ((inX s).x+pP n 1 1000)=(inX s).x+pP n 1 1000:=jF _ (by show _≤inS s+_∧inS s+_≤_;omega);have HI:=Hd (Ug h);have HO:=Hd h;have HX:=Hd (at_ h.blk 17 (.int .i64 s.x) rfl);have HMN:Hid (∀w1,Below w.heap.size w w1→ScO base (w1.setCell ⟨v.S,17,none⟩ (.int .i64 (inS s))) v (inX s)∧Mod (scX v) w (w1.setCell ⟨v.S,17,none⟩ (.int .i64 (inS s)))):=Hd (fun w1 hb=>
  ⟨(h.below hb).put 17 _ rfl rfl rfl,(Mod.of_below hb).setCell (a:=⟨v.S,17,none⟩) (.inl (by simp[scX])) _⟩)
 clear h hi
 go_enter Tryz.func219,Tryz.ntmps219
 go_upto_region 2 with(go_at_call 182;refine HI.o.mono ?_;rintro e w1 ⟨rfl,hb⟩;have HM1:=Hd (HMN.o w1 hb);obtain⟨c17,f17⟩:=iH hb HX.o;clear hb)
 generalize uN _ _ _=W3 at HM1 ⊢;clear c17 f17;have HO3:=Hd HM1.o.1;have HM3:=Hd HM1.o.2;clear HM1;obtain⟨c14,-⟩:=at_ HO3.o.blk 14 (.pointer (some ⟨v.q.P,0,none⟩)) rfl;obtain⟨c16,-⟩:=at_ HO3.o.blk 16 (.int .i64 (inX s).y) rfl;obtain⟨c17,-⟩:=at_ HO3.o.blk 17 (.int .i64 (inX s).x) rfl;have HBK:Hid (∀w',Below W3.heap.size W3 w'→Calls jG 279 #[.pointer (some ⟨v.S,0,none⟩)] w' fun e w2=>e=.returned (.agg #[.int .i64 (inX s).pen.at_.bk,.int .i64 (inX s).pen.at_.bn])∧Below w'.heap.size w' w2):=Hd (fun w' hb=>tU (HO3.o.below hb));have HPC:Hid (∀w',Below W3.heap.size W3 w'→Calls jG 196 #[.pointer (some ⟨v.q.P,0,none⟩),.int .i64 (inX s).y,.int .i64 (inX s).x,.int .i64 ((inX s).x+pP n 1 1000),.agg #[.int .i64 (inX s).pen.at_.bk,.int .i64 (inX s).pen.at_.bn]] w' (pJ base w' v.q (fT (inX s).pg (inX s).y (inX s).x ((inX s).x+pP n 1 1000) ⟨(inX s).pen.at_.bk,(inX s).pen.at_.bn⟩))):=Hd (fun w' hb=>YP (HO3.o.below hb).page _ _ _ ⟨_,_⟩);refine kW 21 (fun w'=>Below W3.heap.size W3 w'∧w'.cell? ⟨v.S,14,none⟩=some (.pointer (some ⟨v.q.P,0,none⟩))∧w'.cell? ⟨v.S,16,none⟩=some (.int .i64 (inX s).y)∧w'.cell? ⟨v.S,17,none⟩=some (.int .i64 (inX s).x)) qQ qQ ?_ ?_
 · exact⟨(jU _ _).drew,c14,c16,c17⟩
 simp only[jS,kK,jL,jO]
 repeat(
  (first
   |refine kF qK ?_
   |((refine uO 279 #[.pointer (some ⟨v.S,0,none⟩)] (.agg #[.int .i64 (inX s).pen.at_.bk,.int .i64 (inX s).pen.at_.bn]) qK ?_ (fun w' hS=>(HBK.o w' hS.1).mono fun e w2 ⟨he,hb⟩=>⟨he,⟨jW hS.1 hb,kZ hb hS.2.1,kZ hb hS.2.2.1,kZ hb hS.2.2.2⟩⟩) ?_;(focus(intro w2;go_simp;done))))
   |((refine uO 296 #[.int .i64 n,.int .i64 1,.int .i64 1000] (.int .i64 (pP n 1 1000)) qK ?_ (fun w' hS=>(JT n 1 1000 w').mono fun e w2 ⟨he,hb⟩=>⟨he,hb▸hS⟩) ?_;(focus(intro w2;go_simp;done))))
   |(refine kT ?_ qK ?_ ?_;rotate_left;(focus(intro w' hS;obtain⟨_,_,_,_⟩:=hS;go_simp;first|done|with_reducible rfl))))
  simp only[Act.put,jZ,jX,jY])
 refine kE (fun w' hS=>?_);have HBT:=Hd hS.1;clear hS c14 c16 c17
 go_wp2_with(go_at_call 196;refine(HPC.o _ HBT.o).mono ?_;rintro e w9 ⟨rfl,hp⟩;have HP9:=Hd hp;clear hp)
 go_end0
 exact⟨rfl,pU.trans ⟨rfl,rfl,rfl,HM3.o.then_below HBT.o,fun b hb=>.inl hb⟩ ((HO3.o.below HBT.o).paged HP9.o)⟩
end
section
variable {base:Nat}{w:World}{v:Sv}{s:Sc}
theorem pU.duo{w1:World}{s1 s':Sc}(h:ScO base w v s)(hb:Below w.heap.size w w1)(i j:Nat)(x y:Value)(he:(lP s v.q.P v.T).set i x=lP s1 v.q.P v.T)(he2:(lP s1 v.q.P v.T).set j y=lP s' v.q.P v.T)(hp1:s1.pg=s.pg)(ht1:s1.st=s.st)(hp:s'.pg=s1.pg)(ht:s'.st=s1.st):
 pU base w v s' ((w1.setCell ⟨v.S,i,none⟩ x).setCell ⟨v.S,j,none⟩ y):=
 pU.pre hb ⟨v,rfl,rfl,rfl,((h.below hb).put i x he hp1 ht1).put j y he2 hp ht,(ScO.mod_put (v:=v) i x).trans (ScO.mod_put (v:=v) j y) (fun _ hb=>.inl hb),fun _ hb=>.inl hb⟩
set_option maxHeartbeats 1600000 in
theorem Wi(h:ScO base w v s)(h0:0≤s.top)(h1:s.top≤s.bot)(h2:s.bot<s.pg.scr.length)(y x:Int):Calls jG 213 #[.pointer (some ⟨v.S,0,none⟩),.int .i64 y,.int .i64 x] w (fK base w v (sH s y x)):=by
 have HR:=Hd (JO h);have HN:=Hd (fun a b c w=>JT a b c w);have hr3:s.pg.scr.length≤1000:=by rw[←h.page.len];exact h.page.rows1000
 have hc3:=h.page.cols1000;have hwr:jE.wrap ((s.pg.scr.length:Int)-1)=(s.pg.scr.length:Int)-1:=jF _ qJ;have hwc:jE.wrap ((s.pg.cols:Int)-1)=(s.pg.cols:Int)-1:=jF _ qJ;have HO:=Hd h;obtain⟨c13,-⟩:=at_ h.blk 13 (.bool s.pen.home) rfl;unfold sH Jj fP;cases hh:s.pen.home with
 |false=>
  rw[hh]at c13;rw[if_neg qZ];obtain⟨c16,f16⟩:=at_ h.blk 16 (.int .i64 s.y) rfl;have hw0:jE.wrap ((s.pg.scr.length:Int)-1-0)=(s.pg.scr.length:Int)-1:=by rw[Int.sub_zero];exact hwr
  have hnb: -1≤pP y 0 ((s.pg.scr.length:Int)-1)∧pP y 0 ((s.pg.scr.length:Int)-1)≤1000:=by unfold pP;omega
  have hwn:jE.wrap (pP y 0 ((s.pg.scr.length:Int)-1))=pP y 0 ((s.pg.scr.length:Int)-1):=jF _ qJ;have HC:=Hd (nX (h.put 16 (.int .i64 (pP y 0 ((s.pg.scr.length:Int)-1))) (s':={s with y:=pP y 0 ((s.pg.scr.length:Int)-1)}) rfl rfl rfl));obtain⟨c17,f17⟩:=at_ (h.put 16 (.int .i64 (pP y 0 ((s.pg.scr.length:Int)-1))) (s':={s with y:=pP y 0 ((s.pg.scr.length:Int)-1)}) rfl rfl rfl).blk 17 (.int .i64 s.x) rfl;clear h
  go_enter Tryz.func213,Tryz.ntmps213
  go_wp2_with(first
   |(go_at_call 152;refine HR.o.mono ?_;rintro e w1 ⟨rfl,rfl⟩)
   |(go_at_call 197;refine HC.o.mono ?_;rintro e w1 ⟨rfl,rfl⟩)
   |(go_at_call 296;refine(HN.o _ _ _ _).mono ?_;rintro e w1 ⟨rfl,rfl⟩))
  go_end0
  exact⟨rfl,pU.duo (s1:={s with y:=pP y 0 ((s.pg.scr.length:Int)-1)}) HO.o (jU _ _) 16 17 _ _ rfl rfl rfl rfl rfl rfl⟩
 |true=>
  rw[hh]at c13;rw[if_pos rfl];obtain⟨c18,-⟩:=at_ h.blk 18 (.int .i64 s.top) rfl;obtain⟨c19,-⟩:=at_ h.blk 19 (.int .i64 s.bot) rfl;have hnb:0≤pP y 0 (s.bot-s.top)∧pP y 0 (s.bot-s.top)≤s.bot-s.top:=by unfold pP;omega
  have hwd:jE.wrap (s.bot-s.top)=s.bot-s.top:=jF _ qJ;have hwn:jE.wrap (s.top+pP y 0 (s.bot-s.top))=s.top+pP y 0 (s.bot-s.top):=jF _ qJ;clear h
  go_enter Tryz.func213,Tryz.ntmps213
  go_upto_region 3 with(go_at_call 152;refine HR.o.mono ?_;rintro e w1 ⟨rfl,rfl⟩)
  clear c13;refine kW 9 (fun w'=>Below w.heap.size w w'∧w'.cell? ⟨v.S,18,none⟩=some (.int .i64 s.top)∧w'.cell? ⟨v.S,19,none⟩=some (.int .i64 s.bot)) qQ qQ ?_ ?_
  · exact⟨(jU _ _).drew,c18,c19⟩
  simp only[jS,kK,jL,jO]
  repeat(
   (first
    |refine kF qK ?_
    |(refine kT ?_ qK ?_ ?_;rotate_left;(focus(intro w' hS;obtain⟨_,_,_⟩:=hS;go_simp;first|done|with_reducible rfl))))
   simp only[Act.put,jZ,jX,jY])
  refine kE (fun w' hS=>?_);have HB:=Hd hS.1;clear hS c18 c19
  rename World=>W2
  have hO2:=HO.o.below HB.o;obtain⟨c16,f16⟩:=at_ hO2.blk 16 (.int .i64 s.y) rfl;have hO3:=hO2.put 16 (.int .i64 (s.top+pP y 0 (s.bot-s.top))) (s':={s with y:=s.top+pP y 0 (s.bot-s.top)}) rfl rfl rfl;have HC:=Hd (nX hO3);obtain⟨c17,f17⟩:=at_ hO3.blk 17 (.int .i64 s.x) rfl;clear hO2 hO3
  go_wp2_with(first
   |(go_at_call 197;refine HC.o.mono ?_;rintro e w1 ⟨rfl,rfl⟩)
   |(go_at_call 296;refine(HN.o _ _ _ _).mono ?_;rintro e w1 ⟨rfl,rfl⟩))
  go_end0
  exact⟨rfl,pU.duo (s1:={s with y:=s.top+pP y 0 (s.bot-s.top)}) HO.o HB.o 16 17 _ _ rfl rfl rfl rfl rfl rfl⟩
end
theorem zM{P:Program}{ops:Array Oper}{rest:List Oper}{o:Oper}{a:Act}{w:World}{Q:Exit→Act→World→Prop}(hg:o.guard=none)(f:FuncId)(args:Array Value)(hrun:(execOp a.eval o).run P w=.ok (.enter f args) w)
 {Post:Ending→World→Prop} (hc:Calls P f args w Post) (v:Value) (hv:∀e w',Post e w'→e=.returned v) (h:∀w',Post (.returned v) w'→wpList P ops Q rest (a.put o.dst v) w'):wpList P ops Q (o::rest) a w:=by
 refine wpList_plain hg fun K hK=>?_;unfold Oper.wp;rw[hrun,Oper.upon_enter];refine hc.mono fun e w'' hh=>?_;obtain rfl:=hv e w'' hh;exact hK _ _ (h _ hh)
section
variable {base:Nat}{w:World}{v:Sv}{s:Sc}
set_option maxHeartbeats 1600000 in
theorem Xr(h:ScO base w v s)(hi:ScI s)(ht:s.pg.told.length≤900000)(r:Int):Calls jG 121 #[.pointer (some ⟨v.S,0,none⟩),.int .i32 r] w (fK base w v (mY s r)):=by
 have HM:=Hd (fun w=>qVg s.pen.ch r w);unfold VM chV Jf at HM;have HO:=Hd h;have HI:=Hd hi;obtain⟨c5,-⟩:=at_ h.blk 5 (.int .i64 s.pen.ch.g0) rfl;obtain⟨c6,-⟩:=at_ h.blk 6 (.int .i64 s.pen.ch.g1) rfl;obtain⟨c7,-⟩:=at_ h.blk 7 (.int .i64 s.pen.ch.g2) rfl;obtain⟨c8,-⟩:=at_ h.blk 8 (.int .i64 s.pen.ch.g3) rfl;obtain⟨c9,-⟩:=at_ h.blk 9 (.int .i64 s.pen.ch.use) rfl;obtain⟨c10,-⟩:=at_ h.blk 10 (.int .i64 s.pen.ch.once) rfl;clear h hi
 go_enter Tryz.func121,Tryz.ntmps121
 go_upto_region 2 with(go_at_call 180;refine(HM.o _).mono ?_;rintro e w1 ⟨rfl,hb⟩;have HB1:=Hd hb;have hO1:=HO.o.below hb;clear hb c5 c6 c7 c8 c9 c10;obtain⟨c5,f5⟩:=at_ hO1.blk 5 (.int .i64 s.pen.ch.g0) rfl;obtain⟨c6,f6⟩:=at_ hO1.blk 6 (.int .i64 s.pen.ch.g1) rfl;obtain⟨c7,f7⟩:=at_ hO1.blk 7 (.int .i64 s.pen.ch.g2) rfl;obtain⟨c8,f8⟩:=at_ hO1.blk 8 (.int .i64 s.pen.ch.g3) rfl;obtain⟨c9,f9⟩:=at_ hO1.blk 9 (.int .i64 s.pen.ch.use) rfl;obtain⟨c10,f10⟩:=at_ hO1.blk 10 (.int .i64 s.pen.ch.once) rfl;have HO1:=Hd hO1;clear hO1)
 have hb6:ScO base ((((((w1.setCell ⟨v.S,5,none⟩ (.int .i64 s.pen.ch.g0)).setCell ⟨v.S,6,none⟩ (.int .i64 s.pen.ch.g1)).setCell ⟨v.S,7,none⟩ (.int .i64 s.pen.ch.g2)).setCell ⟨v.S,8,none⟩ (.int .i64 s.pen.ch.g3)).setCell ⟨v.S,9,none⟩ (.int .i64 s.pen.ch.use)).setCell ⟨v.S,10,none⟩ (.int .i64 0)) v {s with pen:={s.pen with ch:=Jf s.pen.ch}}:=
  (((((HO1.o.put 5 _ (s':=s) rfl rfl rfl).put 6 _ (s':=s) rfl rfl rfl).put 7 _ (s':=s) rfl rfl rfl).put 8 _ (s':=s) rfl rfl rfl).put 9 _ (s':=s) rfl rfl rfl).put 10 _ rfl rfl rfl
 have hm6:Mod (scX v) w1 ((((((w1.setCell ⟨v.S,5,none⟩ (.int .i64 s.pen.ch.g0)).setCell ⟨v.S,6,none⟩ (.int .i64 s.pen.ch.g1)).setCell ⟨v.S,7,none⟩ (.int .i64 s.pen.ch.g2)).setCell ⟨v.S,8,none⟩ (.int .i64 s.pen.ch.g3)).setCell ⟨v.S,9,none⟩ (.int .i64 s.pen.ch.use)).setCell ⟨v.S,10,none⟩ (.int .i64 0)):=by
  have hv:v.S∈scX v:=by simp[scX]
  exact((((((Mod.refl _ _).setCell (a:=⟨v.S,5,none⟩) (.inl hv) _).setCell (a:=⟨v.S,6,none⟩) (.inl hv) _).setCell (a:=⟨v.S,7,none⟩) (.inl hv) _).setCell (a:=⟨v.S,8,none⟩) (.inl hv) _).setCell (a:=⟨v.S,9,none⟩) (.inl hv) _).setCell (a:=⟨v.S,10,none⟩) (.inl hv) _
 have HM6:=Hd ((Mod.of_below HB1.o).trans hm6 (fun b hb=>.inl hb));have HI6:Hid (ScI {s with pen:={s.pen with ch:=Jf s.pen.ch}}):=Hd ⟨HI.o.y0,HI.o.y1,HI.o.x0,HI.o.x1,HI.o.t0,HI.o.tb,HI.o.b1⟩;clear hm6 c5 f5 c6 f6 c7 f7 c8 f8 c9 f9 c10 f10;generalize uN _ _ _=W6 at hb6 HM6 ⊢;have HW:=Hd (Xn hb6 HI6.o ht (qKl s.pen.ch r));clear hb6
 go_wp2_with(go_at_call 181;refine HW.o.mono ?_;rintro e w7 ⟨rfl,hs⟩;have HS7:=Hd hs;clear hs)
 go_end0
 exact⟨rfl,pU.trans ⟨rfl,rfl,rfl,HM6.o,fun b hb=>.inl hb⟩ HS7.o⟩
def stL(s:Sc):List Value:=[.int .i64 s.y,.int .i64 s.x,.int .i64 s.pen.at_.fk,.int .i64 s.pen.at_.fn,.int .i64 s.pen.at_.bk,.int .i64 s.pen.at_.bn,.int .i64 s.pen.at_.fl,.int .i64 s.pen.ch.g0,.int .i64 s.pen.ch.g1,.int .i64 s.pen.ch.g2,.int .i64 s.pen.ch.g3,.int .i64 s.pen.ch.use,.int .i64 s.pen.ch.once,.bool s.pen.put,.bool s.pen.wrap,.bool s.pen.home,.int .i64 s.top,.int .i64 s.bot,.bool s.has]
theorem stL_one(s:Sc):∀v∈stL s,v.oneCell'=true:=fun v hv=>by
 simp only[stL,kJ,List.not_mem_nil,or_false]at hv;rcases hv with rfl|rfl|rfl|rfl|rfl|rfl|rfl|rfl|rfl|rfl|rfl|rfl|rfl|rfl|rfl|rfl|rfl|rfl|rfl<;>rfl
theorem QG:(jG.info? 103).map (·.size)=some 19:=by kernel_rfl
def StPost(s:Sc)(w:World)(e:Ending)(w':World):Prop:=e=.returned (.agg (stL s).toArray)∧Below w.heap.size w w'
set_option maxHeartbeats 3200000 in
theorem Xo(h:ScO base w v s):Calls jG 47 #[.pointer (some ⟨v.S,0,none⟩)] w (StPost s w):=by
 obtain⟨c0,-⟩:=at_ h.blk 0 (.int .i64 s.pen.at_.fk) rfl;obtain⟨c1,-⟩:=at_ h.blk 1 (.int .i64 s.pen.at_.fn) rfl;obtain⟨c2,-⟩:=at_ h.blk 2 (.int .i64 s.pen.at_.bk) rfl;obtain⟨c3,-⟩:=at_ h.blk 3 (.int .i64 s.pen.at_.bn) rfl;obtain⟨c4,-⟩:=at_ h.blk 4 (.int .i64 s.pen.at_.fl) rfl;obtain⟨c5,-⟩:=at_ h.blk 5 (.int .i64 s.pen.ch.g0) rfl;obtain⟨c6,-⟩:=at_ h.blk 6 (.int .i64 s.pen.ch.g1) rfl;obtain⟨c7,-⟩:=at_ h.blk 7 (.int .i64 s.pen.ch.g2) rfl;obtain⟨c8,-⟩:=at_ h.blk 8 (.int .i64 s.pen.ch.g3) rfl;obtain⟨c9,-⟩:=at_ h.blk 9 (.int .i64 s.pen.ch.use) rfl;obtain⟨c10,-⟩:=at_ h.blk 10 (.int .i64 s.pen.ch.once) rfl;obtain⟨c11,-⟩:=at_ h.blk 11 (.bool s.pen.put) rfl;obtain⟨c12,-⟩:=at_ h.blk 12 (.bool s.pen.wrap) rfl;obtain⟨c13,-⟩:=at_ h.blk 13 (.bool s.pen.home) rfl;obtain⟨c16,-⟩:=at_ h.blk 16 (.int .i64 s.y) rfl;obtain⟨c17,-⟩:=at_ h.blk 17 (.int .i64 s.x) rfl;obtain⟨c18,-⟩:=at_ h.blk 18 (.int .i64 s.top) rfl;obtain⟨c19,-⟩:=at_ h.blk 19 (.int .i64 s.bot) rfl;obtain⟨c36,-⟩:=at_ h.blk 36 (.bool s.has) rfl;have hl:=uE c0;clear h
 go_enter Tryz.func47,Tryz.ntmps47
 go_upto_region 3 with fail
 generalize hW:World.alloc _ _=W;have hb2:Below w.heap.size w W:=by rw[←hW];exact jH (jU _ _) _
 have hc2:W.heap[w.heap.size]? =some (.cells ([.int .i64 0,.int .i64 0,.int .i64 0,.int .i64 0,.int .i64 0,.int .i64 0,.int .i64 0,.int .i64 0,.int .i64 0,.int .i64 0,.int .i64 0,.int .i64 0,.int .i64 0,.bool false,.bool false,.bool false,.int .i64 0,.int .i64 0,.bool false]:List Value).toArray 103 (0,0)):=by rw[←hW];exact jT rfl
 have HB2:=Hd hb2;have HC2:=Hd hc2;replace c0:=kZ hb2 c0;replace c1:=kZ hb2 c1;replace c2:=kZ hb2 c2;replace c3:=kZ hb2 c3;replace c4:=kZ hb2 c4;replace c5:=kZ hb2 c5;replace c6:=kZ hb2 c6;replace c7:=kZ hb2 c7;replace c8:=kZ hb2 c8;replace c9:=kZ hb2 c9;replace c10:=kZ hb2 c10;replace c11:=kZ hb2 c11;replace c12:=kZ hb2 c12;replace c13:=kZ hb2 c13;replace c16:=kZ hb2 c16;replace c17:=kZ hb2 c17;replace c18:=kZ hb2 c18;replace c19:=kZ hb2 c19;replace c36:=kZ hb2 c36;clear hW hb2 hc2
 refine kW 37 (fun w'=>Below W.heap.size W w'∧w'.cell? ⟨v.S,0,none⟩=some (.int .i64 s.pen.at_.fk)∧w'.cell? ⟨v.S,1,none⟩=some (.int .i64 s.pen.at_.fn)∧w'.cell? ⟨v.S,2,none⟩=some (.int .i64 s.pen.at_.bk)∧w'.cell? ⟨v.S,3,none⟩=some (.int .i64 s.pen.at_.bn)∧w'.cell? ⟨v.S,4,none⟩=some (.int .i64 s.pen.at_.fl)∧w'.cell? ⟨v.S,5,none⟩=some (.int .i64 s.pen.ch.g0)∧w'.cell? ⟨v.S,6,none⟩=some (.int .i64 s.pen.ch.g1)∧w'.cell? ⟨v.S,7,none⟩=some (.int .i64 s.pen.ch.g2)∧w'.cell? ⟨v.S,8,none⟩=some (.int .i64 s.pen.ch.g3)∧w'.cell? ⟨v.S,9,none⟩=some (.int .i64 s.pen.ch.use)∧w'.cell? ⟨v.S,10,none⟩=some (.int .i64 s.pen.ch.once)∧w'.cell? ⟨v.S,11,none⟩=some (.bool s.pen.put)∧w'.cell? ⟨v.S,12,none⟩=some (.bool s.pen.wrap)∧w'.cell? ⟨v.S,13,none⟩=some (.bool s.pen.home)∧w'.cell? ⟨v.S,16,none⟩=some (.int .i64 s.y)∧w'.cell? ⟨v.S,17,none⟩=some (.int .i64 s.x)∧w'.cell? ⟨v.S,18,none⟩=some (.int .i64 s.top)∧w'.cell? ⟨v.S,19,none⟩=some (.int .i64 s.bot)∧w'.cell? ⟨v.S,36,none⟩=some (.bool s.has)) qQ qQ ?_ ?_
 · exact⟨(jU _ _).drew,c0,c1,c2,c3,c4,c5,c6,c7,c8,c9,c10,c11,c12,c13,c16,c17,c18,c19,c36⟩
 simp only[jS,kK,jL,jO]
 repeat(
  (first
   |refine kF qK ?_
   |(refine kT ?_ qK ?_ ?_;rotate_left;(focus(intro w' hS;obtain⟨_,_,_,_,_,_,_,_,_,_,_,_,_,_,_,_,_,_,_,_⟩:=hS;go_simp;first|done|with_reducible rfl))))
  simp only[Act.put,jZ,jX,jY])
 refine kE (fun w' hS=>?_);have hc3:=(hS.1.block _ (jR HC2.o)).trans HC2.o;have hb3:=jW HB2.o hS.1;refine wpList_store_mid rfl 103 (.tmp 2) (.tmp 42) rfl (w.heap.size) (0) ((stL s).toArray) rfl rfl ((show World.there _ w.heap.size 0 19 from pW hc3)) QG (all_oneCell_toArray (stL_one s)) ?_;simp only[Act.put]
 go_wp2
 have hw:=uF (stL s) 0 _ _ hc3 (by simp[stL]);exact bodyPost_ret (bW rfl _ _ w.heap.size (stL s) rfl (uH hw) Tryz.underlying103 rfl QG) rfl ⟨rfl,yF hb3 (jD _) _ _⟩
def peL(p:Pe):List Value:=[.int .i64 p.at_.fk,.int .i64 p.at_.fn,.int .i64 p.at_.bk,.int .i64 p.at_.bn,.int .i64 p.at_.fl,.int .i64 p.ch.g0,.int .i64 p.ch.g1,.int .i64 p.ch.g2,.int .i64 p.ch.g3,.int .i64 p.ch.use,.int .i64 p.ch.once,.bool p.put,.bool p.wrap,.bool p.home]
theorem peL_one(p:Pe):∀v∈peL p,v.oneCell'=true:=fun v hv=>by
 simp only[peL,kJ,List.not_mem_nil,or_false]at hv;rcases hv with rfl|rfl|rfl|rfl|rfl|rfl|rfl|rfl|rfl|rfl|rfl|rfl|rfl|rfl<;>rfl
theorem Zj:(jG.info? 123).map (·.size)=some 14:=by kernel_rfl
set_option maxHeartbeats 1600000 in
theorem Xl(w:World):Calls jG 64 #[] w fun e w'=>e=.returned (.agg (peL nB).toArray)∧Below w.heap.size w w':=by
 have HN:=Hd (fun w=>Zw w);unfold chV at HN
 go_enter Tryz.func64,Tryz.ntmps64
 go_upto_region 1 with fail
 generalize hW:World.alloc _ _=W;have hb2:Below w.heap.size w W:=by rw[←hW];exact jH (jU _ _) _
 have hc2:W.heap[w.heap.size]? =some (.cells (peL XI).toArray 123 (0,0)):=by rw[←hW];exact jT rfl
 clear hW;refine wp_region_lit ?_;refine zM rfl 114 #[] qX (HN.o _) (.agg #[.int .i64 66,.int .i64 66,.int .i64 66,.int .i64 66,.int .i64 0,.int .i64 0]) (fun e w' h=>h.1) ?_;rintro w1 ⟨-,hb⟩;simp only[Act.put,jZ,jX,jY];refine jB (.agg #[.bool false,.bool true,.bool false]) qK qX ?_;simp only[Act.put,jZ,jX,jY];refine jB (.agg (peL nB).toArray) qK (by go_simp;rfl) ?_;simp only[Act.put,jZ,jX,jY];have hc3:=(hb.block _ (jR hc2)).trans hc2;have hb3:=jW hb2 hb;refine wpList_store_mid rfl 123 (.tmp 0) (.tmp 3) rfl (w.heap.size) (0) ((peL nB).toArray) rfl rfl ((show World.there _ w.heap.size 0 14 from pW hc3)) Zj (all_oneCell_toArray (peL_one _)) ?_;simp only[Act.put]
 go_wp2
 have hw:=uF (peL nB) 0 _ _ hc3 (by simp[peL]);exact bodyPost_ret (bW rfl _ _ w.heap.size (peL nB) rfl (uH hw) Tryz.underlying123 rfl Zj) rfl ⟨rfl,yF hb3 (jD _) _ _⟩
def XF(rows cols lines:Nat)(w:World)(e:Ending)(w':World):Prop:=
 ∃v,e=.returned (.tuple #[.pointer (some ⟨v.S,0,none⟩),.int .i64 0])∧ScO w.heap.size w' v (rQ rows cols lines (cY [] cols))∧Below w.heap.size w w'
theorem TbO.weaken{b2 T:Nat}{vw:Value}{ws:List Nat}{st:List Bool}(h:TbO base w T vw ws st)(hb:b2≤base):TbO b2 w T vw ws st:=
 ⟨h.blk,jI hb h.hb,pQ h.own hb,h.wds,h.le,h.few⟩
set_option maxHeartbeats 1600000 in
theorem Uu(rows cols lines:Nat)(w:World)(hr1:1≤rows)(hr2:rows≤1000)(hc1:2≤cols)(hc2:cols≤1000)(hl:lines≤100000):
 Calls jG 35 #[.int .i64 rows,.int .i64 cols,.int .i64 lines] w (XF rows cols lines w):=by
 have HP:=Hd (pnew_ok rows cols lines w hr1 hr2 hc1 hc2 hl);have HT:=Hd (fun w=>tnew_ok cols w hc1 hc2);have HF:=Hd (fun w=>Xl w);unfold peL at HF;have hwr:jE.wrap ((rows:Int)-1)=(rows:Int)-1:=jF _ qJ
 go_enter Tryz.func35,Tryz.ntmps35
 go_wp2_with(first
  |(go_at_call 62;refine HP.o.mono ?_;rintro e w1 ⟨q,rfl,hq,hb⟩;have HQ:=Hd hq;have HB1:=Hd hb;clear hq hb)
  |(go_at_call 63;refine(HT.o _).mono ?_;rintro e w2 ⟨T,vw,ws,rfl,ht,hb⟩;have HTB:=Hd ht;have HB2:=Hd hb;clear ht hb)
  |(go_at_call 64;refine(HF.o _).mono ?_;rintro e w3 ⟨rfl,hb⟩;have HB3:=Hd hb;clear hb))
 go_ret2
 have hba:=jH (jU w3.heap.size w3) (.cells (lP (rQ rows cols lines (cY [] cols)) q.P T).toArray 128);have h1:=HB1.o.size;have h2:=HB2.o.size;have h3:=HB3.o.size;exact⟨⟨w3.heap.size,q,T,vw,ws⟩,rfl,⟨jT rfl,by show w.heap.size≤w3.heap.size;omega,((HQ.o.below HB2.o).below HB3.o).below hba,(((HTB.o.weaken h1).below HB3.o).below hba)⟩,jW (jW (jW HB1.o HB2.o) HB3.o) hba⟩
end
section
variable {base:Nat}{w:World}{v:Sv}{s:Sc}{rows cols room:Nat}
theorem ScO.puts{s':Sc}(h:ScO base w v s)(o:Nat)(vs:List Value)(ho:o+vs.length≤38)(he:(lP s v.q.P v.T).take o++(vs++(lP s v.q.P v.T).drop (o+vs.length))=lP s' v.q.P v.T)(hp:s'.pg=s.pg)(ht:s'.st=s.st):
 ScO base (w.setCells v.S o vs) v s'∧Mod (scX v) w (w.setCells v.S o vs):=by
 have hM:Mod [v.S] w (w.setCells v.S o vs):=vN (.inl qV) vs o w (Mod.refl _ _);refine⟨⟨?_,h.hb,?_,?_⟩,hM.mono (fun b hb=>by rw[jM.1 hb];simp[scX])⟩
 · rw[←he];exact uF vs o _ w h.blk (by show _≤38;exact ho)
 · rw[hp];exact qXy
 · rw[ht];exact h.tabs.mod hM (fun b hb hx=>h.nt qT)
theorem ScO.there(h:ScO base w v s){o n:Nat}(ho:o+n≤38):w.there v.S o n:=fun j hj=>by
 have :=pW h.blk (o+j) (by show o+j<38;omega);rw[kP]at this;exact this
end
section
variable {P:Program}
theorem mP{o:Oper}{a:Act}{w:World}(ty:TypeId)(x y:Operand)(ho:o.op=.store ty x y)(b off:Nat)(cells:Array Value)(hx:a.eval x=.pointer (some ⟨b,off,none⟩))(hy:a.eval y=.agg cells)
 (ht:w.there b off cells.size) (hi:(P.info? ty).map (·.size)=some cells.size) (h1:cells.all (·.oneCell')=true):(execOp a.eval o).run P w=.ok .skip (w.setCells b off cells.toList):=by
 unfold execOp;simp only[ho,hx,hy,Sem.run_bind,run_storeAt_mid w b off ty cells ht hi h1,Result.andThen_ok,Sem.run_pure]
end
section
variable {base:Nat}{w:World}{v:Sv}{s:Sc}{rows cols room:Nat}
end
section
variable {base:Nat}{w:World}{v:Sv}{s:Sc}{rows cols room:Nat}
def aL(a:Atr):List Value:=[.int .i64 a.fk,.int .i64 a.fn,.int .i64 a.bk,.int .i64 a.bn,.int .i64 a.fl]
theorem pR:(jG.info? 63).map (·.size)=some 5:=by kernel_rfl
theorem K5(a:Atr):∀u∈aL a,u.oneCell'=true:=fun u hu=>by
 simp only[aL,kJ,List.not_mem_nil,or_false]at hu;rcases hu with rfl|rfl|rfl|rfl|rfl<;>rfl
end
structure Gh where
 A:Option Addr
 g:List Int
 cap:Nat
def pO(n:Int):List Value:=[.int .i64 n]
theorem mR:∀n,(pO n).length=1:=fun _=>rfl
theorem mL:∀n,∀v∈pO n,v.oneCell'=true:=fun n v hv=>by
 obtain rfl:=jM.1 hv;rfl
def oZ(h:Gh):List Value:=[.slice h.A h.g.length h.cap]
theorem KK:∀h,(oZ h).length=1:=fun _=>rfl
theorem Y5:∀h,∀v∈oZ h,v.oneCell'=true:=fun h v hv=>by
 obtain rfl:=jM.1 hv;rfl
def vU(H:List Gh):List (List Int):=H.map (·.g)
def dC(w:World)(A:Option Addr)(H:List Gh):Prop:=pT oZ 1 w A H∧∀h∈H,pT pO 1 w h.A h.g∧h.g.length≤h.cap
theorem dC.below{w w':World}{A:Option Addr}{H:List Gh}(h:dC w A H)(hb:Below w.heap.size w w'):dC w' A H:=⟨h.1.below hb,fun x hx=>⟨(h.2 x hx).1.below hb,(h.2 x hx).2⟩⟩
theorem dC.get{w:World}{A:Option Addr}{H:List Gh}(h:dC w A H){i:Nat}(hi:i<H.length):∃(x:Gh) (gb off:Nat),H[i]? =some x∧A=some ⟨gb,off,none⟩∧w.cell? ⟨gb,off+i,none⟩=some (.slice x.A x.g.length x.cap)∧(pT pO 1 w x.A x.g∧x.g.length≤x.cap)∧(vU H).getD i []=x.g:=by
 obtain⟨gb,off,hA,hg⟩:=h.1 qJ;have hx:H[i]? =some H[i]:=jN hi;have :=hg i _ hx 0 _ rfl;rw[Nat.mul_one,uA]at this;refine⟨H[i],gb,off,hx,hA,this,h.2 _ (List.getElem_mem hi),?_⟩;unfold vU;rw[kX,uX,hx];rfl
theorem fS{w:World}{A:Option Addr}{g:List Int}(h:pT pO 1 w A g){i:Nat}(hi:i<g.length):∃b off,A=some ⟨b,off,none⟩∧w.cell? ⟨b,off+i,none⟩=some (.int .i64 (g.getD i 0)):=by
 obtain⟨b,off,hA,hg⟩:=h qJ;have hx:g[i]? =some (g.getD i 0):=by rw[kX,jN hi];rfl
 have :=hg i _ hx 0 _ rfl;rw[Nat.mul_one,uA]at this;exact⟨b,off,hA,this⟩
theorem rV(g:List Int):g.headD 0=g.getD 0 0:=by cases g<;>rfl
section
variable {w:World}{A:Option Addr}{H:List Gh}
theorem Qi(hG:dC w A H)(ca i:Nat)(hz:H.length≤1000000):Calls jG 358 #[.slice A H.length ca,.int .i64 i] w fun e w'=>e=.returned (.int .i64 (yR (vU H) i))∧w=w':=by
 unfold yR
 by_cases hi:i<H.length
 rotate_left
 · have hiI:¬(i:Int)<(H.length:Int):=by omega
   have hiI2:(H.length:Int)≤(i:Int):=by omega
   have e:(vU H).getD i []=[]:=by unfold vU;rw[kX,uZ qY];rfl
   rw[e];clear hG e hi
   go_enter Tryz.func358,Tryz.ntmps358
   go_wp2
   go_ret
   exact⟨rfl,rfl⟩
 obtain⟨x,gb,off,hx,rfl,hc,⟨hg,-⟩,e⟩:=hG.get hi;rw[e,rV];have hiI:(i:Int)<(H.length:Int):=by omega
 have hiI2:¬(H.length:Int)≤(i:Int):=by omega
 clear hG e hx;obtain⟨L,hL⟩:∃L,H.length=L:=⟨_,rfl⟩;rw[hL]at hi hiI hiI2 hz ⊢;clear hL
 by_cases h0:0<x.g.length
 · obtain⟨b,off2,hA,hc2⟩:=fS hg h0;rw[hA]at hc;obtain⟨K,hK⟩:∃K,x.g.length=K:=⟨_,rfl⟩;rw[hK]at h0 hc;have h0I:¬(K:Int)=0:=by omega
   have h0N:¬K=0:=by omega
   have h0J:(0:Int)<(K:Int):=by omega
   have hq:((K:Int)==0)=false:=beq_eq_false_iff_ne.2 h0I;rw[uA]at hc2;obtain⟨n,hn⟩:∃n,x.g.getD 0 0=n:=⟨_,rfl⟩;rw[hn]at hc2 ⊢;clear hg hA hK hn
   go_enter Tryz.func358,Tryz.ntmps358
   go_wp2
   all_goals
    go_ret
    exact⟨by simp;try omega,rfl⟩
 · have hK:x.g.length=0:=by omega
   have e:x.g.getD 0 0=0:=by rw[List.eq_nil_of_length_eq_zero hK];rfl
   rw[hK]at hc;rw[e];clear hg hK e h0
   go_enter Tryz.func358,Tryz.ntmps358
   go_wp2
   go_ret
   exact⟨rfl,rfl⟩
def QZ(g:List Int):Int:=if 1<g.length∧g.getD 1 0=0 then 0 else if 1<g.length∧g.getD 1 0=2 then 256 else 8
theorem qQn{B:Option Addr}{g:List Int}(hG:pT pO 1 w B g)(ca:Nat)(hz:g.length≤1000000):Calls jG 359 #[.slice B g.length ca] w fun e w'=>e=.returned (.int .i64 (QZ g))∧w=w':=by
 unfold QZ
 by_cases h1:1<g.length
 rotate_left
 · rw[if_neg qJ,if_neg qJ];have h1I:¬(1:Int)<(g.length:Int):=by omega
   obtain⟨K,hK⟩:∃K,g.length=K:=⟨_,rfl⟩;rw[hK]at h1I h1 ⊢;clear hK hG
   go_enter Tryz.func359,Tryz.ntmps359
   go_wp2
   go_ret
   exact⟨rfl,rfl⟩
 obtain⟨b,off,rfl,hc⟩:=fS hG h1;have h1I:(1:Int)<(g.length:Int):=by omega
 obtain⟨n,hn⟩:∃n,g.getD 1 0=n:=⟨_,rfl⟩;rw[hn]at hc ⊢;obtain⟨K,hK⟩:∃K,g.length=K:=⟨_,rfl⟩;rw[hK]at h1 h1I ⊢;clear hG hn hK
 by_cases h2:n=0
 · rw[if_pos ⟨h1,h2⟩];subst h2
   go_enter Tryz.func359,Tryz.ntmps359
   go_wp2
   go_ret
   exact⟨rfl,rfl⟩
 rw[if_neg qJ];have e2:(n==0)=false:=beq_eq_false_iff_ne.2 h2
 by_cases h3:n=2
 · rw[if_pos ⟨h1,h3⟩];subst h3;clear e2 h2
   go_enter Tryz.func359,Tryz.ntmps359
   go_wp2
   go_ret
   exact⟨rfl,rfl⟩
 · rw[if_neg qJ];have e3:(n==2)=false:=beq_eq_false_iff_ne.2 h3;clear h2 h3
   go_enter Tryz.func359,Tryz.ntmps359
   go_wp2
   go_ret
   exact⟨rfl,rfl⟩
def JI(v:Int):Int:=if v==1 then 1 else if v==2 then 2 else if v==3 then 4 else if v==5 then 16 else if v==6 then 16 else if v==7 then 32 else if v==8 then 64 else if v==9 then 128 else if v==53 then 512 else 0
def nR(v:Int):Int:=if v==22 then 3 else if v==23 then 4 else if v==24 then 264 else if v==25 then 16 else if v==27 then 32 else if v==28 then 64 else if v==29 then 128 else if v==55 then 512 else 0
theorem qQl(v:Int)(w:World):Calls jG 385 #[.int .i64 v] w fun e w'=>e=.returned (.int .i64 (JI v))∧w=w':=by
 go_enter Tryz.func385,Tryz.ntmps385
 go_wp2
 all_goals
  go_ret
  refine⟨?_,rfl⟩;unfold JI;simp[*]
theorem XM(v:Int)(w:World):Calls jG 386 #[.int .i64 v] w fun e w'=>e=.returned (.int .i64 (nR v))∧w=w':=by
 go_enter Tryz.func386,Tryz.ntmps386
 go_wp2
 all_goals
  go_ret
  refine⟨?_,rfl⟩;unfold nR;simp[*]
def cH(v lo hi:Int):Col×Bool:=if lo≤v∧v<lo+8 then(⟨1,v-lo⟩,true)else if hi≤v∧v<hi+8 then(⟨1,v-hi+8⟩,true)else(⟨0,0⟩,v==lo+9)
def VW(v lo hi:Int)(w:World)(e:Ending)(w':World):Prop:=e=.returned (.tuple #[.agg #[.int .i64 (cH v lo hi).1.k,.int .i64 (cH v lo hi).1.n],.bool (cH v lo hi).2])∧Below w.heap.size w w'
end
def TyB(w:World)(b:Nat)(ty:TypeId):Prop:=∃cur,w.heap[b]? =some (.cells cur ty (0,0))
theorem TyB.lt{w:World}{b:Nat}{ty:TypeId}(h:TyB w b ty):b<w.heap.size:=by obtain⟨cur,hc⟩:=h;exact jR hc
theorem TyB.mod{X:List Nat}{w w':World}{b:Nat}{ty:TypeId}(h:TyB w b ty)(hm:Mod X w w')(hX:b∉X):TyB w' b ty:=by obtain⟨cur,hc⟩:=h;exact⟨cur,(hm.block b (jR hc) hX).trans hc⟩
def NoG(w:World)(b:Nat):Prop:=¬TyB w b 241∧¬TyB w b 3
def lR(w:World)(lo:Nat)(A:Option Addr)(H:List Gh):Prop:=
 (H≠[]→∃b off,A=some ⟨b,off,none⟩∧lo≤b∧TyB w b 241)∧dC w A H∧∀h∈H,h.g≠[]→∃b off,h.A=some ⟨b,off,none⟩∧lo≤b∧TyB w b 3
theorem lR.nil(w:World)(lo:Nat):lR w lo none []:=⟨fun h=>absurd rfl h,⟨fun h=>absurd h qV,fun h hh=>by cases hh⟩,fun h hh=>by cases hh⟩
theorem lR.modT{X:List Nat}{w w':World}{lo:Nat}{A:Option Addr}{H:List Gh}(h:lR w lo A H)(hm:Mod X w w')(hX:∀b∈X,b<lo∨w.heap.size≤b∨NoG w b):lR w' lo A H:=by
 obtain⟨h1,⟨h2,h3⟩,h4⟩:=h;have out1:∀b,lo≤b→TyB w b 241→b∉X:=fun b hl ht hx=>by
  rcases hX b hx with h|h|h
  · omega
  · have :=ht.lt;omega
  · exact h.1 ht
 have out2:∀b,lo≤b→TyB w b 3→b∉X:=fun b hl ht hx=>by
  rcases hX b hx with h|h|h
  · omega
  · have :=ht.lt;omega
  · exact h.2 ht
 refine⟨fun hn=>?_,⟨?_,fun x hx=>⟨?_,(h3 x hx).2⟩⟩,fun x hx hn=>?_⟩
 · obtain⟨b,off,e,a,c⟩:=h1 hn;exact⟨b,off,e,a,c.mod hm (out1 b a c)⟩
 · by_cases hn:H=[]
   · subst hn;intro h;simp at h
   · obtain⟨b,off,rfl,a,c⟩:=h1 hn;exact tR h2 hm (out1 b a c)
 · by_cases hn:x.g=[]
   · rw[hn];intro h;simp at h
   · obtain⟨b,off,e,a,c⟩:=h4 x hx hn;have :=(h3 x hx).1;rw[e]at this ⊢;exact tR this hm (out2 b a c)
 · obtain⟨b,off,e,a,c⟩:=h4 x hx hn;exact⟨b,off,e,a,c.mod hm (out2 b a c)⟩
theorem lR.mod{X:List Nat}{w w':World}{lo:Nat}{A:Option Addr}{H:List Gh}(h:lR w lo A H)(hm:Mod X w w')(hX:∀b∈X,b<lo∨w.heap.size≤b):lR w' lo A H:=h.modT hm (fun b hb=>(hX b hb).imp id .inl)
theorem lR.below{w w':World}{lo:Nat}{A:Option Addr}{H:List Gh}(h:lR w lo A H)(hb:Below w.heap.size w w'):lR w' lo A H:=h.mod (X:=[]) (Mod.of_below hb) (fun _ h=>by cases h)
theorem lR.weaken{w:World}{lo lo2:Nat}{A:Option Addr}{H:List Gh}(h:lR w lo A H)(hl:lo2≤lo):lR w lo2 A H:=
 ⟨fun hn=>by obtain⟨b,off,e,a,c⟩:=h.1 hn;exact⟨b,off,e,jI hl a,c⟩,h.2.1,fun x hx hn=>by obtain⟨b,off,e,a,c⟩:=h.2.2 x hx hn;exact⟨b,off,e,jI hl a,c⟩⟩
structure Ex where
 e:Ev
 A:Option Addr
 H:List Gh
 ca:Nat
def zA(x:Ex):List Value:=[.int .i64 x.e.kind,.int .i32 x.e.r,.int .u8 x.e.byte,.int .u8 x.e.pre,.slice x.A x.H.length x.ca,.string (strOfNums x.e.inter),.string (strOfNums x.e.text),.bool x.e.cut]
theorem tE:∀x,(zA x).length=8:=fun _=>rfl
theorem tA:∀x,∀v∈zA x,v.oneCell'=true:=fun x v hv=>by
 simp only[zA,kJ,List.not_mem_nil,or_false]at hv;rcases hv with rfl|rfl|rfl|rfl|rfl|rfl|rfl|rfl<;>rfl
structure ExOk(w:World)(lo:Nat)(x:Ex):Prop where
 g:vU x.H=x.e.nums
 c:x.H.length≤x.ca
 z:x.H.length≤32∧∀h∈x.H,h.g.length≤8
 n:lR w lo x.A x.H
theorem ExOk.mod{X:List Nat}{w w':World}{lo:Nat}{x:Ex}(h:ExOk w lo x)(hm:Mod X w w')(hX:∀b∈X,b<lo∨w.heap.size≤b):ExOk w' lo x:=⟨h.g,h.c,h.z,h.n.mod hm hX⟩
theorem ExOk.modT{X:List Nat}{w w':World}{lo:Nat}{x:Ex}(h:ExOk w lo x)(hm:Mod X w w')(hX:∀b∈X,b<lo∨w.heap.size≤b∨NoG w b):ExOk w' lo x:=⟨h.g,h.c,h.z,h.n.modT hm hX⟩
theorem ExOk.below{w w':World}{lo:Nat}{x:Ex}(h:ExOk w lo x)(hb:Below w.heap.size w w'):ExOk w' lo x:=⟨h.g,h.c,h.z,h.n.below hb⟩
theorem ExOk.weaken{w:World}{lo lo2:Nat}{x:Ex}(h:ExOk w lo x)(hl:lo2≤lo):ExOk w lo2 x:=⟨h.g,h.c,h.z,h.n.weaken hl⟩
def ex0(e:Ev):Ex:=⟨e,none,[],0⟩
theorem mD(w:World)(lo:Nat){e:Ev}(h:e.nums=[]):ExOk w lo (ex0 e):=⟨h.symm,jD _,⟨by show 0≤32;omega,fun h hh=>by cases hh⟩,lR.nil w lo⟩
structure ExsO(w:World)(lo:Nat)(u:Value)(X:List Ex)(evs:List Ev):Prop where
 own:w.ownsRow lo 83 8 u X.length (uM zA X)
 es:X.map (·.e)=evs
 ok:∀x∈X,ExOk w lo x
theorem ExsO.nil(w:World)(lo:Nat):ExsO w lo (.slice none 0 0) [] []:=⟨kS w lo 83 8,rfl,fun _ h=>by cases h⟩
theorem ExsO.mod{X:List Nat}{w w':World}{lo:Nat}{u:Value}{L:List Ex}{evs:List Ev}(h:ExsO w lo u L evs)(hm:Mod X w w')(hX:∀b∈X,b<lo∨w.heap.size≤b):ExsO w' lo u L evs:=
 ⟨kD h.own hm (fun g hg hx=>by have :=h.own.lt g hg;rcases hX g hx with h|h<;>omega),h.es,fun x hx=>(h.ok x hx).mod hm hX⟩
theorem ExsO.below{w w':World}{lo:Nat}{u:Value}{L:List Ex}{evs:List Ev}(h:ExsO w lo u L evs)(hb:Below w.heap.size w w'):ExsO w' lo u L evs:=h.mod (X:=[]) (Mod.of_below hb) (fun _ h=>by cases h)
theorem ExsO.weaken{w:World}{lo lo2:Nat}{u:Value}{L:List Ex}{evs:List Ev}(h:ExsO w lo u L evs)(hl:lo2≤lo):ExsO w lo2 u L evs:=⟨pQ h.own hl,h.es,fun x hx=>(h.ok x hx).weaken hl⟩
def yJ(base:Nat)(w:World)(v:Zv)(x:Pz×List Ev)(e:Ending)(w':World):Prop:=∃u L,e=.returned u∧ExsO w' w.heap.size u L x.2∧yS base w v x.1 w'
end Go.Proofs.YtaefcahblmopfaaGreatDoor
