/- Joined by a tool of this claim out of smaller texts. Conditions: as stated. -/
import Derived.Test.YtjcpdcncfjkejaaGreatDoorSx06
import Derived.Test.YtjcpdcncfjkejaaGreatDoorSx09
set_option linter.unusedVariables false
set_option linter.unusedSimpArgs false
set_option maxRecDepth 100000
open Go.Lib renaming hid → Hd
open Go.Proofs.Tryz renaming prog → jG
open Go.RowKit.Below renaming refl → jU
open Go.IntWalk renaming i64_in → jH
open List renaming drop_succ_cons → jB, take_succ_cons → jC, getElem?_eq_getElem → jD, drop_zero → jF, take_zero → jL, getElem?_eq_some_iff → jE, length_append → jI, replicate → kJ, mem_cons → kW, mem_append → kL, length_replicate → kS, getElem?_eq_none → kI, append_assoc → uK, length_set → uG, mem_of_getElem? → uW, getElem?_map → vQ, ext_getElem? → vV, getElem?_append_right → vU, length_take → vH, getElem?_set → vP, drop_eq_nil_of_le → vR, getElem?_append_left → vE, map_append → gK, getElem?_drop → gV
open Go.IntKind renaming i64 → jP
open Nat renaming le_refl → jS, zero_add → kB, zero_le → kT, le_trans → vY, add_zero → vO
open And renaming intro → kM
open ByteArray renaming empty → kD
open Go.World renaming setCell → uQ
open Int renaming toNat_natCast → uJ
namespace Go.Proofs.YtjcpdcncfjkejaaGreatDoor
open Go.RowKit
structure ScI(s:Sc):Prop where
 y0:0≤s.y
 y1:s.y<s.pg.scr.length
 x0:0≤s.x
 x1:s.x≤s.pg.cols
 t0:0≤s.top
 tb:s.top≤s.bot
 b1:s.bot<s.pg.scr.length
section
variable {base:Nat}{w:World}{v:Sv}{s:Sc}
def gQ(base:Nat)(w:World)(v:Sv)(s':Sc)(e:Ending)(w':World):Prop:=e=.returned (.tuple #[])∧uR base w v s' w'
def ScBool(base:Nat)(w:World)(v:Sv)(r:Sc×Bool)(e:Ending)(w':World):Prop:=e=.returned (.bool r.2)∧uR base w v r.1 w'
set_option maxHeartbeats 1600000 in
theorem Je(h:ScO base w v s)(hi:ScI s)(ht:s.pg.told.length≤900000):Calls jG 116 #[.pointer (some ⟨v.S,0,none⟩)] w (ScBool base w v (zM s)):=by
 have hc2:=h.page.cols2;have hc3:=h.page.cols1000;have hr3:s.pg.scr.length≤1000:=by rw[←h.page.len];exact h.page.rows1000
 have HI:=Hd (cG h);have hy0:=hi.y0;have hy1:=hi.y1;have htop:=hi.t0;obtain⟨pg,st,pen,y,x,top,bot,sp,sy,sx,has,last⟩:=s;obtain⟨xi,hxi⟩:∃xi,inS ⟨pg,st,pen,y,x,top,bot,sp,sy,sx,has,last⟩=xi:=⟨_,rfl⟩;unfold zM rowsS;rw[hxi]at HI ⊢;simp only[]at ht hc2 hc3 hr3 hy0 hy1 htop ⊢;have HO:=Hd h;have HX:=Hd (at_ h.blk 17 (.int .i64 x) rfl);clear h hxi hi
 -- behind x is brought in
 have main:∀w1,Below w.heap.size w w1→ScO base (w1.setCell ⟨v.S,17,none⟩ (.int .i64 xi)) v ⟨pg,st,pen,y,xi,top,bot,sp,sy,sx,has,last⟩∧Mod (scX v) w (w1.setCell ⟨v.S,17,none⟩ (.int .i64 xi)):=fun w1 hb=>
  ⟨(HO.o.below hb).put 17 _ rfl rfl rfl,(Mod.of_below hb).setCell (a:=⟨v.S,17,none⟩) (.inl qKg) _⟩
 have HM:=Hd main;clear main
 by_cases hyb:y=bot
 · subst hyb;rw[if_pos rfl]
   go_enter Tryz.func116,Tryz.ntmps116
   go_upto_region 3 with(go_at_call 76;refine HI.o.mono ?_;rintro e w1 ⟨rfl,hb⟩;have HM1:=Hd (HM.o w1 hb);obtain⟨c17,f17⟩:=bQ hb HX.o;clear hb)
   generalize uQ _ _ _=W3 at HM1 ⊢;clear c17 f17;obtain⟨c16,-⟩:=at_ HM1.o.1.blk 16 (.int .i64 y) rfl;obtain⟨c19,-⟩:=at_ HM1.o.1.blk 19 (.int .i64 y) rfl;refine zW2 9 c16 c19 fun w' hS=>?_;have HB4:=Hd hS.1;clear hS c16 c19
   rename World=>W4
   go_upto_region 4 with fail
   have hO4:=HM1.o.1.below HB4.o;have HBK:Hid (∀w',Below W4.heap.size W4 w'→Calls jG 120 #[.pointer (some ⟨v.S,0,none⟩)] w' fun e w2=>e=.returned (.agg #[.int .i64 pen.at_.bk,.int .i64 pen.at_.bn])∧Below w'.heap.size w' w2):=Hd (fun w' hb=>yF (hO4.below hb));have HUP:Hid (∀w',Below W4.heap.size W4 w'→Calls jG 139 #[.pointer (some ⟨v.q.P,0,none⟩),.int .i64 top,.int .i64 y,.int .i64 1,.agg #[.int .i64 pen.at_.bk,.int .i64 pen.at_.bn]] w' (gY base w' v.q (gI pg top y 1 (fun t b g=>upP g t b ⟨pen.at_.bk,pen.at_.bn⟩)))):=
    Hd (fun w' hb=>UG (hO4.below hb).page top y 1 ⟨pen.at_.bk,pen.at_.bn⟩ ht qZ qZ)
   obtain⟨c14,-⟩:=at_ hO4.blk 14 (.pointer (some ⟨v.q.P,0,none⟩)) rfl;obtain⟨c18,-⟩:=at_ hO4.blk 18 (.int .i64 top) rfl;obtain⟨c19,-⟩:=at_ hO4.blk 19 (.int .i64 y) rfl;have HO4:=Hd hO4;clear hO4;refine zU3 14 c14 c18 c19 ?_
   repeat first|refine zS ?_|refine zC0 (zC3 HBK.o) ?_|refine zV ?_
   refine kU (fun w' hS=>?_);have HB5:=Hd hS.1;clear hS c14 c18 c19
   rename World=>W5
   go_wp2_with(go_at_call 139;refine(HUP.o _ HB5.o).mono ?_;rintro e w6 ⟨rfl,hp⟩;have HP6:=Hd hp;clear hp)
   go_ret
   exact qZs
 · rw[if_neg hyb];have hyb2:(y==bot)=false:=by simpa using hyb
   by_cases hyr:y<(pg.scr.length:Int)-1
   all_goals
    have hwr:jP.wrap ((pg.scr.length:Int)-1)=(pg.scr.length:Int)-1:=jH _ qJ
    go_enter Tryz.func116,Tryz.ntmps116
    go_upto_region 3 with(go_at_call 76;refine HI.o.mono ?_;rintro e w1 ⟨rfl,hb⟩;have HM1:=Hd (HM.o w1 hb);obtain⟨c17,f17⟩:=bQ hb HX.o;clear hb)
    generalize uQ _ _ _=W3 at HM1 ⊢;clear c17 f17;obtain⟨c16,-⟩:=at_ HM1.o.1.blk 16 (.int .i64 y) rfl;obtain⟨c19,-⟩:=at_ HM1.o.1.blk 19 (.int .i64 bot) rfl;refine zW2 9 c16 c19 fun w' hS=>?_;have HB4:=Hd hS.1;clear hS c16 c19
    rename World=>W4
    go_upto_region 5 with fail
    have hO4:=HM1.o.1.below HB4.o;have HRW:Hid (∀w',Below W4.heap.size W4 w'→Calls jG 110 #[.pointer (some ⟨v.S,0,none⟩)] w' fun e w2=>e=.returned (.int .i64 pg.scr.length)∧w'=w2):=Hd (fun w' hb=>cF (hO4.below hb));obtain⟨c16,-⟩:=at_ hO4.blk 16 (.int .i64 y) rfl;have HO4:=Hd hO4;clear hO4;refine zU1 8 c16 ?_
    repeat first|refine zS ?_|refine zC0 (zE HRW.o) ?_|refine zV ?_
    refine kU (fun w' hS=>?_);have HB5:=Hd hS.1;clear hS c16
    rename World=>W5
    obtain⟨c16,f16⟩:=at_ (HO4.o.below HB5.o).blk 16 (.int .i64 y) rfl;have hwy:jP.wrap (y+1)=y+1:=jH _ qJ
   · rw[if_pos hyr]
     go_wp2
     go_ret
     exact⟨rfl,uR.trans ⟨rfl,rfl,rfl,((HM1.o.2.then_below HB4.o).then_below HB5.o),fun b hb=>.inl hb⟩ ⟨v,rfl,rfl,rfl,(HO4.o.below HB5.o).put 16 _ rfl rfl rfl,ScO.mod_put 16 _,fun b hb=>.inl hb⟩⟩
   · rw[if_neg qJ]
     go_wp2
     go_ret
     exact⟨rfl,uR.trans ⟨rfl,rfl,rfl,((HM1.o.2.then_below HB4.o).then_below HB5.o),fun b hb=>.inl hb⟩ (HO4.o.below HB5.o).res⟩
theorem bB(g:Pg)(y:Int)(F:List Cl→List Cl):(pW g y F).told=g.told∧(pW g y F).room=g.room∧(pW g y F).hist=g.hist∧(pW g y F).gone=g.gone:=by
 unfold pW
 split<;>exact⟨rfl,rfl,rfl,rfl⟩
theorem Jw(s:Sc):(cQ s).pg.scr.length=s.pg.scr.length∧(cQ s).pg.cols=s.pg.cols∧(cQ s).pg.told=s.pg.told∧(cQ s).y=s.y∧(cQ s).x=s.x∧(cQ s).top=s.top∧(cQ s).bot=s.bot:=by
 unfold cQ
 split
 · exact⟨(eQ _ _).1,(eQ _ _).2,(bB _ _ _).1,rfl,rfl,rfl,rfl⟩
 · exact⟨rfl,rfl,rfl,rfl,rfl,rfl,rfl⟩
theorem ScI.pad(h:ScI s):ScI (cQ s):=by
 obtain⟨a1,a2,a3,a4,a5,a6,a7⟩:=Jw s;refine⟨?_,?_,?_,?_,?_,?_,?_⟩
 · rw[a4];exact h.y0
 · rw[a4,a1];exact h.y1
 · rw[a5];exact h.x0
 · rw[a5,a2];exact h.x1
 · rw[a6];exact h.t0
 · rw[a6,a7];exact h.tb
 · rw[a7,a1];exact h.b1
set_option maxHeartbeats 3200000 in
theorem Uh(h:ScO base w v s)(hi:ScI s)(ht:s.pg.told.length≤900000)(n:Int)(hn1:1≤n)(hn2:n≤2):Calls jG 172 #[.pointer (some ⟨v.S,0,none⟩),.int .i64 n] w (gQ base w v (cB s n)):=by
 have hc2:=h.page.cols2;have hc3:=h.page.cols1000;have hx0:=hi.x0;have hx1:=hi.x1;have HC:Hid (∀w',Below w.heap.size w w'→Calls jG 111 #[.pointer (some ⟨v.S,0,none⟩)] w' fun e w2=>e=.returned (.int .i64 s.pg.cols)∧w'=w2):=Hd (fun w' hb=>bK (h.below hb));have hwx:jP.wrap (s.x+n)=s.x+n:=jH _ qJ;have hwc:jP.wrap ((s.pg.cols:Int)-n)=(s.pg.cols:Int)-n:=jH _ qJ;have HO:=Hd h;have HI:=Hd hi;obtain⟨c17,-⟩:=at_ h.blk 17 (.int .i64 s.x) rfl;have hroom:cB s n=if s.x+n≤s.pg.cols then s else if s.pen.wrap=false then{s with x:=(s.pg.cols:Int)-n}else onS (zM (cQ s)):=rfl;rw[hroom];clear hroom h hi
 by_cases hA:s.x+n≤s.pg.cols
 · rw[if_pos hA]
   go_enter Tryz.func172,Tryz.ntmps172
   go_upto_region 0 with fail
   refine zU1 8 c17 ?_
   repeat first|refine zS ?_|refine zC0 (zE HC.o) ?_|refine zV ?_
   refine kU (fun w' hS=>?_)
   go_wp2
   go_end0
   exact⟨rfl,HO.o.res_below hS.1⟩
 · rw[if_neg hA];have hA2:¬s.x+n≤(s.pg.cols:Int):=hA;cases hwrap:s.pen.wrap with
   |false=>
    rw[if_pos rfl]
    go_enter Tryz.func172,Tryz.ntmps172
    go_upto_region 0 with fail
    refine zU1 8 c17 ?_
    repeat first|refine zS ?_|refine zC0 (zE HC.o) ?_|refine zV ?_
    refine kU (fun w' hS=>?_);have HB1:=Hd hS.1;clear hS c17
    rename World=>W1
    obtain⟨c12,-⟩:=at_ (HO.o.below HB1.o).blk 12 (.bool s.pen.wrap) rfl;rw[hwrap]at c12;obtain⟨c17,f17⟩:=at_ (HO.o.below HB1.o).blk 17 (.int .i64 s.x) rfl
    go_wp2_with(go_at_call 111;refine(HC.o _ HB1.o).mono ?_;rintro e w2 ⟨rfl,rfl⟩)
    go_end0
    exact⟨rfl,uR.trans ⟨rfl,rfl,rfl,Mod.of_below HB1.o,fun b hb=>.inl hb⟩ ⟨v,rfl,rfl,rfl,(HO.o.below HB1.o).put 17 _ rfl rfl rfl,ScO.mod_put 17 _,fun b hb=>.inl hb⟩⟩
   |true=>
    rw[if_neg qZ];obtain⟨r,hr⟩:∃r,zM (cQ s)=r:=⟨_,rfl⟩;rw[hr];have HRR:=Hd hr;clear hr;obtain⟨s5,on⟩:=r
    by_cases hxc:s.x<s.pg.cols
    all_goals
     go_enter Tryz.func172,Tryz.ntmps172
     go_upto_region 0 with fail
     refine zU1 8 c17 ?_
     repeat first|refine zS ?_|refine zC0 (zE HC.o) ?_|refine zV ?_
     refine kU (fun w' hS=>?_);have HB1:=Hd hS.1;clear hS c17
     rename World=>W1
     obtain⟨c12,-⟩:=at_ (HO.o.below HB1.o).blk 12 (.bool s.pen.wrap) rfl;rw[hwrap]at c12;obtain⟨c17,f17⟩:=at_ (HO.o.below HB1.o).blk 17 (.int .i64 s.x) rfl
     go_upto_region 3 with fail
     clear c12;refine jO 6 (fun w'=>Below w.heap.size w w'∧w'.cell? ⟨v.S,17,none⟩=some (.int .i64 s.x)) qQ qQ ?_ ?_
     · exact⟨HB1.o.drew,c17⟩
     simp only[jC,jL,jB,jF]
     repeat first|refine zS ?_|refine zC0 (zE HC.o) ?_|refine zV ?_
     refine kU (fun w' hS=>?_);have HB2:=Hd hS.1;clear hS c17 f17
     rename World=>W2
    go_upto_region 4 with fail
    have hO2:=HO.o.below HB2.o;have HPD:Hid (∀w',Below W2.heap.size W2 w'→Calls jG 244 #[.pointer (some ⟨v.q.P,0,none⟩),.int .i64 s.y] w' (gY base w' v.q (pW s.pg s.y cH))):=Hd (fun w' hb=>qQj (hO2.below hb).page s.y);obtain⟨c14,-⟩:=at_ hO2.blk 14 (.pointer (some ⟨v.q.P,0,none⟩)) rfl;obtain⟨c16,-⟩:=at_ hO2.blk 16 (.int .i64 s.y) rfl;have HO2:=Hd hO2;clear hO2;refine zW2 8 c14 c16 fun w' hS=>?_;have HB3:=Hd hS.1;clear hS c14 c16
    rename World=>W3
    go_upto_region 5 with(go_at_call 244;refine(HPD.o _ HB3.o).mono ?_;rintro e w4 ⟨rfl,hp⟩;have HP4:=Hd hp;clear hp)
    have HR:Hid (uR base w v (cQ s) w4):=Hd (by
     have e:cQ s={s with pg:=pW s.pg s.y cH}:=by unfold cQ colsS;rw[if_pos hxc]
     rw[e];exact uR.trans ⟨rfl,rfl,rfl,(Mod.of_below HB2.o).then_below HB3.o,fun b hb=>.inl hb⟩ ((HO2.o.below HB3.o).paged HP4.o))
    clear HB1 HB2 HB3 HP4 HO2 HPD
    rename World=>W4
    rotate_left;have HR:Hid (uR base w v (cQ s) W2):=Hd (by
     have e:cQ s=s:=by unfold cQ colsS;rw[if_neg (show ¬s.x<(s.pg.cols:Int) by omega)]
     rw[e];exact HO.o.res_below HB2.o)
    clear HB1 HB2
    rename World=>W4
    go_upto_region 5 with fail
    all_goals
     obtain⟨v4,e1,e2,e3,hO4,hm4,hx4⟩:=HR.o;obtain⟨p1,-,p3,-⟩:=Jw s;have HF:=Hd (Je hO4 HI.o.pad (by rw[p3];exact ht));rw[e1,HRR.o]at HF;have HE:=Hd (show v4.S=v.S∧v4.T=v.T∧v4.q.P=v.q.P∧Mod (scX v) w W4∧∀b∈scX v4,b∈scX v∨w.heap.size≤b from⟨e1,e2,e3,hm4,hx4⟩);clear hO4 hm4 hx4 e1 e2 e3 HR
     go_upto_region 6 with(go_at_call 116;refine HF.o.mono ?_;rintro e w5 ⟨rfl,hs⟩;have HS5:=Hd (uR.trans HE.o hs);clear hs)
     obtain⟨v5,e1,e2,e3,hO5,hm5,hx5⟩:=HS5.o;obtain⟨c17,f17⟩:=at_ hO5.blk 17 (.int .i64 s5.x) rfl;rw[e1]at c17 f17;have HO6:=Hd (hO5.put 17 (.int .i64 0) (s':={s5 with x:=0}) rfl rfl rfl);have HM6:=Hd (hm5.trans (ScO.mod_put (v:=v5) (w:=w5) 17 (.int .i64 0)) hx5);rw[e1]at HO6 HM6;have HE6:=Hd (show v5.S=v.S∧v5.T=v.T∧v5.q.P=v.q.P∧∀b∈scX v5,b∈scX v∨w.heap.size≤b from⟨e1,e2,e3,hx5⟩);clear hO5 hm5 hx5 e2 e3 HE HS5
     go_upto_region 7 with fail
     generalize uQ _ _ _=W6 at HO6 HM6 ⊢;clear c17 f17;cases on with
     |false=>
      go_wp2
      go_end0
      exact⟨rfl,v5,HE6.o.1,HE6.o.2.1,HE6.o.2.2.1,HO6.o,HM6.o,HE6.o.2.2.2⟩
     |true=>
      go_upto_region 8 with fail
      have HW:Hid (∀w',Below W6.heap.size W6 w'→Calls jG 245 #[.pointer (some ⟨v5.q.P,0,none⟩),.int .i64 s5.y] w' (gY base w' v5.q (vL s5.pg s5.y true))):=Hd (fun w' hb=>WC (HO6.o.below hb).page s5.y);obtain⟨c14,-⟩:=at_ HO6.o.blk 14 (.pointer (some ⟨v5.q.P,0,none⟩)) rfl;obtain⟨c16,-⟩:=at_ HO6.o.blk 16 (.int .i64 s5.y) rfl;rw[e1]at c14 c16;refine zW2 8 c14 c16 fun w' hS=>?_;have HB7:=Hd hS.1;clear hS c14 c16
      go_wp2_with(go_at_call 245;refine(HW.o _ HB7.o).mono ?_;rintro e w8 ⟨rfl,hp⟩;have HP8:=Hd hp;clear hp)
      go_end0
      exact⟨rfl,uR.trans ⟨HE6.o.1,HE6.o.2.1,HE6.o.2.2.1,HM6.o.then_below HB7.o,HE6.o.2.2.2⟩ ((HO6.o.below HB7.o).paged HP8.o)⟩
end
def aK(i k:Nat):Cl:=if k<i then yO (97+(k:Int)%26) kD 0 zY else vD ⟨0,0⟩
def nR(cols i j:Nat):Ro:=⟨(List.range cols).map (fun k=>aK i (j*cols+k)),decide (0<j∧j*cols<i)⟩
def lR(cols i a n:Nat):List Ro:=(List.range n).map (fun k=>nR cols i (a+k))
theorem Uv(i k:Nat):(aK i k).half=0:=by unfold aK;split<;>rfl
theorem sZ:∀l:List Cl,(∀c∈l,c.half=0)→uX l=l
 |[],_=>rfl
 |c::l,h=>by rw[eU (h c (List.mem_cons_self ..)),sZ l (fun d hd=>h d (List.mem_cons_of_mem _ hd))]
theorem Jg(cols i j:Nat):∀c∈(nR cols i j).cs,c.half=0:=by
 intro c hc;obtain⟨k,-,rfl⟩:=List.mem_map.1 hc;exact Uv _ _
theorem VL(cols i j:Nat):(nR cols i j).cs.length=cols:=by simp[nR]
theorem aF(cols i a n:Nat):(lR cols i a n).length=n:=by simp[lR]
theorem aR{cols i a n k:Nat}(h:k<n):(lR cols i a n)[k]? =some (nR cols i (a+k)):=by
 unfold lR;rw[vQ,List.getElem?_range h];rfl
theorem Yt{r:Int}(h1:32≤r)(h2:r<127):pR r=1:=by
 rw[Jv qJ,if_neg (by simp[dZ];omega)]
theorem UL{cols j k J x:Nat}(hk:k<cols)(hx:x<cols)(h:j*cols+k=J*cols+x):j=J∧k=x:=by
 have e1:(j*cols+k)/cols=j:=by rw[Nat.mul_comm,Nat.mul_add_div qJ,Nat.div_eq_of_lt hk,vO]
 have e2:(J*cols+x)/cols=J:=by rw[Nat.mul_comm,Nat.mul_add_div qJ,Nat.div_eq_of_lt hx,vO]
 have e:j=J:=by rw[←e1,h,e2]
 subst e;exact⟨rfl,by omega⟩
theorem aS{i k:Nat}(h:k≠i):aK (i+1) k=aK i k:=by
 unfold aK
 by_cases hk:k<i
 · rw[if_pos hk,if_pos qJ]
 · rw[if_neg hk,if_neg qJ]
theorem XD{cols j J x i:Nat}(hj:j≠J)(hx:x<cols)(hi:J*cols+x=i):nR cols (i+1) j=nR cols i j:=by
 unfold nR
 congr 1
 · refine List.map_congr_left fun k hk=>aS fun h=>?_;exact hj (UL (List.mem_range.1 hk) hx (h.trans hi.symm)).1
 · by_cases h0:j*cols=i
   · exact absurd (UL (k:=0) qJ hx qJ).1 hj
   · congr 1
     apply propext
     constructor
     · rintro⟨a,b⟩;exact⟨a,by omega⟩
     · rintro⟨a,b⟩;exact⟨a,by omega⟩
theorem V3{cols J x i:Nat}(hx:x<cols)(hi:J*cols+x=i):dS (nR cols i J).cs x (97+(i:Int)%26) zY=(nR cols (i+1) J).cs:=by
 unfold dS;simp only[];rw[sZ _ (Jg _ _ _),if_pos ⟨Yt qJ qJ,by omega,by rw[VL];omega⟩,uJ,sZ]
 · apply vV;intro k;rw[vP]
   by_cases hk:x=k
   · subst hk;rw[if_pos rfl,VL,if_pos hx];show _=((List.range cols).map _)[x]?;rw[vQ,List.getElem?_range hx];show _=some (aK (i+1) (J*cols+x));rw[hi];unfold aK;rw[if_pos qJ]
   · rw[if_neg hk];show((List.range cols).map _)[k]? =((List.range cols).map _)[k]?;rw[vQ,vQ]
     by_cases hc:k<cols
     · rw[List.getElem?_range hc];show some (aK i (J*cols+k))=some (aK (i+1) (J*cols+k));rw[aS qJ]
     · rw[kI (by simpa using hc)];rfl
 · intro c hc;rcases List.mem_or_eq_of_mem_set hc with h|rfl
   · exact Jg _ _ _ c h
   · rfl
theorem V4{cols i a n p x:Nat}(hx:x<cols)(_:p<n)(hi:(a+p)*cols+x=i)(c:Bool→Bool)(hc:c (decide (0<a+p∧(a+p)*cols<i))=decide (0<a+p)):
 (lR cols i a n).modify p (fun r=>{cs:=dS r.cs x (97+(i:Int)%26) zY,cont:=c r.cont})=lR cols (i+1) a n:=by
 apply vV;intro k;rw[List.getElem?_modify]
 by_cases hk:k<n
 · rw[aR hk,aR hk]
   by_cases hpk:p=k
   · subst hpk;show(fun a=>if p=p then _ else _) <$>_=_;simp only[if_true];show some (Ro.mk (dS (nR cols i (a+p)).cs x (97+(i:Int)%26) zY) (c (decide (0<a+p∧(a+p)*cols<i))))=_;rw[V3 hx hi,hc];show some (Ro.mk (nR cols (i+1) (a+p)).cs _)=some (Ro.mk (nR cols (i+1) (a+p)).cs (decide (0<a+p∧(a+p)*cols<i+1)))
     congr 2
     congr 1
     apply propext
     constructor
     · exact fun h=>⟨h,by omega⟩
     · exact fun h=>h.1
   · simp only[if_neg hpk];show some (nR cols i (a+k))=_;rw[XD (J:=a+p) qJ hx hi]
 · rw[kI (by rw[aF];omega),kI (by rw[aF];omega)];rfl
theorem KI{cols i j:Nat}(h:i≤j*cols):gZ cols ⟨0,0⟩=nR cols i j:=by
 unfold gZ nR
 congr 1
 · apply vV;intro k;rw[vQ]
   by_cases hk:k<cols
   · rw[List.getElem?_range hk,List.getElem?_replicate,if_pos hk];show _=some (aK i (j*cols+k));unfold aK;rw[if_neg qJ]
   · rw[kI (by simpa using hk),kI (by simpa using hk)];rfl
 · rw[decide_eq_false];omega
theorem Uk{cols i a n:Nat}(h:i≤(a+n)*cols):lR cols i a n++[gZ cols ⟨0,0⟩]=lR cols i a (n+1):=by
 unfold lR;rw[List.range_succ,gK,KI h];rfl
theorem Uu{cols i a n:Nat}:(lR cols i a (n+1)).drop 1=lR cols i (a+1) n:=by
 unfold lR;rw[List.range_succ_eq_map,List.map_cons,List.map_map];show List.map _ _=_;refine List.map_congr_left fun k _=>?_;show nR cols i (a+(k+1))=nR cols i (a+1+k);rw[show a+(k+1)=a+1+k by omega]
theorem qJe{d:Dc}{rows:Nat}(b:Col)(h:d.L.length=d.base+rows)(h0:1≤rows):
 Jq d 0 (rows-1) b=(let d2:Dc:={d with L:=d.L++[gZ d.cols b],base:=d.base+1,told:=d.told++[⟨0,d.base+rows,1⟩]};if d.room<d.base+1 then dC d2 1 else d2):=by
 unfold Jq;rw[if_pos rfl];have e:pJ d (d.base+(rows-1)+1) (gZ d.cols b)={d with L:=d.L++[gZ d.cols b],told:=d.told++[⟨0,d.base+rows,1⟩]}:=by
  unfold pJ;rw[show d.base+(rows-1)+1=d.L.length by omega,List.take_length,List.drop_length,h];rfl
 rw[e];have e2:∀d3:Dc,hE d3=rows→gN d3 (((rows-1:Nat):Int)+1)=d3:=by
  intro d3 h3;unfold gN;have :nU d3 (((rows-1:Nat):Int)+1)=false:=by unfold nU;rw[h3];simp;omega
  rw[this];rfl
 simp only[];rw[e2 _ (by unfold hE;simp;omega)]
structure Wr(rows cols room i:Nat)(s:Sc):Prop where
 pen:s.pen=vW
 inv:PgInv rows cols room s.pg
 a:∃a y x:Nat,s.pg.gone=a∧s.y=y∧s.x=x∧s.pg.hist++s.pg.scr=lR cols i a (s.pg.hist.length+rows)∧(a+(s.pg.hist.length+y))*cols+x=i∧x≤cols∧y<rows∧(x=0→a+(s.pg.hist.length+y)=0)
 top:s.top=0
 bot:s.bot=rows-1
 told:s.pg.told.length≤2*i
theorem JT{α:Type}(l:List α)(k:Nat)(f g:α→α):(l.modify k f).modify k g=l.modify k (fun r=>g (f r)):=by
 apply vV;intro j;rw[List.getElem?_modify,List.getElem?_modify,List.getElem?_modify];cases l[j]? with
 |none=>rfl
 |some v=>by_cases h:k=j<;>simp[h]
theorem XN{rows cols room i a y x:Nat}{s:Sc}{c:Bool→Bool}{scr:List Ro}(hpen:s.pen=vW)(hinv:PgInv rows cols room s.pg)(hg:s.pg.gone=a)(hy:s.y=y)(hx:s.x=x)(hs:s.pg.scr=scr.modify y (fun r=>{r with cont:=c r.cont}))(hD:s.pg.hist++scr=lR cols i a (s.pg.hist.length+rows))
 (hi:(a+(s.pg.hist.length+y))*cols+x=i) (hxc:x<cols) (hyr:y<rows) (hc:c (decide (0<a+(s.pg.hist.length+y)∧(a+(s.pg.hist.length+y))*cols<i))=decide (0<a+(s.pg.hist.length+y))) (ht:s.top=0) (hb:s.bot=rows-1) (htd:s.pg.told.length≤2*(i+1)):
 Wr rows cols room (i+1) (ZI s (97+(i:Int)%26) 1):=by
 have hin:inP s.pg s.y=true:=by unfold inP;rw[hinv.hrows,hy];simp;omega
 have hrow:pW s.pg s.y (fun l=>dS l s.x (97+(i:Int)%26) s.pen.at_)={s.pg with scr:=scr.modify y (fun r=>{cs:=dS r.cs x (97+(i:Int)%26) zY,cont:=c r.cont})}:=by
  unfold pW;rw[hin,if_pos rfl,hy,hx,hs,uJ,JT,hpen];rfl
 have hinv2:=hinv.row s.y (fun l=>dS l s.x (97+(i:Int)%26) s.pen.at_) (fun l=>lQ l _ _ _);refine⟨hpen,hinv2,⟨a,y,x+1,?_,hy,by show s.x+1=_;rw[hx];rfl,?_,?_,by omega,hyr,by omega⟩,ht,hb,by show(pW _ _ _).told.length≤_;rw[hrow];exact htd⟩
 · show(pW _ _ _).gone=_;rw[hrow];exact hg
 · show(pW _ _ _).hist++(pW _ _ _).scr=lR cols (i+1) a ((pW _ _ _).hist.length+rows);rw[hrow];show s.pg.hist++scr.modify y _=lR cols (i+1) a (s.pg.hist.length+rows);rw[←fL,hD];exact V4 hxc qJ qJ c hc
 · show(a+((pW _ _ _).hist.length+y))*cols+(x+1)=i+1;rw[hrow];show(a+(s.pg.hist.length+y))*cols+(x+1)=i+1;omega
theorem wr_step{rows cols room i:Nat}{s:Sc}(h:Wr rows cols room i s)(h0:1≤rows)(hc2:2≤cols):Wr rows cols room (i+1) (cA s (97+(i:Int)%26)):=by
 obtain⟨a,y,x,hg,hy,hx,hD,hi,hxc,hyr,hx0⟩:=h.a;have hw:pR (97+(i:Int)%26)=1:=Yt qJ qJ;have hm:YW s.pen.ch (97+(i:Int)%26)=97+(i:Int)%26:=by
  rw[h.pen];show hQ 66 _=_;unfold hQ;rw[if_neg qJ,if_neg qJ,if_neg qJ]
 have hpen2:({s.pen with ch:=mY s.pen.ch}:Pe)=vW:=by rw[h.pen];rfl
 unfold cA pH;rw[hm,hw,if_neg qZ,if_neg qZ,hpen2];have hcols:colsS {s with pen:=vW}=cols:=by show((s.pg.cols:Nat):Int)=_;rw[h.inv.hcols]
 unfold bO;have hput:∀s1:Sc,s1.pen=vW→(if s1.pen.put=true then{s1 with pg:=pW s1.pg s1.y (fun l=>pU l s1.x 1 (yJ s1))}else s1)=s1:=by
  intro s1 h1;rw[h1];rfl
 by_cases hlt:x<cols
 · have hr:cB {s with pen:=vW} 1={s with pen:=vW}:=by
    unfold cB;rw[hcols,if_pos (by show s.x+1≤_;omega)]
   rw[hr,hput _ rfl];refine XN (c:=fun b=>b) (scr:=s.pg.scr) rfl h.inv hg hy hx ?_ hD hi hlt hyr ?_ h.top h.bot (by have :=h.told;show s.pg.told.length≤_;omega)
   · show s.pg.scr=s.pg.scr.modify y (fun r=>r);apply vV;intro j;rw[List.getElem?_modify];cases s.pg.scr[j]? <;>simp
   · show decide _=decide _
     congr 1
     apply propext
     constructor
     · exact fun h=>h.1
     · intro h1;have h2:0<a+(s.pg.hist.length+y):=h1;refine⟨h1,?_⟩;show(a+(s.pg.hist.length+y))*cols<i;have :x≠0:=fun h3=>by have :=hx0 h3;omega
       omega
 · obtain rfl:x=cols:=by omega
   have hi2:(a+(s.pg.hist.length+y)+1)*x=i:=by rw[Nat.add_mul];omega
   have hr:cB {s with pen:=vW} 1=onS (zM {s with pen:=vW}):=by
    unfold cB cQ;rw[hcols,if_neg (by show ¬s.x+1≤_;omega)];simp only[];rw[if_neg qZ,if_neg (by show ¬s.x<_;omega)]
   rw[hr]
   by_cases hyb:y+1<rows
   · have hf:zM {s with pen:=vW}=({s with pen:=vW,x:=inS {s with pen:=vW},y:=s.y+1},true):=by
      unfold zM;rw[if_neg (by show s.y≠s.bot;rw[h.bot];omega),if_pos (by show s.y<(s.pg.scr.length:Int)-1;rw[h.inv.hrows];omega)]
     rw[hf];unfold onS;rw[if_pos rfl,hput _ rfl];have hcp:vL s.pg (s.y+1) true={s.pg with scr:=s.pg.scr.modify (y+1) (fun r=>{r with cont:=true})}:=by
      unfold vL;have :inP s.pg (s.y+1)=true:=by unfold inP;rw[h.inv.hrows];simp;omega
      rw[this,if_pos rfl,show(s.y+1).toNat=y+1 by omega]
     have hinv2:=h.inv.cont (s.y+1) true;refine XN (c:=fun _=>true) (scr:=s.pg.scr) (a:=a) (y:=y+1) (x:=0) rfl hinv2 ?_ (by show s.y+1=_;omega) rfl ?_ ?_ ?_ qJ hyb ?_ h.top h.bot (by have :=h.told;show(vL s.pg (s.y+1) true).told.length≤_;rw[hcp];show s.pg.told.length≤_;omega)
     · show(vL s.pg (s.y+1) true).gone=a;rw[hcp];exact hg
     · show(vL s.pg (s.y+1) true).scr=_;rw[hcp]
     · show(vL s.pg (s.y+1) true).hist++_=lR _ _ _ ((vL s.pg (s.y+1) true).hist.length+rows);rw[hcp];exact hD
     · show(a+((vL s.pg (s.y+1) true).hist.length+(y+1)))*x+0=i;rw[hcp];show(a+(s.pg.hist.length+(y+1)))*x+0=i;rw[show a+(s.pg.hist.length+(y+1))=a+(s.pg.hist.length+y)+1 by omega];exact hi2
     · show true=decide _;rw[decide_eq_true];omega
   · obtain rfl:rows=y+1:=by omega
     have hhl:(s.pg.hist++s.pg.scr).length=s.pg.hist.length+(y+1):=by rw[jI,h.inv.hrows]
     have hf:zM {s with pen:=vW}=({s with pen:=vW,x:=inS {s with pen:=vW},pg:=upP s.pg 0 y ⟨0,0⟩},true):=by
      unfold zM;rw[if_pos (by show s.y=s.bot;rw[h.bot];omega)]
      congr 2
      show gI s.pg s.top s.bot 1 _=_;unfold gI;rw[h.top,h.bot];have i1:inP s.pg 0=true:=by unfold inP;rw[h.inv.hrows];simp
      have i2:inP s.pg (((y+1:Nat):Int)-1)=true:=by unfold inP;rw[h.inv.hrows,Bool.and_eq_true,decide_eq_true_eq,decide_eq_true_eq];omega
      rw[i1,i2,if_pos qV,show min (1:Int).toNat ((((y+1:Nat):Int)-1-0+1).toNat)=1 by omega,show(((y+1:Nat):Int)-1).toNat=y by omega];rfl
     rw[hf];unfold onS;rw[if_pos rfl,hput _ rfl];have hU:=UF s.pg 0 y ⟨0,0⟩ qJ (by rw[h.inv.hrows];omega) (by rw[h.inv.hroom];exact h.inv.hhist);have hinvU:=h.inv.up (top:=0) (bottom:=y) qJ (by rw[h.inv.hrows];omega) ⟨0,0⟩;rw[show y=(y+1)-1 by omega]at hU;rw[qJe (d:=yX s.pg) (rows:=y+1) _ hhl qJ]at hU;simp only[Nat.add_sub_cancel]at hU;have hgrow:(s.pg.hist++s.pg.scr)++[gZ s.pg.cols ⟨0,0⟩]=lR x i a (s.pg.hist.length+(y+1)+1):=by
      rw[hD,h.inv.hcols];exact Uk (by rw[show a+(s.pg.hist.length+(y+1))=a+(s.pg.hist.length+y)+1 by omega];omega)
     -- what the page holds behind it
     have hAll:∃a':Nat,(upP s.pg 0 y ⟨0,0⟩).gone=a'∧(upP s.pg 0 y ⟨0,0⟩).hist++(upP s.pg 0 y ⟨0,0⟩).scr=lR x i a' ((upP s.pg 0 y ⟨0,0⟩).hist.length+(y+1))∧a'+(upP s.pg 0 y ⟨0,0⟩).hist.length=a+s.pg.hist.length+1:=by
      by_cases hroom:s.pg.room<s.pg.hist.length+1
      · rw[if_pos (show(yX s.pg).room<(yX s.pg).base+1 from hroom)]at hU;have hL:=congrArg Dc.L hU;have hB:=congrArg Dc.base hU;have hG:=congrArg Dc.gone hU;change (s.pg.hist++s.pg.scr++[gZ s.pg.cols ⟨0,0⟩]).drop 1=(upP s.pg 0 y ⟨0,0⟩).hist++(upP s.pg 0 y ⟨0,0⟩).scr at hL;change s.pg.hist.length+1-1=(upP s.pg 0 y ⟨0,0⟩).hist.length at hB;change s.pg.gone+((1:Nat):Int)=(upP s.pg 0 y ⟨0,0⟩).gone at hG;refine⟨a+1,by omega,?_,by omega⟩;rw[←hL,hgrow,Uu,←hB];rfl
      · rw[if_neg (show ¬(yX s.pg).room<(yX s.pg).base+1 from hroom)]at hU;have hL:=congrArg Dc.L hU;have hB:=congrArg Dc.base hU;have hG:=congrArg Dc.gone hU;change s.pg.hist++s.pg.scr++[gZ s.pg.cols ⟨0,0⟩]=(upP s.pg 0 y ⟨0,0⟩).hist++(upP s.pg 0 y ⟨0,0⟩).scr at hL;change s.pg.hist.length+1=(upP s.pg 0 y ⟨0,0⟩).hist.length at hB;change s.pg.gone=(upP s.pg 0 y ⟨0,0⟩).gone at hG;refine⟨a,by omega,?_,by omega⟩;rw[←hL,hgrow,←hB]
        congr 1
        omega
     obtain⟨a',e1,e2,e3⟩:=hAll;have hut:=(tD ⟨0,0⟩ 0 y s.pg qJ (by rw[h.inv.hrows];omega)).2.1;simp only[]at hut;generalize hu:upP s.pg 0 y ⟨0,0⟩=u at e1 e2 e3 hinvU hut ⊢;have hcp:vL u s.y true={u with scr:=u.scr.modify y (fun r=>{r with cont:=true})}:=by
      unfold vL;have :inP u s.y=true:=by unfold inP;rw[hinvU.hrows];simp;omega
      rw[this,if_pos rfl,show s.y.toNat=y by omega]
     have hinv2:=hinvU.cont s.y true;refine XN (c:=fun _=>true) (scr:=u.scr) (a:=a') (y:=y) (x:=0) rfl hinv2 ?_ hy rfl ?_ ?_ ?_ qJ qJ ?_ h.top h.bot (by have :=h.told;show(vL u s.y true).told.length≤_;rw[hcp];show u.told.length≤_;omega)
     · show(vL u s.y true).gone=a';rw[hcp];exact e1
     · show(vL u s.y true).scr=_;rw[hcp]
     · show(vL u s.y true).hist++_=lR _ _ _ ((vL u s.y true).hist.length+_);rw[hcp];exact e2
     · show(a'+((vL u s.y true).hist.length+y))*x+0=i;rw[hcp];show(a'+(u.hist.length+y))*x+0=i;rw[show a'+(u.hist.length+y)=a+(s.pg.hist.length+y)+1 by omega];exact hi2
     · show true=decide _;rw[decide_eq_true];rw[hcp];show 0<a'+(u.hist.length+y);omega
theorem wr_new{rows cols room:Nat}{st:List Bool}(h0:1≤rows):Wr rows cols room 0 (lA rows cols room st):=by
 refine⟨rfl,⟨by simp[lA],rfl,rfl,kT _,?_⟩,⟨0,0,0,rfl,rfl,rfl,?_,by simp[lA],by omega,by omega,fun _=>rfl⟩,rfl,rfl,by simp[lA]⟩
 · intro r hr;have h1:r∈kJ rows (gZ cols ⟨0,0⟩):=by simpa[lA]using hr
   rw[List.eq_of_mem_replicate h1];simp[gZ]
 · show[]++kJ rows (gZ cols ⟨0,0⟩)=lR cols 0 0 (0+rows);apply vV;intro k;rw[List.nil_append,kB]
   by_cases hk:k<rows
   · rw[aR hk,List.getElem?_replicate,if_pos hk,KI (i:=0) (j:=0+k) qJ]
   · rw[kI (by rw[kS];omega),kI (by rw[aF];omega)]
def wrS(s:Sc):Nat→Sc
 |0=>s
 |n+1=>cA (wrS s n) (97+(n:Int)%26)
theorem K5{rows cols room:Nat}{s:Sc}(h:Wr rows cols room 0 s)(h0:1≤rows)(hc2:2≤cols):∀n,Wr rows cols room n (wrS s n)
 |0=>h
 |n+1=>wr_step (K5 h h0 hc2 n) h0 hc2
section
variable {base:Nat}{w:World}{v:Sv}{s:Sc}
theorem room_x(hi:ScI s)(hc:2≤s.pg.cols){n:Int}(hn1:1≤n)(hn2:n≤2):0≤(cB s n).x∧(cB s n).x+n≤s.pg.cols:=by
 have hx0:=hi.x0;unfold cB colsS
 split
 · exact⟨hx0,by assumption⟩
 split
 · exact⟨by show 0≤(s.pg.cols:Int)-n;omega,by show(s.pg.cols:Int)-n+n≤_;omega⟩
 · unfold onS
   split
   · exact⟨Int.le_refl _,by show 0+n≤_;omega⟩
   · exact⟨Int.le_refl _,by show 0+n≤_;omega⟩
set_option maxHeartbeats 3200000 in
theorem QQ(h:ScO base w v s)(hi:ScI s)(ht:s.pg.told.length≤900000)(r:Int):Calls jG 101 #[.pointer (some ⟨v.S,0,none⟩),.int .i32 r] w (gQ base w v (pH s r)):=by
 have HW:=Hd (fun w=>tO r w);have hc2:=h.page.cols2;have hc3:=h.page.cols1000;have hx0:=hi.x0;have hx1:=hi.x1;have HO:=Hd h;have HI:=Hd hi;have hwr:pH s r=if pR r=0 then{s with pg:=pW s.pg s.y (fun l=>fK l (s.x-1) r)}else if pR r<1 then s else ZI (bO (cB s (pR r)) (pR r)) r (pR r):=rfl;rw[hwr];have hwd:pR r≤2:=by
  unfold pR
  split
  · decide
  split
  · decide
  split<;>decide
 generalize hn:pR r=n at *;clear h hi hwr hn
 by_cases h0:n=0
 · subst h0;rw[if_pos rfl];have hwx:jP.wrap (s.x-1)=s.x-1:=jH _ qJ
   go_enter Tryz.func101,Tryz.ntmps101
   go_upto_region 2 with(go_at_call 170;refine(HW.o _).mono ?_;rintro e w1 ⟨rfl,hb⟩;have HB1:=Hd hb;clear hb)
   rename World=>W1
   have hO1:=HO.o.below HB1.o;have HMK:Hid (∀w',Below W1.heap.size W1 w'→Calls jG 171 #[.pointer (some ⟨v.q.P,0,none⟩),.int .i64 s.y,.int .i64 (s.x-1),.int .i32 r] w' (gY base w' v.q (pW s.pg s.y (fun l=>fK l (s.x-1) r)))):=Hd (fun w' hb=>WF (hO1.below hb).page s.y (s.x-1) r);obtain⟨c14,-⟩:=at_ hO1.blk 14 (.pointer (some ⟨v.q.P,0,none⟩)) rfl;obtain⟨c16,-⟩:=at_ hO1.blk 16 (.int .i64 s.y) rfl;obtain⟨c17,-⟩:=at_ hO1.blk 17 (.int .i64 s.x) rfl;have HO1:=Hd hO1;clear hO1;refine zW3 14 c14 c16 c17 fun w' hS=>?_;have HB2:=Hd hS.1;clear hS c14 c16 c17
   go_wp2_with(go_at_call 171;refine(HMK.o _ HB2.o).mono ?_;rintro e w3 ⟨rfl,hp⟩;have HP3:=Hd hp;clear hp)
   go_end0
   exact⟨rfl,uR.trans ⟨rfl,rfl,rfl,(Mod.of_below HB1.o).then_below HB2.o,fun b hb=>.inl hb⟩ ((HO1.o.below HB2.o).paged HP3.o)⟩
 rw[if_neg h0];have h0b:(n==0)=false:=by simpa using h0
 by_cases h1:n<1
 · rw[if_pos h1]
   go_enter Tryz.func101,Tryz.ntmps101
   go_wp2_with(go_at_call 170;refine(HW.o _).mono ?_;rintro e w1 ⟨rfl,hb⟩;have HB1:=Hd hb;clear hb)
   go_end0
   exact⟨rfl,HO.o.res_below HB1.o⟩
 rw[if_neg h1];have HRM:Hid (∀w',Below w.heap.size w w'→Calls jG 172 #[.pointer (some ⟨v.S,0,none⟩),.int .i64 n] w' (gQ base w' v (cB s n))):=Hd (fun w' hb=>Uh (HO.o.below hb) HI.o ht n qJ hwd);obtain⟨hr0,hr1⟩:=room_x HI.o hc2 (n:=n) qJ hwd;obtain⟨s1,hs1⟩:∃s1,cB s n=s1:=⟨_,rfl⟩;rw[hs1]at HRM hr0 hr1 ⊢;have hwx:jP.wrap (s1.x+n)=s1.x+n:=jH _ qJ;clear hs1;have hsh:bO s1 n=if s1.pen.put=true then{s1 with pg:=pW s1.pg s1.y (fun l=>pU l s1.x n (yJ s1))}else s1:=by unfold bO;cases s1.pen.put<;>rfl
 obtain⟨s2,hs2⟩:∃s2,bO s1 n=s2:=⟨_,rfl⟩;have hs2x:s2.x=s1.x∧s2.y=s1.y∧s2.pen=s1.pen:=by rw[←hs2,hsh];split<;>exact⟨rfl,rfl,rfl⟩
 rw[hs2]at hsh ⊢;have HX2:=Hd hs2x;clear hs2x;have HSH:=Hd hsh;clear hsh hs2;cases hput:s1.pen.put
 all_goals
  go_enter Tryz.func101,Tryz.ntmps101
  go_upto_region 5 with(first
   |(go_at_call 170;refine(HW.o _).mono ?_;rintro e w1 ⟨rfl,hb⟩;have HB1:=Hd hb;clear hb)
   |(go_at_call 172;refine(HRM.o _ HB1.o).mono ?_;rintro e w2 ⟨rfl,hs⟩;have HS2:=Hd (uR.pre HB1.o hs);clear hs))
  obtain⟨v2,e1,e2,e3,hO2,hm2,hx2⟩:=HS2.o
  rename World=>W2
  have HO2:=Hd hO2;have HE2:=Hd (show v2.S=v.S∧v2.T=v.T∧v2.q.P=v.q.P∧Mod (scX v) w W2∧∀b∈scX v2,b∈scX v∨w.heap.size≤b from⟨e1,e2,e3,hm2,hx2⟩);obtain⟨c11,-⟩:=at_ hO2.blk 11 (.bool s1.pen.put) rfl;rw[e1,hput]at c11;clear hO2 hm2 hx2 e2 e3 HS2
 have HR7:Hid (uR base w v s2 W2):=Hd (by
  have e:s2=s1:=by rw[HSH.o,hput];rfl
  rw[e];exact uR.trans HE2.o HO2.o.res)
 go_upto_region 7 with fail
 clear HO2 HE2 c11
 rename World=>W7
 rotate_left;have HBK:Hid (∀w',Below W2.heap.size W2 w'→Calls jG 120 #[.pointer (some ⟨v.S,0,none⟩)] w' fun e w3=>e=.returned (.agg #[.int .i64 s1.pen.at_.bk,.int .i64 s1.pen.at_.bn])∧Below w'.heap.size w' w3):=Hd (fun w' hb=>by rw[←e1];exact yF (HO2.o.below hb));have HIN:Hid (∀w',Below W2.heap.size W2 w'→Calls jG 135 #[.pointer (some ⟨v2.q.P,0,none⟩),.int .i64 s1.y,.int .i64 s1.x,.int .i64 n,.agg #[.int .i64 s1.pen.at_.bk,.int .i64 s1.pen.at_.bn]] w' (gY base w' v2.q (pW s1.pg s1.y (fun l=>pU l s1.x n ⟨s1.pen.at_.bk,s1.pen.at_.bn⟩)))):=Hd (fun w' hb=>oY (HO2.o.below hb).page s1.y s1.x n ⟨s1.pen.at_.bk,s1.pen.at_.bn⟩);obtain⟨c14,-⟩:=at_ HO2.o.blk 14 (.pointer (some ⟨v2.q.P,0,none⟩)) rfl;obtain⟨c16,-⟩:=at_ HO2.o.blk 16 (.int .i64 s1.y) rfl;obtain⟨c17,-⟩:=at_ HO2.o.blk 17 (.int .i64 s1.x) rfl;rw[e1]at c14 c16 c17
 go_upto_region 6 with fail
 clear c11;refine zU3 15 c14 c16 c17 ?_
 repeat first|refine zS ?_|refine zC0 (zC3 HBK.o) ?_|refine zV ?_
 refine kU (fun w' hS=>?_);have HB3:=Hd hS.1;clear hS c14 c16 c17
 go_upto_region 7 with(go_at_call 135;refine(HIN.o _ HB3.o).mono ?_;rintro e w4 ⟨rfl,hp⟩;have HP4:=Hd hp;clear hp)
 have HR7:Hid (uR base w v s2 w4):=Hd (by
  have e:s2={s1 with pg:=pW s1.pg s1.y (fun l=>pU l s1.x n (yJ s1))}:=by rw[HSH.o,hput];rfl
  rw[e];exact uR.trans HE2.o (uR.pre HB3.o ((HO2.o.below HB3.o).paged HP4.o)))
 clear HO2 HE2 HB3 HP4 HBK HIN
 rename World=>W7
 rotate_left
 all_goals
  obtain⟨v7,f1,f2,f3,hO7,hm7,hx7⟩:=HR7.o;have HO7:=Hd hO7;have HE7:=Hd (show v7.S=v.S∧v7.T=v.T∧v7.q.P=v.q.P∧Mod (scX v) w W7∧∀b∈scX v7,b∈scX v∨w.heap.size≤b from⟨f1,f2,f3,hm7,hx7⟩);have HPT:Hid (∀w',Below W7.heap.size W7 w'→Calls jG 140 #[.pointer (some ⟨v7.q.P,0,none⟩),.int .i64 s2.y,.int .i64 s2.x,.int .i32 r,.agg #[.int .i64 s2.pen.at_.fk,.int .i64 s2.pen.at_.fn,.int .i64 s2.pen.at_.bk,.int .i64 s2.pen.at_.bn,.int .i64 s2.pen.at_.fl]] w' (gY base w' v7.q (pW s2.pg s2.y (fun l=>dS l s2.x r s2.pen.at_)))):=Hd (fun w' hb=>ZB (HO7.o.below hb).page s2.y s2.x r s2.pen.at_);obtain⟨c14,-⟩:=at_ hO7.blk 14 (.pointer (some ⟨v7.q.P,0,none⟩)) rfl;obtain⟨c16,-⟩:=at_ hO7.blk 16 (.int .i64 s2.y) rfl;obtain⟨c17,-⟩:=at_ hO7.blk 17 (.int .i64 s2.x) rfl;obtain⟨c0,-⟩:=at_ hO7.blk 0 (.int .i64 s2.pen.at_.fk) rfl;obtain⟨c1,-⟩:=at_ hO7.blk 1 (.int .i64 s2.pen.at_.fn) rfl;obtain⟨c2,-⟩:=at_ hO7.blk 2 (.int .i64 s2.pen.at_.bk) rfl;obtain⟨c3,-⟩:=at_ hO7.blk 3 (.int .i64 s2.pen.at_.bn) rfl;obtain⟨c4,-⟩:=at_ hO7.blk 4 (.int .i64 s2.pen.at_.fl) rfl;rw[f1]at c14 c16 c17 c0 c1 c2 c3 c4;clear hO7 hm7 hx7 HR7 f2 f3
  refine zU 18 (fun w'=>Below W7.heap.size W7 w'∧w'.cell? ⟨v.S,14,none⟩=some (.pointer (some ⟨v7.q.P,0,none⟩))∧w'.cell? ⟨v.S,16,none⟩=some (.int .i64 s2.y)∧w'.cell? ⟨v.S,17,none⟩=some (.int .i64 s2.x)∧w'.cell? ⟨v.S,0,none⟩=some (.int .i64 s2.pen.at_.fk)∧w'.cell? ⟨v.S,1,none⟩=some (.int .i64 s2.pen.at_.fn)∧w'.cell? ⟨v.S,2,none⟩=some (.int .i64 s2.pen.at_.bk)∧w'.cell? ⟨v.S,3,none⟩=some (.int .i64 s2.pen.at_.bn)∧w'.cell? ⟨v.S,4,none⟩=some (.int .i64 s2.pen.at_.fl)) ⟨(jU _ _).drew,c14,c16,c17,c0,c1,c2,c3,c4⟩ ?_
  repeat first|refine zS ?_|refine zV ?_
  refine kU (fun w' hS=>?_);have HB8:=Hd hS.1;clear hS c14 c16 c17 c0 c1 c2 c3 c4
  rename World=>W8
  go_upto_region 8 with(go_at_call 140;refine(HPT.o _ HB8.o).mono ?_;rintro e w9 ⟨rfl,hp⟩;have HS9:=Hd (uR.trans HE7.o (uR.pre HB8.o ((HO7.o.below HB8.o).paged hp)));clear hp)
  obtain⟨v9,g1,g2,g3,hO9,hm9,hx9⟩:=HS9.o;obtain⟨d17,df17⟩:=at_ hO9.blk 17 (.int .i64 s2.x) rfl;obtain⟨d37,df37⟩:=at_ hO9.blk 37 (.int .i32 s2.last) rfl;rw[g1]at d17 df17 d37 df37;rw[HX2.o.1]at d17;have HO10:=Hd (hO9.put 17 (.int .i64 (s1.x+n)) (s':={s2 with pg:=pW s2.pg s2.y (fun l=>dS l s2.x r s2.pen.at_),x:=s1.x+n}) rfl rfl rfl);have HM10:=Hd (hm9.trans (ScO.mod_put (v:=v9) 17 (.int .i64 (s1.x+n))) hx9);have HE10:=Hd (show v9.S=v.S∧v9.T=v.T∧v9.q.P=v.q.P∧∀b∈scX v9,b∈scX v∨w.heap.size≤b from⟨g1,g2,g3,hx9⟩);rw[g1]at HO10 HM10;clear hO9 hm9 hx9 HS9 HE7 HO7 HPT d37 df37 g2 g3
  go_upto_region 9 with fail
  clear d17 df17;generalize uQ _ _ _=W10 at HO10 HM10 ⊢;obtain⟨d37,df37⟩:=at_ HO10.o.blk 37 (.int .i32 s2.last) rfl;rw[g1]at d37 df37
  go_wp2
  go_end0
  have hf:ZI s2 r n={s2 with pg:=pW s2.pg s2.y (fun l=>dS l s2.x r s2.pen.at_),x:=s1.x+n,last:=r}:=by unfold ZI;rw[HX2.o.1]
  rw[hf];have hO11:=HO10.o.put 37 (.int .i32 r) (s':={s2 with pg:=pW s2.pg s2.y (fun l=>dS l s2.x r s2.pen.at_),x:=s1.x+n,last:=r}) rfl rfl rfl;have hM11:=HM10.o.trans (ScO.mod_put (v:=v9) 37 (.int .i32 r)) HE10.o.2.2.2;rw[g1]at hO11 hM11;exact⟨rfl,v9,g1,HE10.o.2.1,HE10.o.2.2.1,hO11,hM11,HE10.o.2.2.2⟩
end
theorem fY{F:Nat→Nat→Pg→Pg}(hF:Yo F)(g:Pg)(t b n:Int):(gI g t b n F).told.length≤g.told.length+2*min n.toNat g.scr.length:=by
 unfold gI
 split
 · next hc=>
   simp only[Bool.and_eq_true,decide_eq_true_eq,inP]at hc;have :=(rX hF (t:=t.toNat) (b:=b.toNat) qJ (min n.toNat (b-t+1).toNat) g qJ).2;omega
 · omega
structure ScN(rows cols room:Nat)(s:Sc):Prop where
 pg:PgInv rows cols room s.pg
 st:s.st.length=cols
 y0:0≤s.y
 y1:s.y<rows
 x0:0≤s.x
 x1:s.x≤cols
 t0:0≤s.top
 tb:s.top≤s.bot
 b1:s.bot<rows
 tb2:s.top<s.bot∨(s.top=0∧s.bot=rows-1)
section
variable {rows cols room:Nat}{s:Sc}
theorem ScN.sci(h:ScN rows cols room s):ScI s:=
 ⟨h.y0,by rw[h.pg.hrows];exact h.y1,h.x0,by rw[h.pg.hcols];exact h.x1,h.t0,h.tb,by rw[h.pg.hrows];exact h.b1⟩
theorem ScN.inS(h:ScN rows cols room s)(hc:2≤cols):0≤inS s∧inS s≤cols-1:=by
 have :=h.x0;unfold Go.Proofs.YtjcpdcncfjkejaaGreatDoor.inS colsS;rw[h.pg.hcols];omega
theorem ScN.with(h:ScN rows cols room s){g:Pg}{x:Int}(hg:PgInv rows cols room g)(h0:0≤x)(h1:x≤cols):ScN rows cols room {s with pg:=g,x:=x}:=
 ⟨hg,h.st,h.y0,h.y1,h0,h1,h.t0,h.tb,h.b1,h.tb2⟩
theorem ScN.times(h:ScN rows cols room s)(t b n:Int){F:Nat→Nat→Pg→Pg}(hf:∀t b:Nat,t≤b→∀g,PgInv rows cols room g→b<g.scr.length→PgInv rows cols room (F t b g)):PgInv rows cols room (gI s.pg t b n F):=h.pg.times t b n F hf
theorem ScN.feed(h:ScN rows cols room s)(hc:2≤cols):ScN rows cols room (zM s).1∧(zM s).1.pg.told.length≤s.pg.told.length+2:=by
 have hx:=h.inS hc;unfold zM
 split
 · refine⟨h.with (h.times _ _ _ (fun t b htb g hg hb=>hg.up htb hb _)) hx.1 qJ,?_⟩;have :=fY (tD (yJ s)) s.pg s.top s.bot 1;show(gI s.pg s.top s.bot 1 _).told.length≤_;omega
 split
 · next hy=>
   unfold rowsS at hy;rw[h.pg.hrows]at hy;exact⟨⟨h.pg,h.st,by show 0≤s.y+1;have :=h.y0;omega,by show s.y+1<_;omega,hx.1,by show Go.Proofs.YtjcpdcncfjkejaaGreatDoor.inS s≤_;omega,h.t0,h.tb,h.b1,h.tb2⟩,by show s.pg.told.length≤_;omega⟩
 · exact⟨h.with h.pg hx.1 qJ,by show s.pg.told.length≤_;omega⟩
theorem ScN.row(h:ScN rows cols room s)(y:Int){f:List Cl→List Cl}(hf:∀l,(f l).length=l.length):ScN rows cols room {s with pg:=pW s.pg y f}:=h.with (h.pg.row y f hf) h.x0 h.x1
theorem ScN.pad(h:ScN rows cols room s):ScN rows cols room (cQ s)∧(cQ s).pg.told=s.pg.told:=by
 unfold cQ
 split
 · exact⟨h.row _ nH,(bB _ _ _).1⟩
 · exact⟨h,rfl⟩
theorem lH(g:Pg)(y:Int)(b:Bool):(vL g y b).told=g.told:=(bR g y b).2.1
theorem ScN.on(h:ScN rows cols room s)(b:Bool):ScN rows cols room (onS (s,b))∧(onS (s,b)).pg.told=s.pg.told:=by
 unfold onS;cases b with
 |false=>exact⟨h.with h.pg (Int.le_refl _) qJ,rfl⟩
 |true=>exact⟨h.with (h.pg.cont _ _) (Int.le_refl _) qJ,lH _ _ _⟩
theorem ScN.roomN(h:ScN rows cols room s)(hc:2≤cols){n:Int}(hn1:1≤n)(hn2:n≤2):ScN rows cols room (cB s n)∧(cB s n).pg.told.length≤s.pg.told.length+2∧(cB s n).x+n≤cols:=by
 unfold cB colsS;rw[h.pg.hcols]
 split
 · exact⟨h,by omega,by assumption⟩
 split
 · exact⟨h.with h.pg qJ qJ,by show s.pg.told.length≤_;omega,by show(cols:Int)-n+n≤_;omega⟩
 · obtain⟨p1,p2⟩:=h.pad;obtain⟨f1,f2⟩:=p1.feed hc;obtain⟨o1,o2⟩:=f1.on (zM (cQ s)).2;refine⟨o1,?_,?_⟩
   · show(onS (zM (cQ s))).pg.told.length≤_;have e:onS (zM (cQ s))=onS ((zM (cQ s)).1,(zM (cQ s)).2):=rfl;rw[e,o2];rw[p2]at f2;exact f2
   · show(onS (zM (cQ s))).x+n≤_;unfold onS
     split
     · show 0+n≤_;omega
     · show 0+n≤_;omega
theorem ScN.write(h:ScN rows cols room s)(hc:2≤cols)(r:Int):ScN rows cols room (pH s r)∧(pH s r).pg.told.length≤s.pg.told.length+2:=by
 unfold pH;have hwd:pR r≤2:=by
  unfold pR
  split
  · decide
  split
  · decide
  split<;>decide
 split
 · exact⟨h.row _ (fun l=>mU l _ _),by show(pW _ _ _).told.length≤_;rw[(bB _ _ _).1];omega⟩
 split
 · exact⟨h,by omega⟩
 · obtain⟨r1,r2,r3⟩:=h.roomN hc (n:=pR r) qJ hwd;generalize cB s (pR r)=s1 at *;have hs:ScN rows cols room (bO s1 (pR r))∧(bO s1 (pR r)).pg.told=s1.pg.told∧(bO s1 (pR r)).x=s1.x:=by
    unfold bO
    split
    · exact⟨r1.row _ (fun l=>dX l _ _ _),(bB _ _ _).1,rfl⟩
    · exact⟨r1,rfl,rfl⟩
   obtain⟨s1',s2',s3'⟩:=hs;generalize bO s1 (pR r)=s2 at *;unfold ZI;refine⟨?_,by show(pW _ _ _).told.length≤_;rw[(bB _ _ _).1,s2'];exact r2⟩;have :=(s1'.row s2.y (fun l=>lQ l s2.x r s2.pen.at_));exact⟨this.pg,this.st,this.y0,this.y1,by show 0≤s2.x+_;have :=s1'.x0;omega,by show s2.x+_≤_;rw[s3'];exact r3,this.t0,this.tb,this.b1,this.tb2⟩
end
section
variable {base:Nat}{w:World}{v:Sv}{s:Sc}
theorem uR.one{w1:World}{s':Sc}(h:ScO base w v s)(hb:Below w.heap.size w w1)(i:Nat)(x:Value)(he:(lX s v.q.P v.T).set i x=lX s' v.q.P v.T)(hp:s'.pg=s.pg)(ht:s'.st=s.st):uR base w v s' (w1.setCell ⟨v.S,i,none⟩ x):=
 uR.pre hb ⟨v,rfl,rfl,rfl,(h.below hb).put i x he hp ht,ScO.mod_put i x,fun _ hb=>.inl hb⟩
theorem Vy(h:ScO base w v s):Calls jG 43 #[.pointer (some ⟨v.S,0,none⟩)] w (gQ base w v {s with x:=0}):=by
 obtain⟨c17,f17⟩:=at_ h.blk 17 (.int .i64 s.x) rfl;have HO:=Hd h;clear h
 go_enter Tryz.func43,Tryz.ntmps43
 go_wp2
 go_end0
 exact⟨rfl,uR.one HO.o (jU _ _) 17 _ rfl rfl rfl⟩
theorem Xg(h:ScO base w v s)(hi:ScI s):Calls jG 41 #[.pointer (some ⟨v.S,0,none⟩)] w (gQ base w v (nD s)):=by
 have HI:=Hd (cG h);have hx: -1≤inS s∧inS s≤1000:=by have h1:=hi.x0;have h2:=h.page.cols2;have h3:=h.page.cols1000;unfold inS colsS;omega
 have HO:=Hd h;have HX:=Hd (at_ h.blk 17 (.int .i64 s.x) rfl);unfold nD;generalize inS s=xi at *;have hw:jP.wrap (xi-1)=xi-1:=jH _ qJ;clear h hi
 go_enter Tryz.func41,Tryz.ntmps41
 go_wp2_with(go_at_call 76;refine HI.o.mono ?_;rintro e w1 ⟨rfl,hb⟩;have HB:=Hd hb;obtain⟨c17,f17⟩:=bQ hb HX.o;clear hb)
 all_goals
  go_end0
  refine⟨rfl,?_⟩
  first
   |(rw[show max 0 (xi-1)=xi-1 by omega];exact uR.one HO.o HB.o 17 _ rfl rfl rfl)
   |(rw[show max 0 (xi-1)=0 by omega];exact uR.one HO.o HB.o 17 _ rfl rfl rfl)
theorem Xu(h:ScO base w v s)(hi:ScI s)(ht:s.pg.told.length≤900000):Calls jG 44 #[.pointer (some ⟨v.S,0,none⟩)] w (gQ base w v (zM s).1):=by
 have HF:=Hd (Je h hi ht);clear h hi
 go_enter Tryz.func44,Tryz.ntmps44
 go_wp2_with(go_at_call 116;refine HF.o.mono ?_;rintro e w1 ⟨rfl,hs⟩;have HS:=Hd hs;clear hs)
 go_end0
 exact⟨rfl,HS.o⟩
theorem mQ(n lo hi:Int)(w:World):Calls jG 109 #[.int .i64 n,.int .i64 lo,.int .i64 hi] w fun e w'=>e=.returned (.int .i64 (uZ n lo hi))∧w=w':=by
 unfold uZ
 go_enter Tryz.func109,Tryz.ntmps109
 go_wp2
 all_goals
  go_ret
  exact⟨by simp;omega,rfl⟩
set_option maxHeartbeats 1600000 in
theorem JF(h:ScO base w v s)(hi:ScI s)(ht:s.pg.told.length≤900000):Calls jG 46 #[.pointer (some ⟨v.S,0,none⟩)] w (gQ base w v (yY s)):=by
 have HI:=Hd (cG h);have hy0:=hi.y0;have hy1:=hi.y1;have hr3:s.pg.scr.length≤1000:=by rw[←h.page.len];exact h.page.rows1000
 have htop:=hi.t0;obtain⟨pg,st,pen,y,x,top,bot,sp,sy,sx,has,last⟩:=s;obtain⟨xi,hxi⟩:∃xi,inS ⟨pg,st,pen,y,x,top,bot,sp,sy,sx,has,last⟩=xi:=⟨_,rfl⟩;unfold yY;rw[hxi]at HI ⊢;simp only[]at ht hy0 hy1 hr3 htop ⊢;have HO:=Hd h;have HX:=Hd (at_ h.blk 17 (.int .i64 x) rfl);clear h hxi hi;have main:∀w1,Below w.heap.size w w1→ScO base (w1.setCell ⟨v.S,17,none⟩ (.int .i64 xi)) v ⟨pg,st,pen,y,xi,top,bot,sp,sy,sx,has,last⟩∧Mod (scX v) w (w1.setCell ⟨v.S,17,none⟩ (.int .i64 xi)):=fun w1 hb=>
  ⟨(HO.o.below hb).put 17 _ rfl rfl rfl,(Mod.of_below hb).setCell (a:=⟨v.S,17,none⟩) (.inl qKg) _⟩
 have HM:=Hd main;clear main
 by_cases hyt:y=top
 · subst hyt;rw[if_pos rfl]
   go_enter Tryz.func46,Tryz.ntmps46
   go_upto_region 2 with(go_at_call 76;refine HI.o.mono ?_;rintro e w1 ⟨rfl,hb⟩;have HM1:=Hd (HM.o w1 hb);obtain⟨c17,f17⟩:=bQ hb HX.o;clear hb)
   generalize uQ _ _ _=W3 at HM1 ⊢;clear c17 f17;obtain⟨c16,-⟩:=at_ HM1.o.1.blk 16 (.int .i64 y) rfl;obtain⟨c18,-⟩:=at_ HM1.o.1.blk 18 (.int .i64 y) rfl;refine zW2 9 c16 c18 fun w' hS=>?_;have HB4:=Hd hS.1;clear hS c16 c18
   rename World=>W4
   go_upto_region 3 with fail
   have hO4:=HM1.o.1.below HB4.o;have HBK:Hid (∀w',Below W4.heap.size W4 w'→Calls jG 120 #[.pointer (some ⟨v.S,0,none⟩)] w' fun e w2=>e=.returned (.agg #[.int .i64 pen.at_.bk,.int .i64 pen.at_.bn])∧Below w'.heap.size w' w2):=Hd (fun w' hb=>yF (hO4.below hb));have HDN:Hid (∀w',Below W4.heap.size W4 w'→Calls jG 119 #[.pointer (some ⟨v.q.P,0,none⟩),.int .i64 y,.int .i64 bot,.int .i64 1,.agg #[.int .i64 pen.at_.bk,.int .i64 pen.at_.bn]] w' (gY base w' v.q (gI pg y bot 1 (fun t b g=>cK g t b ⟨pen.at_.bk,pen.at_.bn⟩)))):=
    Hd (fun w' hb=>mV (hO4.below hb).page y bot 1 ⟨pen.at_.bk,pen.at_.bn⟩ ht qZ qZ)
   obtain⟨c14,-⟩:=at_ hO4.blk 14 (.pointer (some ⟨v.q.P,0,none⟩)) rfl;obtain⟨c18,-⟩:=at_ hO4.blk 18 (.int .i64 y) rfl;obtain⟨c19,-⟩:=at_ hO4.blk 19 (.int .i64 bot) rfl;have HO4:=Hd hO4;clear hO4;refine zU3 14 c14 c18 c19 ?_
   repeat first|refine zS ?_|refine zC0 (zC3 HBK.o) ?_|refine zV ?_
   refine kU (fun w' hS=>?_);have HB5:=Hd hS.1;clear hS c14 c18 c19
   rename World=>W5
   go_wp2_with(go_at_call 119;refine(HDN.o _ HB5.o).mono ?_;rintro e w6 ⟨rfl,hp⟩;have HP6:=Hd hp;clear hp)
   go_end0
   exact qZs
 · rw[if_neg hyt];have hyt2:(y==top)=false:=by simpa using hyt
   by_cases hyr:0<y
   all_goals
    go_enter Tryz.func46,Tryz.ntmps46
    go_upto_region 2 with(go_at_call 76;refine HI.o.mono ?_;rintro e w1 ⟨rfl,hb⟩;have HM1:=Hd (HM.o w1 hb);obtain⟨c17,f17⟩:=bQ hb HX.o;clear hb)
    generalize uQ _ _ _=W3 at HM1 ⊢;clear c17 f17;obtain⟨c16,-⟩:=at_ HM1.o.1.blk 16 (.int .i64 y) rfl;obtain⟨c18,-⟩:=at_ HM1.o.1.blk 18 (.int .i64 top) rfl;refine zW2 9 c16 c18 fun w' hS=>?_;have HB4:=Hd hS.1;clear hS c16 c18
    rename World=>W4
    obtain⟨c16,f16⟩:=at_ (HM1.o.1.below HB4.o).blk 16 (.int .i64 y) rfl
   · rw[if_pos hyr];have hwy:jP.wrap (y-1)=y-1:=jH _ qJ
     go_wp2
     go_end0
     exact⟨rfl,uR.trans ⟨rfl,rfl,rfl,HM1.o.2.then_below HB4.o,fun b hb=>.inl hb⟩ ⟨v,rfl,rfl,rfl,(HM1.o.1.below HB4.o).put 16 _ rfl rfl rfl,ScO.mod_put 16 _,fun b hb=>.inl hb⟩⟩
   · rw[if_neg qJ]
     go_wp2
     go_end0
     exact⟨rfl,uR.trans ⟨rfl,rfl,rfl,HM1.o.2.then_below HB4.o,fun b hb=>.inl hb⟩ (HM1.o.1.below HB4.o).res⟩
end
section
variable {rows cols room:Nat}{s:Sc}
theorem zO{n lo hi:Int}(h:lo≤hi):lo≤uZ n lo hi∧uZ n lo hi≤hi:=by unfold uZ;omega
theorem ScN.to(h:ScN rows cols room s){y x:Int}(y0:0≤y)(y1:y<rows)(x0:0≤x)(x1:x≤cols):ScN rows cols room {s with y:=y,x:=x}:=
 ⟨h.pg,h.st,y0,y1,x0,x1,h.t0,h.tb,h.b1,h.tb2⟩
theorem ScN.setX(h:ScN rows cols room s){x:Int}(x0:0≤x)(x1:x≤cols):ScN rows cols room {s with x:=x}:=⟨h.pg,h.st,h.y0,h.y1,x0,x1,h.t0,h.tb,h.b1,h.tb2⟩
theorem ScN.setP(h:ScN rows cols room s){g:Pg}(hg:PgInv rows cols room g):ScN rows cols room {s with pg:=g}:=⟨hg,h.st,h.y0,h.y1,h.x0,h.x1,h.t0,h.tb,h.b1,h.tb2⟩
theorem ScN.pen(h:ScN rows cols room s)(p:Pe):ScN rows cols room {s with pen:=p}:=⟨h.pg,h.st,h.y0,h.y1,h.x0,h.x1,h.t0,h.tb,h.b1,h.tb2⟩
theorem ScN.print(h:ScN rows cols room s)(hc:2≤cols)(r:Int):ScN rows cols room (cA s r)∧(cA s r).pg.told.length≤s.pg.told.length+2:=(h.pen _).write hc _
theorem ScN.iter(h:ScN rows cols room s)(hc:2≤cols):∀n,ScN rows cols room (eA (fun t=>pH t t.last) n s)∧(eA (fun t=>pH t t.last) n s).pg.told.length≤s.pg.told.length+2*n
 |0=>⟨h,by show s.pg.told.length≤_;omega⟩
 |n+1=>by
  obtain⟨i1,i2⟩:=ScN.iter h hc n;obtain⟨w1,w2⟩:=i1.write hc (eA (fun t=>pH t t.last) n s).last;exact⟨w1,by show(pH _ _).pg.told.length≤_;omega⟩
theorem ScN.repeat(h:ScN rows cols room s)(hc:2≤cols)(n:Int):ScN rows cols room (bZ s n)∧(bZ s n).pg.told.length≤s.pg.told.length+2*(rows*cols):=by
 unfold bZ
 split
 · exact⟨h,by omega⟩
 · obtain⟨i1,i2⟩:=h.iter hc (uZ n 1 (rowsS s*colsS s)).toNat;refine⟨i1,vY i2 (Nat.add_le_add_left (Nat.mul_le_mul_left 2 ?_) _)⟩;unfold rowsS colsS;rw[h.pg.hrows,h.pg.hcols];have h1:1≤rows*cols:=Nat.mul_pos (by have :=h.y0;have :=h.y1;omega) qJ;have :uZ n 1 ((rows:Int)*(cols:Int))≤((rows*cols:Nat):Int):=by
    have :=(zO (n:=n) (lo:=1) (hi:=((rows*cols:Nat):Int)) qJ).2;simpa using this
   omega
theorem ScN.backX(h:ScN rows cols room s)(hc:2≤cols):ScN rows cols room (nD s):=by
 have :=h.inS hc;exact h.setX (by show 0≤max 0 (Go.Proofs.YtjcpdcncfjkejaaGreatDoor.inS s-1);omega) (by show max 0 (Go.Proofs.YtjcpdcncfjkejaaGreatDoor.inS s-1)≤_;omega)
theorem ScN.feedBack(h:ScN rows cols room s)(hc:2≤cols):ScN rows cols room (yY s)∧(yY s).pg.told.length≤s.pg.told.length+2:=by
 have hx:=h.inS hc;unfold yY
 split
 · refine⟨h.with (h.times _ _ _ (fun t b htb g hg hb=>hg.down htb hb _)) hx.1 qJ,?_⟩;have :=fY (mL (yJ s)) s.pg s.top s.bot 1;show(gI s.pg s.top s.bot 1 _).told.length≤_;omega
 split
 · exact⟨⟨h.pg,h.st,by show 0≤s.y-1;omega,by show s.y-1<_;have :=h.y1;omega,hx.1,by show Go.Proofs.YtjcpdcncfjkejaaGreatDoor.inS s≤_;omega,h.t0,h.tb,h.b1,h.tb2⟩,by show s.pg.told.length≤_;omega⟩
 · exact⟨h.with h.pg hx.1 qJ,by show s.pg.told.length≤_;omega⟩
theorem qQ2{F:Nat→Nat}{m:Nat}(h0:0<m)(hF:∀z,z<m→F z<m)(x n:Int):0≤goT F m x n∧goT F m x n<m:=by
 unfold goT;have :=lI hF (min (max 0 n) (m:Int)).toNat (max 0 (min x ((m:Int)-1))).toNat qJ;omega
theorem ScN.tab(h:ScN rows cols room s)(hc:2≤cols)(n:Int):ScN rows cols room (lO s n)∧(lO s n).pg=s.pg:=by
 unfold lO
 split
 · exact⟨h,rfl⟩
 split
 · have :=qQ2 (m:=s.st.length) (by rw[h.st];omega) QT (Go.Proofs.YtjcpdcncfjkejaaGreatDoor.inS s) n;rw[h.st]at this;exact⟨h.setX (by rw[h.st];exact this.1) (by rw[h.st];omega),rfl⟩
 · have :=qQ2 (m:=s.st.length) (by rw[h.st];omega) wL (Go.Proofs.YtjcpdcncfjkejaaGreatDoor.inS s) (max 0 (-(max n (-1000))));rw[h.st]at this;exact⟨h.setX (by rw[h.st];exact this.1) (by rw[h.st];omega),rfl⟩
theorem ScN.move(h:ScN rows cols room s)(hc:2≤cols)(y x:Int):ScN rows cols room (dF s y x)∧(dF s y x).pg=s.pg:=by
 have hr:(1:Int)≤rows:=by have :=h.y0;have :=h.y1;omega
 have hx:=zO (n:=x) (lo:=0) (hi:=(cols:Int)-1) qJ;unfold dF rowsS colsS;rw[h.pg.hrows,h.pg.hcols]
 split
 · have hy:=zO (n:=y) (lo:=0) (hi:=s.bot-s.top) (by have :=h.tb;omega);exact⟨h.to (by have :=h.t0;omega) (by have :=h.b1;omega) hx.1 qJ,rfl⟩
 · have hy:=zO (n:=y) (lo:=0) (hi:=(rows:Int)-1) qJ;exact⟨h.to hy.1 qJ hx.1 qJ,rfl⟩
theorem ScN.go(h:ScN rows cols room s)(hc:2≤cols)(dy dx:Int):ScN rows cols room (goS s dy dx):=by
 have hy0:=h.y0;have hy1:=h.y1;have ht0:=h.t0;have hb1:=h.b1;unfold goS byS colsS;rw[h.pg.hcols];have hlo:0≤oP s:=by unfold oP;split<;>omega
 have hhi:nS s<rows:=by unfold nS rowsS;rw[h.pg.hrows];split<;>omega
 have h1:=zO (n:=s.y+uZ dy (-1000) 1000) (lo:=min (oP s) s.y) (hi:=max (nS s) s.y) qJ;have h2:=zO (n:=Go.Proofs.YtjcpdcncfjkejaaGreatDoor.inS s+uZ dx (-1000) 1000) (lo:=0) (hi:=(cols:Int)-1) qJ;exact h.to qJ qJ h2.1 qJ
theorem ScN.margins(h:ScN rows cols room s)(hc:2≤cols)(t b:Int):ScN rows cols room (yR s t b)∧(yR s t b).pg=s.pg:=by
 unfold yR rowsS;rw[h.pg.hrows]
 split
 · next hh=>exact ScN.move (s:={s with top:=t,bot:=b}) ⟨h.pg,h.st,h.y0,h.y1,h.x0,h.x1,hh.1,by show t≤b;omega,hh.2.1,.inl hh.2.2⟩ hc 0 0
 · exact⟨h,rfl⟩
theorem xE(g:Pg)(y x z:Int)(b:Col):(yU g y x z b).told=g.told:=by
 unfold yU
 split
 · split
   · split
     · rw[lH,lH,(bB _ _ _).1]
     · rw[lH,(bB _ _ _).1]
   · rw[(bB _ _ _).1]
 · rfl
theorem ScN.erase(h:ScN rows cols room s)(y x z:Int):ScN rows cols room (cJ s y x z)∧(cJ s y x z).pg.told=s.pg.told:=⟨h.setP (h.pg.erase _ _ _ _),xE _ _ _ _ _⟩
theorem ScN.all(h:ScN rows cols room s)(a:Int):∀n,ScN rows cols room (dE s a n)∧(dE s a n).pg.told=s.pg.told
 |0=>⟨h,rfl⟩
 |n+1=>by
  obtain⟨i1,i2⟩:=ScN.all h a n;obtain⟨e1,e2⟩:=i1.erase (a+n) 0 (colsS s);exact⟨e1,e2.trans i2⟩
theorem ScN.eraseLine(h:ScN rows cols room s)(k:Int):ScN rows cols room (vX s k)∧(vX s k).pg.told=s.pg.told:=by
 unfold vX
 split
 · exact h.erase _ _ _
 split
 · exact h.erase _ _ _
 split
 · exact h.all _ _
 · exact⟨h,rfl⟩
theorem ScN.erasePage(h:ScN rows cols room s)(k:Int):ScN rows cols room (pV s k)∧(pV s k).pg.told.length≤s.pg.told.length+1:=by
 unfold pV
 split
 · obtain⟨a1,a2⟩:=h.eraseLine 0;obtain⟨b1,b2⟩:=a1.all (s.y+1) (rowsS s-(s.y+1)).toNat;exact⟨b1,by rw[b2,a2];omega⟩
 split
 · obtain⟨a1,a2⟩:=h.eraseLine 1;obtain⟨b1,b2⟩:=a1.all 0 s.y.toNat;exact⟨b1,by rw[b2,a2];omega⟩
 split
 · obtain⟨b1,b2⟩:=h.all 0 (rowsS s).toNat;exact⟨b1,by rw[b2];omega⟩
 split
 · refine⟨h.setP h.pg.forget,?_⟩;show(cO s.pg).told.length≤_;unfold cO
   split
   · omega
   · rw[lH];simp[gW]
 · exact⟨h,by omega⟩
theorem ScN.chars(h:ScN rows cols room s)(hc:2≤cols)(n:Int):(ScN rows cols room (yH s n)∧(yH s n).pg.told=s.pg.told)∧(ScN rows cols room (pB s n)∧(pB s n).pg.told=s.pg.told)∧ScN rows cols room (pP s n)∧(pP s n).pg.told=s.pg.told:=by
 have hx:=h.inS hc;have h1:ScN rows cols room (inX s):=h.setX hx.1 qJ;refine⟨?_,⟨?_,?_⟩,?_,?_⟩
 · exact h1.erase _ _ _
 · exact h1.setP (h.pg.row _ _ (fun l=>dX l _ _ _))
 · exact(bB _ _ _).1
 · exact h1.setP (h.pg.row _ _ (fun l=>lF l _ _ _))
 · exact(bB _ _ _).1
theorem ScN.lines(h:ScN rows cols room s)(n:Int):(ScN rows cols room (gF s n)∧(gF s n).pg.told.length≤s.pg.told.length+2*rows)∧ScN rows cols room (gR s n)∧(gR s n).pg.told.length≤s.pg.told.length+2*rows:=by
 have hr:=h.pg.hrows
 constructor
 · unfold gF
   split
   · have :=fY (mL (yJ s)) s.pg s.y s.bot (max 1 n);exact⟨h.with (h.times _ _ _ (fun t b htb g hg hb=>hg.down htb hb _)) (Int.le_refl _) qJ,by show(gI _ _ _ _ _).told.length≤_;omega⟩
   · exact⟨h,by omega⟩
 · unfold gR
   split
   · have :=fY (tF (yJ s)) s.pg s.y s.bot (max 1 n);exact⟨h.with (h.times _ _ _ (fun t b htb g hg hb=>hg.cut htb hb _)) (Int.le_refl _) qJ,by show(gI _ _ _ _ _).told.length≤_;omega⟩
   · exact⟨h,by omega⟩
theorem ScN.scroll(h:ScN rows cols room s)(n:Int):ScN rows cols room (bJ s n)∧(bJ s n).pg.told.length≤s.pg.told.length+2*rows:=by
 have hr:=h.pg.hrows;unfold bJ
 split
 · have :=fY (tD (yJ s)) s.pg s.top s.bot n;exact⟨h.setP (h.times _ _ _ (fun t b htb g hg hb=>hg.up htb hb _)),by show(gI _ _ _ _ _).told.length≤_;omega⟩
 split
 · have :=fY (mL (yJ s)) s.pg s.top s.bot (-(max n (-1000)));exact⟨h.setP (h.times _ _ _ (fun t b htb g hg hb=>hg.down htb hb _)),by show(gI _ _ _ _ _).told.length≤_;omega⟩
 · exact⟨h,by omega⟩
theorem ScN.place(h:ScN rows cols room s)(hc:2≤cols)(y x:Int):ScN rows cols room (fM s y x):=by
 have hr:(1:Int)≤rows:=by have :=h.y0;have :=h.y1;omega
 unfold fM rowsS colsS;rw[h.pg.hrows,h.pg.hcols];have hx:=zO (n:=x) (lo:=0) (hi:=(cols:Int)-1) qJ;have hy:=zO (n:=y) (lo:=0) (hi:=(rows:Int)-1) qJ;exact h.to hy.1 qJ hx.1 qJ
theorem ScN.keep(h:ScN rows cols room s):ScN rows cols room (cI s):=⟨h.pg,h.st,h.y0,h.y1,h.x0,h.x1,h.t0,h.tb,h.b1,h.tb2⟩
theorem ScN.restore(h:ScN rows cols room s)(hc:2≤cols):ScN rows cols room (gD s):=by
 unfold gD
 split
 · exact(h.pen _).place hc _ _
 · exact(h.pen _).place hc _ _
theorem ScN.whole(h:ScN rows cols room s):ScN rows cols room (dK s):=by
 have hr:(1:Int)≤rows:=by have :=h.y0;have :=h.y1;omega
 unfold dK rowsS;rw[h.pg.hrows];exact⟨h.pg,h.st,h.y0,h.y1,h.x0,h.x1,Int.le_refl _,by show 0≤(rows:Int)-1;omega,by show(rows:Int)-1<_;omega,.inr ⟨rfl,rfl⟩⟩
theorem ScN.reset(h:ScN rows cols room s):ScN rows cols room (fW s):=
 ScN.whole (s:={s with pen:=vW,sp:=bH,sy:=0,sx:=0,has:=false,last:=0}) ⟨h.pg,h.st,h.y0,h.y1,h.x0,h.x1,h.t0,h.tb,h.b1,h.tb2⟩
theorem ScN.puts(h:ScN rows cols room s)(y:Int):∀n,ScN rows cols room (iO s y n)∧(iO s y n).pg.told=s.pg.told
 |0=>⟨h,rfl⟩
 |n+1=>by
  obtain⟨i1,i2⟩:=ScN.puts h y n;exact⟨i1.row y (fun l=>lQ l _ _ _),(bB _ _ _).1.trans i2⟩
theorem ScN.fillR(h:ScN rows cols room s):∀n,ScN rows cols room (zL s n)∧(zL s n).pg.told=s.pg.told
 |0=>⟨h,rfl⟩
 |n+1=>by
  obtain⟨i1,i2⟩:=ScN.fillR h n;obtain⟨p1,p2⟩:=(i1.setP (i1.pg.erase n 0 (colsS s) ⟨0,0⟩)).puts n s.pg.cols;exact⟨p1,p2.trans ((xE _ _ _ _ _).trans i2)⟩
theorem ScN.fill(h:ScN rows cols room s)(hc:2≤cols):ScN rows cols room (eE s)∧(eE s).pg.told=s.pg.told:=by
 obtain⟨f1,f2⟩:=h.whole.fillR s.pg.scr.length;exact⟨f1.place hc 0 0,f2⟩
end
section
variable {base:Nat}{w:World}{v:Sv}{s:Sc}{rows cols room:Nat}
theorem Kj(s:Sc)(a:Int):∀n,(dE s a n).pg.cols=s.pg.cols∧(dE s a n).pen=s.pen
 |0=>⟨rfl,rfl⟩
 |n+1=>by
  obtain⟨i1,i2⟩:=Kj s a n;refine⟨?_,i2⟩;show(yU _ _ _ _ _).cols=_;rw[←i1];unfold yU
  split
  · split
    · split
      · rw[(bR _ _ _).2.2.1,(bR _ _ _).2.2.1];exact(eQ _ _).2
      · rw[(bR _ _ _).2.2.1];exact(eQ _ _).2
    · exact(eQ _ _).2
  · rfl
set_option maxHeartbeats 1600000 in
theorem sE(h:ScO base w v s)(a n:Nat)(ha:a≤n)(hn:n≤1000):Calls jG 127 #[.pointer (some ⟨v.S,0,none⟩),.int .i64 a,.int .i64 n] w (gQ base w v (dE s a (n-a))):=by
 have HO:=Hd h;clear h
 go_enter Tryz.func127,Tryz.ntmps127
 go_wp2_with fail
 go_loopw [6] (fun s6 wr=>∃z:Nat,s6=.int .i64 z∧a≤z∧z≤n∧uR base w v (dE s a (z-a)) wr) (fun s6 _=>n-(intOf s6).toNat)
 case atStart=>exact⟨a,rfl,jS _,ha,by rw[Nat.sub_self];exact HO.o.res⟩
 case round=>
  obtain⟨z,rfl,hz,hi,hs⟩:=hrel;have HS:=Hd hs;clear hs
  by_cases hlt:z<n
  rotate_left
  · obtain rfl:z=n:=by omega
    have hltI:¬(z:Int)<(z:Int):=by omega
    go_wp2
    go_end0
    exact⟨rfl,HS.o⟩
  · have hltI:(z:Int)<(n:Int):=by omega
    have hwa:jP.wrap ((z:Int)+1)=(z:Int)+1:=jH _ qJ;obtain⟨v0,e1,e2,e3,hO0,hm0,hx0⟩:=HS.o;have HE0:=Hd (show v0.S=v.S∧v0.T=v.T∧v0.q.P=v.q.P∧Mod (scX v) w wr∧∀b∈scX v0,b∈scX v∨w.heap.size≤b from⟨e1,e2,e3,hm0,hx0⟩);have HSM:=Hd (Kj s a (z-a));have hfin:dE s a (z+1-a)=cJ (dE s a (z-a)) z 0 (colsS s):=by
     rw[show z+1-a=(z-a)+1 by omega];show cJ _ ((a:Int)+((z-a:Nat):Int)) 0 _=_;rw[show(a:Int)+((z-a:Nat):Int)=z by omega]
    have HFN:=Hd hfin;clear hm0 hx0 e2 e3 HS hfin;generalize dE s a (z-a)=t at hO0 HSM HFN;obtain⟨ts,-⟩:=at_ hO0.blk 14 (.pointer (some ⟨v0.q.P,0,none⟩)) rfl;have hbk:t.pen=s.pen:=HSM.o.2;have hcl:t.pg.cols=s.pg.cols:=HSM.o.1;have HOT:=Hd hO0;have HBK:Hid (∀w',Below wr.heap.size wr w'→Calls jG 120 #[.pointer (some ⟨v.S,0,none⟩)] w' fun e w2=>e=.returned (.agg #[.int .i64 s.pen.at_.bk,.int .i64 s.pen.at_.bn])∧Below w'.heap.size w' w2):=Hd (fun w' hb=>by rw[←e1,←hbk];exact yF (HOT.o.below hb));have HCL:Hid (∀w',Below wr.heap.size wr w'→Calls jG 111 #[.pointer (some ⟨v.S,0,none⟩)] w' fun e w2=>e=.returned (.int .i64 s.pg.cols)∧w'=w2):=Hd (fun w' hb=>by rw[←e1,←hcl];exact bK (HOT.o.below hb));have HPC:Hid (∀w',Below wr.heap.size wr w'→Calls jG 126 #[.pointer (some ⟨v0.q.P,0,none⟩),.int .i64 (z:Int),.int .i64 0,.int .i64 s.pg.cols,.agg #[.int .i64 s.pen.at_.bk,.int .i64 s.pen.at_.bn]] w' (gY base w' v0.q (yU t.pg (z:Int) 0 s.pg.cols ⟨s.pen.at_.bk,s.pen.at_.bn⟩))):=Hd (fun w' hb=>lJ (HOT.o.below hb).page _ _ _ ⟨_,_⟩);rw[e1]at ts;have HBT0:=Hd (kM hbk hcl);clear hO0 e1 hbk hcl
    go_upto_region 3 with fail
    refine zU1 9 ts ?_
    repeat first|refine zS ?_|refine zC0 (zC1 HBK.o) ?_|refine zC0 (zE HCL.o) ?_|refine zV ?_
    refine kU (fun w' hS=>?_);have HBT:=Hd hS.1;clear hS ts
    go_wp2_with(go_at_call 126;refine(HPC.o _ HBT.o).mono ?_;rintro e w9 ⟨rfl,hp⟩;have HP9:=Hd hp;clear hp)
    go_roundw
    case rel=>
     refine⟨z+1,by go_num,by omega,by omega,?_⟩;rw[HFN.o];have hr:=uR.trans HE0.o (uR.pre HBT.o ((HOT.o.below HBT.o).paged HP9.o));have hee:cJ t z 0 (colsS s)={t with pg:=yU t.pg (z:Int) 0 s.pg.cols ⟨s.pen.at_.bk,s.pen.at_.bn⟩}:=by
      unfold cJ yJ colsS;rw[HBT0.o.1];rfl
     rw[hee];exact hr
    case measure=>exact zm
set_option maxHeartbeats 1600000 in
theorem oK(h:ScO base w v s)(hs:ScN rows cols room s)(hr:rows≤1000)(hc:2≤cols)(hc3:cols≤1000)(k:Int):Calls jG 56 #[.pointer (some ⟨v.S,0,none⟩),.int .i64 k] w (gQ base w v (vX s k)):=by
 have hx:=hs.inS hc;have hy0:=hs.y0;have hy1:=hs.y1;have HO:=Hd h;obtain⟨Y,hY⟩:∃Y:Nat,s.y=(Y:Int):=⟨s.y.toNat,by omega⟩;have HAL:=Hd (fun w' (hb:Below w.heap.size w w')=>sE (h.below hb) Y (Y+1) qJ qJ);have HY:=Hd hY;obtain⟨c16y,-⟩:=at_ h.blk 16 (.int .i64 s.y) rfl;have hwi:jP.wrap (inS s+1)=inS s+1:=jH _ qJ;have hwy:jP.wrap ((Y:Int)+1)=(Y:Int)+1:=jH _ qJ;unfold vX;clear h hs hx hY
 by_cases h0:k=0
 · subst h0;clear c16y;rw[if_pos rfl]
   go_enter Tryz.func56,Tryz.ntmps56
   go_upto_region 3 with fail
   rename World=>W3
   have HO3:=Hd HO.o;have HM3:=Hd (Mod.refl (scX v) W3);obtain⟨c14,-⟩:=at_ HO3.o.blk 14 (.pointer (some ⟨v.q.P,0,none⟩)) rfl;obtain⟨c16,-⟩:=at_ HO3.o.blk 16 (.int .i64 s.y) rfl;have HBK:Hid (∀w',Below W3.heap.size W3 w'→Calls jG 120 #[.pointer (some ⟨v.S,0,none⟩)] w' fun e w2=>e=.returned (.agg #[.int .i64 s.pen.at_.bk,.int .i64 s.pen.at_.bn])∧Below w'.heap.size w' w2):=Hd (fun w' hb=>yF (HO3.o.below hb));have HCL:Hid (∀w',Below W3.heap.size W3 w'→Calls jG 111 #[.pointer (some ⟨v.S,0,none⟩)] w' fun e w2=>e=.returned (.int .i64 s.pg.cols)∧w'=w2):=Hd (fun w' hb=>bK (HO3.o.below hb));have HIN:Hid (∀w',Below W3.heap.size W3 w'→Calls jG 76 #[.pointer (some ⟨v.S,0,none⟩)] w' fun e w2=>e=.returned (.int .i64 (inS s))∧Below w'.heap.size w' w2):=Hd (fun w' hb=>cG (HO3.o.below hb));have HPC:Hid (∀w',Below W3.heap.size W3 w'→Calls jG 126 #[.pointer (some ⟨v.q.P,0,none⟩),.int .i64 s.y,.int .i64 (inS s),.int .i64 s.pg.cols,.agg #[.int .i64 s.pen.at_.bk,.int .i64 s.pen.at_.bn]] w' (gY base w' v.q (yU s.pg s.y (inS s) s.pg.cols ⟨s.pen.at_.bk,s.pen.at_.bn⟩))):=Hd (fun w' hb=>lJ (HO3.o.below hb).page _ _ _ ⟨_,_⟩);refine zU2 14 c14 c16 ?_
   repeat first|refine zS ?_|refine zC0 (zC2 HBK.o) ?_|refine zC0 (zE HCL.o) ?_|refine zC0 (zC2 HIN.o) ?_|refine zV ?_
   refine kU (fun w' hS=>?_);have HBT:=Hd hS.1;clear hS c14 c16
   go_wp2_with(go_at_call 126;refine(HPC.o _ HBT.o).mono ?_;rintro e w9 ⟨rfl,hp⟩;have HP9:=Hd hp;clear hp)
   go_end0
   exact qZv
 rw[if_neg h0];have h0b:(k==0)=false:=by simpa using h0
 by_cases h1:k=1
 · subst h1;clear c16y;rw[if_pos rfl]
   go_enter Tryz.func56,Tryz.ntmps56
   go_upto_region 5 with fail
   rename World=>W3
   have HO3:=Hd HO.o;have HM3:=Hd (Mod.refl (scX v) W3);obtain⟨c14,-⟩:=at_ HO3.o.blk 14 (.pointer (some ⟨v.q.P,0,none⟩)) rfl;obtain⟨c16,-⟩:=at_ HO3.o.blk 16 (.int .i64 s.y) rfl;have HBK:Hid (∀w',Below W3.heap.size W3 w'→Calls jG 120 #[.pointer (some ⟨v.S,0,none⟩)] w' fun e w2=>e=.returned (.agg #[.int .i64 s.pen.at_.bk,.int .i64 s.pen.at_.bn])∧Below w'.heap.size w' w2):=Hd (fun w' hb=>yF (HO3.o.below hb));have HIN:Hid (∀w',Below W3.heap.size W3 w'→Calls jG 76 #[.pointer (some ⟨v.S,0,none⟩)] w' fun e w2=>e=.returned (.int .i64 (inS s))∧Below w'.heap.size w' w2):=Hd (fun w' hb=>cG (HO3.o.below hb));have HPC:Hid (∀w',Below W3.heap.size W3 w'→Calls jG 126 #[.pointer (some ⟨v.q.P,0,none⟩),.int .i64 s.y,.int .i64 0,.int .i64 (inS s+1),.agg #[.int .i64 s.pen.at_.bk,.int .i64 s.pen.at_.bn]] w' (gY base w' v.q (yU s.pg s.y 0 (inS s+1) ⟨s.pen.at_.bk,s.pen.at_.bn⟩))):=Hd (fun w' hb=>lJ (HO3.o.below hb).page _ _ _ ⟨_,_⟩);refine zU2 13 c14 c16 ?_
   repeat first|refine zS ?_|refine zC0 (zC2 HBK.o) ?_|refine zC0 (zC2 HIN.o) ?_|refine zV ?_
   refine kU (fun w' hS=>?_);have HBT:=Hd hS.1;clear hS c14 c16
   go_wp2_with(go_at_call 126;refine(HPC.o _ HBT.o).mono ?_;rintro e w9 ⟨rfl,hp⟩;have HP9:=Hd hp;clear hp)
   go_end0
   exact qZv
 rw[if_neg h1];have h1b:(k==1)=false:=by simpa using h1
 by_cases h2:k=2
 · subst h2;rw[if_pos rfl];rw[HY.o]at c16y ⊢
   go_enter Tryz.func56,Tryz.ntmps56
   go_upto_region 7 with fail
   refine zW1 10 c16y fun w' hS=>?_;have HBT:=Hd hS.1;clear hS;have HA2:=Hd (HAL.o _ HBT.o);rw[Int.natCast_add,Nat.add_sub_cancel_left]at HA2
   go_wp2_with(go_at_call 127;refine HA2.o.mono ?_;rintro e w9 ⟨rfl,hp⟩;have HP9:=Hd hp;clear hp)
   go_end0
   exact⟨rfl,uR.pre HBT.o HP9.o⟩
 rw[if_neg h2];have h2b:(k==2)=false:=by simpa using h2
 go_enter Tryz.func56,Tryz.ntmps56
 go_wp2
 go_end0
 exact⟨rfl,HO.o.res⟩
end
def UM(n lo hi:Int):Int:=if n<lo then lo else if hi<n then hi else n
theorem qQo{n lo hi:Int}(h:lo≤hi):UM n lo hi=uZ n lo hi:=by
 unfold UM uZ;split<;>(try split)<;>omega
section
variable {rows cols room:Nat}{s:Sc}
def dnY(s:Sc)(k:Nat):Int:=min (s.y+k) (max (nS s) s.y)
def upY(s:Sc)(k:Nat):Int:=max (s.y-k) (min (oP s) s.y)
theorem ScN.rowsS(h:ScN rows cols room s):rowsS s=rows:=by unfold Go.Proofs.YtjcpdcncfjkejaaGreatDoor.rowsS;rw[h.pg.hrows]
theorem ScN.colsS(h:ScN rows cols room s):colsS s=cols:=by unfold Go.Proofs.YtjcpdcncfjkejaaGreatDoor.colsS;rw[h.pg.hcols]
theorem qQ9(h:ScN rows cols room s)(k:Nat):dnY s (k+1)=if dnY s k≠s.bot∧dnY s k+1<rows then dnY s k+1 else dnY s k:=by
 have h1:=h.y0;have h2:=h.y1;have h3:=h.b1;unfold dnY nS;rw[h.rowsS]
 split<;>split<;>omega
theorem K9(h:ScN rows cols room s)(k:Nat):upY s (k+1)=if upY s k≠s.top∧0<upY s k then upY s k-1 else upY s k:=by
 have h1:=h.y0;have h3:=h.t0;unfold upY oP
 split<;>split<;>omega
theorem VM(h:ScN rows cols room s)(k:Nat):0≤dnY s k∧dnY s k<rows:=by
 have h1:=h.y0;have h2:=h.y1;have h3:=h.b1;unfold dnY nS;rw[h.rowsS]
 split<;>omega
theorem Yw(h:ScN rows cols room s)(k:Nat):0≤upY s k∧upY s k<rows:=by
 have h1:=h.y0;have h2:=h.y1;have h3:=h.t0;unfold upY oP
 split<;>omega
theorem dnY_end(h:ScN rows cols room s)(hr:rows≤1000){dy:Int}(hd:0≤dy){n:Nat}(hn:(n:Int)=min dy 2000):dnY s n=byS s.y dy (min (oP s) s.y) (max (nS s) s.y):=by
 have h1:=h.y0;have h2:=h.y1;have h3:=h.b1;have h4:=h.t0;unfold dnY byS uZ nS oP;rw[h.rowsS]
 split<;>split<;>omega
theorem upY_end(h:ScN rows cols room s)(hr:rows≤1000){dy:Int}(hd:dy<0){n:Nat}(hn:(n:Int)=min (-dy) 2000):upY s n=byS s.y dy (min (oP s) s.y) (max (nS s) s.y):=by
 have h1:=h.y0;have h2:=h.y1;have h3:=h.b1;have h4:=h.t0;unfold upY byS uZ nS oP;rw[h.rowsS]
 split<;>split<;>omega
end
/-! Stops: so often, and once more often than there are columns. -/
theorem mE{F:Nat→Nat}:∀(a b x:Nat),pE F (a+b) x=pE F b (pE F a x)
 |0,b,x=>by rw[kB];rfl
 |a+1,b,x=>by rw[Nat.succ_add];exact mE a b (F x)
theorem rR{F:Nat→Nat}{x:Nat}(h:F x=x):∀n,pE F n x=x
 |0=>rfl
 |n+1=>by show pE F n (F x)=x;rw[h];exact rR h n
theorem rV(st:List Bool){x:Nat}(h:st.length-1≤x):pI st x=st.length-1:=by
 unfold pI;rw[show st.length-1-(x+1)=0 by omega];rfl
theorem QS(st:List Bool)(x:Nat):x<pI st x∨st.length-1≤pI st x:=by
 unfold pI;cases h:(List.range' (x+1) (st.length-1-(x+1))).find? (fun y=>st.getD y false)with
 |none=>exact .inr (jS _)
 |some y=>
  have :=List.mem_of_find?_eq_some h;rw[List.mem_range'_1]at this;exact .inl (by show x<y;omega)
theorem KQ(st:List Bool):∀(n x:Nat),x+n<pE (pI st) (n+1) x∨st.length-1≤pE (pI st) (n+1) x
 |0,x=>by
  rcases QS st x with h|h
  · exact .inl h
  · exact .inr h
 |n+1,x=>by
  show x+(n+1)<pE (pI st) (n+1) (pI st x)∨_≤pE (pI st) (n+1) (pI st x);rcases QS st x with h|h
  · rcases KQ st n (pI st x)with h2|h2
    · exact .inl qJ
    · exact .inr h2
  · right
    have :pI st (pI st x)=st.length-1:=rV st h;show _≤pE (pI st) n (pI st (pI st x));rw[this,rR (rV st (jS _))];exact jS _
theorem aJ(st:List Bool)(x:Nat):yK st x<x∨yK st x=0:=by
 unfold yK;cases h:((List.range' 1 (x-1)).reverse).find? (fun y=>st.getD y false)with
 |none=>exact .inr rfl
 |some y=>
  have :=List.mem_of_find?_eq_some h;rw[List.mem_reverse,List.mem_range'_1]at this;exact .inl (by show y<x;omega)
theorem oL(st:List Bool):yK st 0=0:=by
 rcases aJ st 0 with h|h
 · omega
 · exact h
theorem JG(st:List Bool):∀(n x:Nat),pE (yK st) n x+n≤x∨pE (yK st) n x=0
 |0,x=>.inl (jS _)
 |n+1,x=>by
  show pE (yK st) n (yK st x)+(n+1)≤x∨pE (yK st) n (yK st x)=0;rcases aJ st x with h|h
  · rcases JG st n (yK st x)with h2|h2
    · exact .inl qJ
    · exact .inr h2
  · right
    rw[h];exact rR (oL st) n
def goD(F:Nat→Nat)(cols:Nat)(x n:Int):Nat:=pE F (min (max 0 n) (cols+1)).toNat (max 0 (min x (cols-1))).toNat
theorem qQ3{st:List Bool}(h0:0<st.length)(x n:Int):(goD (pI st) st.length x n:Int)=goT (pI st) st.length x n:=by
 unfold goD goT
 by_cases h:max 0 n≤st.length
 · rw[show min (max 0 n) ((st.length:Int)+1)=min (max 0 n) (st.length:Int) by omega]
 · rw[show(min (max 0 n) ((st.length:Int)+1)).toNat=st.length+1 by omega,show(min (max 0 n) (st.length:Int)).toNat=(st.length-1)+1 by omega,show st.length+1=(st.length-1+1)+1 by omega,mE];generalize (max 0 (min x ((st.length:Int)-1))).toNat=a
   congr 1
   have hle:pE (pI st) (st.length-1+1) a=st.length-1:=by
    have h2:st.length-1≤pE (pI st) (st.length-1+1) a:=by
     rcases KQ st (st.length-1) a with h|h<;>omega
    by_cases h3:st.length-1<pE (pI st) (st.length-1+1) a
    · exfalso;have hb:∀z,pI st z≤st.length-1:=fun z=>by
       unfold pI;cases h:(List.range' (z+1) (st.length-1-(z+1))).find? (fun y=>st.getD y false)with
       |none=>exact jS _
       |some y=>
        have :=List.mem_of_find?_eq_some h;rw[List.mem_range'_1]at this;show y≤_;omega
      rw[mE]at h3;have :=hb (pE (pI st) (st.length-1) a);have h4:pE (pI st) 1 (pE (pI st) (st.length-1) a)=pI st (pE (pI st) (st.length-1) a):=rfl;omega
    · omega
   rw[hle];exact rV st (jS _)
theorem Wf{st:List Bool}(h0:0<st.length)(x n:Int):(goD (yK st) st.length x n:Int)=goT (yK st) st.length x n:=by
 unfold goD goT
 by_cases h:max 0 n≤st.length
 · rw[show min (max 0 n) ((st.length:Int)+1)=min (max 0 n) (st.length:Int) by omega]
 · rw[show(min (max 0 n) ((st.length:Int)+1)).toNat=st.length+1 by omega,show(min (max 0 n) (st.length:Int)).toNat=st.length by omega,mE];obtain⟨a,ha,hb⟩:∃a,(max 0 (min x ((st.length:Int)-1))).toNat=a∧a<st.length:=⟨_,rfl,by omega⟩;rw[ha]
   congr 1
   have hz:pE (yK st) st.length a=0:=by
    rcases JG st st.length a with h|h<;>omega
   rw[hz];exact oL st
theorem Uq{b:Col}{x y z:Int}{l:List Cl}(hy:(l.length:Int)≤y)(hz:(l.length:Int)≤z):nB b x y l=nB b x z l:=by
 unfold nB;refine vV fun i=>?_;rw[List.getElem?_mapIdx,List.getElem?_mapIdx];cases h:l[i]? with
 |none=>rfl
 |some c=>
  have :=(jE.1 h).1;have e:(x≤(i:Int)∧(i:Int)<y)↔(x≤(i:Int)∧(i:Int)<z):=by omega
  simp only[Option.map_some,Option.some.injEq,e]
theorem YE{b:Col}{x y z:Int}{l:List Cl}(hy:(l.length:Int)≤y)(hz:(l.length:Int)≤z):pG l x y b=pG l x z b:=by
 unfold pG;rw[Uq (y:=y) (z:=z) (by rw[kR];exact hy) qKw]
theorem Zj{b:Col}{x n k:Int}{l:List Cl}(hn:(l.length:Int)≤n)(hk:(l.length:Int)≤k)(h1:1≤n)(h2:1≤k):pU l x n b=pU l x k b:=by
 have hl:=kR l;unfold pU;simp only[]
 by_cases hx:x<0∨((uX l).length:Int)≤x
 · rw[if_pos qJ,if_pos qJ]
 · rw[if_neg qJ,if_neg qJ]
   congr 1
   generalize uX l=o at *;have e:∀j:Nat,o.length≤j→(List.take x.toNat o++kJ j (vD b)++List.drop x.toNat o).take o.length=List.take x.toNat o++kJ (o.length-x.toNat) (vD b):=fun j hj=>by
    rw[uK,List.take_append,List.take_take,vH,List.take_append_of_le_length (by rw[kS];omega),List.take_replicate]
    congr 2
    · omega
    · omega
   rw[e n.toNat qJ,e k.toNat qJ]
theorem Zh{b:Col}{x n k:Int}{l:List Cl}(hn:(l.length:Int)≤n)(hk:(l.length:Int)≤k)(h1:1≤n)(h2:1≤k):yC l x n b=yC l x k b:=by
 have hl:=kR l;unfold yC;simp only[]
 by_cases hx:x<0∨((uX l).length:Int)≤x
 · rw[if_pos qJ,if_pos qJ]
 · rw[if_neg qJ,if_neg qJ]
   congr 1
   generalize uX l=o at *;have e:∀j:Nat,o.length≤j→(List.take x.toNat o++List.drop (x.toNat+j) o++kJ j (vD b)).take o.length=List.take x.toNat o++kJ (o.length-x.toNat) (vD b):=fun j hj=>by
    rw[vR qJ,List.append_nil,List.take_append,List.take_take,vH,List.take_replicate]
    congr 2
    · omega
    · omega
   rw[e n.toNat qJ,e k.toNat qJ]
section
variable {rows cols room:Nat}{s:Sc}
theorem sJ{g:Pg}(hg:PgInv rows cols room g){y:Int}{F G:List Cl→List Cl}(h:∀l:List Cl,l.length=cols→F l=G l):pW g y F=pW g y G:=by
 unfold pW
 split
 · congr 1
   refine vV fun i=>?_;rw[List.getElem?_modify,List.getElem?_modify];cases hr:g.scr[i]? with
   |none=>rfl
   |some r=>
    have :=hg.wide r (List.mem_append_right _ (uW hr))
    by_cases hy:y.toNat=i
    · simp[hy,h _ this]
    · simp[hy]
 · rfl
theorem YT{g:Pg}(hg:PgInv rows cols room g){y x z k:Int}{b:Col}(hz:(cols:Int)≤z)(hk:(cols:Int)≤k):yU g y x z b=yU g y x k b:=by
 unfold yU;rw[sJ hg (y:=y) (F:=fun l=>pG l x z b) (G:=fun l=>pG l x k b) (fun l hl=>YE qJ qJ),hg.hcols];have e:(x<(cols:Int)∧(cols:Int)≤z)↔(x<(cols:Int)∧(cols:Int)≤k):=by omega
 simp only[e]
theorem aX(h:ScN rows cols room s)(hc:2≤cols)(hc2:cols≤1000)(n:Int):cJ (inX s) s.y (inS s) (inS s+uZ n 1 2000)=yH s n:=by
 have hin:=h.inS hc;unfold yH cJ
 by_cases hn:n≤1000
 · have e:uZ n 1 2000=uZ n 1 1000:=by unfold uZ;omega
   rw[e]
 · have e:yU (inX s).pg s.y (inS s) (inS s+uZ n 1 2000) (yJ (inX s))=yU (inX s).pg s.y (inS s) (inS s+uZ n 1 1000) (yJ (inX s)):=
    YT (rows:=rows) (cols:=cols) (room:=room) h.pg qJy qJy
   rw[e]
theorem wM(h:ScN rows cols room s)(hc2:cols≤1000)(n:Int):({inX s with pg:=pW s.pg s.y (fun l=>pU l (inS s) (uZ n 1 2000) (yJ s))}:Sc)=pB s n:=by
 unfold pB;have e:pW s.pg s.y (fun l=>pU l (inS s) (uZ n 1 2000) (yJ s))=pW s.pg s.y (fun l=>pU l (inS s) (max 1 n) (yJ s)):=by
  refine sJ h.pg (fun l hl=>?_)
  by_cases hn:n≤2000
  · have e:uZ n 1 2000=max 1 n:=by unfold uZ;omega
    rw[e]
  · exact Zj qJy qJ qJy qJ
 rw[e]
theorem wD(h:ScN rows cols room s)(hc2:cols≤1000)(n:Int):({inX s with pg:=pW s.pg s.y (fun l=>yC l (inS s) (uZ n 1 2000) (yJ s))}:Sc)=pP s n:=by
 unfold pP;have e:pW s.pg s.y (fun l=>yC l (inS s) (uZ n 1 2000) (yJ s))=pW s.pg s.y (fun l=>yC l (inS s) (max 1 n) (yJ s)):=by
  refine sJ h.pg (fun l hl=>?_)
  by_cases hn:n≤2000
  · have e:uZ n 1 2000=max 1 n:=by unfold uZ;omega
    rw[e]
  · exact Zh qJy qJ qJy qJ
 rw[e]
theorem mA{g:Pg}(hr:g.scr.length≤1000)(t b:Int){n k:Int}(F:Nat→Nat→Pg→Pg)(h:n=k∨(1000≤n∧1000≤k)):gI g t b n F=gI g t b k F:=by
 rcases h with rfl|⟨h1,h2⟩
 · rfl
 unfold gI
 split
 · next h=>
   simp only[inP,Bool.and_eq_true,decide_eq_true_eq]at h;have e:min n.toNat (b-t+1).toNat=min k.toNat (b-t+1).toNat:=by omega
   rw[e]
 · rfl
/-! All rows erased, one by one. -/
def pageK(s:Sc)(kind:Int)(k:Nat):Sc:=
 if kind=2 then dE s 0 k else if kind=0 then dE s (s.y+1) (k-(s.y+1).toNat)else dE s 0 (min k s.y.toNat)
theorem VP:∀(s:Sc) (f:Int) (n:Nat),(dE s f n).y=s.y
 |_,_,0=>rfl
 |s,f,n+1=>VP s f n
theorem YK(h:ScN rows cols room s)(kind:Int)(hk:kind=0∨kind=1∨kind=2)(k:Nat):pageK s kind (k+1)=if kind=2∨(kind=0∧s.y<k)∨(kind=1∧(k:Int)<s.y)then cJ (pageK s kind k) k 0 (colsS s)else pageK s kind k:=by
 have h0:=h.y0;unfold pageK;rcases hk with rfl|rfl|rfl
 · simp only[Int.reduceEq,if_false,if_true,false_or,true_and,false_and,or_false]
   by_cases hy:s.y<(k:Int)
   · rw[if_pos hy,show k+1-(s.y+1).toNat=(k-(s.y+1).toNat)+1 by omega];show cJ (dE s (s.y+1) _) (s.y+1+((k-(s.y+1).toNat:Nat):Int)) 0 (colsS s)=_;rw[show s.y+1+((k-(s.y+1).toNat:Nat):Int)=(k:Int) by omega]
   · rw[if_neg hy,show k+1-(s.y+1).toNat=k-(s.y+1).toNat by omega]
 · simp only[Int.reduceEq,if_false,false_or,true_and,false_and]
   by_cases hy:(k:Int)<s.y
   · rw[if_pos hy,show min (k+1) s.y.toNat=(min k s.y.toNat)+1 by omega];show cJ (dE s 0 _) (0+((min k s.y.toNat:Nat):Int)) 0 (colsS s)=_;rw[show(0:Int)+((min k s.y.toNat:Nat):Int)=(k:Int) by omega]
   · rw[if_neg hy,show min (k+1) s.y.toNat=min k s.y.toNat by omega]
 · simp only[if_true,true_or];show cJ (dE s 0 k) (0+(k:Int)) 0 (colsS s)=_;rw[Int.zero_add]
theorem tN(s:Sc)(k:Int):(vX s k).y=s.y:=by
 unfold vX
 split
 · rfl
 split
 · rfl
 split
 · rfl
 · rfl
end
section
variable {base:Nat}{w:World}{v:Sv}{s:Sc}
set_option maxHeartbeats 1600000 in
theorem aV(h:ScO base w v s)(hi:ScI s)(n:Int):Calls jG 60 #[.pointer (some ⟨v.S,0,none⟩),.int .i64 n] w (gQ base w v (yH s n)):=by
 have hb3: -1≤inS s∧inS s≤1000:=by have h1:=hi.x0;have h2:=h.page.cols2;have h3:=h.page.cols1000;unfold inS colsS;omega
 have hn3:1≤uZ n 1 1000∧uZ n 1 1000≤1000:=by unfold uZ;omega
 have hwx:jP.wrap ((inX s).x+uZ n 1 1000)=(inX s).x+uZ n 1 1000:=jH _ (by show _≤inS s+_∧inS s+_≤_;omega);have HI:=Hd (cG h);have HO:=Hd h;have HX:=Hd (at_ h.blk 17 (.int .i64 s.x) rfl);have HMN:Hid (∀w1,Below w.heap.size w w1→ScO base (w1.setCell ⟨v.S,17,none⟩ (.int .i64 (inS s))) v (inX s)∧Mod (scX v) w (w1.setCell ⟨v.S,17,none⟩ (.int .i64 (inS s)))):=Hd (fun w1 hb=>
  ⟨(h.below hb).put 17 _ rfl rfl rfl,(Mod.of_below hb).setCell (a:=⟨v.S,17,none⟩) (.inl qKg) _⟩)
 clear h hi
 go_enter Tryz.func60,Tryz.ntmps60
 go_upto_region 2 with(go_at_call 76;refine HI.o.mono ?_;rintro e w1 ⟨rfl,hb⟩;have HM1:=Hd (HMN.o w1 hb);obtain⟨c17,f17⟩:=bQ hb HX.o;clear hb)
 generalize uQ _ _ _=W3 at HM1 ⊢;clear c17 f17;have HO3:=Hd HM1.o.1;have HM3:=Hd HM1.o.2;clear HM1;obtain⟨c14,-⟩:=at_ HO3.o.blk 14 (.pointer (some ⟨v.q.P,0,none⟩)) rfl;obtain⟨c16,-⟩:=at_ HO3.o.blk 16 (.int .i64 (inX s).y) rfl;obtain⟨c17,-⟩:=at_ HO3.o.blk 17 (.int .i64 (inX s).x) rfl;have HBK:Hid (∀w',Below W3.heap.size W3 w'→Calls jG 120 #[.pointer (some ⟨v.S,0,none⟩)] w' fun e w2=>e=.returned (.agg #[.int .i64 (inX s).pen.at_.bk,.int .i64 (inX s).pen.at_.bn])∧Below w'.heap.size w' w2):=Hd (fun w' hb=>yF (HO3.o.below hb));have HPC:Hid (∀w',Below W3.heap.size W3 w'→Calls jG 126 #[.pointer (some ⟨v.q.P,0,none⟩),.int .i64 (inX s).y,.int .i64 (inX s).x,.int .i64 ((inX s).x+uZ n 1 1000),.agg #[.int .i64 (inX s).pen.at_.bk,.int .i64 (inX s).pen.at_.bn]] w' (gY base w' v.q (yU (inX s).pg (inX s).y (inX s).x ((inX s).x+uZ n 1 1000) ⟨(inX s).pen.at_.bk,(inX s).pen.at_.bn⟩))):=Hd (fun w' hb=>lJ (HO3.o.below hb).page _ _ _ ⟨_,_⟩);refine zU3 21 c14 c16 c17 ?_
 repeat first|refine zS ?_|refine zC0 (zC3 HBK.o) ?_|refine zD 109 #[.int .i64 n,.int .i64 1,.int .i64 1000] (.int .i64 (uZ n 1 1000)) (fun w' hS=>(mQ n 1 1000 w').mono fun e w2 ⟨he,hb⟩=>⟨he,hb▸hS⟩) ?_|refine zV ?_
 refine kU (fun w' hS=>?_);have HBT:=Hd hS.1;clear hS c14 c16 c17
 go_wp2_with(go_at_call 126;refine(HPC.o _ HBT.o).mono ?_;rintro e w9 ⟨rfl,hp⟩;have HP9:=Hd hp;clear hp)
 go_end0
 exact qZv
set_option maxHeartbeats 1600000 in
theorem wK(h:ScO base w v s)(n:Int):Calls jG 62 #[.pointer (some ⟨v.S,0,none⟩),.int .i64 n] w (gQ base w v (pB s n)):=by
 unfold pB;have HI:=Hd (cG h);have HO:=Hd h;have HX:=Hd (at_ h.blk 17 (.int .i64 s.x) rfl);have HMN:Hid (∀w1,Below w.heap.size w w1→ScO base (w1.setCell ⟨v.S,17,none⟩ (.int .i64 (inS s))) v (inX s)∧Mod (scX v) w (w1.setCell ⟨v.S,17,none⟩ (.int .i64 (inS s)))):=Hd (fun w1 hb=>
  ⟨(h.below hb).put 17 _ rfl rfl rfl,(Mod.of_below hb).setCell (a:=⟨v.S,17,none⟩) (.inl qKg) _⟩)
 clear h
 by_cases hn:1<n
 · rw[show max 1 n=n by omega]
   go_enter Tryz.func62,Tryz.ntmps62
   go_upto_region 2 with(go_at_call 76;refine HI.o.mono ?_;rintro e w1 ⟨rfl,hb⟩;have HM1:=Hd (HMN.o w1 hb);obtain⟨c17,f17⟩:=bQ hb HX.o;clear hb)
   generalize uQ _ _ _=W3 at HM1 ⊢;clear c17 f17;have HO3:=Hd HM1.o.1;have HM3:=Hd HM1.o.2;clear HM1;obtain⟨c14,-⟩:=at_ HO3.o.blk 14 (.pointer (some ⟨v.q.P,0,none⟩)) rfl;obtain⟨c16,-⟩:=at_ HO3.o.blk 16 (.int .i64 (inX s).y) rfl;obtain⟨c17,-⟩:=at_ HO3.o.blk 17 (.int .i64 (inX s).x) rfl;have HBK:Hid (∀w',Below W3.heap.size W3 w'→Calls jG 120 #[.pointer (some ⟨v.S,0,none⟩)] w' fun e w2=>e=.returned (.agg #[.int .i64 (inX s).pen.at_.bk,.int .i64 (inX s).pen.at_.bn])∧Below w'.heap.size w' w2):=Hd (fun w' hb=>yF (HO3.o.below hb));have HPC:Hid (∀w',Below W3.heap.size W3 w'→Calls jG 135 #[.pointer (some ⟨v.q.P,0,none⟩),.int .i64 (inX s).y,.int .i64 (inX s).x,.int .i64 n,.agg #[.int .i64 (inX s).pen.at_.bk,.int .i64 (inX s).pen.at_.bn]] w' (gY base w' v.q (pW (inX s).pg (inX s).y (fun l=>pU l (inX s).x n ⟨(inX s).pen.at_.bk,(inX s).pen.at_.bn⟩)))):=Hd (fun w' hb=>oY (HO3.o.below hb).page _ _ _ ⟨_,_⟩);refine zU3 16 c14 c16 c17 ?_
   repeat first|refine zS ?_|refine zC0 (zC3 HBK.o) ?_|refine zV ?_
   refine kU (fun w' hS=>?_);have HBT:=Hd hS.1;clear hS c14 c16 c17
   go_wp2_with(go_at_call 135;refine(HPC.o _ HBT.o).mono ?_;rintro e w9 ⟨rfl,hp⟩;have HP9:=Hd hp;clear hp)
   go_end0
   exact qZv
 · rw[show max 1 n=1 by omega]
   go_enter Tryz.func62,Tryz.ntmps62
   go_upto_region 2 with(go_at_call 76;refine HI.o.mono ?_;rintro e w1 ⟨rfl,hb⟩;have HM1:=Hd (HMN.o w1 hb);obtain⟨c17,f17⟩:=bQ hb HX.o;clear hb)
   generalize uQ _ _ _=W3 at HM1 ⊢;clear c17 f17;have HO3:=Hd HM1.o.1;have HM3:=Hd HM1.o.2;clear HM1;obtain⟨c14,-⟩:=at_ HO3.o.blk 14 (.pointer (some ⟨v.q.P,0,none⟩)) rfl;obtain⟨c16,-⟩:=at_ HO3.o.blk 16 (.int .i64 (inX s).y) rfl;obtain⟨c17,-⟩:=at_ HO3.o.blk 17 (.int .i64 (inX s).x) rfl;have HBK:Hid (∀w',Below W3.heap.size W3 w'→Calls jG 120 #[.pointer (some ⟨v.S,0,none⟩)] w' fun e w2=>e=.returned (.agg #[.int .i64 (inX s).pen.at_.bk,.int .i64 (inX s).pen.at_.bn])∧Below w'.heap.size w' w2):=Hd (fun w' hb=>yF (HO3.o.below hb));have HPC:Hid (∀w',Below W3.heap.size W3 w'→Calls jG 135 #[.pointer (some ⟨v.q.P,0,none⟩),.int .i64 (inX s).y,.int .i64 (inX s).x,.int .i64 1,.agg #[.int .i64 (inX s).pen.at_.bk,.int .i64 (inX s).pen.at_.bn]] w' (gY base w' v.q (pW (inX s).pg (inX s).y (fun l=>pU l (inX s).x 1 ⟨(inX s).pen.at_.bk,(inX s).pen.at_.bn⟩)))):=Hd (fun w' hb=>oY (HO3.o.below hb).page _ _ _ ⟨_,_⟩);refine zU3 16 c14 c16 c17 ?_
   repeat first|refine zS ?_|refine zC0 (zC3 HBK.o) ?_|refine zV ?_
   refine kU (fun w' hS=>?_);have HBT:=Hd hS.1;clear hS c14 c16 c17
   go_wp2_with(go_at_call 135;refine(HPC.o _ HBT.o).mono ?_;rintro e w9 ⟨rfl,hp⟩;have HP9:=Hd hp;clear hp)
   go_end0
   exact qZv
set_option maxHeartbeats 1600000 in
theorem wZ(h:ScO base w v s)(n:Int):Calls jG 63 #[.pointer (some ⟨v.S,0,none⟩),.int .i64 n] w (gQ base w v (pP s n)):=by
 unfold pP;have HI:=Hd (cG h);have HO:=Hd h;have HX:=Hd (at_ h.blk 17 (.int .i64 s.x) rfl);have HMN:Hid (∀w1,Below w.heap.size w w1→ScO base (w1.setCell ⟨v.S,17,none⟩ (.int .i64 (inS s))) v (inX s)∧Mod (scX v) w (w1.setCell ⟨v.S,17,none⟩ (.int .i64 (inS s)))):=Hd (fun w1 hb=>
  ⟨(h.below hb).put 17 _ rfl rfl rfl,(Mod.of_below hb).setCell (a:=⟨v.S,17,none⟩) (.inl qKg) _⟩)
 clear h
 by_cases hn:1<n
 · rw[show max 1 n=n by omega]
   go_enter Tryz.func63,Tryz.ntmps63
   go_upto_region 2 with(go_at_call 76;refine HI.o.mono ?_;rintro e w1 ⟨rfl,hb⟩;have HM1:=Hd (HMN.o w1 hb);obtain⟨c17,f17⟩:=bQ hb HX.o;clear hb)
   generalize uQ _ _ _=W3 at HM1 ⊢;clear c17 f17;have HO3:=Hd HM1.o.1;have HM3:=Hd HM1.o.2;clear HM1;obtain⟨c14,-⟩:=at_ HO3.o.blk 14 (.pointer (some ⟨v.q.P,0,none⟩)) rfl;obtain⟨c16,-⟩:=at_ HO3.o.blk 16 (.int .i64 (inX s).y) rfl;obtain⟨c17,-⟩:=at_ HO3.o.blk 17 (.int .i64 (inX s).x) rfl;have HBK:Hid (∀w',Below W3.heap.size W3 w'→Calls jG 120 #[.pointer (some ⟨v.S,0,none⟩)] w' fun e w2=>e=.returned (.agg #[.int .i64 (inX s).pen.at_.bk,.int .i64 (inX s).pen.at_.bn])∧Below w'.heap.size w' w2):=Hd (fun w' hb=>yF (HO3.o.below hb));have HPC:Hid (∀w',Below W3.heap.size W3 w'→Calls jG 136 #[.pointer (some ⟨v.q.P,0,none⟩),.int .i64 (inX s).y,.int .i64 (inX s).x,.int .i64 n,.agg #[.int .i64 (inX s).pen.at_.bk,.int .i64 (inX s).pen.at_.bn]] w' (gY base w' v.q (pW (inX s).pg (inX s).y (fun l=>yC l (inX s).x n ⟨(inX s).pen.at_.bk,(inX s).pen.at_.bn⟩)))):=Hd (fun w' hb=>xP (HO3.o.below hb).page _ _ _ ⟨_,_⟩);refine zU3 16 c14 c16 c17 ?_
   repeat first|refine zS ?_|refine zC0 (zC3 HBK.o) ?_|refine zV ?_
   refine kU (fun w' hS=>?_);have HBT:=Hd hS.1;clear hS c14 c16 c17
   go_wp2_with(go_at_call 136;refine(HPC.o _ HBT.o).mono ?_;rintro e w9 ⟨rfl,hp⟩;have HP9:=Hd hp;clear hp)
   go_end0
   exact qZv
 · rw[show max 1 n=1 by omega]
   go_enter Tryz.func63,Tryz.ntmps63
   go_upto_region 2 with(go_at_call 76;refine HI.o.mono ?_;rintro e w1 ⟨rfl,hb⟩;have HM1:=Hd (HMN.o w1 hb);obtain⟨c17,f17⟩:=bQ hb HX.o;clear hb)
   generalize uQ _ _ _=W3 at HM1 ⊢;clear c17 f17;have HO3:=Hd HM1.o.1;have HM3:=Hd HM1.o.2;clear HM1;obtain⟨c14,-⟩:=at_ HO3.o.blk 14 (.pointer (some ⟨v.q.P,0,none⟩)) rfl;obtain⟨c16,-⟩:=at_ HO3.o.blk 16 (.int .i64 (inX s).y) rfl;obtain⟨c17,-⟩:=at_ HO3.o.blk 17 (.int .i64 (inX s).x) rfl;have HBK:Hid (∀w',Below W3.heap.size W3 w'→Calls jG 120 #[.pointer (some ⟨v.S,0,none⟩)] w' fun e w2=>e=.returned (.agg #[.int .i64 (inX s).pen.at_.bk,.int .i64 (inX s).pen.at_.bn])∧Below w'.heap.size w' w2):=Hd (fun w' hb=>yF (HO3.o.below hb));have HPC:Hid (∀w',Below W3.heap.size W3 w'→Calls jG 136 #[.pointer (some ⟨v.q.P,0,none⟩),.int .i64 (inX s).y,.int .i64 (inX s).x,.int .i64 1,.agg #[.int .i64 (inX s).pen.at_.bk,.int .i64 (inX s).pen.at_.bn]] w' (gY base w' v.q (pW (inX s).pg (inX s).y (fun l=>yC l (inX s).x 1 ⟨(inX s).pen.at_.bk,(inX s).pen.at_.bn⟩)))):=Hd (fun w' hb=>xP (HO3.o.below hb).page _ _ _ ⟨_,_⟩);refine zU3 16 c14 c16 c17 ?_
   repeat first|refine zS ?_|refine zC0 (zC3 HBK.o) ?_|refine zV ?_
   refine kU (fun w' hS=>?_);have HBT:=Hd hS.1;clear hS c14 c16 c17
   go_wp2_with(go_at_call 136;refine(HPC.o _ HBT.o).mono ?_;rintro e w9 ⟨rfl,hp⟩;have HP9:=Hd hp;clear hp)
   go_end0
   exact qZv
def VD(base:Nat)(w:World)(v:Sv)(s:Sc)(e:Ending)(w':World):Prop:=e=.returned (.bool (bW s))∧ScO base w' v (if bW s then{s with x:=0}else s)∧Mod (scX v) w w'
set_option maxHeartbeats 1600000 in
theorem xJ(h:ScO base w v s):Calls jG 137 #[.pointer (some ⟨v.S,0,none⟩)] w (VD base w v s):=by
 obtain⟨c16,-⟩:=at_ h.blk 16 (.int .i64 s.y) rfl;obtain⟨c18,-⟩:=at_ h.blk 18 (.int .i64 s.top) rfl;obtain⟨c19,-⟩:=at_ h.blk 19 (.int .i64 s.bot) rfl;have HO:=Hd h;unfold VD bW;clear h
 by_cases h1:s.top≤s.y
 · by_cases h2:s.y≤s.bot
   · rw[decide_eq_true h1,decide_eq_true h2,Bool.and_self,if_pos rfl];have h1':¬s.y<s.top:=by omega
     have h2':¬s.bot<s.y:=by omega
     go_enter Tryz.func137,Tryz.ntmps137
     go_upto_region 1 with fail
     refine zW3 23 c16 c18 c19 fun w' hS=>?_;have HB:=Hd hS.1;clear hS c16 c18 c19;obtain⟨c17,f17⟩:=at_ (HO.o.below HB.o).blk 17 (.int .i64 s.x) rfl
     go_wp2
     go_ret
     exact⟨rfl,(HO.o.below HB.o).put 17 _ rfl rfl rfl,(Mod.of_below HB.o).setCell (a:=⟨v.S,17,none⟩) (.inl qKg) _⟩
   · rw[decide_eq_false h2,Bool.and_false,if_neg qZ];have h1':¬s.y<s.top:=by omega
     have h2':s.bot<s.y:=by omega
     go_enter Tryz.func137,Tryz.ntmps137
     go_upto_region 1 with fail
     refine zW3 23 c16 c18 c19 fun w' hS=>?_
     go_wp2
     go_ret
     exact⟨rfl,HO.o.below hS.1,Mod.of_below hS.1⟩
 · rw[decide_eq_false h1,Bool.false_and,if_neg qZ];have h1':s.y<s.top:=by omega
   go_enter Tryz.func137,Tryz.ntmps137
   go_upto_region 1 with fail
   refine zW3 23 c16 c18 c19 fun w' hS=>?_
   go_wp2
   go_ret
   exact⟨rfl,HO.o.below hS.1,Mod.of_below hS.1⟩
set_option maxHeartbeats 1600000 in
theorem wJ(h:ScO base w v s)(n:Int)(ht:s.pg.told.length≤900000)(hn: -9223372036854775808≤n∧n≤9223372036854775807):Calls jG 64 #[.pointer (some ⟨v.S,0,none⟩),.int .i64 n] w (gQ base w v (gF s n)):=by
 have HI:=Hd (xJ h);have HO:=Hd h;unfold VD at HI;unfold gF;have H64:=Hd hn;clear h hn;cases hin:bW s with
 |false=>
  rw[hin]at HI;rw[if_neg qZ]
  go_enter Tryz.func64,Tryz.ntmps64
  go_wp2_with(go_at_call 137;refine HI.o.mono ?_;rintro e w3 ⟨rfl,hO3,hm3⟩;have HO3:=Hd hO3;have HM3:=Hd hm3;clear hO3 hm3)
  go_end0
  exact⟨rfl,v,rfl,rfl,rfl,HO3.o,HM3.o,fun b hb=>.inl hb⟩
 |true=>
  rw[hin]at HI;rw[if_pos rfl];obtain⟨s0,hs0⟩:∃s0:Sc,s0={s with x:=0}:=⟨_,rfl⟩;have hy:s0.y=s.y∧s0.bot=s.bot∧s0.pg=s.pg∧s0.pen=s.pen:=by rw[hs0];exact⟨rfl,rfl,rfl,rfl⟩
  have HI2:Hid (Calls jG 137 #[.pointer (some ⟨v.S,0,none⟩)] w fun e w'=>e=.returned (.bool true)∧ScO base w' v s0∧Mod (scX v) w w'):=Hd (by rw[hs0];exact HI.o);have hfin:∀m:Int,({s with x:=0,pg:=gI s.pg s.y s.bot m (fun t b g=>cK g t b (yJ s))}:Sc)={s0 with pg:=gI s0.pg s0.y s0.bot m (fun t b g=>cK g t b ⟨s0.pen.at_.bk,s0.pen.at_.bn⟩)}:=by intro m;rw[hs0];rfl
  have ht0:s0.pg.told.length≤900000:=by rw[hs0];exact ht
  rw[hfin];clear HI hfin hy hs0 ht;have HT0:=Hd ht0;clear ht0
  by_cases hn:1<n
  · rw[show max 1 n=n by omega]
    go_enter Tryz.func64,Tryz.ntmps64
    go_upto_region 1 with(go_at_call 137;refine HI2.o.mono ?_;rintro e w3 ⟨rfl,hO3,hm3⟩;have HO3:=Hd hO3;have HM3:=Hd hm3;clear hO3 hm3)
    rename World=>W3
    obtain⟨c14,-⟩:=at_ HO3.o.blk 14 (.pointer (some ⟨v.q.P,0,none⟩)) rfl;obtain⟨c16,-⟩:=at_ HO3.o.blk 16 (.int .i64 s0.y) rfl;obtain⟨c19,-⟩:=at_ HO3.o.blk 19 (.int .i64 s0.bot) rfl;have HBK:Hid (∀w',Below W3.heap.size W3 w'→Calls jG 120 #[.pointer (some ⟨v.S,0,none⟩)] w' fun e w2=>e=.returned (.agg #[.int .i64 s0.pen.at_.bk,.int .i64 s0.pen.at_.bn])∧Below w'.heap.size w' w2):=Hd (fun w' hb=>yF (HO3.o.below hb));have HPC:Hid (∀w',Below W3.heap.size W3 w'→Calls jG 119 #[.pointer (some ⟨v.q.P,0,none⟩),.int .i64 s0.y,.int .i64 s0.bot,.int .i64 n,.agg #[.int .i64 s0.pen.at_.bk,.int .i64 s0.pen.at_.bn]] w' (gY base w' v.q (gI s0.pg s0.y s0.bot n (fun t b g=>cK g t b ⟨s0.pen.at_.bk,s0.pen.at_.bn⟩)))):=Hd (fun w' hb=>mV (HO3.o.below hb).page _ _ _ ⟨_,_⟩ HT0.o H64.o.2 H64.o.1);refine zU3 16 c14 c16 c19 ?_
    repeat first|refine zS ?_|refine zC0 (zC3 HBK.o) ?_|refine zV ?_
    refine kU (fun w' hS=>?_);have HBT:=Hd hS.1;clear hS c14 c16 c19
    go_wp2_with(go_at_call 119;refine(HPC.o _ HBT.o).mono ?_;rintro e w9 ⟨rfl,hp⟩;have HP9:=Hd hp;clear hp)
    go_end0
    exact qZv
  · rw[show max 1 n=1 by omega]
    go_enter Tryz.func64,Tryz.ntmps64
    go_upto_region 1 with(go_at_call 137;refine HI2.o.mono ?_;rintro e w3 ⟨rfl,hO3,hm3⟩;have HO3:=Hd hO3;have HM3:=Hd hm3;clear hO3 hm3)
    rename World=>W3
    obtain⟨c14,-⟩:=at_ HO3.o.blk 14 (.pointer (some ⟨v.q.P,0,none⟩)) rfl;obtain⟨c16,-⟩:=at_ HO3.o.blk 16 (.int .i64 s0.y) rfl;obtain⟨c19,-⟩:=at_ HO3.o.blk 19 (.int .i64 s0.bot) rfl;have HBK:Hid (∀w',Below W3.heap.size W3 w'→Calls jG 120 #[.pointer (some ⟨v.S,0,none⟩)] w' fun e w2=>e=.returned (.agg #[.int .i64 s0.pen.at_.bk,.int .i64 s0.pen.at_.bn])∧Below w'.heap.size w' w2):=Hd (fun w' hb=>yF (HO3.o.below hb));have HPC:Hid (∀w',Below W3.heap.size W3 w'→Calls jG 119 #[.pointer (some ⟨v.q.P,0,none⟩),.int .i64 s0.y,.int .i64 s0.bot,.int .i64 1,.agg #[.int .i64 s0.pen.at_.bk,.int .i64 s0.pen.at_.bn]] w' (gY base w' v.q (gI s0.pg s0.y s0.bot 1 (fun t b g=>cK g t b ⟨s0.pen.at_.bk,s0.pen.at_.bn⟩)))):=Hd (fun w' hb=>mV (HO3.o.below hb).page _ _ _ ⟨_,_⟩ HT0.o qZ qZ);refine zU3 16 c14 c16 c19 ?_
    repeat first|refine zS ?_|refine zC0 (zC3 HBK.o) ?_|refine zV ?_
    refine kU (fun w' hS=>?_);have HBT:=Hd hS.1;clear hS c14 c16 c19
    go_wp2_with(go_at_call 119;refine(HPC.o _ HBT.o).mono ?_;rintro e w9 ⟨rfl,hp⟩;have HP9:=Hd hp;clear hp)
    go_end0
    exact qZv
set_option maxHeartbeats 1600000 in
theorem wV(h:ScO base w v s)(n:Int)(ht:s.pg.told.length≤900000)(hn: -9223372036854775808≤n∧n≤9223372036854775807):Calls jG 66 #[.pointer (some ⟨v.S,0,none⟩),.int .i64 n] w (gQ base w v (gR s n)):=by
 have HI:=Hd (xJ h);have HO:=Hd h;unfold VD at HI;unfold gR;have H64:=Hd hn;clear h hn;cases hin:bW s with
 |false=>
  rw[hin]at HI;rw[if_neg qZ]
  go_enter Tryz.func66,Tryz.ntmps66
  go_wp2_with(go_at_call 137;refine HI.o.mono ?_;rintro e w3 ⟨rfl,hO3,hm3⟩;have HO3:=Hd hO3;have HM3:=Hd hm3;clear hO3 hm3)
  go_end0
  exact⟨rfl,v,rfl,rfl,rfl,HO3.o,HM3.o,fun b hb=>.inl hb⟩
 |true=>
  rw[hin]at HI;rw[if_pos rfl];obtain⟨s0,hs0⟩:∃s0:Sc,s0={s with x:=0}:=⟨_,rfl⟩;have hy:s0.y=s.y∧s0.bot=s.bot∧s0.pg=s.pg∧s0.pen=s.pen:=by rw[hs0];exact⟨rfl,rfl,rfl,rfl⟩
  have HI2:Hid (Calls jG 137 #[.pointer (some ⟨v.S,0,none⟩)] w fun e w'=>e=.returned (.bool true)∧ScO base w' v s0∧Mod (scX v) w w'):=Hd (by rw[hs0];exact HI.o);have hfin:∀m:Int,({s with x:=0,pg:=gI s.pg s.y s.bot m (fun t b g=>lU g t b (yJ s))}:Sc)={s0 with pg:=gI s0.pg s0.y s0.bot m (fun t b g=>lU g t b ⟨s0.pen.at_.bk,s0.pen.at_.bn⟩)}:=by intro m;rw[hs0];rfl
  have ht0:s0.pg.told.length≤900000:=by rw[hs0];exact ht
  rw[hfin];clear HI hfin hy hs0 ht;have HT0:=Hd ht0;clear ht0
  by_cases hn:1<n
  · rw[show max 1 n=n by omega]
    go_enter Tryz.func66,Tryz.ntmps66
    go_upto_region 1 with(go_at_call 137;refine HI2.o.mono ?_;rintro e w3 ⟨rfl,hO3,hm3⟩;have HO3:=Hd hO3;have HM3:=Hd hm3;clear hO3 hm3)
    rename World=>W3
    obtain⟨c14,-⟩:=at_ HO3.o.blk 14 (.pointer (some ⟨v.q.P,0,none⟩)) rfl;obtain⟨c16,-⟩:=at_ HO3.o.blk 16 (.int .i64 s0.y) rfl;obtain⟨c19,-⟩:=at_ HO3.o.blk 19 (.int .i64 s0.bot) rfl;have HBK:Hid (∀w',Below W3.heap.size W3 w'→Calls jG 120 #[.pointer (some ⟨v.S,0,none⟩)] w' fun e w2=>e=.returned (.agg #[.int .i64 s0.pen.at_.bk,.int .i64 s0.pen.at_.bn])∧Below w'.heap.size w' w2):=Hd (fun w' hb=>yF (HO3.o.below hb));have HPC:Hid (∀w',Below W3.heap.size W3 w'→Calls jG 138 #[.pointer (some ⟨v.q.P,0,none⟩),.int .i64 s0.y,.int .i64 s0.bot,.int .i64 n,.agg #[.int .i64 s0.pen.at_.bk,.int .i64 s0.pen.at_.bn]] w' (gY base w' v.q (gI s0.pg s0.y s0.bot n (fun t b g=>lU g t b ⟨s0.pen.at_.bk,s0.pen.at_.bn⟩)))):=Hd (fun w' hb=>ZC (HO3.o.below hb).page _ _ _ ⟨_,_⟩ HT0.o H64.o.2 H64.o.1);refine zU3 16 c14 c16 c19 ?_
    repeat first|refine zS ?_|refine zC0 (zC3 HBK.o) ?_|refine zV ?_
    refine kU (fun w' hS=>?_);have HBT:=Hd hS.1;clear hS c14 c16 c19
    go_wp2_with(go_at_call 138;refine(HPC.o _ HBT.o).mono ?_;rintro e w9 ⟨rfl,hp⟩;have HP9:=Hd hp;clear hp)
    go_end0
    exact qZv
  · rw[show max 1 n=1 by omega]
    go_enter Tryz.func66,Tryz.ntmps66
    go_upto_region 1 with(go_at_call 137;refine HI2.o.mono ?_;rintro e w3 ⟨rfl,hO3,hm3⟩;have HO3:=Hd hO3;have HM3:=Hd hm3;clear hO3 hm3)
    rename World=>W3
    obtain⟨c14,-⟩:=at_ HO3.o.blk 14 (.pointer (some ⟨v.q.P,0,none⟩)) rfl;obtain⟨c16,-⟩:=at_ HO3.o.blk 16 (.int .i64 s0.y) rfl;obtain⟨c19,-⟩:=at_ HO3.o.blk 19 (.int .i64 s0.bot) rfl;have HBK:Hid (∀w',Below W3.heap.size W3 w'→Calls jG 120 #[.pointer (some ⟨v.S,0,none⟩)] w' fun e w2=>e=.returned (.agg #[.int .i64 s0.pen.at_.bk,.int .i64 s0.pen.at_.bn])∧Below w'.heap.size w' w2):=Hd (fun w' hb=>yF (HO3.o.below hb));have HPC:Hid (∀w',Below W3.heap.size W3 w'→Calls jG 138 #[.pointer (some ⟨v.q.P,0,none⟩),.int .i64 s0.y,.int .i64 s0.bot,.int .i64 1,.agg #[.int .i64 s0.pen.at_.bk,.int .i64 s0.pen.at_.bn]] w' (gY base w' v.q (gI s0.pg s0.y s0.bot 1 (fun t b g=>lU g t b ⟨s0.pen.at_.bk,s0.pen.at_.bn⟩)))):=Hd (fun w' hb=>ZC (HO3.o.below hb).page _ _ _ ⟨_,_⟩ HT0.o qZ qZ);refine zU3 16 c14 c16 c19 ?_
    repeat first|refine zS ?_|refine zC0 (zC3 HBK.o) ?_|refine zV ?_
    refine kU (fun w' hS=>?_);have HBT:=Hd hS.1;clear hS c14 c16 c19
    go_wp2_with(go_at_call 138;refine(HPC.o _ HBT.o).mono ?_;rintro e w9 ⟨rfl,hp⟩;have HP9:=Hd hp;clear hp)
    go_end0
    exact qZv
set_option maxHeartbeats 1600000 in
theorem Vp(h:ScO base w v s)(n:Int)(ht:s.pg.told.length≤900000)(hn: -9223372036854775808≤n∧n≤9223372036854775807):Calls jG 67 #[.pointer (some ⟨v.S,0,none⟩),.int .i64 n] w (gQ base w v (bJ s n)):=by
 have HO:=Hd h;have HT:=Hd ht;have H64:=Hd hn;unfold bJ;clear h ht hn
 by_cases h1:0<n
 · rw[if_pos h1]
   go_enter Tryz.func67,Tryz.ntmps67
   go_upto_region 2 with fail
   rename World=>W3
   have HO3:=Hd HO.o;have HM3:=Hd (Mod.refl (scX v) W3);obtain⟨c14,-⟩:=at_ HO3.o.blk 14 (.pointer (some ⟨v.q.P,0,none⟩)) rfl;obtain⟨c18,-⟩:=at_ HO3.o.blk 18 (.int .i64 s.top) rfl;obtain⟨c19,-⟩:=at_ HO3.o.blk 19 (.int .i64 s.bot) rfl;have HBK:Hid (∀w',Below W3.heap.size W3 w'→Calls jG 120 #[.pointer (some ⟨v.S,0,none⟩)] w' fun e w2=>e=.returned (.agg #[.int .i64 s.pen.at_.bk,.int .i64 s.pen.at_.bn])∧Below w'.heap.size w' w2):=Hd (fun w' hb=>yF (HO3.o.below hb));have HPC:Hid (∀w',Below W3.heap.size W3 w'→Calls jG 139 #[.pointer (some ⟨v.q.P,0,none⟩),.int .i64 s.top,.int .i64 s.bot,.int .i64 n,.agg #[.int .i64 s.pen.at_.bk,.int .i64 s.pen.at_.bn]] w' (gY base w' v.q (gI s.pg s.top s.bot n (fun t b g=>upP g t b ⟨s.pen.at_.bk,s.pen.at_.bn⟩)))):=Hd (fun w' hb=>UG (HO3.o.below hb).page _ _ _ ⟨_,_⟩ HT.o H64.o.2 H64.o.1);refine zU3 15 c14 c18 c19 ?_
   repeat first|refine zS ?_|refine zC0 (zC3 HBK.o) ?_|refine zV ?_
   refine kU (fun w' hS=>?_);have HBT:=Hd hS.1;clear hS c14 c18 c19
   go_wp2_with(go_at_call 139;refine(HPC.o _ HBT.o).mono ?_;rintro e w9 ⟨rfl,hp⟩;have HP9:=Hd hp;clear hp)
   go_end0
   exact qZv
 rw[if_neg h1]
 by_cases h2:n<0
 · rw[if_pos h2];obtain⟨m,hm⟩:∃m,max n (-1000)=m:=⟨_,rfl⟩;rw[hm];have hm2: -1000≤m∧m<0:=by omega
   have hwm:jP.wrap (-m)= -m:=jH _ qJ
   by_cases h3: -1000≤n
   · obtain rfl:n=m:=by omega
     clear hm
     go_enter Tryz.func67,Tryz.ntmps67
     go_upto_region 4 with fail
     rename World=>W3
     have HO3:=Hd HO.o;have HM3:=Hd (Mod.refl (scX v) W3);obtain⟨c14,-⟩:=at_ HO3.o.blk 14 (.pointer (some ⟨v.q.P,0,none⟩)) rfl;obtain⟨c18,-⟩:=at_ HO3.o.blk 18 (.int .i64 s.top) rfl;obtain⟨c19,-⟩:=at_ HO3.o.blk 19 (.int .i64 s.bot) rfl;have HBK:Hid (∀w',Below W3.heap.size W3 w'→Calls jG 120 #[.pointer (some ⟨v.S,0,none⟩)] w' fun e w2=>e=.returned (.agg #[.int .i64 s.pen.at_.bk,.int .i64 s.pen.at_.bn])∧Below w'.heap.size w' w2):=Hd (fun w' hb=>yF (HO3.o.below hb));have HPC:Hid (∀w',Below W3.heap.size W3 w'→Calls jG 119 #[.pointer (some ⟨v.q.P,0,none⟩),.int .i64 s.top,.int .i64 s.bot,.int .i64 (-n),.agg #[.int .i64 s.pen.at_.bk,.int .i64 s.pen.at_.bn]] w' (gY base w' v.q (gI s.pg s.top s.bot (-n) (fun t b g=>cK g t b ⟨s.pen.at_.bk,s.pen.at_.bn⟩)))):=Hd (fun w' hb=>mV (HO3.o.below hb).page _ _ _ ⟨_,_⟩ HT.o qJ qJ);refine zU3 17 c14 c18 c19 ?_
     repeat first|refine zS ?_|refine zC0 (zC3 HBK.o) ?_|refine zV ?_
     refine kU (fun w' hS=>?_);have HBT:=Hd hS.1;clear hS c14 c18 c19
     go_wp2_with(go_at_call 119;refine(HPC.o _ HBT.o).mono ?_;rintro e w9 ⟨rfl,hp⟩;have HP9:=Hd hp;clear hp)
     go_end0
     exact qZv
   · obtain rfl:m= -1000:=by omega
     have h3':n≤ -1000:=by omega
     clear hm
     go_enter Tryz.func67,Tryz.ntmps67
     go_upto_region 4 with fail
     rename World=>W3
     have HO3:=Hd HO.o;have HM3:=Hd (Mod.refl (scX v) W3);obtain⟨c14,-⟩:=at_ HO3.o.blk 14 (.pointer (some ⟨v.q.P,0,none⟩)) rfl;obtain⟨c18,-⟩:=at_ HO3.o.blk 18 (.int .i64 s.top) rfl;obtain⟨c19,-⟩:=at_ HO3.o.blk 19 (.int .i64 s.bot) rfl;have HBK:Hid (∀w',Below W3.heap.size W3 w'→Calls jG 120 #[.pointer (some ⟨v.S,0,none⟩)] w' fun e w2=>e=.returned (.agg #[.int .i64 s.pen.at_.bk,.int .i64 s.pen.at_.bn])∧Below w'.heap.size w' w2):=Hd (fun w' hb=>yF (HO3.o.below hb));have HPC:Hid (∀w',Below W3.heap.size W3 w'→Calls jG 119 #[.pointer (some ⟨v.q.P,0,none⟩),.int .i64 s.top,.int .i64 s.bot,.int .i64 (- -1000),.agg #[.int .i64 s.pen.at_.bk,.int .i64 s.pen.at_.bn]] w' (gY base w' v.q (gI s.pg s.top s.bot (- -1000) (fun t b g=>cK g t b ⟨s.pen.at_.bk,s.pen.at_.bn⟩)))):=Hd (fun w' hb=>mV (HO3.o.below hb).page _ _ _ ⟨_,_⟩ HT.o qJ qJ);refine zU3 17 c14 c18 c19 ?_
     repeat first|refine zS ?_|refine zC0 (zC3 HBK.o) ?_|refine zV ?_
     refine kU (fun w' hS=>?_);have HBT:=Hd hS.1;clear hS c14 c18 c19
     go_wp2_with(go_at_call 119;refine(HPC.o _ HBT.o).mono ?_;rintro e w9 ⟨rfl,hp⟩;have HP9:=Hd hp;clear hp)
     go_end0
     exact qZv
 · rw[if_neg h2];obtain rfl:n=0:=by omega
   go_enter Tryz.func67,Tryz.ntmps67
   go_wp2
   go_end0
   exact⟨rfl,HO.o.res⟩
end
section
variable {base:Nat}{w:World}{v:Sv}{s:Sc}
theorem uR.duo{w1:World}{s1 s':Sc}(h:ScO base w v s)(hb:Below w.heap.size w w1)(i j:Nat)(x y:Value)(he:(lX s v.q.P v.T).set i x=lX s1 v.q.P v.T)(he2:(lX s1 v.q.P v.T).set j y=lX s' v.q.P v.T)(hp1:s1.pg=s.pg)(ht1:s1.st=s.st)(hp:s'.pg=s1.pg)(ht:s'.st=s1.st):
 uR base w v s' ((w1.setCell ⟨v.S,i,none⟩ x).setCell ⟨v.S,j,none⟩ y):=
 uR.pre hb ⟨v,rfl,rfl,rfl,((h.below hb).put i x he hp1 ht1).put j y he2 hp ht,(ScO.mod_put (v:=v) i x).trans (ScO.mod_put (v:=v) j y) (fun _ hb=>.inl hb),fun _ hb=>.inl hb⟩
theorem QJ(h:ScO base w v s):Calls jG 95 #[.pointer (some ⟨v.S,0,none⟩)] w (gQ base w v (dK s)):=by
 have HR:=Hd (cF h);obtain⟨c18,f18⟩:=at_ h.blk 18 (.int .i64 s.top) rfl;obtain⟨c19,f19⟩:=at_ h.blk 19 (.int .i64 s.bot) rfl;have hr3:s.pg.scr.length≤1000:=by rw[←h.page.len];exact h.page.rows1000
 have hwr:jP.wrap ((s.pg.scr.length:Int)-1)=(s.pg.scr.length:Int)-1:=jH _ qJ;have HO:=Hd h;clear h
 go_enter Tryz.func95,Tryz.ntmps95
 go_wp2_with(go_at_call 110;refine HR.o.mono ?_;rintro e w1 ⟨rfl,rfl⟩)
 go_end0
 exact⟨rfl,uR.duo (s1:={s with top:=0}) HO.o (jU _ _) 18 19 _ _ rfl rfl rfl rfl rfl rfl⟩
theorem sQ(h:ScO base w v s)(y x:Int):Calls jG 78 #[.pointer (some ⟨v.S,0,none⟩),.int .i64 y,.int .i64 x] w (gQ base w v (fM s y x)):=by
 have HR:=Hd (cF h);have HC:=Hd (bK h);have HN:=Hd (fun a b c w=>mQ a b c w);obtain⟨c16,f16⟩:=at_ h.blk 16 (.int .i64 s.y) rfl;obtain⟨c17,f17⟩:=at_ h.blk 17 (.int .i64 s.x) rfl;have hr3:s.pg.scr.length≤1000:=by rw[←h.page.len];exact h.page.rows1000
 have hc3:=h.page.cols1000;have hwr:jP.wrap ((s.pg.scr.length:Int)-1)=(s.pg.scr.length:Int)-1:=jH _ qJ;have hwc:jP.wrap ((s.pg.cols:Int)-1)=(s.pg.cols:Int)-1:=jH _ qJ;have HO:=Hd h;unfold fM rowsS colsS;clear h
 go_enter Tryz.func78,Tryz.ntmps78
 go_wp2_with(first
  |(go_at_call 110;refine HR.o.mono ?_;rintro e w1 ⟨rfl,rfl⟩)
  |(go_at_call 111;refine HC.o.mono ?_;rintro e w1 ⟨rfl,rfl⟩)
  |(go_at_call 109;refine(HN.o _ _ _ _).mono ?_;rintro e w1 ⟨rfl,rfl⟩))
 go_end0
 exact qZw
set_option maxHeartbeats 1600000 in
theorem Jc(h:ScO base w v s)(h0:0≤s.top)(h1:s.top≤s.bot)(h2:s.bot<s.pg.scr.length)(y x:Int):Calls jG 50 #[.pointer (some ⟨v.S,0,none⟩),.int .i64 y,.int .i64 x] w (gQ base w v (dF s y x)):=by
 have HR:=Hd (cF h);have HN:=Hd (fun a b c w=>mQ a b c w);have hr3:s.pg.scr.length≤1000:=by rw[←h.page.len];exact h.page.rows1000
 have hc3:=h.page.cols1000;have hwr:jP.wrap ((s.pg.scr.length:Int)-1)=(s.pg.scr.length:Int)-1:=jH _ qJ;have hwc:jP.wrap ((s.pg.cols:Int)-1)=(s.pg.cols:Int)-1:=jH _ qJ;have HO:=Hd h;obtain⟨c13,-⟩:=at_ h.blk 13 (.bool s.pen.home) rfl;unfold dF rowsS colsS;cases hh:s.pen.home with
 |false=>
  rw[hh]at c13;rw[if_neg qZ];obtain⟨c16,f16⟩:=at_ h.blk 16 (.int .i64 s.y) rfl;have hw0:jP.wrap ((s.pg.scr.length:Int)-1-0)=(s.pg.scr.length:Int)-1:=by rw[Int.sub_zero];exact hwr
  have hnb: -1≤uZ y 0 ((s.pg.scr.length:Int)-1)∧uZ y 0 ((s.pg.scr.length:Int)-1)≤1000:=by unfold uZ;omega
  have hwn:jP.wrap (uZ y 0 ((s.pg.scr.length:Int)-1))=uZ y 0 ((s.pg.scr.length:Int)-1):=jH _ qJ;have HC:=Hd (bK (h.put 16 (.int .i64 (uZ y 0 ((s.pg.scr.length:Int)-1))) (s':={s with y:=uZ y 0 ((s.pg.scr.length:Int)-1)}) rfl rfl rfl));obtain⟨c17,f17⟩:=at_ (h.put 16 (.int .i64 (uZ y 0 ((s.pg.scr.length:Int)-1))) (s':={s with y:=uZ y 0 ((s.pg.scr.length:Int)-1)}) rfl rfl rfl).blk 17 (.int .i64 s.x) rfl;clear h
  go_enter Tryz.func50,Tryz.ntmps50
  go_wp2_with(first
   |(go_at_call 110;refine HR.o.mono ?_;rintro e w1 ⟨rfl,rfl⟩)
   |(go_at_call 111;refine HC.o.mono ?_;rintro e w1 ⟨rfl,rfl⟩)
   |(go_at_call 109;refine(HN.o _ _ _ _).mono ?_;rintro e w1 ⟨rfl,rfl⟩))
  go_end0
  exact qZw
 |true=>
  rw[hh]at c13;rw[if_pos rfl];obtain⟨c18,-⟩:=at_ h.blk 18 (.int .i64 s.top) rfl;obtain⟨c19,-⟩:=at_ h.blk 19 (.int .i64 s.bot) rfl;have hnb:0≤uZ y 0 (s.bot-s.top)∧uZ y 0 (s.bot-s.top)≤s.bot-s.top:=by unfold uZ;omega
  have hwd:jP.wrap (s.bot-s.top)=s.bot-s.top:=jH _ qJ;have hwn:jP.wrap (s.top+uZ y 0 (s.bot-s.top))=s.top+uZ y 0 (s.bot-s.top):=jH _ qJ;clear h
  go_enter Tryz.func50,Tryz.ntmps50
  go_upto_region 3 with(go_at_call 110;refine HR.o.mono ?_;rintro e w1 ⟨rfl,rfl⟩)
  clear c13;refine zW2 9 c18 c19 fun w' hS=>?_;have HB:=Hd hS.1;clear hS c18 c19
  rename World=>W2
  have hO2:=HO.o.below HB.o;obtain⟨c16,f16⟩:=at_ hO2.blk 16 (.int .i64 s.y) rfl;have hO3:=hO2.put 16 (.int .i64 (s.top+uZ y 0 (s.bot-s.top))) (s':={s with y:=s.top+uZ y 0 (s.bot-s.top)}) rfl rfl rfl;have HC:=Hd (bK hO3);obtain⟨c17,f17⟩:=at_ hO3.blk 17 (.int .i64 s.x) rfl;clear hO2 hO3
  go_wp2_with(first
   |(go_at_call 111;refine HC.o.mono ?_;rintro e w1 ⟨rfl,rfl⟩)
   |(go_at_call 109;refine(HN.o _ _ _ _).mono ?_;rintro e w1 ⟨rfl,rfl⟩))
  go_end0
  exact⟨rfl,uR.duo (s1:={s with y:=s.top+uZ y 0 (s.bot-s.top)}) HO.o HB.o 16 17 _ _ rfl rfl rfl rfl rfl rfl⟩
set_option maxHeartbeats 1600000 in
theorem Kz(h:ScO base w v s)(t b:Int):Calls jG 54 #[.pointer (some ⟨v.S,0,none⟩),.int .i64 t,.int .i64 b] w (gQ base w v (yR s t b)):=by
 have HR:=Hd (cF h);have HO:=Hd h;unfold yR rowsS
 by_cases h1:0≤t
 · by_cases h2:b<s.pg.scr.length
   · by_cases h3:t<b
     · rw[if_pos ⟨h1,h2,h3⟩];obtain⟨c18,f18⟩:=at_ h.blk 18 (.int .i64 s.top) rfl;obtain⟨c19,f19⟩:=at_ h.blk 19 (.int .i64 s.bot) rfl;have hO2:=(h.put 18 (.int .i64 t) (s':={s with top:=t}) rfl rfl rfl).put 19 (.int .i64 b) (s':={s with top:=t,bot:=b}) rfl rfl rfl;have HM:=Hd (Jc hO2 h1 (show t≤b by omega) h2 0 0);have HMM:=Hd ((ScO.mod_put (w:=w) (v:=v) 18 (.int .i64 t)).trans (ScO.mod_put (v:=v) 19 (.int .i64 b)) (fun _ hb=>.inl hb));clear h hO2
       go_enter Tryz.func54,Tryz.ntmps54
       go_wp2_with(first
        |(go_at_call 110;refine HR.o.mono ?_;rintro e w1 ⟨rfl,rfl⟩)
        |(go_at_call 50;refine HM.o.mono ?_;rintro e w2 ⟨rfl,hs⟩;have HS:=Hd hs;clear hs))
       go_end0
       exact⟨rfl,uR.trans ⟨rfl,rfl,rfl,HMM.o,fun _ hb=>.inl hb⟩ HS.o⟩
     · rw[if_neg qJ];clear h
       go_enter Tryz.func54,Tryz.ntmps54
       go_wp2_with(go_at_call 110;refine HR.o.mono ?_;rintro e w1 ⟨rfl,rfl⟩)
       go_end0
       exact⟨rfl,HO.o.res⟩
   · rw[if_neg qJ];clear h
     go_enter Tryz.func54,Tryz.ntmps54
     go_wp2_with(go_at_call 110;refine HR.o.mono ?_;rintro e w1 ⟨rfl,rfl⟩)
     go_end0
     exact⟨rfl,HO.o.res⟩
 · rw[if_neg qJ];clear h
   go_enter Tryz.func54,Tryz.ntmps54
   go_wp2_with(go_at_call 110;refine HR.o.mono ?_;rintro e w1 ⟨rfl,rfl⟩)
   go_end0
   exact⟨rfl,HO.o.res⟩
set_option maxHeartbeats 1600000 in
theorem X3(h:ScO base w v s)(htz:eN w)(hlz:oS w)(h0:0<s.st.length)(n:Int):Calls jG 48 #[.pointer (some ⟨v.S,0,none⟩),.int .i64 n] w (gQ base w v (lO s n)):=by
 have HO:=Hd h;have HIN:Hid (∀w',Below w.heap.size w w'→Calls jG 76 #[.pointer (some ⟨v.S,0,none⟩)] w' fun e w2=>e=.returned (.int .i64 (inS s))∧Below w'.heap.size w' w2):=Hd (fun w' hb=>cG (h.below hb));obtain⟨c15,-⟩:=at_ h.blk 15 (.pointer (some ⟨v.T,0,none⟩)) rfl;unfold lO
 by_cases hn0:n=0
 · subst hn0;rw[if_pos rfl];clear h
   go_enter Tryz.func48,Tryz.ntmps48
   go_wp2
   go_end0
   exact⟨rfl,HO.o.res⟩
 rw[if_neg hn0];have hn0b:(n==0)=false:=by simpa using hn0
 by_cases hn:0<n
 · rw[if_pos hn];have HNX:Hid (∀w',Below w.heap.size w w'→Calls jG 121 #[.pointer (some ⟨v.T,0,none⟩),.int .i64 (inS s),.int .i64 n] w' fun e w2=>e=.returned (.int .i64 (goT (pI s.st) s.st.length (inS s) n))∧Below w'.heap.size w' w2):=Hd (fun w' hb=>Up (h.below hb).tabs (fun y w2 hy hb3=>htz y w2 hy (jN hb hb3)) h0 (inS s) n);clear h htz hlz
   go_enter Tryz.func48,Tryz.ntmps48
   go_upto_region 3 with fail
   refine zU1 11 c15 ?_
   repeat first|refine zS ?_|refine zC0 (zC1 HIN.o) ?_|refine zC0 (zC1 HNX.o) ?_|refine zV ?_
   refine kU (fun w' hS=>?_);have HB:=Hd hS.1;clear hS c15;obtain⟨c17,f17⟩:=at_ (HO.o.below HB.o).blk 17 (.int .i64 s.x) rfl
   go_wp2
   go_end0
   exact qZx
 · rw[if_neg hn];have HAH:Hid (∀m w',Below w.heap.size w w'→Calls jG 122 #[.pointer (some ⟨v.T,0,none⟩),.int .i64 (inS s),.int .i64 m] w' fun e w2=>e=.returned (.int .i64 (goT (yK s.st) s.st.length (inS s) m))∧Below w'.heap.size w' w2):=Hd (fun m w' hb=>XT (h.below hb).tabs (fun y w2 hy hb3=>hlz y w2 hy (jN hb hb3)) h0 (inS s) m);clear h htz hlz
   by_cases h3: -1000≤n
   · have HA2:=Hd (HAH.o (-n));rw[show max 0 (-(max n (-1000)))= -n by omega];have hng:0 < -n:=by omega
     have hng2:n<0:=by omega
     have hng3:¬n < -1000:=by omega
     have hng4:¬0<n:=by omega
     have hwn:jP.wrap (-n)= -n:=jH _ qJ
     go_enter Tryz.func48,Tryz.ntmps48
     go_upto_region 0 with fail
     refine zU1 14 c15 ?_
     repeat first|refine zS ?_|refine zC0 (zC1 HIN.o) ?_|refine zC0 (zC1 HA2.o) ?_|refine zV ?_
     refine kU (fun w' hS=>?_);have HB:=Hd hS.1;clear hS c15;obtain⟨c17,f17⟩:=at_ (HO.o.below HB.o).blk 17 (.int .i64 s.x) rfl
     go_wp2
     go_end0
     exact qZx
   · have HA2:=Hd (HAH.o 1000);have hng3:n < -1000:=by omega
     have hwk:jP.wrap 1000=1000:=by decide
     rw[show max 0 (-(max n (-1000)))=1000 by omega]
     go_enter Tryz.func48,Tryz.ntmps48
     go_upto_region 0 with fail
     refine zU1 14 c15 ?_
     repeat first|refine zS ?_|refine zC0 (zC1 HIN.o) ?_|refine zC0 (zC1 HA2.o) ?_|refine zV ?_
     refine kU (fun w' hS=>?_);have HB:=Hd hS.1;clear hS c15;obtain⟨c17,f17⟩:=at_ (HO.o.below HB.o).blk 17 (.int .i64 s.x) rfl
     go_wp2
     go_end0
     exact qZx
end
theorem gC{P:Program}{ops:Array Oper}{rest:List Oper}{o:Oper}{a:Act}{w:World}{Q:Exit→Act→World→Prop}(hg:o.guard=none)(f:FuncId)(args:Array Value)(hrun:(execOp a.eval o).run P w=.ok (.enter f args) w)
 {Post:Ending→World→Prop} (hc:Calls P f args w Post) (v:Value) (hv:∀e w',Post e w'→e=.returned v) (h:∀w',Post (.returned v) w'→wpList P ops Q rest (a.put o.dst v) w'):wpList P ops Q (o::rest) a w:=by
 refine wpList_plain hg fun K hK=>?_;unfold Oper.wp;rw[hrun,Oper.upon_enter];refine hc.mono fun e w'' hh=>?_;obtain rfl:=hv e w'' hh;exact hK _ _ (h _ hh)
section
variable {base:Nat}{w:World}{v:Sv}{s:Sc}
set_option maxHeartbeats 1600000 in
theorem QK(h:ScO base w v s)(hi:ScI s)(ht:s.pg.told.length≤900000)(r:Int):Calls jG 33 #[.pointer (some ⟨v.S,0,none⟩),.int .i32 r] w (gQ base w v (cA s r)):=by
 have HM:=Hd (fun w=>qJh s.pen.ch r w);unfold rW chV mY at HM;have HO:=Hd h;have HI:=Hd hi;obtain⟨c5,-⟩:=at_ h.blk 5 (.int .i64 s.pen.ch.g0) rfl;obtain⟨c6,-⟩:=at_ h.blk 6 (.int .i64 s.pen.ch.g1) rfl;obtain⟨c7,-⟩:=at_ h.blk 7 (.int .i64 s.pen.ch.g2) rfl;obtain⟨c8,-⟩:=at_ h.blk 8 (.int .i64 s.pen.ch.g3) rfl;obtain⟨c9,-⟩:=at_ h.blk 9 (.int .i64 s.pen.ch.use) rfl;obtain⟨c10,-⟩:=at_ h.blk 10 (.int .i64 s.pen.ch.once) rfl;clear h hi
 go_enter Tryz.func33,Tryz.ntmps33
 go_upto_region 2 with(go_at_call 100;refine(HM.o _).mono ?_;rintro e w1 ⟨rfl,hb⟩;have HB1:=Hd hb;have hO1:=HO.o.below hb;clear hb c5 c6 c7 c8 c9 c10;obtain⟨c5,f5⟩:=at_ hO1.blk 5 (.int .i64 s.pen.ch.g0) rfl;obtain⟨c6,f6⟩:=at_ hO1.blk 6 (.int .i64 s.pen.ch.g1) rfl;obtain⟨c7,f7⟩:=at_ hO1.blk 7 (.int .i64 s.pen.ch.g2) rfl;obtain⟨c8,f8⟩:=at_ hO1.blk 8 (.int .i64 s.pen.ch.g3) rfl;obtain⟨c9,f9⟩:=at_ hO1.blk 9 (.int .i64 s.pen.ch.use) rfl;obtain⟨c10,f10⟩:=at_ hO1.blk 10 (.int .i64 s.pen.ch.once) rfl;have HO1:=Hd hO1;clear hO1)
 have hb6:ScO base ((((((w1.setCell ⟨v.S,5,none⟩ (.int .i64 s.pen.ch.g0)).setCell ⟨v.S,6,none⟩ (.int .i64 s.pen.ch.g1)).setCell ⟨v.S,7,none⟩ (.int .i64 s.pen.ch.g2)).setCell ⟨v.S,8,none⟩ (.int .i64 s.pen.ch.g3)).setCell ⟨v.S,9,none⟩ (.int .i64 s.pen.ch.use)).setCell ⟨v.S,10,none⟩ (.int .i64 0)) v {s with pen:={s.pen with ch:=mY s.pen.ch}}:=
  (((((HO1.o.put 5 _ (s':=s) rfl rfl rfl).put 6 _ (s':=s) rfl rfl rfl).put 7 _ (s':=s) rfl rfl rfl).put 8 _ (s':=s) rfl rfl rfl).put 9 _ (s':=s) rfl rfl rfl).put 10 _ rfl rfl rfl
 have hm6:Mod (scX v) w1 ((((((w1.setCell ⟨v.S,5,none⟩ (.int .i64 s.pen.ch.g0)).setCell ⟨v.S,6,none⟩ (.int .i64 s.pen.ch.g1)).setCell ⟨v.S,7,none⟩ (.int .i64 s.pen.ch.g2)).setCell ⟨v.S,8,none⟩ (.int .i64 s.pen.ch.g3)).setCell ⟨v.S,9,none⟩ (.int .i64 s.pen.ch.use)).setCell ⟨v.S,10,none⟩ (.int .i64 0)):=by
  have hv:v.S∈scX v:=by simp[scX]
  exact((((((Mod.refl _ _).setCell (a:=⟨v.S,5,none⟩) (.inl hv) _).setCell (a:=⟨v.S,6,none⟩) (.inl hv) _).setCell (a:=⟨v.S,7,none⟩) (.inl hv) _).setCell (a:=⟨v.S,8,none⟩) (.inl hv) _).setCell (a:=⟨v.S,9,none⟩) (.inl hv) _).setCell (a:=⟨v.S,10,none⟩) (.inl hv) _
 have HM6:=Hd ((Mod.of_below HB1.o).trans hm6 (fun b hb=>.inl hb));have HI6:Hid (ScI {s with pen:={s.pen with ch:=mY s.pen.ch}}):=Hd ⟨HI.o.y0,HI.o.y1,HI.o.x0,HI.o.x1,HI.o.t0,HI.o.tb,HI.o.b1⟩;clear hm6 c5 f5 c6 f6 c7 f7 c8 f8 c9 f9 c10 f10;generalize uQ _ _ _=W6 at hb6 HM6 ⊢;have HW:=Hd (QQ hb6 HI6.o ht (YW s.pen.ch r));clear hb6
 go_wp2_with(go_at_call 101;refine HW.o.mono ?_;rintro e w7 ⟨rfl,hs⟩;have HS7:=Hd hs;clear hs)
 go_end0
 exact⟨rfl,uR.trans ⟨rfl,rfl,rfl,HM6.o,fun b hb=>.inl hb⟩ HS7.o⟩
def stL(s:Sc):List Value:=[.int .i64 s.y,.int .i64 s.x,.int .i64 s.pen.at_.fk,.int .i64 s.pen.at_.fn,.int .i64 s.pen.at_.bk,.int .i64 s.pen.at_.bn,.int .i64 s.pen.at_.fl,.int .i64 s.pen.ch.g0,.int .i64 s.pen.ch.g1,.int .i64 s.pen.ch.g2,.int .i64 s.pen.ch.g3,.int .i64 s.pen.ch.use,.int .i64 s.pen.ch.once,.bool s.pen.put,.bool s.pen.wrap,.bool s.pen.home,.int .i64 s.top,.int .i64 s.bot,.bool s.has]
theorem sF(s:Sc):∀v∈stL s,v.oneCell'=true:=fun v hv=>by
 simp only[stL,kW,List.not_mem_nil,or_false]at hv;rcases hv with rfl|rfl|rfl|rfl|rfl|rfl|rfl|rfl|rfl|rfl|rfl|rfl|rfl|rfl|rfl|rfl|rfl|rfl|rfl<;>rfl
theorem nZ:(jG.info? 47).map (·.size)=some 19:=by kernel_rfl
def JH(s:Sc)(w:World)(e:Ending)(w':World):Prop:=e=.returned (.agg (stL s).toArray)∧Below w.heap.size w w'
set_option maxHeartbeats 3200000 in
theorem fU(h:ScO base w v s):Calls jG 13 #[.pointer (some ⟨v.S,0,none⟩)] w (JH s w):=by
 obtain⟨c0,-⟩:=at_ h.blk 0 (.int .i64 s.pen.at_.fk) rfl;obtain⟨c1,-⟩:=at_ h.blk 1 (.int .i64 s.pen.at_.fn) rfl;obtain⟨c2,-⟩:=at_ h.blk 2 (.int .i64 s.pen.at_.bk) rfl;obtain⟨c3,-⟩:=at_ h.blk 3 (.int .i64 s.pen.at_.bn) rfl;obtain⟨c4,-⟩:=at_ h.blk 4 (.int .i64 s.pen.at_.fl) rfl;obtain⟨c5,-⟩:=at_ h.blk 5 (.int .i64 s.pen.ch.g0) rfl;obtain⟨c6,-⟩:=at_ h.blk 6 (.int .i64 s.pen.ch.g1) rfl;obtain⟨c7,-⟩:=at_ h.blk 7 (.int .i64 s.pen.ch.g2) rfl;obtain⟨c8,-⟩:=at_ h.blk 8 (.int .i64 s.pen.ch.g3) rfl;obtain⟨c9,-⟩:=at_ h.blk 9 (.int .i64 s.pen.ch.use) rfl;obtain⟨c10,-⟩:=at_ h.blk 10 (.int .i64 s.pen.ch.once) rfl;obtain⟨c11,-⟩:=at_ h.blk 11 (.bool s.pen.put) rfl;obtain⟨c12,-⟩:=at_ h.blk 12 (.bool s.pen.wrap) rfl;obtain⟨c13,-⟩:=at_ h.blk 13 (.bool s.pen.home) rfl;obtain⟨c16,-⟩:=at_ h.blk 16 (.int .i64 s.y) rfl;obtain⟨c17,-⟩:=at_ h.blk 17 (.int .i64 s.x) rfl;obtain⟨c18,-⟩:=at_ h.blk 18 (.int .i64 s.top) rfl;obtain⟨c19,-⟩:=at_ h.blk 19 (.int .i64 s.bot) rfl;obtain⟨c36,-⟩:=at_ h.blk 36 (.bool s.has) rfl;have hl:=gO c0;clear h
 go_enter Tryz.func13,Tryz.ntmps13
 go_upto_region 3 with fail
 generalize hW:World.alloc _ _=W;have hb2:Below w.heap.size w W:=by rw[←hW];exact jW (jU _ _) _
 have hc2:W.heap[w.heap.size]? =some (.cells ([.int .i64 0,.int .i64 0,.int .i64 0,.int .i64 0,.int .i64 0,.int .i64 0,.int .i64 0,.int .i64 0,.int .i64 0,.int .i64 0,.int .i64 0,.int .i64 0,.int .i64 0,.bool false,.bool false,.bool false,.int .i64 0,.int .i64 0,.bool false]:List Value).toArray 47 (0,0)):=by rw[←hW];exact kZ rfl
 have HB2:=Hd hb2;have HC2:=Hd hc2;replace c0:=jA hb2 c0;replace c1:=jA hb2 c1;replace c2:=jA hb2 c2;replace c3:=jA hb2 c3;replace c4:=jA hb2 c4;replace c5:=jA hb2 c5;replace c6:=jA hb2 c6;replace c7:=jA hb2 c7;replace c8:=jA hb2 c8;replace c9:=jA hb2 c9;replace c10:=jA hb2 c10;replace c11:=jA hb2 c11;replace c12:=jA hb2 c12;replace c13:=jA hb2 c13;replace c16:=jA hb2 c16;replace c17:=jA hb2 c17;replace c18:=jA hb2 c18;replace c19:=jA hb2 c19;replace c36:=jA hb2 c36;clear hW hb2 hc2
 refine zU 37 (fun w'=>Below W.heap.size W w'∧w'.cell? ⟨v.S,0,none⟩=some (.int .i64 s.pen.at_.fk)∧w'.cell? ⟨v.S,1,none⟩=some (.int .i64 s.pen.at_.fn)∧w'.cell? ⟨v.S,2,none⟩=some (.int .i64 s.pen.at_.bk)∧w'.cell? ⟨v.S,3,none⟩=some (.int .i64 s.pen.at_.bn)∧w'.cell? ⟨v.S,4,none⟩=some (.int .i64 s.pen.at_.fl)∧w'.cell? ⟨v.S,5,none⟩=some (.int .i64 s.pen.ch.g0)∧w'.cell? ⟨v.S,6,none⟩=some (.int .i64 s.pen.ch.g1)∧w'.cell? ⟨v.S,7,none⟩=some (.int .i64 s.pen.ch.g2)∧w'.cell? ⟨v.S,8,none⟩=some (.int .i64 s.pen.ch.g3)∧w'.cell? ⟨v.S,9,none⟩=some (.int .i64 s.pen.ch.use)∧w'.cell? ⟨v.S,10,none⟩=some (.int .i64 s.pen.ch.once)∧w'.cell? ⟨v.S,11,none⟩=some (.bool s.pen.put)∧w'.cell? ⟨v.S,12,none⟩=some (.bool s.pen.wrap)∧w'.cell? ⟨v.S,13,none⟩=some (.bool s.pen.home)∧w'.cell? ⟨v.S,16,none⟩=some (.int .i64 s.y)∧w'.cell? ⟨v.S,17,none⟩=some (.int .i64 s.x)∧w'.cell? ⟨v.S,18,none⟩=some (.int .i64 s.top)∧w'.cell? ⟨v.S,19,none⟩=some (.int .i64 s.bot)∧w'.cell? ⟨v.S,36,none⟩=some (.bool s.has)) ⟨(jU _ _).drew,c0,c1,c2,c3,c4,c5,c6,c7,c8,c9,c10,c11,c12,c13,c16,c17,c18,c19,c36⟩ ?_
 repeat first|refine zS ?_|refine zV ?_
 refine kU (fun w' hS=>?_);have hc3:=(hS.1.block _ (kQ HC2.o)).trans HC2.o;have hb3:=jN HB2.o hS.1;refine wpList_store_mid rfl 47 (.tmp 2) (.tmp 42) rfl (w.heap.size) (0) ((stL s).toArray) rfl rfl ((show World.there _ w.heap.size 0 19 from gH hc3)) nZ (all_oneCell_toArray (sF s)) ?_;simp only[Act.put]
 go_wp2
 have hw:=uB (stL s) 0 _ _ hc3 (by simp[stL]);exact bodyPost_ret (bV rfl _ _ w.heap.size (stL s) rfl (kA hw) Tryz.underlying47 rfl nZ) rfl ⟨rfl,gX hb3 (jS _) _ _⟩
def peL(p:Pe):List Value:=[.int .i64 p.at_.fk,.int .i64 p.at_.fn,.int .i64 p.at_.bk,.int .i64 p.at_.bn,.int .i64 p.at_.fl,.int .i64 p.ch.g0,.int .i64 p.ch.g1,.int .i64 p.ch.g2,.int .i64 p.ch.g3,.int .i64 p.ch.use,.int .i64 p.ch.once,.bool p.put,.bool p.wrap,.bool p.home]
theorem iY(p:Pe):∀v∈peL p,v.oneCell'=true:=fun v hv=>by
 simp only[peL,kW,List.not_mem_nil,or_false]at hv;rcases hv with rfl|rfl|rfl|rfl|rfl|rfl|rfl|rfl|rfl|rfl|rfl|rfl|rfl|rfl<;>rfl
theorem oW:(jG.info? 104).map (·.size)=some 14:=by kernel_rfl
set_option maxHeartbeats 1600000 in
theorem rT(w:World):Calls jG 77 #[] w fun e w'=>e=.returned (.agg (peL vW).toArray)∧Below w.heap.size w w':=by
 have HN:=Hd (fun w=>JJ w);unfold chV at HN
 go_enter Tryz.func77,Tryz.ntmps77
 go_upto_region 1 with fail
 generalize hW:World.alloc _ _=W;have hb2:Below w.heap.size w W:=by rw[←hW];exact jW (jU _ _) _
 have hc2:W.heap[w.heap.size]? =some (.cells (peL bH).toArray 104 (0,0)):=by rw[←hW];exact kZ rfl
 clear hW;refine wp_region_lit ?_;refine gC rfl 92 #[] qY (HN.o _) (.agg #[.int .i64 66,.int .i64 66,.int .i64 66,.int .i64 66,.int .i64 0,.int .i64 0]) (fun e w' h=>h.1) ?_;rintro w1 ⟨-,hb⟩;refine zP ?_;refine zGs (.agg #[.bool false,.bool true,.bool false]) ?_;refine jM (.agg (peL vW).toArray) qK qJ9 ?_;refine zP ?_;have hc3:=(hb.block _ (kQ hc2)).trans hc2;have hb3:=jN hb2 hb;refine wpList_store_mid rfl 104 (.tmp 0) (.tmp 3) rfl (w.heap.size) (0) ((peL vW).toArray) rfl rfl ((show World.there _ w.heap.size 0 14 from gH hc3)) oW (all_oneCell_toArray (iY _)) ?_;simp only[Act.put]
 go_wp2
 have hw:=uB (peL vW) 0 _ _ hc3 (by simp[peL]);exact bodyPost_ret (bV rfl _ _ w.heap.size (peL vW) rfl (kA hw) Tryz.underlying104 rfl oW) rfl ⟨rfl,gX hb3 (jS _) _ _⟩
def XY(rows cols lines:Nat)(w:World)(e:Ending)(w':World):Prop:=
 ∃v,e=.returned (.tuple #[.pointer (some ⟨v.S,0,none⟩),.int .i64 0])∧ScO w.heap.size w' v (lA rows cols lines (bN [] cols))∧Below w.heap.size w w'
theorem TbO.weaken{b2 T:Nat}{vw:Value}{ws:List Nat}{st:List Bool}(h:TbO base w T vw ws st)(hb:b2≤base):TbO b2 w T vw ws st:=
 ⟨h.blk,vY hb h.hb,gJ h.own hb,h.wds,h.le,h.few⟩
set_option maxHeartbeats 1600000 in
theorem aG(rows cols lines:Nat)(w:World)(hr1:1≤rows)(hr2:rows≤1000)(hc1:2≤cols)(hc2:cols≤1000)(hl:lines≤100000):
 Calls jG 24 #[.int .i64 rows,.int .i64 cols,.int .i64 lines] w (XY rows cols lines w):=by
 have HP:=Hd (pnew_ok rows cols lines w hr1 hr2 hc1 hc2 hl);have HT:=Hd (fun w=>tnew_ok cols w hc1 hc2);have HF:=Hd (fun w=>rT w);unfold peL at HF;have hwr:jP.wrap ((rows:Int)-1)=(rows:Int)-1:=jH _ qJ
 go_enter Tryz.func24,Tryz.ntmps24
 go_wp2_with(first
  |(go_at_call 88;refine HP.o.mono ?_;rintro e w1 ⟨q,rfl,hq,hb⟩;have HQ:=Hd hq;have HB1:=Hd hb;clear hq hb)
  |(go_at_call 89;refine(HT.o _).mono ?_;rintro e w2 ⟨T,vw,ws,rfl,ht,hb⟩;have HTB:=Hd ht;have HB2:=Hd hb;clear ht hb)
  |(go_at_call 77;refine(HF.o _).mono ?_;rintro e w3 ⟨rfl,hb⟩;have HB3:=Hd hb;clear hb))
 go_ret2
 have hba:=jW (jU w3.heap.size w3) (.cells (lX (lA rows cols lines (bN [] cols)) q.P T).toArray 108);have h1:=HB1.o.size;have h2:=HB2.o.size;have h3:=HB3.o.size;exact⟨⟨w3.heap.size,q,T,vw,ws⟩,rfl,⟨kZ rfl,by show w.heap.size≤w3.heap.size;omega,((HQ.o.below HB2.o).below HB3.o).below hba,(((HTB.o.weaken h1).below HB3.o).below hba)⟩,jN (jN (jN HB1.o HB2.o) HB3.o) hba⟩
end
def eCl:Cl:=yO 69 kD 0 zY
def sH(cols:Nat):Ro:=⟨kJ cols eCl,false⟩
theorem lC:∀{l:List Cl},(∀c∈l,c.half=0)→uX l=l
 |[],_=>rfl
 |c::l,h=>by rw[eU (h c qV),lC (fun x hx=>h x qZa)]
theorem YI{l:List Cl}{n:Nat}{b:Col}(h:l.length=n):pG l 0 n b=kJ n (vD b):=by
 have e:nB b 0 n (uX l)=kJ n (vD b):=by
  refine vV fun i=>?_;unfold nB;rw[List.getElem?_mapIdx,List.getElem?_replicate];have hl:=kR l;cases hc:(uX l)[i]? with
  |none=>
   have :=List.getElem?_eq_none_iff.1 hc;rw[if_neg qJ];rfl
  |some c=>
   have :=(jE.1 hc).1;rw[if_pos qJ];simp only[Option.map_some,Option.some.injEq];rw[if_pos qJ]
 unfold pG;rw[e];exact lC (fun c hc=>by rw[(List.mem_replicate.1 hc).2];rfl)
def dV(C n:Nat):List Cl:=kJ n eCl++kJ (C-n) (vD ⟨0,0⟩)
theorem Jm(C n:Nat):∀c∈dV C n,c.half=0:=fun c hc=>by
 rcases kL.1 hc with h|h<;>(rw[(List.mem_replicate.1 h).2];rfl)
theorem U7{C n:Nat}(h:n≤C):(dV C n).length=C:=by unfold dV;simp;omega
theorem U6{C n:Nat}(h:n<C):(dV C n).set n eCl=dV C (n+1):=by
 unfold dV;exact rB (n:=C) h
theorem putL_e{C n:Nat}(h:n<C):dS (dV C n) n 69 zY=dV C (n+1):=by
 unfold dS;simp only[];rw[lC (Jm C n),if_pos ⟨by decide,by omega,by rw[U7 qJ];omega⟩,uJ];show uX ((dV C n).set n eCl)=_;rw[U6 h];exact lC (Jm C (n+1))
theorem KK{α:Type}{l:List α}{k:Nat}{x:α}(f:α→α)(h:l[k]? =some x):l.modify k f=l.set k (f x):=by
 refine vV fun i=>?_;rw[List.getElem?_modify,vP]
 by_cases hi:k=i
 · subst hi;rw[h,if_pos rfl,if_pos (jE.1 h).1];simp
 · rw[if_neg hi];cases l[i]? <;>simp[hi]
theorem aU{g:Pg}{y:Nat}{r:Ro}(F:List Cl→List Cl)(h:g.scr[y]? =some r):pW g y F={g with scr:=g.scr.set y {r with cs:=F r.cs}}:=by
 unfold pW;have :=(jE.1 h).1;rw[if_pos (by simp[inP];exact this),uJ,KK _ h]
theorem tC{g:Pg}{y:Nat}{r:Ro}(b:Bool)(h:g.scr[y]? =some r):vL g y b={g with scr:=g.scr.set y {r with cont:=b}}:=by
 unfold vL;have :=(jE.1 h).1;rw[if_pos (by simp[inP];exact this),uJ,KK _ h]
theorem Yz{g:Pg}{y:Nat}(b:Bool)(h:g.scr.length≤y):vL g y b=g:=by
 unfold vL;rw[if_neg (by simp[inP];exact h)]
section
variable {rows cols room:Nat}{s:Sc}
def cC(s:Sc)(k:Nat):List Ro:=kJ k (sH s.pg.cols)++(if k=0 then s.pg.scr else(s.pg.scr.drop k).modify 0 (fun r=>{r with cont:=false}))
theorem ZJ(s:Sc){y:Nat}{c:Bool}(C:Nat)(h:s.pg.scr[y]? =some ⟨dV C 0,c⟩):∀n,n≤C→iO s y n={s with pg:={s.pg with scr:=s.pg.scr.set y ⟨dV C n,c⟩}}
 |0,_=>by
  have e:s.pg.scr.set y ⟨dV C 0,c⟩=s.pg.scr:=by
   obtain⟨h1,h2⟩:=jE.1 h;rw[←h2];exact List.set_getElem_self ..
  rw[e];rfl
 |n+1,hn=>by
  have hy:=(jE.1 h).1;have ih:=ZJ s C h n qJ;show({iO s y n with pg:=pW (iO s y n).pg y (fun l=>dS l n 69 zY)}:Sc)=_;rw[ih,aU (r:=⟨dV C n,c⟩) _ (by rw[vP,if_pos rfl,if_pos hy])];rw[List.set_set];simp only[];rw[putL_e qJ]
theorem iF(s:Sc)(k i:Nat):(cC s k)[i]? =if i<k then some (sH s.pg.cols)else if i=k∧0<k then s.pg.scr[i]?.map (fun r=>{r with cont:=false})else s.pg.scr[i]? :=by
 unfold cC
 by_cases hi:i<k
 · rw[if_pos hi,vE (by simpa using hi),List.getElem?_replicate,if_pos hi]
 · rw[if_neg hi,vU (by simpa using hi),kS]
   by_cases hk:k=0
   · subst hk;rw[if_pos rfl,if_neg qJ,Nat.sub_zero]
   · rw[if_neg hk,List.getElem?_modify,gV,show k+(i-k)=i by omega]
     by_cases he:i=k
     · have h0:0=i-k:=by omega
       rw[if_pos ⟨he,by omega⟩];cases s.pg.scr[i]? with
       |none=>rfl
       |some x=>simp[←h0]
     · have h0:¬0=i-k:=by omega
       rw[if_neg qJ];cases s.pg.scr[i]? with
       |none=>rfl
       |some x=>simp[h0]
theorem xT(h:ScN rows cols room s)(hc:2≤cols):∀k,k≤rows→zL s k={s with pg:={s.pg with scr:=cC s k}}
 |0,_=>rfl
 |k+1,hk=>by
  have ih:=xT h hc k qJ;have hR:=h.pg.hrows;have hC:=h.pg.hcols;obtain⟨r0,hr0⟩:∃r,s.pg.scr[k]? =some r:=⟨s.pg.scr[k]'qJ,jD _⟩;have hr0l:r0.cs.length=cols:=h.pg.wide r0 (List.mem_append_right _ (uW hr0));obtain⟨r,hr,hrl⟩:∃r,(cC s k)[k]? =some r∧r.cs.length=cols:=by
   rw[iF,if_neg qJ,hr0]
   split
   · exact⟨_,rfl,hr0l⟩
   · exact⟨_,rfl,hr0l⟩
  have hlen:(cC s k).length=rows:=by unfold cC;split<;>simp <;>omega
  show iO {zL s k with pg:=yU (zL s k).pg k 0 (colsS s) ⟨0,0⟩} k s.pg.cols=_;rw[ih,hC,h.colsS];obtain⟨r1,hr1,e1⟩:∃S,(S[k]? =some ⟨dV cols 0,false⟩∧∀i,(S.set k (sH cols))[i]? =(cC s (k+1))[i]?)∧yU {s.pg with scr:=cC s k} k 0 cols ⟨0,0⟩={s.pg with scr:=S}:=by
   have e1:inP {s.pg with scr:=cC s k} k=true:=by simp[inP];omega
   have eW:pG r.cs 0 cols ⟨0,0⟩=dV cols 0:=by rw[YI hrl];unfold dV;simp
   by_cases hn:k+1<rows
   · obtain⟨r2,hr2⟩:∃r,s.pg.scr[k+1]? =some r:=⟨s.pg.scr[k+1]'qJ,jD _⟩;have hr2':((cC s k).set k {r with cs:=dV cols 0})[k+1]? =some r2:=by
      rw[vP,if_neg qJ,iF,if_neg qJ,if_neg qJ,hr2]
     refine⟨(((cC s k).set k {r with cs:=dV cols 0}).set (k+1) {r2 with cont:=false}).set k ⟨dV cols 0,false⟩,⟨by rw[vP,if_pos rfl,if_pos qW],fun i=>?_⟩,?_⟩
     · rw[List.set_set,vP,vP,vP,iF,iF,uG,uG,hlen,hC]
       by_cases h1:i<k
       · rw[if_neg qJ,if_neg qJ,if_neg qJ,if_pos h1,if_pos qJ]
       by_cases h2:i=k
       · subst h2;rw[if_pos rfl,if_pos qJ,if_pos qJ]
       by_cases h3:i=k+1
       · subst h3;rw[if_neg qJ,if_pos rfl,if_pos qJ,if_neg qJ,if_pos ⟨rfl,by omega⟩,hr2];rfl
       · rw[if_neg qJ,if_neg qJ,if_neg qJ,if_neg qJ,if_neg qJ,if_neg qJ,if_neg qJ]
     · unfold yU;rw[if_pos e1];simp only[];rw[aU (r:=r) _ hr,if_pos (by rw[hC];omega),if_pos (Int.le_refl _),eW];show vL (vL {s.pg with scr:=(cC s k).set k {r with cs:=dV cols 0}} ((k:Int)+1) false) k false=_;have e2:vL {s.pg with scr:=(cC s k).set k {r with cs:=dV cols 0}} ((k:Int)+1) false={s.pg with scr:=((cC s k).set k {r with cs:=dV cols 0}).set (k+1) {r2 with cont:=false}}:=tC (g:={s.pg with scr:=(cC s k).set k {r with cs:=dV cols 0}}) (y:=k+1) false hr2';rw[e2];exact tC (g:={s.pg with scr:=((cC s k).set k {r with cs:=dV cols 0}).set (k+1) {r2 with cont:=false}}) (y:=k) (r:={r with cs:=dV cols 0}) false (by simp only[];rw[vP,if_neg qJ,vP,if_pos rfl,if_pos qJ])
   · refine⟨((cC s k).set k {r with cs:=dV cols 0}).set k ⟨dV cols 0,false⟩,⟨by rw[vP,if_pos rfl,if_pos qW],fun i=>?_⟩,?_⟩
     · rw[List.set_set,List.set_set,vP,iF,iF,hlen,hC]
       by_cases h1:i<k
       · rw[if_neg qJ,if_pos h1,if_pos qJ]
       by_cases h2:i=k
       · subst h2;rw[if_pos rfl,if_pos qJ,if_pos qJ]
       · have hz:s.pg.scr[i]? =none:=kI qJ;rw[if_neg qJ,if_neg qJ,if_neg qJ,if_neg qJ,hz]
         split<;>rfl
     · unfold yU;rw[if_pos e1];simp only[];rw[aU (r:=r) _ hr,if_pos (by rw[hC];omega),if_pos (Int.le_refl _),eW];show vL (vL {s.pg with scr:=(cC s k).set k {r with cs:=dV cols 0}} ((k:Int)+1) false) k false=_;have e2:vL {s.pg with scr:=(cC s k).set k {r with cs:=dV cols 0}} ((k:Int)+1) false={s.pg with scr:=(cC s k).set k {r with cs:=dV cols 0}}:=Yz (g:={s.pg with scr:=(cC s k).set k {r with cs:=dV cols 0}}) (y:=k+1) false (by show((cC s k).set k _).length≤_;rw[uG];omega);rw[e2];exact tC (g:={s.pg with scr:=(cC s k).set k {r with cs:=dV cols 0}}) (y:=k) (r:={r with cs:=dV cols 0}) false (by simp only[];rw[vP,if_pos rfl,if_pos qJ])
  rw[e1,ZJ _ cols hr1.1 cols (jS _)];simp only[];have eK:(⟨dV cols cols,false⟩:Ro)=sH cols:=by unfold dV sH;simp
  rw[eK]
  congr 2
  exact vV hr1.2
theorem qQ6(h:ScN rows cols room s)(hc:2≤cols)(h0:0<rows):eE s={s with top:=0,bot:=rows-1,y:=0,x:=0,pg:={s.pg with scr:=kJ rows (sH cols)}}:=by
 have hW:ScN rows cols room (dK s):=by
  have h1:=h.y1;refine⟨h.pg,h.st,h.y0,h.y1,h.x0,h.x1,Int.le_refl _,?_,?_,.inr ⟨rfl,?_⟩⟩
  · show(0:Int)≤rowsS s-1;rw[h.rowsS];omega
  · show rowsS s-1<rows;rw[h.rowsS];omega
  · show rowsS s-1=rows-1;rw[h.rowsS]
 unfold eE;rw[h.pg.hrows,xT hW hc rows (jS _)];have e:cC (dK s) rows=kJ rows (sH cols):=by
  unfold cC;show kJ rows (sH s.pg.cols)++(if rows=0 then s.pg.scr else(s.pg.scr.drop rows).modify 0 _)=_;rw[if_neg qJ,vR (by rw[h.pg.hrows];exact jS _),h.pg.hcols];simp
 rw[e];unfold fM dK;simp only[h.rowsS];unfold Go.Proofs.YtjcpdcncfjkejaaGreatDoor.rowsS Go.Proofs.YtjcpdcncfjkejaaGreatDoor.colsS uZ;simp only[kS,h.pg.hcols]
 congr 1
 · omega
 · omega
end
section
variable {base:Nat}{w:World}{v:Sv}{s:Sc}{rows cols room:Nat}
theorem xI(s:Sc)(k:Int):(vX s k).y=s.y:=by
 unfold vX
 split
 · rfl
 split
 · rfl
 split
 · rfl
 · rfl
set_option maxHeartbeats 3200000 in
theorem QV(h:ScO base w v s)(hs:ScN rows cols room s)(hr:rows≤1000)(hc:2≤cols)(hc3:cols≤1000)(ht:s.pg.told.length≤900000)(k:Int):Calls jG 58 #[.pointer (some ⟨v.S,0,none⟩),.int .i64 k] w (gQ base w v (pV s k)):=by
 have hy0:=hs.y0;have hy1:=hs.y1;have hrows:=hs.pg.hrows;have HEL:=Hd (fun k=>oK h hs hr hc hc3 k);have HSL:=Hd (fun k=>(hs.eraseLine k).1);have HO:=Hd h;obtain⟨Y,hY⟩:∃Y:Nat,s.y=(Y:Int):=⟨s.y.toNat,by omega⟩;have hwy:jP.wrap ((Y:Int)+1)=(Y:Int)+1:=jH _ qJ;have HYY:=Hd (kM hY hrows);have hY1:Y+1≤rows:=by omega
 unfold pV rowsS;rw[hrows,hY]
 by_cases h0:k=0
 · subst h0;rw[if_pos rfl,show((rows:Int)-((Y:Int)+1)).toNat=rows-(Y+1) by omega];clear h hs hy0 hy1 hrows hY ht
   go_enter Tryz.func58,Tryz.ntmps58
   go_upto_region 4 with(go_at_call 56;refine(HEL.o 0).mono ?_;rintro e w2 ⟨rfl,hs⟩;have HS2:=Hd hs;clear hs)
   obtain⟨v2,e1,e2,e3,hO2,hm2,hx2⟩:=HS2.o;have HE2:=Hd (show v2.S=v.S∧v2.T=v.T∧v2.q.P=v.q.P∧Mod (scX v) w w2∧∀b∈scX v2,b∈scX v∨w.heap.size≤b from⟨e1,e2,e3,hm2,hx2⟩);obtain⟨c16,-⟩:=at_ hO2.blk 16 (.int .i64 (Y:Int)) (by show some (Value.int .i64 (vX s 0).y)=_;rw[xI,HYY.o.1]);have HRW:Hid (∀w',Below w2.heap.size w2 w'→Calls jG 110 #[.pointer (some ⟨v.S,0,none⟩)] w' fun e w3=>e=.returned (.int .i64 rows)∧w'=w3):=Hd (fun w' hb=>by rw[←e1,←(HSL.o 0).pg.hrows];exact cF (hO2.below hb));have HAL:Hid (∀w',Below w2.heap.size w2 w'→Calls jG 127 #[.pointer (some ⟨v.S,0,none⟩),.int .i64 ((Y:Int)+1),.int .i64 rows] w' (gQ base w' v2 (dE (vX s 0) ((Y:Int)+1) (rows-(Y+1))))):=Hd (fun w' hb=>by rw[←e1];exact sE (hO2.below hb) (Y+1) rows hY1 hr);rw[e1]at c16;clear hO2 hm2 hx2 e1 e2 e3 HS2;refine zU1 8 c16 ?_
   repeat first|refine zS ?_|refine zC0 (zE HRW.o) ?_|refine zV ?_
   refine kU (fun w' hS=>?_);have HBT:=Hd hS.1;clear hS c16
   go_wp2_with(go_at_call 127;refine(HAL.o _ HBT.o).mono ?_;rintro e w9 ⟨rfl,hp⟩;have HP9:=Hd hp;clear hp)
   go_end0
   exact⟨rfl,uR.trans HE2.o (uR.pre HBT.o HP9.o)⟩
 rw[if_neg h0];have h0b:(k==0)=false:=by simpa using h0
 by_cases h1:k=1
 · subst h1;rw[if_pos rfl,uJ];clear h hs hy0 hy1 hrows hY ht
   go_enter Tryz.func58,Tryz.ntmps58
   go_upto_region 7 with(go_at_call 56;refine(HEL.o 1).mono ?_;rintro e w2 ⟨rfl,hs⟩;have HS2:=Hd hs;clear hs)
   obtain⟨v2,e1,e2,e3,hO2,hm2,hx2⟩:=HS2.o;have HE2:=Hd (show v2.S=v.S∧v2.T=v.T∧v2.q.P=v.q.P∧Mod (scX v) w w2∧∀b∈scX v2,b∈scX v∨w.heap.size≤b from⟨e1,e2,e3,hm2,hx2⟩);obtain⟨c16,-⟩:=at_ hO2.blk 16 (.int .i64 (Y:Int)) (by show some (Value.int .i64 (vX s 1).y)=_;rw[xI,HYY.o.1]);have HAL:Hid (Calls jG 127 #[.pointer (some ⟨v.S,0,none⟩),.int .i64 0,.int .i64 (Y:Int)] w2 (gQ base w2 v2 (dE (vX s 1) 0 Y))):=Hd (by rw[←e1];exact sE hO2 0 Y (kT _) qJ);rw[e1]at c16;clear hO2 hm2 hx2 e1 e2 e3 HS2
   go_wp2_with(go_at_call 127;refine HAL.o.mono ?_;rintro e w9 ⟨rfl,hp⟩;have HP9:=Hd hp;clear hp)
   go_end0
   exact⟨rfl,uR.trans HE2.o HP9.o⟩
 rw[if_neg h1];have h1b:(k==1)=false:=by simpa using h1
 by_cases h2:k=2
 · subst h2;rw[if_pos rfl,uJ];have HRW:=Hd (cF h);rw[hrows]at HRW;have HAL:Hid (Calls jG 127 #[.pointer (some ⟨v.S,0,none⟩),.int .i64 0,.int .i64 (rows:Int)] w (gQ base w v (dE s 0 rows))):=Hd (sE h 0 rows (kT _) hr);clear h hs hy0 hy1 hrows hY ht
   go_enter Tryz.func58,Tryz.ntmps58
   go_wp2_with(first
    |(go_at_call 110;refine HRW.o.mono ?_;rintro e w1 ⟨rfl,rfl⟩)
    |(go_at_call 127;refine HAL.o.mono ?_;rintro e w9 ⟨rfl,hp⟩;have HP9:=Hd hp;clear hp))
   go_end0
   exact⟨rfl,HP9.o⟩
 rw[if_neg h2];have h2b:(k==2)=false:=by simpa using h2
 by_cases h3:k=3
 · subst h3;rw[if_pos rfl];have HFG:=Hd (ZP h.page ht);obtain⟨c14,-⟩:=at_ h.blk 14 (.pointer (some ⟨v.q.P,0,none⟩)) rfl;clear h hs hy0 hy1 hrows hY ht
   go_enter Tryz.func58,Tryz.ntmps58
   go_wp2_with(go_at_call 129;refine HFG.o.mono ?_;rintro e w9 ⟨rfl,hp⟩;have HP9:=Hd hp;clear hp)
   go_end0
   refine⟨rfl,?_⟩;rw[←HYY.o.1];exact HO.o.paged HP9.o
 rw[if_neg h3];have h3b:(k==3)=false:=by simpa using h3
 go_enter Tryz.func58,Tryz.ntmps58
 go_wp2
 go_end0
 exact⟨rfl,HO.o.res⟩
set_option maxHeartbeats 1600000 in
theorem Vz(h:ScO base w v s)(hs:ScN rows cols room s)(hr:rows≤1000)(hc:2≤cols)(hc3:cols≤1000)(ht:s.pg.told.length+2*(rows*cols)≤900000)(n:Int):Calls jG 37 #[.pointer (some ⟨v.S,0,none⟩),.int .i64 n] w (gQ base w v (bZ s n)):=by
 have HR:=Hd (cF h);have HC:=Hd (bK h);have HN:=Hd (fun a b c w=>mQ a b c w);rw[hs.pg.hrows]at HR;rw[hs.pg.hcols]at HC;have HO:=Hd h;have HS0:=Hd hs;obtain⟨c37,-⟩:=at_ h.blk 37 (.int .i32 s.last) rfl;have hrc:(rows:Int)*(cols:Int)=((rows*cols:Nat):Int):=by simp
 have hrc2:rows*cols≤1000000:=vY (Nat.mul_le_mul hr hc3) qZ;have h1:1≤rows*cols:=Nat.mul_pos (by have :=hs.y0;have :=hs.y1;omega) qJ;unfold bZ rowsS colsS;rw[hs.pg.hrows,hs.pg.hcols,hrc];generalize hM:rows*cols=M at *;have hwM:jP.wrap (M:Int)=(M:Int):=jH _ qJ;have hnn:=zO (n:=n) (lo:=1) (hi:=(M:Int)) qJ;obtain⟨N,hN⟩:∃N:Nat,uZ n 1 (M:Int)=(N:Int):=⟨(uZ n 1 (M:Int)).toNat,by omega⟩;have hNM:N≤M:=by omega
 rw[hN,uJ];have HNN:=Hd hN;clear h hs hM hnn
 by_cases hl:s.last=0
 · rw[if_pos hl];rw[hl]at c37
   go_enter Tryz.func37,Tryz.ntmps37
   go_wp2
   go_end0
   exact⟨rfl,HO.o.res⟩
 · rw[if_neg hl];have hlb:(s.last==0)=false:=by simpa using hl
   go_enter Tryz.func37,Tryz.ntmps37
   go_wp2_with(first
    |(go_at_call 110;refine HR.o.mono ?_;rintro e w1 ⟨rfl,rfl⟩)
    |(go_at_call 111;refine HC.o.mono ?_;rintro e w1 ⟨rfl,rfl⟩)
    |(go_at_call 109;refine(HN.o _ _ _ _).mono ?_;rintro e w1 ⟨rfl,rfl⟩;rw[HNN.o]))
   clear HR HC HN hrc hN c37
   go_loopw [20] (fun s20 wr=>∃i:Nat,s20=.int .i64 i∧i≤N∧uR base w v (eA (fun t=>pH t t.last) i s) wr) (fun s20 _=>N-(intOf s20).toNat)
   case atStart=>exact⟨0,rfl,kT _,HO.o.res⟩
   case round=>
    obtain⟨i,rfl,hi,hs⟩:=hrel;have HS:=Hd hs;clear hs
    by_cases hlt:i<N
    rotate_left
    · obtain rfl:i=N:=by omega
      have hltI:¬(i:Int)<(i:Int):=by omega
      go_wp2
      go_end0
      exact⟨rfl,HS.o⟩
    · have hltI:(i:Int)<(N:Int):=by omega
      obtain⟨i1,i2⟩:=HS0.o.iter hc i;obtain⟨v1,e1,e2,e3,hO1,hm1,hx1⟩:=HS.o;have HE1:=Hd (show v1.S=v.S∧v1.T=v.T∧v1.q.P=v.q.P∧Mod (scX v) w wr∧∀b∈scX v1,b∈scX v∨w.heap.size≤b from⟨e1,e2,e3,hm1,hx1⟩);have HIT:=Hd (show eA (fun t=>pH t t.last) (i+1) s=pH (eA (fun t=>pH t t.last) i s) (eA (fun t=>pH t t.last) i s).last from rfl);generalize eA (fun t=>pH t t.last) i s=t at i1 i2 hO1 HIT;obtain⟨d37,-⟩:=at_ hO1.blk 37 (.int .i32 t.last) rfl;have HWR:=Hd (QQ hO1 i1.sci qJ t.last);rw[e1]at d37 HWR;clear e1 e2 e3 hm1 hx1 hO1 i1 i2 HS
      go_wp2_with(go_at_call 101;refine HWR.o.mono ?_;rintro e w9 ⟨rfl,hp⟩;have HP9:=Hd hp;clear hp)
      go_roundw
      case rel=>exact⟨i+1,by go_num,by omega,by rw[HIT.o];exact uR.trans HE1.o HP9.o⟩
      case measure=>exact zm
end
end Go.Proofs.YtjcpdcncfjkejaaGreatDoor
