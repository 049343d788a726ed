/- Joined by a tool of this claim out of smaller texts. Conditions: as stated. -/
import Derived.Test.YtaefcahblmopfaaGreatDoorDj20
import Derived.Lib.TrailingZeros
import Derived.Lib.BitFns
import Derived.Lib.AppendStr
set_option linter.unusedVariables false
set_option linter.unusedSimpArgs false
set_option maxRecDepth 100000
open Go.Lib renaming hid → Hd
open List renaming setIfInBounds_toArray → jZ, set_cons_zero → jX, set_cons_succ → jY, mem_singleton → jM, drop_succ_cons → jL, take_succ_cons → jS, drop_zero → jO, mem_cons → kJ, take_zero → kK, mem_append → kU
open Go.Proofs.Tryz renaming prog → jG
open Go.RowKit.Below renaming refl → jU
open Go.IntWalk renaming i64_in → jF
open Option renaming mem_toList → jA
open Go.IntKind renaming i64 → jE
open Nat renaming le_trans → jI
open Array renaming getElem?_eq_some_iff → kB
open Go.World renaming setCell → uN
namespace Go.Proofs.YtaefcahblmopfaaGreatDoor
open Go.RowKit
def lP(s:Sc)(P T:Nat):List Value:=
 [.int .i64 s.pen.at_.fk,.int .i64 s.pen.at_.fn,.int .i64 s.pen.at_.bk,.int .i64 s.pen.at_.bn,.int .i64 s.pen.at_.fl,
  .int .i64 s.pen.ch.g0,.int .i64 s.pen.ch.g1,.int .i64 s.pen.ch.g2,.int .i64 s.pen.ch.g3,.int .i64 s.pen.ch.use,.int .i64 s.pen.ch.once,
  .bool s.pen.put,.bool s.pen.wrap,.bool s.pen.home,
  .pointer (some ⟨P,0,none⟩),.pointer (some ⟨T,0,none⟩),.int .i64 s.y,.int .i64 s.x,.int .i64 s.top,.int .i64 s.bot,
  .int .i64 s.sp.at_.fk,.int .i64 s.sp.at_.fn,.int .i64 s.sp.at_.bk,.int .i64 s.sp.at_.bn,.int .i64 s.sp.at_.fl,
  .int .i64 s.sp.ch.g0,.int .i64 s.sp.ch.g1,.int .i64 s.sp.ch.g2,.int .i64 s.sp.ch.g3,.int .i64 s.sp.ch.use,.int .i64 s.sp.ch.once,
  .bool s.sp.put,.bool s.sp.wrap,.bool s.sp.home,.int .i64 s.sy,.int .i64 s.sx,.bool s.has,.int .i32 s.last]
structure Sv where
 S:Nat
 q:Pv
 T:Nat
 vw:Value
 ws:List Nat
structure ScO(base:Nat)(w:World)(v:Sv)(s:Sc):Prop where
 blk:w.heap[v.S]? =some (.cells (lP s v.q.P v.T).toArray 128 (0,0))
 hb:base≤v.S
 page:PgO base w v.q s.pg
 tabs:TbO base w v.T v.vw v.ws s.st
def scX(v:Sv):List Nat:=v.S::(tbX v.T v.vw++pgX v.q)
theorem PgO.types{base:Nat}{w:World}{q:Pv}{g:Pg}(h:PgO base w q g):∀b∈pgX q,∃cur ty,w.heap[b]? =some (.cells cur ty (0,0))∧(ty=175∨ty=52∨ty=94∨ty=225):=by
 intro b hb;rcases kJ.1 hb with rfl|hb
 · exact⟨_,_,h.blk,.inl rfl⟩
 rcases kU.1 hb with hb|hb
 · obtain⟨cur,hc⟩:=uR h.own (jA.1 hb);exact⟨_,_,hc,.inr (.inl rfl)⟩
 rcases kU.1 hb with hb|hb
 · obtain⟨cur,hc⟩:=uR h.told (jA.1 hb);exact⟨_,_,hc,.inr (.inr (.inl rfl))⟩
 rcases kJ.1 hb with rfl|hb
 · exact⟨_,_,h.ring.blk,.inr (.inr (.inr rfl))⟩
 · obtain⟨cur,hc⟩:=uR h.ring.own (jA.1 hb);exact⟨_,_,hc,.inr (.inl rfl)⟩
theorem PgO.not{base:Nat}{w:World}{q:Pv}{g:Pg}(h:PgO base w q g){b:Nat}{cs:Array Value}{ty:TypeId}(hb:w.heap[b]? =some (.cells cs ty (0,0)))(ht:ty≠175∧ty≠52∧ty≠94∧ty≠225):b∉pgX q:=fun hx=>by
 obtain⟨cur,t2,h1,h2⟩:=h.types b hx;rw[hb,Option.some.injEq,Obj.cells.injEq]at h1;obtain⟨-,rfl,-⟩:=h1;rcases h2 with h2|h2|h2|h2
 · exact ht.1 h2
 · exact ht.2.1 h2
 · exact ht.2.2.1 h2
 · exact ht.2.2.2 h2
theorem TbO.types{base:Nat}{w:World}{T:Nat}{vw:Value}{ws:List Nat}{st:List Bool}(h:TbO base w T vw ws st):∀b∈tbX T vw,∃cur ty,w.heap[b]? =some (.cells cur ty (0,0))∧(ty=179∨ty=206):=by
 intro b hb;rcases kJ.1 hb with rfl|hb
 · exact⟨_,_,h.blk,.inl rfl⟩
 · obtain⟨cur,hc⟩:=uR h.own (jA.1 hb);exact⟨_,_,hc,.inr rfl⟩
section
variable {base:Nat}{w:World}{v:Sv}{s:Sc}
theorem ScO.np(h:ScO base w v s):v.S∉pgX v.q:=h.page.not h.blk qZ
theorem ScO.nt(h:ScO base w v s):v.S∉tbX v.T v.vw:=fun hx=>by
 obtain⟨cur,ty,h1,h2⟩:=h.tabs.types _ hx;rw[h.blk,Option.some.injEq,Obj.cells.injEq]at h1;obtain⟨-,rfl,-⟩:=h1;rcases h2 with h2|h2<;>exact absurd h2 qZ
theorem ScO.ntp(h:ScO base w v s):∀b∈tbX v.T v.vw,b∉pgX v.q:=fun b hb=>by
 obtain⟨cur,ty,h1,h2⟩:=h.tabs.types _ hb;refine h.page.not h1 ?_;rcases h2 with rfl|rfl<;>decide
theorem ScO.lt(h:ScO base w v s):∀b∈scX v,base≤b∧b<w.heap.size:=by
 intro b hb;rcases kJ.1 hb with rfl|hb
 · exact⟨h.hb,(kB.1 h.blk).1⟩
 rcases kU.1 hb with hb|hb
 · rcases kJ.1 hb with rfl|hb
   · exact⟨h.tabs.hb,(kB.1 h.tabs.blk).1⟩
   · exact h.tabs.own.lt b (jA.1 hb)
 · exact h.page.lt b hb
theorem ScO.mod{X:List Nat}{w':World}(h:ScO base w v s)(hm:Mod X w w')(hX:yI w X)(hd:∀b∈scX v,b∉X):ScO base w' v s:=
 ⟨(hm.block v.S (kB.1 h.blk).1 (hd v.S (by simp[scX]))).trans h.blk,h.hb,h.page.mod hm hX (fun b hb=>hd b (by simp[scX,hb])),h.tabs.mod hm (fun b hb=>hd b (by simp[scX,hb]))⟩
theorem ScO.below{w':World}(h:ScO base w v s)(hb:Below w.heap.size w w'):ScO base w' v s:=h.mod (Mod.of_below (X:=[]) hb) (yI.nil w) (fun _ _ h=>by cases h)
def pU(base:Nat)(w:World)(v:Sv)(s':Sc)(w':World):Prop:=
 ∃v',v'.S=v.S∧v'.T=v.T∧v'.q.P=v.q.P∧ScO base w' v' s'∧Mod (scX v) w w'∧∀b∈scX v',b∈scX v∨w.heap.size≤b
theorem ScO.res(h:ScO base w v s):pU base w v s w:=⟨v,rfl,rfl,rfl,h,Mod.refl _ _,fun _ hb=>.inl hb⟩
theorem ScO.res_below{w':World}(h:ScO base w v s)(hb:Below w.heap.size w w'):pU base w v s w':=⟨v,rfl,rfl,rfl,h.below hb,Mod.of_below hb,fun _ hb=>.inl hb⟩
theorem pU.trans{w1 w2:World}{v1:Sv}{s2:Sc}(h1:v1.S=v.S∧v1.T=v.T∧v1.q.P=v.q.P∧Mod (scX v) w w1∧∀b∈scX v1,b∈scX v∨w.heap.size≤b)(h2:pU base w1 v1 s2 w2):pU base w v s2 w2:=by
 obtain⟨e1,e2,e3,hm,hx⟩:=h1;obtain⟨v2,a1,a2,a3,a4,a5,a6⟩:=h2;refine⟨v2,a1.trans e1,a2.trans e2,a3.trans e3,a4,hm.trans a5 hx,fun b hb=>?_⟩;rcases a6 b hb with h|h
 · exact hx b h
 · exact qXj
theorem pU.pre{w1 w2:World}{s2:Sc}(hb:Below w.heap.size w w1)(h2:pU base w1 v s2 w2):pU base w v s2 w2:=pU.trans ⟨rfl,rfl,rfl,Mod.of_below hb,fun _ hb=>.inl hb⟩ h2
theorem ScO.put{s':Sc}(h:ScO base w v s)(i:Nat)(x:Value)(he:(lP s v.q.P v.T).set i x=lP s' v.q.P v.T)(hp:s'.pg=s.pg)(ht:s'.st=s.st):ScO base (w.setCell ⟨v.S,i,none⟩ x) v s':=by
 have hM:Mod [v.S] w (w.setCell ⟨v.S,i,none⟩ x):=(Mod.refl _ _).setCell (a:=⟨v.S,i,none⟩) (.inl qV) _;refine⟨?_,h.hb,?_,?_⟩
 · rw[←he];have :=vR (o:=i) (v:=x) h.blk;rw[jZ]at this;exact this
 · rw[hp];exact qXy
 · rw[ht];exact h.tabs.mod hM (fun b hb hx=>h.nt qT)
theorem ScO.mod_put(i:Nat)(x:Value):Mod (scX v) w (w.setCell ⟨v.S,i,none⟩ x):=(Mod.refl _ _).setCell (a:=⟨v.S,i,none⟩) (.inl (by simp[scX])) _
theorem ScO.paged{g':Pg}{w':World}(h:ScO base w v s)(hp:pV base w v.q g' w'):pU base w v {s with pg:=g'} w':=by
 obtain⟨q',e1,e2,hq,hm,hx⟩:=hp;have hS:=(hm.block v.S (kB.1 h.blk).1 h.np).trans h.blk;refine⟨{v with q:=q'},rfl,rfl,e1,⟨?_,h.hb,hq,h.tabs.mod hm h.ntp⟩,hm.mono (fun b hb=>by simp[scX,hb]),fun b hb=>?_⟩
 · show w'.heap[v.S]? =some (.cells (lP {s with pg:=g'} q'.P v.T).toArray _ _);rw[e1];exact hS
 · have hb2:b∈v.S::(tbX v.T v.vw++pgX q'):=hb;rcases kJ.1 hb2 with rfl|hb2
   · exact .inl (by simp[scX])
   rcases kU.1 hb2 with hb2|hb2
   · exact .inl (by simp[scX,hb2])
   · rcases hx b hb2 with h1|h1
     · exact .inl (by simp[scX,h1])
     · exact .inr h1
theorem iX(h:ScO base w v s):Calls jG 78 #[.pointer (some ⟨v.S,0,none⟩)] w fun e w'=>e=.returned (.pointer (some ⟨v.q.P,0,none⟩))∧w=w':=by
 obtain⟨x0,-⟩:=at_ h.blk 14 (.pointer (some ⟨v.q.P,0,none⟩)) rfl;clear h
 go_enter Tryz.func78,Tryz.ntmps78
 go_wp2
 go_ret
 exact⟨rfl,rfl⟩
theorem nX(h:ScO base w v s):Calls jG 197 #[.pointer (some ⟨v.S,0,none⟩)] w fun e w'=>e=.returned (.int .i64 s.pg.cols)∧w=w':=by
 have HP:=Hd (iX h);have HC:=Hd (J9 h.page);clear h
 go_enter Tryz.func197,Tryz.ntmps197
 go_wp2_with(first
  |(go_at_call 78;refine HP.o.mono ?_;rintro e w1 ⟨rfl,rfl⟩)
  |(go_at_call 226;refine HC.o.mono ?_;rintro e w1 ⟨rfl,rfl⟩))
 go_ret
 exact⟨rfl,rfl⟩
theorem JO(h:ScO base w v s):Calls jG 152 #[.pointer (some ⟨v.S,0,none⟩)] w fun e w'=>e=.returned (.int .i64 s.pg.scr.length)∧w=w':=by
 have HP:=Hd (iX h);have HC:=Hd (tD h.page);clear h
 go_enter Tryz.func152,Tryz.ntmps152
 go_wp2_with(first
  |(go_at_call 78;refine HP.o.mono ?_;rintro e w1 ⟨rfl,rfl⟩)
  |(go_at_call 145;refine HC.o.mono ?_;rintro e w1 ⟨rfl,rfl⟩))
 go_ret
 exact⟨rfl,rfl⟩
theorem gB:(jG.info? 61).map (·.size)=some 2:=by kernel_rfl
theorem tU(h:ScO base w v s):Calls jG 279 #[.pointer (some ⟨v.S,0,none⟩)] w fun e w'=>e=.returned (.agg #[.int .i64 s.pen.at_.bk,.int .i64 s.pen.at_.bn])∧Below w.heap.size w w':=by
 obtain⟨x0,-⟩:=at_ h.blk 2 (.int .i64 s.pen.at_.bk) rfl;obtain⟨x1,-⟩:=at_ h.blk 3 (.int .i64 s.pen.at_.bn) rfl;have hl:=uE x0;clear h
 go_enter Tryz.func279,Tryz.ntmps279
 go_wp2
 exact bodyPost_ret (bW rfl _ _ w.heap.size [.int .i64 s.pen.at_.bk,.int .i64 s.pen.at_.bn] rfl (uH (jT rfl)) Tryz.underlying61 rfl gB) rfl ⟨rfl,jH (jU _ _) _⟩
theorem Ug(h:ScO base w v s):Calls jG 182 #[.pointer (some ⟨v.S,0,none⟩)] w fun e w'=>e=.returned (.int .i64 (inS s))∧Below w.heap.size w w':=by
 have HC:Hid (∀w',Below w.heap.size w w'→Calls jG 197 #[.pointer (some ⟨v.S,0,none⟩)] w' fun e w2=>e=.returned (.int .i64 s.pg.cols)∧w'=w2):=Hd (fun w' hb=>nX (h.below hb));obtain⟨x0,-⟩:=at_ h.blk 17 (.int .i64 s.x) rfl;have h2:=h.page.cols2;have h3:=h.page.cols1000;have hw:jE.wrap ((s.pg.cols:Int)-1)=(s.pg.cols:Int)-1:=jF _ qJ;unfold inS fP;clear h
 go_enter Tryz.func182,Tryz.ntmps182
 go_upto_region 1 with fail
 refine kW 8 (fun w'=>Below w.heap.size w w'∧w'.cell? ⟨v.S,17,none⟩=some (.int .i64 s.x)) qQ qQ ?_ ?_
 · exact⟨(jU _ _).drew,x0⟩
 simp only[jS,kK,jL,jO]
 repeat(
  (first
   |refine kF qK ?_
   |((refine uO 197 #[.pointer (some ⟨v.S,0,none⟩)] (.int .i64 s.pg.cols) qK ?_ (fun w' hS=>(HC.o w' hS.1).mono fun e w2 ⟨he,hb⟩=>⟨he,hb▸hS⟩) ?_;(focus(intro w2;go_simp;done))))
   |(refine kT ?_ qK ?_ ?_;rotate_left;(focus(intro w' hS;obtain⟨_,_⟩:=hS;go_simp;first|done|with_reducible rfl))))
  simp only[Act.put,jZ,jX,jY])
 refine kE (fun w' hS=>?_)
 go_wp2
 all_goals
  go_ret
  exact⟨by simp;omega,hS.1⟩
end
structure ScI(s:Sc):Prop where
 y0:0≤s.y
 y1:s.y<s.pg.scr.length
 x0:0≤s.x
 x1:s.x≤s.pg.cols
 t0:0≤s.top
 tb:s.top≤s.bot
 b1:s.bot<s.pg.scr.length
section
variable {base:Nat}{w:World}{v:Sv}{s:Sc}
def fK(base:Nat)(w:World)(v:Sv)(s':Sc)(e:Ending)(w':World):Prop:=e=.returned (.tuple #[])∧pU base w v s' w'
def ScBool(base:Nat)(w:World)(v:Sv)(r:Sc×Bool)(e:Ending)(w':World):Prop:=e=.returned (.bool r.2)∧pU base w v r.1 w'
set_option maxHeartbeats 1600000 in
theorem Wl(h:ScO base w v s)(hi:ScI s)(ht:s.pg.told.length≤900000):Calls jG 185 #[.pointer (some ⟨v.S,0,none⟩)] w (ScBool base w v (Zi s)):=by
 have hc2:=h.page.cols2;have hc3:=h.page.cols1000;have hr3:s.pg.scr.length≤1000:=by rw[←h.page.len];exact h.page.rows1000
 have HI:=Hd (Ug h);have hy0:=hi.y0;have hy1:=hi.y1;have htop:=hi.t0;obtain⟨pg,st,pen,y,x,top,bot,sp,sy,sx,has,last⟩:=s;obtain⟨xi,hxi⟩:∃xi,inS ⟨pg,st,pen,y,x,top,bot,sp,sy,sx,has,last⟩=xi:=⟨_,rfl⟩;unfold Zi Jj;rw[hxi]at HI ⊢;simp only[]at ht hc2 hc3 hr3 hy0 hy1 htop ⊢;have HO:=Hd h;have HX:=Hd (at_ h.blk 17 (.int .i64 x) rfl);clear h hxi hi
 -- behind x is brought in
 have main:∀w1,Below w.heap.size w w1→ScO base (w1.setCell ⟨v.S,17,none⟩ (.int .i64 xi)) v ⟨pg,st,pen,y,xi,top,bot,sp,sy,sx,has,last⟩∧Mod (scX v) w (w1.setCell ⟨v.S,17,none⟩ (.int .i64 xi)):=fun w1 hb=>
  ⟨(HO.o.below hb).put 17 _ rfl rfl rfl,(Mod.of_below hb).setCell (a:=⟨v.S,17,none⟩) (.inl (by simp[scX])) _⟩
 have HM:=Hd main;clear main
 by_cases hyb:y=bot
 · subst hyb;rw[if_pos rfl]
   go_enter Tryz.func185,Tryz.ntmps185
   go_upto_region 3 with(go_at_call 182;refine HI.o.mono ?_;rintro e w1 ⟨rfl,hb⟩;have HM1:=Hd (HM.o w1 hb);obtain⟨c17,f17⟩:=iH hb HX.o;clear hb)
   generalize uN _ _ _=W3 at HM1 ⊢;clear c17 f17;obtain⟨c16,-⟩:=at_ HM1.o.1.blk 16 (.int .i64 y) rfl;obtain⟨c19,-⟩:=at_ HM1.o.1.blk 19 (.int .i64 y) rfl;refine kW 9 (fun w'=>Below W3.heap.size W3 w'∧w'.cell? ⟨v.S,16,none⟩=some (.int .i64 y)∧w'.cell? ⟨v.S,19,none⟩=some (.int .i64 y)) qQ qQ ?_ ?_
   · exact⟨(jU _ _).drew,c16,c19⟩
   simp only[jS,kK,jL,jO]
   repeat(
    (first
     |refine kF qK ?_
     |(refine kT ?_ qK ?_ ?_;rotate_left;(focus(intro w' hS;obtain⟨_,_,_⟩:=hS;go_simp;first|done|with_reducible rfl))))
    simp only[Act.put,jZ,jX,jY])
   refine kE (fun w' hS=>?_);have HB4:=Hd hS.1;clear hS c16 c19
   rename World=>W4
   go_upto_region 4 with fail
   have hO4:=HM1.o.1.below HB4.o;have HBK:Hid (∀w',Below W4.heap.size W4 w'→Calls jG 279 #[.pointer (some ⟨v.S,0,none⟩)] w' fun e w2=>e=.returned (.agg #[.int .i64 pen.at_.bk,.int .i64 pen.at_.bn])∧Below w'.heap.size w' w2):=Hd (fun w' hb=>tU (hO4.below hb));have HUP:Hid (∀w',Below W4.heap.size W4 w'→Calls jG 285 #[.pointer (some ⟨v.q.P,0,none⟩),.int .i64 top,.int .i64 y,.int .i64 1,.agg #[.int .i64 pen.at_.bk,.int .i64 pen.at_.bn]] w' (pJ base w' v.q (aU pg top y 1 (fun t b g=>upP g t b ⟨pen.at_.bk,pen.at_.bn⟩)))):=
    Hd (fun w' hb=>pUp_any (hO4.below hb).page top y 1 ⟨pen.at_.bk,pen.at_.bn⟩ ht qZ qZ)
   obtain⟨c14,-⟩:=at_ hO4.blk 14 (.pointer (some ⟨v.q.P,0,none⟩)) rfl;obtain⟨c18,-⟩:=at_ hO4.blk 18 (.int .i64 top) rfl;obtain⟨c19,-⟩:=at_ hO4.blk 19 (.int .i64 y) rfl;have HO4:=Hd hO4;clear hO4;refine kW 14 (fun w'=>Below W4.heap.size W4 w'∧w'.cell? ⟨v.S,14,none⟩=some (.pointer (some ⟨v.q.P,0,none⟩))∧w'.cell? ⟨v.S,18,none⟩=some (.int .i64 top)∧w'.cell? ⟨v.S,19,none⟩=some (.int .i64 y)) qQ qQ ?_ ?_
   · exact⟨(jU _ _).drew,c14,c18,c19⟩
   simp only[jS,kK,jL,jO]
   repeat(
    (first
     |refine kF qK ?_
     |((refine uO 279 #[.pointer (some ⟨v.S,0,none⟩)] (.agg #[.int .i64 pen.at_.bk,.int .i64 pen.at_.bn]) qK ?_ (fun w' hS=>(HBK.o w' hS.1).mono fun e w2 ⟨he,hb⟩=>⟨he,jW hS.1 hb,kZ hb hS.2.1,kZ hb hS.2.2.1,kZ hb hS.2.2.2⟩) ?_;(focus(intro w2;go_simp;done))))
     |(refine kT ?_ qK ?_ ?_;rotate_left;(focus(intro w' hS;obtain⟨_,_,_,_⟩:=hS;go_simp;first|done|with_reducible rfl))))
    simp only[Act.put,jZ,jX,jY])
   refine kE (fun w' hS=>?_);have HB5:=Hd hS.1;clear hS c14 c18 c19
   rename World=>W5
   go_wp2_with(go_at_call 285;refine(HUP.o _ HB5.o).mono ?_;rintro e w6 ⟨rfl,hp⟩;have HP6:=Hd hp;clear hp)
   go_ret
   exact⟨rfl,pU.trans ⟨rfl,rfl,rfl,((HM1.o.2.then_below HB4.o).then_below HB5.o),fun b hb=>.inl hb⟩ ((HO4.o.below HB5.o).paged HP6.o)⟩
 · rw[if_neg hyb];have hyb2:(y==bot)=false:=by simpa using hyb
   by_cases hyr:y<(pg.scr.length:Int)-1
   all_goals
    have hwr:jE.wrap ((pg.scr.length:Int)-1)=(pg.scr.length:Int)-1:=jF _ qJ
    go_enter Tryz.func185,Tryz.ntmps185
    go_upto_region 3 with(go_at_call 182;refine HI.o.mono ?_;rintro e w1 ⟨rfl,hb⟩;have HM1:=Hd (HM.o w1 hb);obtain⟨c17,f17⟩:=iH hb HX.o;clear hb)
    generalize uN _ _ _=W3 at HM1 ⊢;clear c17 f17;obtain⟨c16,-⟩:=at_ HM1.o.1.blk 16 (.int .i64 y) rfl;obtain⟨c19,-⟩:=at_ HM1.o.1.blk 19 (.int .i64 bot) rfl;refine kW 9 (fun w'=>Below W3.heap.size W3 w'∧w'.cell? ⟨v.S,16,none⟩=some (.int .i64 y)∧w'.cell? ⟨v.S,19,none⟩=some (.int .i64 bot)) qQ qQ ?_ ?_
    · exact⟨(jU _ _).drew,c16,c19⟩
    simp only[jS,kK,jL,jO]
    repeat(
     (first
      |refine kF qK ?_
      |(refine kT ?_ qK ?_ ?_;rotate_left;(focus(intro w' hS;obtain⟨_,_,_⟩:=hS;go_simp;first|done|with_reducible rfl))))
     simp only[Act.put,jZ,jX,jY])
    refine kE (fun w' hS=>?_);have HB4:=Hd hS.1;clear hS c16 c19
    rename World=>W4
    go_upto_region 5 with fail
    have hO4:=HM1.o.1.below HB4.o;have HRW:Hid (∀w',Below W4.heap.size W4 w'→Calls jG 152 #[.pointer (some ⟨v.S,0,none⟩)] w' fun e w2=>e=.returned (.int .i64 pg.scr.length)∧w'=w2):=Hd (fun w' hb=>JO (hO4.below hb));obtain⟨c16,-⟩:=at_ hO4.blk 16 (.int .i64 y) rfl;have HO4:=Hd hO4;clear hO4;refine kW 8 (fun w'=>Below W4.heap.size W4 w'∧w'.cell? ⟨v.S,16,none⟩=some (.int .i64 y)) qQ qQ ?_ ?_
    · exact⟨(jU _ _).drew,c16⟩
    simp only[jS,kK,jL,jO]
    repeat(
     (first
      |refine kF qK ?_
      |((refine uO 152 #[.pointer (some ⟨v.S,0,none⟩)] (.int .i64 pg.scr.length) qK ?_ (fun w' hS=>(HRW.o w' hS.1).mono fun e w2 ⟨he,hb⟩=>⟨he,hb▸hS⟩) ?_;(focus(intro w2;go_simp;done))))
      |(refine kT ?_ qK ?_ ?_;rotate_left;(focus(intro w' hS;obtain⟨_,_⟩:=hS;go_simp;first|done|with_reducible rfl))))
     simp only[Act.put,jZ,jX,jY])
    refine kE (fun w' hS=>?_);have HB5:=Hd hS.1;clear hS c16
    rename World=>W5
    obtain⟨c16,f16⟩:=at_ (HO4.o.below HB5.o).blk 16 (.int .i64 y) rfl;have hwy:jE.wrap (y+1)=y+1:=jF _ qJ
   · rw[if_pos hyr]
     go_wp2
     go_ret
     exact⟨rfl,pU.trans ⟨rfl,rfl,rfl,((HM1.o.2.then_below HB4.o).then_below HB5.o),fun b hb=>.inl hb⟩ ⟨v,rfl,rfl,rfl,(HO4.o.below HB5.o).put 16 _ rfl rfl rfl,ScO.mod_put 16 _,fun b hb=>.inl hb⟩⟩
   · rw[if_neg qJ]
     go_wp2
     go_ret
     exact⟨rfl,pU.trans ⟨rfl,rfl,rfl,((HM1.o.2.then_below HB4.o).then_below HB5.o),fun b hb=>.inl hb⟩ (HO4.o.below HB5.o).res⟩
theorem Ws(g:Pg)(y:Int)(F:List Cl→List Cl):(zC g y F).told=g.told∧(zC g y F).room=g.room∧(zC g y F).hist=g.hist∧(zC g y F).gone=g.gone:=by
 unfold zC
 split<;>exact⟨rfl,rfl,rfl,rfl⟩
theorem Jz(s:Sc):(lF s).pg.scr.length=s.pg.scr.length∧(lF s).pg.cols=s.pg.cols∧(lF s).pg.told=s.pg.told∧(lF s).y=s.y∧(lF s).x=s.x∧(lF s).top=s.top∧(lF s).bot=s.bot:=by
 unfold lF
 split
 · exact⟨(aT _ _).1,(aT _ _).2,(Ws _ _ _).1,rfl,rfl,rfl,rfl⟩
 · exact⟨rfl,rfl,rfl,rfl,rfl,rfl,rfl⟩
theorem ScI.pad(h:ScI s):ScI (lF s):=by
 obtain⟨a1,a2,a3,a4,a5,a6,a7⟩:=Jz s;refine⟨?_,?_,?_,?_,?_,?_,?_⟩
 · rw[a4];exact h.y0
 · rw[a4,a1];exact h.y1
 · rw[a5];exact h.x0
 · rw[a5,a2];exact h.x1
 · rw[a6];exact h.t0
 · rw[a6,a7];exact h.tb
 · rw[a7,a1];exact h.b1
set_option maxHeartbeats 3200000 in
theorem Wf(h:ScO base w v s)(hi:ScI s)(ht:s.pg.told.length≤900000)(n:Int)(hn1:1≤n)(hn2:n≤2):Calls jG 277 #[.pointer (some ⟨v.S,0,none⟩),.int .i64 n] w (fK base w v (mZ s n)):=by
 have hc2:=h.page.cols2;have hc3:=h.page.cols1000;have hx0:=hi.x0;have hx1:=hi.x1;have HC:Hid (∀w',Below w.heap.size w w'→Calls jG 197 #[.pointer (some ⟨v.S,0,none⟩)] w' fun e w2=>e=.returned (.int .i64 s.pg.cols)∧w'=w2):=Hd (fun w' hb=>nX (h.below hb));have hwx:jE.wrap (s.x+n)=s.x+n:=jF _ qJ;have hwc:jE.wrap ((s.pg.cols:Int)-n)=(s.pg.cols:Int)-n:=jF _ qJ;have HO:=Hd h;have HI:=Hd hi;obtain⟨c17,-⟩:=at_ h.blk 17 (.int .i64 s.x) rfl;have hroom:mZ s n=if s.x+n≤s.pg.cols then s else if s.pen.wrap=false then{s with x:=(s.pg.cols:Int)-n}else onS (Zi (lF s)):=rfl;rw[hroom];clear hroom h hi
 by_cases hA:s.x+n≤s.pg.cols
 · rw[if_pos hA]
   go_enter Tryz.func277,Tryz.ntmps277
   go_upto_region 0 with fail
   refine kW 8 (fun w'=>Below w.heap.size w w'∧w'.cell? ⟨v.S,17,none⟩=some (.int .i64 s.x)) qQ qQ ?_ ?_
   · exact⟨(jU _ _).drew,c17⟩
   simp only[jS,kK,jL,jO]
   repeat(
    (first
     |refine kF qK ?_
     |((refine uO 197 #[.pointer (some ⟨v.S,0,none⟩)] (.int .i64 s.pg.cols) qK ?_ (fun w' hS=>(HC.o w' hS.1).mono fun e w2 ⟨he,hb⟩=>⟨he,hb▸hS⟩) ?_;(focus(intro w2;go_simp;done))))
     |(refine kT ?_ qK ?_ ?_;rotate_left;(focus(intro w' hS;obtain⟨_,_⟩:=hS;go_simp;first|done|with_reducible rfl))))
    simp only[Act.put,jZ,jX,jY])
   refine kE (fun w' hS=>?_)
   go_wp2
   go_end0
   exact⟨rfl,HO.o.res_below hS.1⟩
 · rw[if_neg hA];have hA2:¬s.x+n≤(s.pg.cols:Int):=hA;cases hwrap:s.pen.wrap with
   |false=>
    rw[if_pos rfl]
    go_enter Tryz.func277,Tryz.ntmps277
    go_upto_region 0 with fail
    refine kW 8 (fun w'=>Below w.heap.size w w'∧w'.cell? ⟨v.S,17,none⟩=some (.int .i64 s.x)) qQ qQ ?_ ?_
    · exact⟨(jU _ _).drew,c17⟩
    simp only[jS,kK,jL,jO]
    repeat(
     (first
      |refine kF qK ?_
      |((refine uO 197 #[.pointer (some ⟨v.S,0,none⟩)] (.int .i64 s.pg.cols) qK ?_ (fun w' hS=>(HC.o w' hS.1).mono fun e w2 ⟨he,hb⟩=>⟨he,hb▸hS⟩) ?_;(focus(intro w2;go_simp;done))))
      |(refine kT ?_ qK ?_ ?_;rotate_left;(focus(intro w' hS;obtain⟨_,_⟩:=hS;go_simp;first|done|with_reducible rfl))))
     simp only[Act.put,jZ,jX,jY])
    refine kE (fun w' hS=>?_);have HB1:=Hd hS.1;clear hS c17
    rename World=>W1
    obtain⟨c12,-⟩:=at_ (HO.o.below HB1.o).blk 12 (.bool s.pen.wrap) rfl;rw[hwrap]at c12;obtain⟨c17,f17⟩:=at_ (HO.o.below HB1.o).blk 17 (.int .i64 s.x) rfl
    go_wp2_with(go_at_call 197;refine(HC.o _ HB1.o).mono ?_;rintro e w2 ⟨rfl,rfl⟩)
    go_end0
    exact⟨rfl,pU.trans ⟨rfl,rfl,rfl,Mod.of_below HB1.o,fun b hb=>.inl hb⟩ ⟨v,rfl,rfl,rfl,(HO.o.below HB1.o).put 17 _ rfl rfl rfl,ScO.mod_put 17 _,fun b hb=>.inl hb⟩⟩
   |true=>
    rw[if_neg qZ];obtain⟨r,hr⟩:∃r,Zi (lF s)=r:=⟨_,rfl⟩;rw[hr];have HRR:=Hd hr;clear hr;obtain⟨s5,on⟩:=r
    by_cases hxc:s.x<s.pg.cols
    all_goals
     go_enter Tryz.func277,Tryz.ntmps277
     go_upto_region 0 with fail
     refine kW 8 (fun w'=>Below w.heap.size w w'∧w'.cell? ⟨v.S,17,none⟩=some (.int .i64 s.x)) qQ qQ ?_ ?_
     · exact⟨(jU _ _).drew,c17⟩
     simp only[jS,kK,jL,jO]
     repeat(
      (first
       |refine kF qK ?_
       |((refine uO 197 #[.pointer (some ⟨v.S,0,none⟩)] (.int .i64 s.pg.cols) qK ?_ (fun w' hS=>(HC.o w' hS.1).mono fun e w2 ⟨he,hb⟩=>⟨he,hb▸hS⟩) ?_;(focus(intro w2;go_simp;done))))
       |(refine kT ?_ qK ?_ ?_;rotate_left;(focus(intro w' hS;obtain⟨_,_⟩:=hS;go_simp;first|done|with_reducible rfl))))
      simp only[Act.put,jZ,jX,jY])
     refine kE (fun w' hS=>?_);have HB1:=Hd hS.1;clear hS c17
     rename World=>W1
     obtain⟨c12,-⟩:=at_ (HO.o.below HB1.o).blk 12 (.bool s.pen.wrap) rfl;rw[hwrap]at c12;obtain⟨c17,f17⟩:=at_ (HO.o.below HB1.o).blk 17 (.int .i64 s.x) rfl
     go_upto_region 3 with fail
     clear c12;refine kW 6 (fun w'=>Below w.heap.size w w'∧w'.cell? ⟨v.S,17,none⟩=some (.int .i64 s.x)) qQ qQ ?_ ?_
     · exact⟨HB1.o.drew,c17⟩
     simp only[jS,kK,jL,jO]
     repeat(
      (first
       |refine kF qK ?_
       |((refine uO 197 #[.pointer (some ⟨v.S,0,none⟩)] (.int .i64 s.pg.cols) qK ?_ (fun w' hS=>(HC.o w' hS.1).mono fun e w2 ⟨he,hb⟩=>⟨he,hb▸hS⟩) ?_;(focus(intro w2;go_simp;done))))
       |(refine kT ?_ qK ?_ ?_;rotate_left;(focus(intro w' hS;obtain⟨_,_⟩:=hS;go_simp;first|done|with_reducible rfl))))
      simp only[Act.put,jZ,jX,jY])
     refine kE (fun w' hS=>?_);have HB2:=Hd hS.1;clear hS c17 f17
     rename World=>W2
    go_upto_region 4 with fail
    have hO2:=HO.o.below HB2.o;have HPD:Hid (∀w',Below W2.heap.size W2 w'→Calls jG 341 #[.pointer (some ⟨v.q.P,0,none⟩),.int .i64 s.y] w' (pJ base w' v.q (zC s.pg s.y fE))):=Hd (fun w' hb=>qKb (hO2.below hb).page s.y);obtain⟨c14,-⟩:=at_ hO2.blk 14 (.pointer (some ⟨v.q.P,0,none⟩)) rfl;obtain⟨c16,-⟩:=at_ hO2.blk 16 (.int .i64 s.y) rfl;have HO2:=Hd hO2;clear hO2;refine kW 8 (fun w'=>Below W2.heap.size W2 w'∧w'.cell? ⟨v.S,14,none⟩=some (.pointer (some ⟨v.q.P,0,none⟩))∧w'.cell? ⟨v.S,16,none⟩=some (.int .i64 s.y)) qQ qQ ?_ ?_
    · exact⟨(jU _ _).drew,c14,c16⟩
    simp only[jS,kK,jL,jO]
    repeat(
     (first
      |refine kF qK ?_
      |(refine kT ?_ qK ?_ ?_;rotate_left;(focus(intro w' hS;obtain⟨_,_,_⟩:=hS;go_simp;first|done|with_reducible rfl))))
     simp only[Act.put,jZ,jX,jY])
    refine kE (fun w' hS=>?_);have HB3:=Hd hS.1;clear hS c14 c16
    rename World=>W3
    go_upto_region 5 with(go_at_call 341;refine(HPD.o _ HB3.o).mono ?_;rintro e w4 ⟨rfl,hp⟩;have HP4:=Hd hp;clear hp)
    have HR:Hid (pU base w v (lF s) w4):=Hd (by
     have e:lF s={s with pg:=zC s.pg s.y fE}:=by unfold lF fP;rw[if_pos hxc]
     rw[e];exact pU.trans ⟨rfl,rfl,rfl,(Mod.of_below HB2.o).then_below HB3.o,fun b hb=>.inl hb⟩ ((HO2.o.below HB3.o).paged HP4.o))
    clear HB1 HB2 HB3 HP4 HO2 HPD
    rename World=>W4
    rotate_left;have HR:Hid (pU base w v (lF s) W2):=Hd (by
     have e:lF s=s:=by unfold lF fP;rw[if_neg (show ¬s.x<(s.pg.cols:Int) by omega)]
     rw[e];exact HO.o.res_below HB2.o)
    clear HB1 HB2
    rename World=>W4
    go_upto_region 5 with fail
    all_goals
     obtain⟨v4,e1,e2,e3,hO4,hm4,hx4⟩:=HR.o;obtain⟨p1,-,p3,-⟩:=Jz s;have HF:=Hd (Wl hO4 HI.o.pad (by rw[p3];exact ht));rw[e1,HRR.o]at HF;have HE:=Hd (show v4.S=v.S∧v4.T=v.T∧v4.q.P=v.q.P∧Mod (scX v) w W4∧∀b∈scX v4,b∈scX v∨w.heap.size≤b from⟨e1,e2,e3,hm4,hx4⟩);clear hO4 hm4 hx4 e1 e2 e3 HR
     go_upto_region 6 with(go_at_call 185;refine HF.o.mono ?_;rintro e w5 ⟨rfl,hs⟩;have HS5:=Hd (pU.trans HE.o hs);clear hs)
     obtain⟨v5,e1,e2,e3,hO5,hm5,hx5⟩:=HS5.o;obtain⟨c17,f17⟩:=at_ hO5.blk 17 (.int .i64 s5.x) rfl;rw[e1]at c17 f17;have HO6:=Hd (hO5.put 17 (.int .i64 0) (s':={s5 with x:=0}) rfl rfl rfl);have HM6:=Hd (hm5.trans (ScO.mod_put (v:=v5) (w:=w5) 17 (.int .i64 0)) hx5);rw[e1]at HO6 HM6;have HE6:=Hd (show v5.S=v.S∧v5.T=v.T∧v5.q.P=v.q.P∧∀b∈scX v5,b∈scX v∨w.heap.size≤b from⟨e1,e2,e3,hx5⟩);clear hO5 hm5 hx5 e2 e3 HE HS5
     go_upto_region 7 with fail
     generalize uN _ _ _=W6 at HO6 HM6 ⊢;clear c17 f17;cases on with
     |false=>
      go_wp2
      go_end0
      exact⟨rfl,v5,HE6.o.1,HE6.o.2.1,HE6.o.2.2.1,HO6.o,HM6.o,HE6.o.2.2.2⟩
     |true=>
      go_upto_region 8 with fail
      have HW:Hid (∀w',Below W6.heap.size W6 w'→Calls jG 342 #[.pointer (some ⟨v5.q.P,0,none⟩),.int .i64 s5.y] w' (pJ base w' v5.q (yB s5.pg s5.y true))):=Hd (fun w' hb=>J7 (HO6.o.below hb).page s5.y);obtain⟨c14,-⟩:=at_ HO6.o.blk 14 (.pointer (some ⟨v5.q.P,0,none⟩)) rfl;obtain⟨c16,-⟩:=at_ HO6.o.blk 16 (.int .i64 s5.y) rfl;rw[e1]at c14 c16;refine kW 8 (fun w'=>Below W6.heap.size W6 w'∧w'.cell? ⟨v.S,14,none⟩=some (.pointer (some ⟨v5.q.P,0,none⟩))∧w'.cell? ⟨v.S,16,none⟩=some (.int .i64 s5.y)) qQ qQ ?_ ?_
      · exact⟨(jU _ _).drew,c14,c16⟩
      simp only[jS,kK,jL,jO]
      repeat(
       (first
        |refine kF qK ?_
        |(refine kT ?_ qK ?_ ?_;rotate_left;(focus(intro w' hS;obtain⟨_,_,_⟩:=hS;go_simp;first|done|with_reducible rfl))))
       simp only[Act.put,jZ,jX,jY])
      refine kE (fun w' hS=>?_);have HB7:=Hd hS.1;clear hS c14 c16
      go_wp2_with(go_at_call 342;refine(HW.o _ HB7.o).mono ?_;rintro e w8 ⟨rfl,hp⟩;have HP8:=Hd hp;clear hp)
      go_end0
      exact⟨rfl,pU.trans ⟨HE6.o.1,HE6.o.2.1,HE6.o.2.2.1,HM6.o.then_below HB7.o,HE6.o.2.2.2⟩ ((HO6.o.below HB7.o).paged HP8.o)⟩
end
structure Sg where
 kind:Int
 code:Int
 has:Bool
 text:ByteArray
structure Cg where
 told:Bool
 sg:Sg
 row:Int
 col:Int
 sh:Tl
structure Tm where
 pz:Pz
 s0:Sc
 s1:Sc
 use:Bool
 modes:Int
 title:ByteArray
 rep:List UInt8
 ch:List Cg
def bP:List Int:=[4,20,1,5,6,7,25,47,66,1000,1002,1003,1004,1006,1047,1048,1049,2004]
def oR(priv:Bool)(n:Int):Nat:=if priv then 2+(bP.drop 2).findIdx (· ==n)else(bP.take 2).findIdx (· ==n)
def YS(priv:Bool)(n:Int):Bool:=if priv then decide (oR true n<18)else decide (oR false n<2)
def xA(b:Int)(priv:Bool)(n:Int)(on:Bool):Int:=
 if YS priv n then(if on then(b.toNat ||| 2 ^ oR priv n:Nat)else(b.toNat &&& (4294967295-2 ^ oR priv n):Nat))else b
def Kn:Int:=xA (xA 0 true 7 true) true 25 true
def iR(t:Tm):Sc:=if t.use then t.s1 else t.s0
def YK(t:Tm)(s:Sc):Tm:=if t.use then{t with s1:=s}else{t with s0:=s}
def doT(t:Tm)(f:Sc→Sc):Tm:=YK t (f (iR t))
def rY(l:List (List Int))(i:Nat)(usual:Int):Int:=if i<(yP l).length then(if((yP l).getD i []).headD 0= -1 then usual else((yP l).getD i []).headD 0)else usual
def gR(l:List (List Int))(i:Nat):Int:=max 1 (rY l i 1)
def Us(c:Cg):List Value:=[.bool c.told,.int .i64 c.sg.kind,.int .i64 c.sg.code,.bool c.sg.has,.string c.sg.text,.int .i64 c.row,.int .i64 c.col,.int .i64 c.sh.k,.int .i64 c.sh.a,.int .i64 c.sh.n]
structure Tv where
 M:Nat
 z:Zv
 a:Sv
 b:Sv
 ba:Value
 bf:Value
 vc:Value
def Jx(t:Tm)(v:Tv):List Value:=[.pointer (some ⟨v.z.P,0,none⟩),.pointer (some ⟨v.a.S,0,none⟩),.pointer (some ⟨v.b.S,0,none⟩),.int .i64 (if t.use then 1 else 0),.int .u32 t.modes,.string t.title,v.ba,v.bf,v.vc]
structure TmO(base:Nat)(w:World)(v:Tv)(t:Tm):Prop where
 blk:w.heap[v.M]? =some (.cells (Jx t v).toArray 78 (0,0))
 hb:base≤v.M
 z:PzO base w v.z t.pz
 a:ScO base w v.a t.s0
 b:ScO base w v.b t.s1
 ad:v.ba=.pointer none∨v.ba=.pointer (some ⟨v.M,6,none⟩)
 bu:w.ownsRow base 5 1 v.bf t.rep.length (Lib.byteCells t.rep)
 ch:w.ownsRow base 96 10 v.vc t.ch.length (uM Us t.ch)
 ab:∀x∈scX v.a,x∉scX v.b
 bz:∀x,v.bf.ownBlock=some x→x∉zvX v.z
def tmX(v:Tv):List Nat:=v.M::(zvX v.z++(scX v.a++(scX v.b++(v.bf.ownBlock.toList++v.vc.ownBlock.toList))))
def fZ(w:World)(b:Nat)(l:List TypeId):Prop:=∃cur ty,w.heap[b]? =some (.cells cur ty (0,0))∧ty∈l
theorem fZ.apart{w:World}{b:Nat}{l1 l2:List TypeId}(h1:fZ w b l1)(h2:fZ w b l2)(hd:∀t∈l1,t∉l2):False:=by
 obtain⟨c1,t1,e1,m1⟩:=h1;obtain⟨c2,t2,e2,m2⟩:=h2;rw[e1,Option.some.injEq,Obj.cells.injEq]at e2;exact hd t1 m1 (by rw[e2.2.1];exact m2)
theorem fZ.own{w:World}{base n size:Nat}{e:TypeId}{v:Value}{xs:List Value}(h:w.ownsRow base e size v n xs){g:Nat}(hg:v.ownBlock=some g):fZ w g [e]:=by
 obtain⟨cur,hc⟩:=uR h hg;exact⟨_,_,hc,by simp⟩
def qJk:List TypeId:=[128,179,206,175,52,94,225]
theorem ScO.ty{base:Nat}{w:World}{v:Sv}{s:Sc}(h:ScO base w v s):∀b∈scX v,fZ w b qJk:=fun b hb=>by
 unfold qJk;rcases kJ.1 hb with rfl|hb
 · exact⟨_,_,h.blk,by simp⟩
 rcases kU.1 hb with hb|hb
 · obtain⟨cur,ty,h1,h2⟩:=h.tabs.types b hb;exact⟨_,_,h1,by rcases h2 with rfl|rfl<;>simp⟩
 · obtain⟨cur,ty,h1,h2⟩:=h.page.types b hb;exact⟨_,_,h1,by rcases h2 with rfl|rfl|rfl|rfl<;>simp⟩
theorem PzO.ty{base:Nat}{w:World}{v:Zv}{p:Pz}(h:PzO base w v p):∀b∈zvX v,fZ w b [134,5]:=fun b hb=>by
 obtain⟨cur,ty,h1,h2⟩:=h.types b hb;exact⟨_,_,h1,by rcases h2 with rfl|rfl<;>simp⟩
theorem sU{w:World}{X:List Nat}{l:List TypeId}(h:∀b∈X,fZ w b l)(hl:65∉l):yI w X:=fun b hb cs f he=>by
 obtain⟨cur,ty,h1,h2⟩:=h b hb;rw[he,Option.some.injEq,Obj.cells.injEq]at h1;exact hl (by rw[h1.2.1];exact h2)
section
variable {base:Nat}{w:World}{v:Tv}{t:Tm}
theorem TmO.tyM(h:TmO base w v t):fZ w v.M [78]:=⟨_,_,h.blk,by simp⟩
theorem TmO.tyX(h:TmO base w v t):∀b∈tmX v,fZ w b (78::134::5::96::qJk):=fun b hb=>by
 have up:∀{l:List TypeId},fZ w b l→(∀t∈l,t∈78::134::5::96::qJk)→fZ w b (78::134::5::96::qJk):=fun⟨c,t,h1,h2⟩ hl=>⟨c,t,h1,hl t h2⟩;unfold tmX at hb;rcases kJ.1 hb with rfl|hb
 · exact up h.tyM qZ
 rcases kU.1 hb with hb|hb
 · exact up (h.z.ty b hb) qZ
 rcases kU.1 hb with hb|hb
 · exact up (h.a.ty b hb) qZ
 rcases kU.1 hb with hb|hb
 · exact up (h.b.ty b hb) qZ
 rcases kU.1 hb with hb|hb
 · exact up (fZ.own h.bu (jA.1 hb)) qZ
 · exact up (fZ.own h.ch (jA.1 hb)) qZ
theorem TmO.lt(h:TmO base w v t):∀b∈tmX v,base≤b∧b<w.heap.size:=fun b hb=>by
 unfold tmX at hb;rcases kJ.1 hb with rfl|hb
 · exact⟨h.hb,(kB.1 h.blk).1⟩
 rcases kU.1 hb with hb|hb
 · exact h.z.lt b hb
 rcases kU.1 hb with hb|hb
 · exact h.a.lt b hb
 rcases kU.1 hb with hb|hb
 · exact h.b.lt b hb
 rcases kU.1 hb with hb|hb
 · exact h.bu.lt b (jA.1 hb)
 · exact h.ch.lt b (jA.1 hb)
theorem gQ{x:Nat}:x∈tmX v↔x=v.M∨x∈zvX v.z∨x∈scX v.a∨x∈scX v.b∨v.bf.ownBlock=some x∨v.vc.ownBlock=some x:=by
 unfold tmX;simp only[kJ,kU,jA]
theorem TmO.mod{X:List Nat}{w':World}(h:TmO base w v t)(hm:Mod X w w')(hX:yI w X)(hd:∀b∈tmX v,b∉X):TmO base w' v t:=
 ⟨(hm.block v.M (kB.1 h.blk).1 (hd _ (gQ.2 (.inl rfl)))).trans h.blk,h.hb,h.z.mod hm (fun b hb=>hd b (gQ.2 (.inr (.inl hb)))),h.a.mod hm hX (fun b hb=>hd b (gQ.2 (.inr (.inr (.inl hb))))),h.b.mod hm hX (fun b hb=>hd b (gQ.2 (.inr (.inr (.inr (.inl hb)))))),h.ad,
  kD h.bu hm (fun g hg=>hd g (gQ.2 (.inr (.inr (.inr (.inr (.inl hg))))))),kD h.ch hm (fun g hg=>hd g (gQ.2 (.inr (.inr (.inr (.inr (.inr hg))))))),h.ab,h.bz⟩
theorem TmO.below{w':World}(h:TmO base w v t)(hb:Below w.heap.size w w'):TmO base w' v t:=h.mod (Mod.of_below (X:=[]) hb) (yI.nil w) (fun _ _ h=>by cases h)
structure TmV(w:World)(v v':Tv):Prop where
 M:v'.M=v.M
 z:v'.z.P=v.z.P
 a:v'.a.S=v.a.S
 b:v'.b.S=v.b.S
 x:∀x∈tmX v',x∈tmX v∨w.heap.size≤x
def zF(base:Nat)(w:World)(v:Tv)(t':Tm)(w':World):Prop:=∃v',TmV w v v'∧TmO base w' v' t'∧Mod (tmX v) w w'
theorem TmO.res(h:TmO base w v t):zF base w v t w:=⟨v,⟨rfl,rfl,rfl,rfl,fun _ hb=>.inl hb⟩,h,Mod.refl _ _⟩
theorem zF.trans{w1 w2:World}{v1:Tv}{t2:Tm}(h1:TmV w v v1)(hm:Mod (tmX v) w w1)(h2:zF base w1 v1 t2 w2):zF base w v t2 w2:=by
 obtain⟨v2,k,a4,a5⟩:=h2;refine⟨v2,⟨k.M.trans h1.M,k.z.trans h1.z,k.a.trans h1.a,k.b.trans h1.b,fun x hx=>?_⟩,a4,hm.trans a5 h1.x⟩;rcases k.x x hx with h|h
 · exact h1.x x h
 · exact qXj
theorem zF.pre{w1 w2:World}{t2:Tm}(hb:Below w.heap.size w w1)(h2:zF base w1 v t2 w2):zF base w v t2 w2:=zF.trans ⟨rfl,rfl,rfl,rfl,fun _ hb=>.inl hb⟩ (Mod.of_below hb) h2
theorem TmO.za(h:TmO base w v t):∀x∈zvX v.z,x∉scX v.a:=fun x h1 h2=>(h.z.ty x h1).apart (h.a.ty x h2) qZ
theorem TmO.zb(h:TmO base w v t):∀x∈zvX v.z,x∉scX v.b:=fun x h1 h2=>(h.z.ty x h1).apart (h.b.ty x h2) qZ
theorem TmO.fa(h:TmO base w v t):∀x,v.bf.ownBlock=some x→x∉scX v.a:=fun x h1 h2=>(fZ.own h.bu h1).apart (h.a.ty x h2) qZ
theorem TmO.fb(h:TmO base w v t):∀x,v.bf.ownBlock=some x→x∉scX v.b:=fun x h1 h2=>(fZ.own h.bu h1).apart (h.b.ty x h2) qZ
theorem TmO.ca(h:TmO base w v t):∀x,v.vc.ownBlock=some x→x∉scX v.a:=fun x h1 h2=>(fZ.own h.ch h1).apart (h.a.ty x h2) qZ
theorem TmO.cb(h:TmO base w v t):∀x,v.vc.ownBlock=some x→x∉scX v.b:=fun x h1 h2=>(fZ.own h.ch h1).apart (h.b.ty x h2) qZ
theorem TmO.cz(h:TmO base w v t):∀x,v.vc.ownBlock=some x→x∉zvX v.z:=fun x h1 h2=>(fZ.own h.ch h1).apart (h.z.ty x h2) qZ
theorem TmO.mz(h:TmO base w v t):v.M∉zvX v.z:=fun h2=>h.tyM.apart (h.z.ty _ h2) qZ
theorem TmO.ma(h:TmO base w v t):v.M∉scX v.a:=fun h2=>h.tyM.apart (h.a.ty _ h2) qZ
theorem TmO.mb(h:TmO base w v t):v.M∉scX v.b:=fun h2=>h.tyM.apart (h.b.ty _ h2) qZ
theorem TmO.mf(h:TmO base w v t):v.bf.ownBlock≠some v.M:=fun h2=>h.tyM.apart (fZ.own h.bu h2) qZ
theorem TmO.mc(h:TmO base w v t):v.vc.ownBlock≠some v.M:=fun h2=>h.tyM.apart (fZ.own h.ch h2) qZ
theorem TmO.ltM(h:TmO base w v t):v.M<w.heap.size:=(kB.1 h.blk).1
theorem TmO.withZ{p':Pz}{w':World}(h:TmO base w v t)(hp:yS base w v.z p' w'):zF base w v {t with pz:=p'} w':=by
 obtain⟨z',e1,hO,hm,hx⟩:=hp;refine⟨{v with z:=z'},⟨rfl,e1,rfl,rfl,fun x hx2=>?_⟩,⟨?_,h.hb,hO,h.a.mod hm h.z.nocel (fun b hb hz=>h.za b hz hb),h.b.mod hm h.z.nocel (fun b hb hz=>h.zb b hz hb),h.ad,kD h.bu hm h.bz,kD h.ch hm h.cz,h.ab,fun x h1 h2=>?_⟩,hm.mono (fun b hb=>gQ.2 (.inr (.inl hb)))⟩
 · rcases gQ.1 hx2 with h1|h1|h1
   · exact .inl (gQ.2 (.inl h1))
   · exact(hx x h1).imp (fun h=>gQ.2 (.inr (.inl h))) id
   · exact .inl (gQ.2 (.inr (.inr h1)))
 · have :=(hm.block v.M h.ltM h.mz).trans h.blk;rw[this];unfold Jx;rw[e1]
 · rcases hx x h2 with h3|h3
   · exact h.bz x h1 h3
   · have :=(h.bu.lt x h1).2;omega
theorem TmO.withA{s':Sc}{w':World}(h:TmO base w v t)(hp:pU base w v.a s' w'):zF base w v {t with s0:=s'} w':=by
 obtain⟨a',e1,e2,e3,hO,hm,hx⟩:=hp;have hc:yI w (scX v.a):=sU h.a.ty qZ;refine⟨{v with a:=a'},⟨rfl,rfl,e1,rfl,fun x hx2=>?_⟩,⟨?_,h.hb,h.z.mod hm h.za,hO,h.b.mod hm hc (fun b hb hz=>h.ab b hz hb),h.ad,kD h.bu hm h.fa,kD h.ch hm h.ca,fun x h1 h2=>?_,h.bz⟩,hm.mono (fun b hb=>gQ.2 (.inr (.inr (.inl hb))))⟩
 · rcases gQ.1 hx2 with h1|h1|h1|h1
   · exact .inl (gQ.2 (.inl h1))
   · exact .inl (gQ.2 (.inr (.inl h1)))
   · exact(hx x h1).imp (fun h=>gQ.2 (.inr (.inr (.inl h)))) id
   · exact .inl (gQ.2 (.inr (.inr (.inr h1))))
 · have :=(hm.block v.M h.ltM h.ma).trans h.blk;rw[this];unfold Jx;rw[e1]
 · rcases hx x h1 with h3|h3
   · exact h.ab x h3 h2
   · have :=(h.b.lt x h2).2;omega
theorem TmO.withB{s':Sc}{w':World}(h:TmO base w v t)(hp:pU base w v.b s' w'):zF base w v {t with s1:=s'} w':=by
 obtain⟨a',e1,e2,e3,hO,hm,hx⟩:=hp;have hc:yI w (scX v.b):=sU h.b.ty qZ;refine⟨{v with b:=a'},⟨rfl,rfl,rfl,e1,fun x hx2=>?_⟩,⟨?_,h.hb,h.z.mod hm h.zb,h.a.mod hm hc h.ab,hO,h.ad,kD h.bu hm h.fb,kD h.ch hm h.cb,fun x h1 h2=>?_,h.bz⟩,hm.mono (fun b hb=>gQ.2 (.inr (.inr (.inr (.inl hb)))))⟩
 · rcases gQ.1 hx2 with h1|h1|h1|h1|h1
   · exact .inl (gQ.2 (.inl h1))
   · exact .inl (gQ.2 (.inr (.inl h1)))
   · exact .inl (gQ.2 (.inr (.inr (.inl h1))))
   · exact(hx x h1).imp (fun h=>gQ.2 (.inr (.inr (.inr (.inl h))))) id
   · exact .inl (gQ.2 (.inr (.inr (.inr (.inr h1)))))
 · have :=(hm.block v.M h.ltM h.mb).trans h.blk;rw[this];unfold Jx;rw[e1]
 · rcases hx x h2 with h3|h3
   · exact h.ab x h1 h3
   · have :=(h.a.lt x h1).2;omega
def fJ(v:Tv)(t:Tm):Sv:=if t.use then v.b else v.a
theorem TmO.cur(h:TmO base w v t):ScO base w (fJ v t) (iR t):=by
 unfold fJ iR
 by_cases hu:t.use=true
 · rw[if_pos hu,if_pos hu];exact h.b
 · rw[if_neg hu,if_neg hu];exact h.a
theorem TmO.did{s':Sc}{w':World}(h:TmO base w v t)(hp:pU base w (fJ v t) s' w'):zF base w v (YK t s') w':=by
 unfold fJ at hp;unfold YK
 by_cases hu:t.use=true
 · rw[if_pos hu]at hp ⊢;exact h.withB hp
 · rw[if_neg hu]at hp ⊢;exact h.withA hp
end
end Go.Proofs.YtaefcahblmopfaaGreatDoor
