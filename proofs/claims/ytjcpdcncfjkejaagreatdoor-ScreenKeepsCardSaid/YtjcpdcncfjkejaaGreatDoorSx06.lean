/- Joined by a tool of this claim out of smaller texts. Conditions: as stated. -/
import Derived.Test.YtjcpdcncfjkejaaGreatDoorSx05
set_option linter.unusedVariables false
set_option linter.unusedSimpArgs false
set_option maxRecDepth 100000
open Go.Lib renaming hid → Hd
open List renaming setIfInBounds_toArray → jZ, mem_singleton → jR, getElem?_eq_some_iff → jE, mem_cons → kW, mem_append → kL
open Go.Proofs.Tryz renaming prog → jG, underlying38 → kE
open Go.RowKit.Below renaming refl → jU
open Go.IntWalk renaming i64_in → jH
open Go.IntKind renaming i64 → jP
open Nat renaming le_refl → jS, zero_le → kT, le_trans → vY
open Option renaming mem_toList → jT
open And renaming intro → kM
open Array renaming getElem?_eq_some_iff → kF
open Int renaming toNat_natCast → uJ
namespace Go.Proofs.YtjcpdcncfjkejaaGreatDoor
open Go.RowKit
def lX(s:Sc)(P T:Nat):List Value:=
 [.int .i64 s.pen.at_.fk,.int .i64 s.pen.at_.fn,.int .i64 s.pen.at_.bk,.int .i64 s.pen.at_.bn,.int .i64 s.pen.at_.fl,
  .int .i64 s.pen.ch.g0,.int .i64 s.pen.ch.g1,.int .i64 s.pen.ch.g2,.int .i64 s.pen.ch.g3,.int .i64 s.pen.ch.use,.int .i64 s.pen.ch.once,
  .bool s.pen.put,.bool s.pen.wrap,.bool s.pen.home,
  .pointer (some ⟨P,0,none⟩),.pointer (some ⟨T,0,none⟩),.int .i64 s.y,.int .i64 s.x,.int .i64 s.top,.int .i64 s.bot,
  .int .i64 s.sp.at_.fk,.int .i64 s.sp.at_.fn,.int .i64 s.sp.at_.bk,.int .i64 s.sp.at_.bn,.int .i64 s.sp.at_.fl,
  .int .i64 s.sp.ch.g0,.int .i64 s.sp.ch.g1,.int .i64 s.sp.ch.g2,.int .i64 s.sp.ch.g3,.int .i64 s.sp.ch.use,.int .i64 s.sp.ch.once,
  .bool s.sp.put,.bool s.sp.wrap,.bool s.sp.home,.int .i64 s.sy,.int .i64 s.sx,.bool s.has,.int .i32 s.last]
structure Sv where
 S:Nat
 q:Pv
 T:Nat
 vw:Value
 ws:List Nat
structure ScO(base:Nat)(w:World)(v:Sv)(s:Sc):Prop where
 blk:w.heap[v.S]? =some (.cells (lX s v.q.P v.T).toArray 108 (0,0))
 hb:base≤v.S
 page:PgO base w v.q s.pg
 tabs:TbO base w v.T v.vw v.ws s.st
def scX(v:Sv):List Nat:=v.S::(tbX v.T v.vw++pgX v.q)
theorem PgO.types{base:Nat}{w:World}{q:Pv}{g:Pg}(h:PgO base w q g):∀b∈pgX q,∃cur ty,w.heap[b]? =some (.cells cur ty (0,0))∧(ty=111∨ty=97∨ty=119∨ty=178):=by
 intro b hb;rcases kW.1 hb with rfl|hb
 · exact⟨_,_,h.blk,.inl rfl⟩
 rcases kL.1 hb with hb|hb
 · obtain⟨cur,hc⟩:=uA h.own (jT.1 hb);exact⟨_,_,hc,.inr (.inl rfl)⟩
 rcases kL.1 hb with hb|hb
 · obtain⟨cur,hc⟩:=uA h.told (jT.1 hb);exact⟨_,_,hc,.inr (.inr (.inl rfl))⟩
 rcases kW.1 hb with rfl|hb
 · exact⟨_,_,h.ring.blk,.inr (.inr (.inr rfl))⟩
 · obtain⟨cur,hc⟩:=uA h.ring.own (jT.1 hb);exact⟨_,_,hc,.inr (.inl rfl)⟩
theorem PgO.not{base:Nat}{w:World}{q:Pv}{g:Pg}(h:PgO base w q g){b:Nat}{cs:Array Value}{ty:TypeId}(hb:w.heap[b]? =some (.cells cs ty (0,0)))(ht:ty≠111∧ty≠97∧ty≠119∧ty≠178):b∉pgX q:=fun hx=>by
 obtain⟨cur,t2,h1,h2⟩:=h.types b hx;rw[hb,Option.some.injEq,Obj.cells.injEq]at h1;obtain⟨-,rfl,-⟩:=h1;rcases h2 with h2|h2|h2|h2
 · exact ht.1 h2
 · exact ht.2.1 h2
 · exact ht.2.2.1 h2
 · exact ht.2.2.2 h2
theorem TbO.types{base:Nat}{w:World}{T:Nat}{vw:Value}{ws:List Nat}{st:List Bool}(h:TbO base w T vw ws st):∀b∈tbX T vw,∃cur ty,w.heap[b]? =some (.cells cur ty (0,0))∧(ty=164∨ty=59):=by
 intro b hb;rcases kW.1 hb with rfl|hb
 · exact⟨_,_,h.blk,.inl rfl⟩
 · obtain⟨cur,hc⟩:=uA h.own (jT.1 hb);exact⟨_,_,hc,.inr rfl⟩
section
variable {base:Nat}{w:World}{v:Sv}{s:Sc}
theorem ScO.np(h:ScO base w v s):v.S∉pgX v.q:=h.page.not h.blk qZ
theorem ScO.nt(h:ScO base w v s):v.S∉tbX v.T v.vw:=fun hx=>by
 obtain⟨cur,ty,h1,h2⟩:=h.tabs.types _ hx;rw[h.blk,Option.some.injEq,Obj.cells.injEq]at h1;obtain⟨-,rfl,-⟩:=h1;rcases h2 with h2|h2<;>exact absurd h2 qZ
theorem ScO.ntp(h:ScO base w v s):∀b∈tbX v.T v.vw,b∉pgX v.q:=fun b hb=>by
 obtain⟨cur,ty,h1,h2⟩:=h.tabs.types _ hb;refine h.page.not h1 ?_;rcases h2 with rfl|rfl<;>decide
theorem ScO.lt(h:ScO base w v s):∀b∈scX v,base≤b∧b<w.heap.size:=by
 intro b hb;rcases kW.1 hb with rfl|hb
 · exact qZh
 rcases kL.1 hb with hb|hb
 · rcases kW.1 hb with rfl|hb
   · exact⟨h.tabs.hb,(kF.1 h.tabs.blk).1⟩
   · exact h.tabs.own.lt b (jT.1 hb)
 · exact h.page.lt b hb
theorem ScO.mod{X:List Nat}{w':World}(h:ScO base w v s)(hm:Mod X w w')(hX:yD w X)(hd:∀b∈scX v,b∉X):ScO base w' v s:=
 ⟨(hm.block v.S (kF.1 h.blk).1 (hd v.S qKg)).trans h.blk,h.hb,h.page.mod hm hX (fun b hb=>hd b (by simp[scX,hb])),h.tabs.mod hm (fun b hb=>hd b (by simp[scX,hb]))⟩
theorem ScO.below{w':World}(h:ScO base w v s)(hb:Below w.heap.size w w'):ScO base w' v s:=h.mod (Mod.of_below (X:=[]) hb) (yD.nil w) (fun _ _ h=>by cases h)
def uR(base:Nat)(w:World)(v:Sv)(s':Sc)(w':World):Prop:=
 ∃v',v'.S=v.S∧v'.T=v.T∧v'.q.P=v.q.P∧ScO base w' v' s'∧Mod (scX v) w w'∧∀b∈scX v',b∈scX v∨w.heap.size≤b
theorem ScO.res(h:ScO base w v s):uR base w v s w:=⟨v,rfl,rfl,rfl,h,Mod.refl _ _,fun _ hb=>.inl hb⟩
theorem ScO.res_below{w':World}(h:ScO base w v s)(hb:Below w.heap.size w w'):uR base w v s w':=⟨v,rfl,rfl,rfl,h.below hb,Mod.of_below hb,fun _ hb=>.inl hb⟩
theorem uR.trans{w1 w2:World}{v1:Sv}{s2:Sc}(h1:v1.S=v.S∧v1.T=v.T∧v1.q.P=v.q.P∧Mod (scX v) w w1∧∀b∈scX v1,b∈scX v∨w.heap.size≤b)(h2:uR base w1 v1 s2 w2):uR base w v s2 w2:=by
 obtain⟨e1,e2,e3,hm,hx⟩:=h1;obtain⟨v2,a1,a2,a3,a4,a5,a6⟩:=h2;refine⟨v2,a1.trans e1,a2.trans e2,a3.trans e3,a4,hm.trans a5 hx,fun b hb=>?_⟩;rcases a6 b hb with h|h
 · exact hx b h
 · exact .inr (vY hm.size h)
theorem uR.pre{w1 w2:World}{s2:Sc}(hb:Below w.heap.size w w1)(h2:uR base w1 v s2 w2):uR base w v s2 w2:=uR.trans ⟨rfl,rfl,rfl,Mod.of_below hb,fun _ hb=>.inl hb⟩ h2
theorem uR.post{w1 w2:World}{s2:Sc}(h:uR base w v s2 w1)(hb:Below w1.heap.size w1 w2):uR base w v s2 w2:=by
 obtain⟨v',a1,a2,a3,a4,a5,a6⟩:=h;exact⟨v',a1,a2,a3,a4.below hb,a5.then_below hb,a6⟩
theorem ScO.put{s':Sc}(h:ScO base w v s)(i:Nat)(x:Value)(he:(lX s v.q.P v.T).set i x=lX s' v.q.P v.T)(hp:s'.pg=s.pg)(ht:s'.st=s.st):ScO base (w.setCell ⟨v.S,i,none⟩ x) v s':=by
 have hM:Mod [v.S] w (w.setCell ⟨v.S,i,none⟩ x):=(Mod.refl _ _).setCell (a:=⟨v.S,i,none⟩) (.inl qV) _;refine⟨?_,h.hb,?_,?_⟩
 · rw[←he];have :=bX (o:=i) (v:=x) h.blk;rw[jZ]at this;exact this
 · rw[hp];exact qZr
 · rw[ht];exact h.tabs.mod hM (fun b hb hx=>h.nt qJw)
theorem ScO.mod_put(i:Nat)(x:Value):Mod (scX v) w (w.setCell ⟨v.S,i,none⟩ x):=(Mod.refl _ _).setCell (a:=⟨v.S,i,none⟩) (.inl qKg) _
theorem ScO.paged{g':Pg}{w':World}(h:ScO base w v s)(hp:pN base w v.q g' w'):uR base w v {s with pg:=g'} w':=by
 obtain⟨q',e1,e2,hq,hm,hx⟩:=hp;have hS:=(hm.block v.S (kF.1 h.blk).1 h.np).trans h.blk;refine⟨{v with q:=q'},rfl,rfl,e1,⟨?_,h.hb,hq,h.tabs.mod hm h.ntp⟩,hm.mono (fun b hb=>by simp[scX,hb]),fun b hb=>?_⟩
 · show w'.heap[v.S]? =some (.cells (lX {s with pg:=g'} q'.P v.T).toArray _ _);rw[e1];exact hS
 · have hb2:b∈v.S::(tbX v.T v.vw++pgX q'):=hb;rcases kW.1 hb2 with rfl|hb2
   · exact .inl qKg
   rcases kL.1 hb2 with hb2|hb2
   · exact .inl (by simp[scX,hb2])
   · rcases hx b hb2 with h1|h1
     · exact .inl (by simp[scX,h1])
     · exact .inr h1
theorem fH(h:ScO base w v s):Calls jG 14 #[.pointer (some ⟨v.S,0,none⟩)] w fun e w'=>e=.returned (.pointer (some ⟨v.q.P,0,none⟩))∧w=w':=by
 obtain⟨x0,-⟩:=at_ h.blk 14 (.pointer (some ⟨v.q.P,0,none⟩)) rfl;clear h
 go_enter Tryz.func14,Tryz.ntmps14
 go_wp2
 go_ret
 exact⟨rfl,rfl⟩
theorem bK(h:ScO base w v s):Calls jG 111 #[.pointer (some ⟨v.S,0,none⟩)] w fun e w'=>e=.returned (.int .i64 s.pg.cols)∧w=w':=by
 have HP:=Hd (fH h);have HC:=Hd (wW h.page);clear h
 go_enter Tryz.func111,Tryz.ntmps111
 go_wp2_with(first
  |(go_at_call 14;refine HP.o.mono ?_;rintro e w1 ⟨rfl,rfl⟩)
  |(go_at_call 16;refine HC.o.mono ?_;rintro e w1 ⟨rfl,rfl⟩))
 go_ret
 exact⟨rfl,rfl⟩
theorem cF(h:ScO base w v s):Calls jG 110 #[.pointer (some ⟨v.S,0,none⟩)] w fun e w'=>e=.returned (.int .i64 s.pg.scr.length)∧w=w':=by
 have HP:=Hd (fH h);have HC:=Hd (rJ h.page);clear h
 go_enter Tryz.func110,Tryz.ntmps110
 go_wp2_with(first
  |(go_at_call 14;refine HP.o.mono ?_;rintro e w1 ⟨rfl,rfl⟩)
  |(go_at_call 15;refine HC.o.mono ?_;rintro e w1 ⟨rfl,rfl⟩))
 go_ret
 exact⟨rfl,rfl⟩
theorem uO:(jG.info? 38).map (·.size)=some 2:=by kernel_rfl
theorem yF(h:ScO base w v s):Calls jG 120 #[.pointer (some ⟨v.S,0,none⟩)] w fun e w'=>e=.returned (.agg #[.int .i64 s.pen.at_.bk,.int .i64 s.pen.at_.bn])∧Below w.heap.size w w':=by
 obtain⟨x0,-⟩:=at_ h.blk 2 (.int .i64 s.pen.at_.bk) rfl;obtain⟨x1,-⟩:=at_ h.blk 3 (.int .i64 s.pen.at_.bn) rfl;have hl:=gO x0;clear h
 go_enter Tryz.func120,Tryz.ntmps120
 go_wp2
 exact bodyPost_ret (bV rfl _ _ w.heap.size [.int .i64 s.pen.at_.bk,.int .i64 s.pen.at_.bn] rfl (kA (kZ rfl)) kE rfl uO) rfl ⟨rfl,jW (jU _ _) _⟩
theorem cG(h:ScO base w v s):Calls jG 76 #[.pointer (some ⟨v.S,0,none⟩)] w fun e w'=>e=.returned (.int .i64 (inS s))∧Below w.heap.size w w':=by
 have HC:Hid (∀w',Below w.heap.size w w'→Calls jG 111 #[.pointer (some ⟨v.S,0,none⟩)] w' fun e w2=>e=.returned (.int .i64 s.pg.cols)∧w'=w2):=Hd (fun w' hb=>bK (h.below hb));obtain⟨x0,-⟩:=at_ h.blk 17 (.int .i64 s.x) rfl;have h2:=h.page.cols2;have h3:=h.page.cols1000;have hw:jP.wrap ((s.pg.cols:Int)-1)=(s.pg.cols:Int)-1:=jH _ qJ;unfold inS colsS;clear h
 go_enter Tryz.func76,Tryz.ntmps76
 go_upto_region 1 with fail
 refine zU1 8 x0 ?_
 repeat first|refine zS ?_|refine zC0 (zE HC.o) ?_|refine zV ?_
 refine kU (fun w' hS=>?_)
 go_wp2
 all_goals
  go_ret
  exact⟨by simp;omega,hS.1⟩
end
def eN(w:World):Prop:=∀(x:Nat) (w':World),x<18446744073709551616→Below w.heap.size w w'→Calls jG 261 #[.int .u64 x] w' fun e w2=>e=.returned (.int .i64 (Lib.ctz 64 x))∧w2=w'
def oS(w:World):Prop:=∀(x:Nat) (w':World),x<18446744073709551616→Below w.heap.size w w'→Calls jG 262 #[.int .u64 x] w' fun e w2=>e=.returned (.int .i64 (64-(Lib.bitLen x:Int)))∧w2=w'
theorem Vc(P:Program)(w:World){x j wd:Nat}(h:x%64=j):(Op.shift .shr .u64 (wd:Int) .i64 ((x:Int).tmod 64)).run P w=.ok (.int .u64 ((wd/2 ^ j:Nat):Int)) w:=by
 have hj:j<64:=by omega
 have e:(x:Int).tmod 64=(j:Int):=by rw[Int.tmod_eq_emod_of_nonneg qJ];omega
 rw[e,shift_shr_any _ _ _ _ qJ,uJ];show Result.ok (Value.int .u64 ((wd:Int)/2 ^ min j 64)) w=_;rw[show min j 64=j by omega];have e2:(2:Int) ^ j=((2 ^ j:Nat):Int):=by simp
 rw[e2];simp
theorem Z7{st:List Bool}{z wd:Nat}(hb:∀k,k<64→wd.testBit k=st.getD (64*(z/64)+k) false)(hw:wd<18446744073709551616)(i:Nat):
 (wd/2 ^ (z%64)).testBit i=if i+z%64<64 then st.getD (z+i) false else false:=by
 rw[Nat.testBit_div_two_pow]
 split
 · next h=>rw[hb _ qJ];congr 1;omega
 · exact Nat.testBit_lt_two_pow (Nat.lt_of_lt_of_le hw (show 2 ^ 64≤2 ^ (i+z%64)from Nat.pow_le_pow_right qZ qJ))
theorem Z8{st:List Bool}{z wd:Nat}(hb:∀k,k<64→wd.testBit k=st.getD (64*(z/64)+k) false)(i:Nat):
 (wd*2 ^ (63-z%64)%18446744073709551616).testBit i=if 63-z%64≤i∧i<64 then st.getD (z-(63-i)) false else false:=by
 rw[show(18446744073709551616:Nat)=2 ^ 64 from by decide,Nat.testBit_mod_two_pow,Nat.mul_comm,Nat.testBit_two_pow_mul]
 split
 · next h=>
   rw[decide_eq_true h.2,decide_eq_true h.1,Bool.true_and,Bool.true_and,hb _ qJ]
   congr 1
   omega
 · next h=>
   by_cases h1:i<64
   · rw[decide_eq_false (show ¬63-z%64≤i by omega),Bool.false_and,Bool.and_false]
   · rw[decide_eq_false h1,Bool.false_and]
section
variable {base:Nat}{w:World}{T:Nat}{vw:Value}{ws:List Nat}{st:List Bool}
set_option maxHeartbeats 1600000 in
theorem XA(h:TbO base w T vw ws st)(htz:eN w)(x:Nat)(hx:x<st.length):Calls jG 196 #[.pointer (some ⟨T,0,none⟩),.int .i64 x] w fun e w'=>e=.returned (.int .i64 (pI st x))∧Below w.heap.size w w':=by
 have hle:=h.le;have hfew:=h.few;have HO:=Hd h;have HTZ:=Hd htz;have hwx:jP.wrap ((x:Int)+1)=(x:Int)+1:=jH _ qJ;obtain⟨n,hn⟩:∃n,st.length=n:=⟨_,rfl⟩;have HN:=Hd hn;rw[hn]at hx hle;have hwn:jP.wrap ((n:Int)-1)=(n:Int)-1:=jH _ qJ;clear h htz hn
 go_enter Tryz.func196,Tryz.ntmps196
 go_wp2_with fail
 go_loopw [1,5] (fun s1 _ wr=>∃z:Nat,s1=.int .i64 z∧x<z∧z≤1064∧(∀y,x<y→y<z→st.getD y false=false)∧Below w.heap.size w wr) (fun s1 _ _=>1064-(intOf s1).toNat)
 case atStart=>exact⟨x+1,by go_num,by omega,by omega,fun y h1 h2=>by omega,jU _ _⟩
 case round=>
  obtain⟨z,rfl,hz1,hz2,hzf,hb⟩:=hrel;have HB:=Hd hb;have HZ:=Hd hzf;have HOW:=Hd (HO.o.below hb);clear hb hzf;obtain⟨⟨x0,-⟩,x1,-⟩:=HOW.o.cells;rw[HN.o]at x1;obtain⟨A,c,hv⟩:=HOW.o.vform;rw[hv]at x0;have HV:=Hd hv;clear hv
  by_cases hlt:z<n
  · have hltI:(z:Int)<(n:Int):=by omega
    obtain⟨wd,hwd,hwlt,hbit⟩:=nO HOW.o.wds (x:=z) (by rw[HN.o];exact hlt);have hkl0:=(jE.1 hwd).1;have hown:=HOW.o.own;rw[HV.o]at hown;obtain⟨g,rfl⟩:∃g,A=some ⟨g,0,none⟩:=mX hown qJ;obtain⟨y,-⟩:=pC hown (i:=z/64) (v:=.int .u64 wd) (sU hwd);have hsb:=Z7 hbit hwlt;obtain⟨k,hk⟩:∃k,z/64=k:=⟨_,rfl⟩;obtain⟨j,hj⟩:∃j,z%64=j:=⟨_,rfl⟩;rw[hk]at y hkl0;rw[hj]at hsb;have hq:jP.wrap ((z:Int)/64)=(k:Int):=by rw[jH _ qJ];omega
    have hkl:(k:Int)<(ws.length:Int):=by omega
    have hsh:=fun w'=>Vc jG w' (wd:=wd) hj;obtain⟨sv,hsv⟩:∃sv,wd/2 ^ j=sv:=⟨_,rfl⟩;rw[hsv]at hsb;simp only[hsv]at hsh;have hsv2:(wd:Int)/2 ^ (z%64)=(sv:Int):=by rw[hj,←hsv];simp
    have hslt:sv<18446744073709551616:=by rw[←hsv];exact Nat.lt_of_le_of_lt (Nat.div_le_self _ _) hwlt
    have hk1:jP.wrap ((k:Int)+1)=(k:Int)+1:=jH _ qJ;have hk2:jP.wrap (((k:Int)+1)*64)=((k:Int)+1)*64:=jH _ qJ;have HSB:=Hd hsb;have HKJ:=Hd (kM hk hj);clear hwd hown hbit hsb hk hj hsv
    by_cases hs0:sv=0
    · subst hs0
      go_wp2_with fail
      go_roundw
      case rel=>
       refine⟨(k+1)*64,by go_num,by have :=HKJ.o;omega,by omega,fun y' h1 h2=>?_,HB.o⟩
       by_cases hyz:y'<z
       · exact HZ.o y' h1 hyz
       · have :=HSB.o (y'-z);rw[Nat.zero_testBit,if_pos (by have :=HKJ.o;omega),show z+(y'-z)=y' by omega]at this;exact this.symm
      case measure=>have :=HKJ.o;simp[intOf];omega
    · have hs0b:((sv:Int)==0)=false:=by simp;omega
      have hs0c:¬(sv:Int)=0:=by omega
      obtain⟨c1,c2,c3⟩:=qJf hs0 hslt;have HTC:=Hd (fun w' hb=>HTZ.o sv w' hslt hb);obtain⟨kz,hkz⟩:∃kz,Lib.ctz 64 sv=kz:=⟨_,rfl⟩;rw[hkz]at c1 c2 c3 HTC;rw[HSB.o kz]at c2;have hkj:kz+j<64:=by
       by_cases hh:kz+j<64
       · exact hh
       · rw[if_neg hh]at c2;cases c2
      rw[if_pos hkj]at c2;have hzn:z+kz<n:=by
       by_cases hh:z+kz<n
       · exact hh
       · rw[tW qV0]at c2;cases c2
      have e:pI st x=z+kz:=QA (.inl qJ) qV0 (fun y' h1 h2=>by
       by_cases hyz:y'<z
       · exact HZ.o y' h1 hyz
       · have h3:=c3 (y'-z) qJ;rw[HSB.o (y'-z),if_pos qJ,show z+(y'-z)=y' by omega]at h3;exact h3) (fun _=>c2) qV0
      have hwz:jP.wrap ((z:Int)+(kz:Int))=(z:Int)+(kz:Int):=jH _ qJ;have HE:=Hd e;clear c2 c3 e hkz
      go_upto_region 6 with fail
      rename World=>W6
      refine zU1 10 x1 ?_
      repeat first|refine zS ?_|refine zD 261 #[.int .u64 sv] (.int .i64 kz) (fun w' hS=>(HTC.o w' (jN HB.o hS.1)).mono fun e w2 ⟨he,hb⟩=>⟨he,hb▸hS⟩) ?_|refine zV ?_
      refine kU (fun w' hS=>?_);have HB7:=Hd hS.1;clear hS
      go_wp2
      go_ret
      exact⟨by rw[HE.o,Int.natCast_add];rfl,jN HB.o HB7.o⟩
  · have hltI:¬(z:Int)<(n:Int):=by omega
    go_wp2
    go_ret
    have e:pI st x=n-1:=by
     refine QA (.inr (by rw[HN.o])) qV0 (fun y h1 h2=>HZ.o y h1 qJ) (fun hh=>by rw[HN.o]at hh;omega) qV0
    rw[e];exact⟨by show Ending.returned (.int .i64 ((n:Int)-1))=Ending.returned (.int .i64 ((n-1:Nat):Int));congr 2;omega,HB.o⟩
set_option maxHeartbeats 1600000 in
theorem VE(h:TbO base w T vw ws st)(hlz:oS w)(x:Nat)(hx:x<st.length):Calls jG 198 #[.pointer (some ⟨T,0,none⟩),.int .i64 x] w fun e w'=>e=.returned (.int .i64 (yK st x))∧Below w.heap.size w w':=by
 have hle:=h.le;have hfew:=h.few;have HO:=Hd h;have HLZ:=Hd hlz;have hwx:jP.wrap ((x:Int)-1)=(x:Int)-1:=jH _ qJ;clear h hlz
 go_enter Tryz.func198,Tryz.ntmps198
 go_wp2_with fail
 go_loopw [1,5] (fun s1 _ wr=>∃z:Nat,s1=.int .i64 ((z:Int)-1)∧z≤x∧(∀y,z≤y→y<x→st.getD y false=false)∧Below w.heap.size w wr) (fun s1 _ _=>(intOf s1+1).toNat)
 case atStart=>exact⟨x,rfl,jS _,fun y h1 h2=>by omega,jU _ _⟩
 case round=>
  obtain⟨z0,rfl,hz1,hzf,hb⟩:=hrel;have HB:=Hd hb;have HZ:=Hd hzf;have HOW:=Hd (HO.o.below hb);clear hb hzf;obtain⟨⟨x0,-⟩,-⟩:=HOW.o.cells;obtain⟨A,c,hv⟩:=HOW.o.vform;rw[hv]at x0;have HV:=Hd hv;clear hv
  by_cases hlt:0<z0
  · obtain⟨z,rfl⟩:∃z,z0=z+1:=⟨z0-1,by omega⟩;have hz0:((z+1:Nat):Int)-1=(z:Int):=by omega
    rw[hz0];obtain⟨wd,hwd,hwlt,hbit⟩:=nO HOW.o.wds (x:=z) qJ;have hkl0:=(jE.1 hwd).1;have hown:=HOW.o.own;rw[HV.o]at hown;obtain⟨g,rfl⟩:∃g,A=some ⟨g,0,none⟩:=mX hown qJ;obtain⟨y,-⟩:=pC hown (i:=z/64) (v:=.int .u64 wd) (sU hwd);have hsb:=Z8 hbit;obtain⟨k,hk⟩:∃k,z/64=k:=⟨_,rfl⟩;obtain⟨j,hj⟩:∃j,z%64=j:=⟨_,rfl⟩;rw[hk]at y hkl0;rw[hj]at hsb;have hq:jP.wrap ((z:Int)/64)=(k:Int):=by rw[jH _ qJ];omega
    have hkl:(k:Int)<(ws.length:Int):=by omega
    have hw63:jP.wrap (63-(z:Int)%64)=63-(z:Int)%64:=jH _ qJ;have hj63:63-(z:Int)%64=((63-j:Nat):Int):=by omega
    have hw64:jP.wrap ((63-j:Nat):Int)=((63-j:Nat):Int):=jH _ qJ;obtain⟨sv,hsv⟩:∃sv,wd*2 ^ (63-j)%18446744073709551616=sv:=⟨_,rfl⟩;have hsv2:IntKind.u64.wrap ((wd:Int)*2 ^ (63-j))=(sv:Int):=by rw[IntKind.wrap_u64,←hsv];simp
    rw[hsv]at hsb;have hslt:sv<18446744073709551616:=by omega
    have hwk:jP.wrap ((k:Int)*64)=(k:Int)*64:=jH _ qJ;have hwk2:jP.wrap ((k:Int)*64-1)=(k:Int)*64-1:=jH _ qJ;have HSB:=Hd hsb;have HKJ:=Hd (kM hk hj);clear hwd hown hbit hsb hk hj hsv
    by_cases hs0:sv=0
    · subst hs0
      go_wp2_with fail
      go_roundw
      case rel=>
       refine⟨k*64,by go_num,by have :=HKJ.o;omega,fun y' h1 h2=>?_,HB.o⟩
       by_cases hyz:z<y'
       · exact HZ.o y' qJ h2
       · have :=HSB.o (63-(z-y'));rw[Nat.zero_testBit,if_pos (by have :=HKJ.o;omega),show z-(63-(63-(z-y')))=y' by have :=HKJ.o;omega]at this;exact this.symm
      case measure=>have :=HKJ.o;simp[intOf];omega
    · have hs0b:((sv:Int)==0)=false:=by simp;omega
      have hs0c:¬(sv:Int)=0:=by omega
      obtain⟨b1,b2,b3,b4⟩:=Zw hs0 hslt;have HLC:=Hd (fun w' hb=>HLZ.o sv w' hslt hb);obtain⟨bl,hbl⟩:∃bl,Lib.bitLen sv=bl:=⟨_,rfl⟩;rw[hbl]at b1 b2 b3 b4 HLC;rw[HSB.o (bl-1)]at b3;have hbj:63-j≤bl-1∧bl-1<64:=by
       by_cases hh:63-j≤bl-1∧bl-1<64
       · exact hh
       · rw[if_neg hh]at b3;cases b3
      rw[if_pos hbj]at b3;have e:yK st x=z-(64-bl):=wR (.inl qJ) (fun y' h1 h2=>by
       by_cases hyz:z<y'
       · exact HZ.o y' qJ h2
       · have h3:=b4 (63-(z-y')) qJ;rw[HSB.o (63-(z-y')),if_pos qJ,show z-(63-(63-(z-y')))=y' by omega]at h3;exact h3) (fun _=>by rw[show z-(64-bl)=z-(63-(bl-1)) by omega];exact b3)
      have hlz:64-(bl:Int)=((64-bl:Nat):Int):=by omega
      have hwz:jP.wrap ((z:Int)-(64-(bl:Int)))=(z:Int)-(64-(bl:Int)):=jH _ qJ;have HE:=Hd e;have HJZ:Hid (64-bl≤z):=Hd (by have :=HKJ.o;omega);clear b3 b4 e hbl hlz
      go_wp2_with(go_at_call 262;refine(HLC.o _ HB.o).mono ?_;rintro e w5 ⟨rfl,rfl⟩)
      go_ret
      refine⟨?_,HB.o⟩;rw[HE.o];have :=HJZ.o;show Ending.returned (.int .i64 ((z:Int)-(64-(bl:Int))))=Ending.returned (.int .i64 ((z-(64-bl):Nat):Int))
      congr 2
      omega
  · obtain rfl:z0=0:=by omega
    go_wp2
    go_ret
    have e:yK st x=0:=wR (.inr rfl) (fun y h1 h2=>HZ.o y qJ h2) (fun hh=>by omega);rw[e];exact⟨rfl,HB.o⟩
end
section
variable {base:Nat}{w:World}{T:Nat}{vw:Value}{ws:List Nat}{st:List Bool}
theorem lI{F:Nat→Nat}{m:Nat}(hF:∀z,z<m→F z<m):∀(n x:Nat),x<m→pE F n x<m
 |0,_,h=>h
 |n+1,x,h=>lI hF n (F x) (hF x h)
theorem lM{F:Nat→Nat}:∀(n x:Nat),pE F (n+1) x=F (pE F n x)
 |0,_=>rfl
 |n+1,x=>lM n (F x)
set_option maxHeartbeats 1600000 in
theorem aE(h:TbO base w T vw ws st)(h0:0<st.length)(x n:Int)(f:FuncId)(b:Nat)(F:Nat→Nat)(hF:∀z,z<st.length→F z<st.length)
 (hf:∀(args:Array Value) (w:World),(callFunc f args).run jG w=.ok (.enter f args) w)
 (hdo:∀(w':World) (z:Nat),Below w.heap.size w w'→z<st.length→Calls jG f #[.int .i64 z,.pointer (some ⟨b,0,none⟩)] w' fun e w2=>e=.returned (.int .i64 (F z))∧Below w'.heap.size w' w2):
 Calls jG 194 #[.pointer (some ⟨T,0,none⟩),.int .i64 x,.int .i64 n,.func (.func f) #[] #[.pointer (some ⟨b,0,none⟩)]] w fun e w'=>e=.returned (.int .i64 (goT F st.length x n))∧Below w.heap.size w w':=by
 have hle:=h.le;have HO:=Hd h;obtain⟨-,x1,-⟩:=h.cells;obtain⟨m,hm⟩:∃m,st.length=m:=⟨_,rfl⟩;rw[hm]at x1 h0 hle hF hdo ⊢;have hwm:jP.wrap ((m:Int)-1)=(m:Int)-1:=jH _ qJ;obtain⟨c,hc⟩:∃c:Nat,max 0 (min x ((m:Int)-1))=(c:Int):=⟨(max 0 (min x ((m:Int)-1))).toNat,by omega⟩;have hcm:c<m:=by omega
 obtain⟨N,hN⟩:∃N:Nat,min (max 0 n) (m:Int)=(N:Int):=⟨(min (max 0 n) (m:Int)).toNat,by omega⟩;have hNm:N≤m:=by omega
 have hgo:goT F m x n=pE F N c:=by unfold goT;rw[hc,hN,uJ,uJ]
 rw[hgo];have HD:=Hd hdo;have HFF:=Hd hF;clear h hgo hm hdo
 go_enter Tryz.func194,Tryz.ntmps194
 go_upto_region 3 with fail
 refine wp_region_lit ?_;refine zG (.int .i64 x) ?_;refine zG (.pointer (some ⟨T,0,none⟩)) ?_;refine zGs (.pointer (some ⟨T,0,none⟩)) ?_;refine zGs (.pointer (some ⟨T,1,none⟩)) ?_;refine zGs (.int .i64 (m:Int)) ?_;refine zGs (.int .i64 ((m:Int)-1)) ?_;refine jM (.int .i64 (min x ((m:Int)-1))) qK qVm ?_;refine zP ?_;refine jM (.int .i64 (c:Int)) qK qVm ?_;refine zP ?_
 go_upto_region 4 with fail
 refine wp_region_lit ?_;refine zG (.int .i64 n) ?_;refine jM (.int .i64 (max 0 n)) qK qVm ?_;refine zP ?_;refine zG (.pointer (some ⟨T,0,none⟩)) ?_;refine zGs (.pointer (some ⟨T,0,none⟩)) ?_;refine zGs (.pointer (some ⟨T,1,none⟩)) ?_;refine zGs (.int .i64 (m:Int)) ?_;refine jM (.int .i64 (N:Int)) qK qVm ?_;refine zP ?_;clear hc hN
 go_wp2_with fail
 go_loopw [1,26] (fun s1 s26 wr=>∃i:Nat,s26=.int .i64 i∧i≤N∧s1=.int .i64 (pE F i c)∧Below w.heap.size w wr) (fun _ s26 _=>N-(intOf s26).toNat)
 case atStart=>exact⟨0,rfl,kT _,rfl,jU _ _⟩
 case round=>
  obtain⟨i,rfl,hi,rfl,hb⟩:=hrel;have HB:=Hd hb;clear hb
  by_cases hlt:i<N
  · have hltI:(i:Int)<(N:Int):=by omega
    have HC:=Hd (HD.o wr (pE F i c) HB.o (lI HFF.o i c hcm));have HS:=Hd (lM (F:=F) i c);generalize pE F i c=z at HC HS ⊢;have hfc:=hf #[.int .i64 z,.pointer (some ⟨b,0,none⟩)]
    go_wp2_with(refine HC.o.mono ?_;rintro e w5 ⟨rfl,hb⟩;have HB5:=Hd hb;clear hb)
    go_roundw
    case rel=>exact⟨i+1,by go_num,by omega,by rw[HS.o],jN HB.o HB5.o⟩
    case measure=>exact zm
  · obtain rfl:i=N:=by omega
    have hltI:¬(i:Int)<(i:Int):=by omega
    go_wp2
    go_ret
    exact⟨rfl,HB.o⟩
theorem QT{st:List Bool}(z:Nat)(h:z<st.length):pI st z<st.length:=by
 unfold pI;cases hf:(List.range' (z+1) (st.length-1-(z+1))).find? (fun y=>st.getD y false)with
 |none=>show st.length-1<_;omega
 |some y=>
  have :=List.mem_of_find?_eq_some hf;rw[List.mem_range'_1]at this;show y<_;omega
theorem XR(h:TbO base w T vw ws st)(hs:eN w)(b:Nat)(hb:w.cell? ⟨b,0,none⟩=some (.pointer (some ⟨T,0,none⟩)))(z:Nat)(hz:z<st.length):Calls jG 195 #[.int .i64 z,.pointer (some ⟨b,0,none⟩)] w fun e w'=>e=.returned (.int .i64 (pI st z))∧Below w.heap.size w w':=by
 have HA:=Hd (XA h hs z hz);clear h hs
 go_enter Tryz.func195,Tryz.ntmps195
 go_wp2_with(go_at_call 196;refine HA.o.mono ?_;rintro e w1 ⟨rfl,hb⟩;have HB:=Hd hb;clear hb)
 go_ret
 exact⟨rfl,HB.o⟩
theorem Up(h:TbO base w T vw ws st)(hs:eN w)(h0:0<st.length)(x n:Int):Calls jG 121 #[.pointer (some ⟨T,0,none⟩),.int .i64 x,.int .i64 n] w fun e w'=>e=.returned (.int .i64 (goT (pI st) st.length x n))∧Below w.heap.size w w':=by
 have hb2:=jW (jU w.heap.size w) (.cells #[.pointer (some ⟨T,0,none⟩)] 81);have hc:=(at_ (kZ (W:=w) (b:=w.heap.size) (o:=.cells #[.pointer (some ⟨T,0,none⟩)] 81) rfl) 0 _ rfl).1;have HT:=Hd (aE (h.below hb2) h0 x n 195 w.heap.size (pI st) QT (fun args w=>by kernel_rfl) (fun w' z hb hz=>XR ((h.below hb2).below hb) (fun y w2 hy hb3=>hs y w2 hy (jN (jN hb2 hb) hb3)) w.heap.size (jA hb hc) z hz));have HB2:=Hd hb2;clear h hs hb2 hc
 go_enter Tryz.func121,Tryz.ntmps121
 go_wp2_with(go_at_call 194;(with_reducible refine HT.o.mono ?_);rintro e w1 ⟨rfl,hb⟩;have HB:=Hd hb;clear hb)
 go_ret
 exact⟨rfl,jN HB2.o HB.o⟩
theorem wL{st:List Bool}(z:Nat)(h:z<st.length):yK st z<st.length:=by
 unfold yK;cases hf:((List.range' 1 (z-1)).reverse).find? (fun y=>st.getD y false)with
 |none=>show 0<_;omega
 |some y=>
  have :=List.mem_of_find?_eq_some hf;rw[List.mem_reverse,List.mem_range'_1]at this;show y<_;omega
theorem VI(h:TbO base w T vw ws st)(hs:oS w)(b:Nat)(hb:w.cell? ⟨b,0,none⟩=some (.pointer (some ⟨T,0,none⟩)))(z:Nat)(hz:z<st.length):Calls jG 197 #[.int .i64 z,.pointer (some ⟨b,0,none⟩)] w fun e w'=>e=.returned (.int .i64 (yK st z))∧Below w.heap.size w w':=by
 have HA:=Hd (VE h hs z hz);clear h hs
 go_enter Tryz.func197,Tryz.ntmps197
 go_wp2_with(go_at_call 198;refine HA.o.mono ?_;rintro e w1 ⟨rfl,hb⟩;have HB:=Hd hb;clear hb)
 go_ret
 exact⟨rfl,HB.o⟩
theorem XT(h:TbO base w T vw ws st)(hs:oS w)(h0:0<st.length)(x n:Int):Calls jG 122 #[.pointer (some ⟨T,0,none⟩),.int .i64 x,.int .i64 n] w fun e w'=>e=.returned (.int .i64 (goT (yK st) st.length x n))∧Below w.heap.size w w':=by
 have hb2:=jW (jU w.heap.size w) (.cells #[.pointer (some ⟨T,0,none⟩)] 81);have hc:=(at_ (kZ (W:=w) (b:=w.heap.size) (o:=.cells #[.pointer (some ⟨T,0,none⟩)] 81) rfl) 0 _ rfl).1;have HT:=Hd (aE (h.below hb2) h0 x n 197 w.heap.size (yK st) wL (fun args w=>by kernel_rfl) (fun w' z hb hz=>VI ((h.below hb2).below hb) (fun y w2 hy hb3=>hs y w2 hy (jN (jN hb2 hb) hb3)) w.heap.size (jA hb hc) z hz));have HB2:=Hd hb2;clear h hs hb2 hc
 go_enter Tryz.func122,Tryz.ntmps122
 go_wp2_with(go_at_call 194;(with_reducible refine HT.o.mono ?_);rintro e w1 ⟨rfl,hb⟩;have HB:=Hd hb;clear hb)
 go_ret
 exact⟨rfl,jN HB2.o HB.o⟩
end
end Go.Proofs.YtjcpdcncfjkejaaGreatDoor
