/- Joined by a tool of this claim out of smaller texts. Conditions: as stated. -/
import Derived.Test.YtjcpdcncfjkejaaGreatDoorSx14
set_option linter.unusedVariables false
set_option linter.unusedSimpArgs false
set_option maxRecDepth 100000
open Go.Lib renaming hid → Hd
open Go.Proofs.Tryz renaming prog → jG, underlying38 → kE
open Go.RowKit.Below renaming refl → jU
open Go.IntWalk renaming i64_in → jH
open Go.IntKind renaming i64 → jP
open List renaming replicate → kJ, mem_cons → kW, mem_append → kL
open And renaming intro → kM
open Nat renaming zero_le → kT, le_trans → vY
open Go.World renaming setCell → uQ
open Int renaming toNat_natCast → uJ
namespace Go.Proofs.YtjcpdcncfjkejaaGreatDoor
open Go.RowKit
def bP(f:FuncId)(args:Array Value)(w:World)(v:Value):Prop:=∀w',Below w.heap.size w w'→Calls jG f args w' fun e w2=>e=.returned v∧Below w'.heap.size w' w2
theorem bP.here{f:FuncId}{args:Array Value}{w:World}{v:Value}(h:bP f args w v):Calls jG f args w fun e w2=>e=.returned v∧Below w.heap.size w w2:=h w (jU _ _)
structure DmI(rows cols room:Nat)(s:Sc):Prop where
 n:ScN rows cols room s
 r:rows≤1000
 c2:2≤cols
 c:cols≤1000
 rm:room≤100000
 t:s.pg.told.length≤900000
theorem DmI.to{rows cols room:Nat}{s s':Sc}(h:DmI rows cols room s)(hn:ScN rows cols room s')(ht:s'.pg.told.length≤900000):DmI rows cols room s':=⟨hn,h.r,h.c2,h.c,h.rm,ht⟩
theorem Ux(n lo hi:Int)(w:World):Calls jG 86 #[.int .i64 n,.int .i64 lo,.int .i64 hi] w fun e w'=>e=.returned (.int .i64 (UM n lo hi))∧w=w':=by
 unfold UM
 by_cases h1:n<lo
 · rw[if_pos h1]
   go_enter Tryz.func86,Tryz.ntmps86
   go_wp2
   go_ret
   exact⟨rfl,rfl⟩
 rw[if_neg h1]
 by_cases h2:hi<n
 · rw[if_pos h2]
   go_enter Tryz.func86,Tryz.ntmps86
   go_wp2
   go_ret
   exact⟨rfl,rfl⟩
 · rw[if_neg h2]
   go_enter Tryz.func86,Tryz.ntmps86
   go_wp2
   go_ret
   exact⟨rfl,rfl⟩
theorem pQ{lo hi:Int}(h:lo≤hi)(n:Int)(w:World):bP 86 #[.int .i64 n,.int .i64 lo,.int .i64 hi] w (.int .i64 (uZ n lo hi)):=fun w' _=>(Ux n lo hi w').mono fun e w2 ⟨he,hw⟩=>⟨by rw[he,qQo h],hw▸jU _ _⟩
section
variable {base rows cols room:Nat}{w W:World}{m:Mv}{s0 s:Sc}
theorem DmI.len(h:DmI rows cols room s):(yX s.pg).L.length≤900000∧(yX s.pg).base≤(yX s.pg).L.length:=by
 have h1:=h.n.pg.hhist;have h2:=h.n.pg.hrows;have h3:=h.rm;have h4:=h.r
 constructor
 · show(s.pg.hist++s.pg.scr).length≤_;simp;omega
 · show s.pg.hist.length≤(s.pg.hist++s.pg.scr).length;simp
theorem uN.cellAt(h:uN base w m s W)(i:Nat)(v:Value)(hv:∀vs,(dL s m.q.D vs)[i]? =some v):W.cell? ⟨m.M,i,none⟩=some v∧W.frozen? ⟨m.M,i,none⟩=false:=by
 obtain⟨m1,e1,e2,hO,hm,hx⟩:=h;have :=kC hO.blk i v (by rw[e2];exact hv _);rw[e1]at this;exact this
theorem uN.colsC(h:uN base w m s W):W.cell? ⟨m.q.D,2,none⟩=some (.int .i64 s.pg.cols):=by
 obtain⟨m1,e1,e2,hO,hm,hx⟩:=h;rw[←e2];exact hO.doc.cells.2.2.1.1
theorem uN.baseC(h:uN base w m s W):W.cell? ⟨m.q.D,1,none⟩=some (.int .i64 s.pg.hist.length):=by
 obtain⟨m1,e1,e2,hO,hm,hx⟩:=h;rw[←e2];exact hO.doc.cells.2.1.1
theorem uN.colsI(h:uN base w m s W)(hi:DmI rows cols room s):W.cell? ⟨m.q.D,2,none⟩=some (.int .i64 cols):=by
 have :=h.colsC;rw[hi.n.pg.hcols]at this;exact this
theorem uN.colsB(h:uN base w m s W):2≤s.pg.cols∧s.pg.cols≤1000:=by
 obtain⟨m1,e1,e2,hO,hm,hx⟩:=h;exact⟨hO.doc.cols2,hO.doc.cols1000⟩
theorem uN.put{s':Sc}(h:uN base w m s W)(i:Nat)(x:Value)(he:∀vs,(dL s m.q.D vs).set i x=dL s' m.q.D vs)(hp:s'.pg=s.pg)(ht:s'.st=s.st):uN base w m s' (W.setCell ⟨m.M,i,none⟩ x):=by
 obtain⟨m1,e1,e2,hO,hm,hx⟩:=h;have :=hO.put_res i x (s':=s') (by rw[e2];exact he _) hp ht;rw[e1]at this;exact uN.trans ⟨e1,e2,hm,hx⟩ this
theorem uN.puts{s':Sc}(h:uN base w m s W)(o:Nat)(xs:List Value)(ho:o+xs.length≤38)(he:∀vs,(dL s m.q.D vs).take o++(xs++(dL s m.q.D vs).drop (o+xs.length))=dL s' m.q.D vs)(hp:s'.pg=s.pg)(ht:s'.st=s.st):uN base w m s' (W.setCells m.M o xs):=by
 obtain⟨m1,e1,e2,hO,hm,hx⟩:=h;have :=hO.puts_res o xs ho (s':=s') (by rw[e2];exact he _) hp ht;rw[e1]at this;exact uN.trans ⟨e1,e2,hm,hx⟩ this
theorem uN.there(h:uN base w m s W){o n:Nat}(ho:o+n≤38):W.there m.M o n:=by
 obtain⟨m1,e1,e2,hO,hm,hx⟩:=h;rw[←e1];exact hO.there ho
theorem zB(h:uN base w m s W)(hi:DmI rows cols room s):bP 87 #[.pointer (some ⟨m.q.D,0,none⟩)] W (.int .i64 rows):=fun w' hb=>by
 obtain⟨m1,e1,e2,hO,hm,hx⟩:=h;have :=QH (hO.below hb).doc qVo hi.len.2;have e:hE (yX s.pg)=rows:=by
  show((s.pg.hist++s.pg.scr).length:Int)-s.pg.hist.length=_;have :=hi.n.pg.hrows;simp;omega
 rw[e,e2]at this;exact this
theorem KL(h:uN base w m s W)(hi:DmI rows cols room s)(y:Int):bP 125 #[.pointer (some ⟨m.q.D,0,none⟩),.int .i64 y] W (.bool (decide (0≤y)&&decide (y<rows))):=fun w' hb=>by
 obtain⟨m1,e1,e2,hO,hm,hx⟩:=h;have :=oZ (hO.below hb).doc qVo hi.len.2 y;have e:nU (yX s.pg) y=(decide (0≤y)&&decide (y<rows)):=by
  rw[iH];unfold inP;rw[hi.n.pg.hrows]
 rw[e,e2]at this;exact this
theorem yI(h:uN base w m s W):bP 118 #[.pointer (some ⟨m.M,0,none⟩)] W (.agg #[.int .i64 s.pen.at_.bk,.int .i64 s.pen.at_.bn]):=fun w' hb=>by
 obtain⟨x0,-⟩:=(h.post hb).cellAt 4 (.int .i64 s.pen.at_.bk) (fun _=>rfl);obtain⟨x1,-⟩:=(h.post hb).cellAt 5 (.int .i64 s.pen.at_.bn) (fun _=>rfl);have hl:=gO x0;clear h hb
 go_enter Tryz.func118,Tryz.ntmps118
 go_wp2
 exact bodyPost_ret (bV rfl _ _ w'.heap.size [.int .i64 s.pen.at_.bk,.int .i64 s.pen.at_.bn] rfl (kA (kZ rfl)) kE rfl uO) rfl ⟨rfl,jW (jU _ _) _⟩
theorem bF(h:uN base w m s W)(h0:0≤s.x):bP 42 #[.pointer (some ⟨m.M,0,none⟩)] W (.int .i64 (inS s)):=fun V hb=>by
 obtain⟨h2,h3⟩:=h.colsB;have hw:jP.wrap ((s.pg.cols:Int)-1)=(s.pg.cols:Int)-1:=jH _ qJ;have e:inS s=uZ s.x 0 ((s.pg.cols:Int)-1):=by unfold inS colsS uZ;omega
 have HN:=Hd (pQ (lo:=0) (hi:=(s.pg.cols:Int)-1) qJ s.x V);have HR:=Hd (h.post hb);have HV:=Hd (jU V.heap.size V);rw[e];clear h hb
 go_enter Tryz.func42,Tryz.ntmps42
 go_upto_region 1 with fail
 obtain⟨c_D,-⟩:=HR.o.cellAt 0 (.pointer (some ⟨m.q.D,0,none⟩)) (fun _=>rfl);obtain⟨c_x,-⟩:=HR.o.cellAt 17 (.int .i64 s.x) (fun _=>rfl);have c_cols:=HR.o.colsC;refine zU3 13 c_D c_x c_cols ?_
 repeat first|refine zS ?_|refine zC0 (zC3 HN.o) ?_|refine zV ?_
 refine kU (fun w' hS=>?_);replace HV:=Hd hS.1;clear hS c_D c_x c_cols
 go_wp2
 go_ret
 exact⟨rfl,HV.o⟩
theorem eP(h:uN base w m s W)(hi:DmI rows cols room s)(top bot n:Int)(how:Nat)(F:Nat→Nat→Pg→Pg)(hhow:(how=0∧F=fun t bo g=>upP g t bo (yJ s))∨(how=1∧F=fun t bo g=>cK g t bo (yJ s))∨(how=2∧F=fun t bo g=>lU g t bo (yJ s))):
 Calls jG 117 #[.pointer (some ⟨m.q.D,0,none⟩),.int .i64 top,.int .i64 bot,.int .i64 n,.agg #[.int .i64 s.pen.at_.bk,.int .i64 s.pen.at_.bn],.int .i64 how] W (vB base w m {s with pg:=gI s.pg top bot n F}):=by
 obtain⟨m1,e1,e2,hO,hm,hx⟩:=h;have key:∀fid,((how=0∧fid=189∧F=fun t bo g=>upP g t bo (yJ s))∨(how=1∧fid=190∧F=fun t bo g=>cK g t bo (yJ s))∨(how=2∧fid=191∧F=fun t bo g=>lU g t bo (yJ s)))→Calls jG 117 #[.pointer (some ⟨m.q.D,0,none⟩),.int .i64 top,.int .i64 bot,.int .i64 n,.agg #[.int .i64 s.pen.at_.bk,.int .i64 s.pen.at_.bn],.int .i64 how] W (vB base w m {s with pg:=gI s.pg top bot n F}):=fun fid hf=>by
  rw[←e2];exact(Kh hO.doc hi.n.pg hi.r hi.rm hi.t top bot n (yJ s) how fid F hf).mono fun e w2 hh=>⟨hh.1,uN.trans ⟨e1,e2,hm,hx⟩ (hO.doced hh.2)⟩
 rcases hhow with⟨h1,h2⟩|⟨h1,h2⟩|⟨h1,h2⟩
 · exact key _ (.inl ⟨h1,rfl,h2⟩)
 · exact key _ (.inr (.inl ⟨h1,rfl,h2⟩))
 · exact key _ (.inr (.inr ⟨h1,rfl,h2⟩))
def Yn(base:Nat)(w:World)(m:Mv)(r:Sc×Bool)(e:Ending)(w':World):Prop:=e=.returned (.bool r.2)∧uN base w m r.1 w'
theorem DmI.inX(hi:DmI rows cols room s):DmI rows cols room (inX s):=hi.to (hi.n.setX (hi.n.inS hi.c2).1 (by have :=(hi.n.inS hi.c2).2;omega)) hi.t
set_option maxHeartbeats 1600000 in
theorem wU(h:uN base w m s W)(hi:DmI rows cols room s):Calls jG 45 #[.pointer (some ⟨m.M,0,none⟩)] W (Yn base w m (zM s)):=by
 have HR:=Hd h;have HI:=Hd hi;have HIX:=Hd hi.inX;have HIN:=Hd (bF h hi.n.x0);have hy0:=hi.n.y0;have hy1:=hi.n.y1;have hr:=hi.r;have hrS:=hi.n.rowsS;obtain⟨c_x,f_x⟩:=h.cellAt 17 (.int .i64 s.x) (fun _=>rfl);have HX:=Hd (kM c_x f_x);clear h hi c_x f_x;unfold zM
 by_cases hyb:s.y=s.bot
 · rw[if_pos hyb]
   go_enter Tryz.func45,Tryz.ntmps45
   go_upto_region 2 with(go_at_call 42;refine HIN.o.here.mono ?_;rintro e w1 ⟨rfl,hb⟩;obtain⟨c_x,f_x⟩:=bQ hb HX.o;replace HR:=Hd ((HR.o.post hb).put 17 (.int .i64 (inS s)) (s':=inX s) (fun _=>rfl) rfl rfl);clear hb)
   clear HIN;generalize uQ _ _ _=W3 at HR ⊢;clear c_x f_x;obtain⟨c_y,-⟩:=HR.o.cellAt 16 (.int .i64 (inX s).y) (fun _=>rfl);obtain⟨c_bot,-⟩:=HR.o.cellAt 19 (.int .i64 (inX s).bot) (fun _=>rfl);refine zW2 8 c_y c_bot fun w' hS=>?_;replace HR:=Hd (HR.o.post hS.1);clear hS c_y c_bot
   rename World=>W4
   have hyb':(inX s).y=(inX s).bot:=hyb;have hbq:((inX s).y==(inX s).bot)=true:=by rw[hyb'];exact beq_self_eq_true _
   go_upto_region 3 with fail
   have HBK:=Hd (yI HR.o);obtain⟨c_D,-⟩:=HR.o.cellAt 0 (.pointer (some ⟨m.q.D,0,none⟩)) (fun _=>rfl);obtain⟨c_top,-⟩:=HR.o.cellAt 18 (.int .i64 (inX s).top) (fun _=>rfl);obtain⟨c_bot,-⟩:=HR.o.cellAt 19 (.int .i64 (inX s).bot) (fun _=>rfl);refine zU3 14 c_D c_top c_bot ?_
   repeat first|refine zS ?_|refine zC0 (zC3 HBK.o) ?_|refine zV ?_
   refine kU (fun w' hS=>?_);replace HR:=Hd (HR.o.post hS.1);clear hS c_D c_top c_bot
   rename World=>W5
   have HUP:=Hd (eP HR.o HIX.o s.top s.bot 1 0 _ (.inl ⟨rfl,rfl⟩))
   go_wp2_with(go_at_call 117;refine HUP.o.mono ?_;rintro e w6 ⟨rfl,hp⟩;have HP6:=Hd hp;clear hp)
   go_ret
   exact⟨rfl,HP6.o⟩
 · rw[if_neg hyb];have hyb':¬(inX s).y=(inX s).bot:=hyb;have hbq:((inX s).y==(inX s).bot)=false:=zb hyb'
   by_cases hyr:s.y<rowsS s-1
   all_goals
    rw[hrS]at hyr;have hwy:jP.wrap ((inX s).y+1)=(inX s).y+1:=jH _ (by show _≤s.y+1∧s.y+1≤_;omega);have hyr':(inX s).y+1<(rows:Int)↔s.y<(rows:Int)-1:=by show s.y+1<(rows:Int)↔_;omega
    go_enter Tryz.func45,Tryz.ntmps45
    go_upto_region 2 with(go_at_call 42;refine HIN.o.here.mono ?_;rintro e w1 ⟨rfl,hb⟩;obtain⟨c_x,f_x⟩:=bQ hb HX.o;replace HR:=Hd ((HR.o.post hb).put 17 (.int .i64 (inS s)) (s':=inX s) (fun _=>rfl) rfl rfl);clear hb)
    clear HIN;generalize uQ _ _ _=W3 at HR ⊢;clear c_x f_x;obtain⟨c_y,-⟩:=HR.o.cellAt 16 (.int .i64 (inX s).y) (fun _=>rfl);obtain⟨c_bot,-⟩:=HR.o.cellAt 19 (.int .i64 (inX s).bot) (fun _=>rfl);refine zW2 8 c_y c_bot fun w' hS=>?_;replace HR:=Hd (HR.o.post hS.1);clear hS c_y c_bot
    rename World=>W4
    go_upto_region 5 with fail
    have HRW:=Hd (zB HR.o HIX.o);obtain⟨c_D,-⟩:=HR.o.cellAt 0 (.pointer (some ⟨m.q.D,0,none⟩)) (fun _=>rfl);obtain⟨c_y,-⟩:=HR.o.cellAt 16 (.int .i64 (inX s).y) (fun _=>rfl);refine zU2 10 c_D c_y ?_
    repeat first|refine zS ?_|refine zC0 (zC2 HRW.o) ?_|refine zV ?_
    refine kU (fun w' hS=>?_);replace HR:=Hd (HR.o.post hS.1);clear hS c_D c_y
    rename World=>W5
    obtain⟨c_y,f_y⟩:=HR.o.cellAt 16 (.int .i64 (inX s).y) (fun _=>rfl)
   · rw[hrS,if_pos hyr];have hyr2:(inX s).y+1<(rows:Int):=hyr'.2 hyr
     go_wp2
     go_ret
     exact qZ1
   · rw[hrS,if_neg qJ];have hyr2:¬(inX s).y+1<(rows:Int):=fun hx=>by have :=hyr'.1 hx;omega
     go_wp2
     go_ret
     exact⟨rfl,HR.o⟩
set_option maxHeartbeats 1600000 in
theorem rP(h:uN base w m s W)(hi:DmI rows cols room s):Calls jG 47 #[.pointer (some ⟨m.M,0,none⟩)] W (vB base w m (yY s)):=by
 have HR:=Hd h;have HI:=Hd hi;have HIX:=Hd hi.inX;have HIN:=Hd (bF h hi.n.x0);have hy0:=hi.n.y0;have hy1:=hi.n.y1;have hr:=hi.r;have hrS:=hi.n.rowsS;obtain⟨c_x,f_x⟩:=h.cellAt 17 (.int .i64 s.x) (fun _=>rfl);have HX:=Hd (kM c_x f_x);clear h hi c_x f_x;unfold yY
 by_cases hyb:s.y=s.top
 · rw[if_pos hyb]
   go_enter Tryz.func47,Tryz.ntmps47
   go_upto_region 1 with(go_at_call 42;refine HIN.o.here.mono ?_;rintro e w1 ⟨rfl,hb⟩;obtain⟨c_x,f_x⟩:=bQ hb HX.o;replace HR:=Hd ((HR.o.post hb).put 17 (.int .i64 (inS s)) (s':=inX s) (fun _=>rfl) rfl rfl);clear hb)
   clear HIN;generalize uQ _ _ _=W3 at HR ⊢;clear c_x f_x;obtain⟨c_y,-⟩:=HR.o.cellAt 16 (.int .i64 (inX s).y) (fun _=>rfl);obtain⟨c_top,-⟩:=HR.o.cellAt 18 (.int .i64 (inX s).top) (fun _=>rfl);refine zW2 8 c_y c_top fun w' hS=>?_;replace HR:=Hd (HR.o.post hS.1);clear hS c_y c_top
   rename World=>W4
   have hyb':(inX s).y=(inX s).top:=hyb;have hbq:((inX s).y==(inX s).top)=true:=by rw[hyb'];exact beq_self_eq_true _
   go_upto_region 2 with fail
   have HBK:=Hd (yI HR.o);obtain⟨c_D,-⟩:=HR.o.cellAt 0 (.pointer (some ⟨m.q.D,0,none⟩)) (fun _=>rfl);obtain⟨c_top,-⟩:=HR.o.cellAt 18 (.int .i64 (inX s).top) (fun _=>rfl);obtain⟨c_bot,-⟩:=HR.o.cellAt 19 (.int .i64 (inX s).bot) (fun _=>rfl);refine zU3 14 c_D c_top c_bot ?_
   repeat first|refine zS ?_|refine zC0 (zC3 HBK.o) ?_|refine zV ?_
   refine kU (fun w' hS=>?_);replace HR:=Hd (HR.o.post hS.1);clear hS c_D c_top c_bot
   rename World=>W5
   have HUP:=Hd (eP HR.o HIX.o s.top s.bot 1 1 _ (.inr (.inl ⟨rfl,rfl⟩)))
   go_wp2_with(go_at_call 117;refine HUP.o.mono ?_;rintro e w6 ⟨rfl,hp⟩;have HP6:=Hd hp;clear hp)
   go_end0
   exact⟨rfl,HP6.o⟩
 · rw[if_neg hyb];have hyb':¬(inX s).y=(inX s).top:=hyb;have hbq:((inX s).y==(inX s).top)=false:=zb hyb'
   by_cases hyr:0<s.y
   all_goals
    have hwy:jP.wrap ((inX s).y-1)=(inX s).y-1:=jH _ (by show _≤s.y-1∧s.y-1≤_;omega)
    go_enter Tryz.func47,Tryz.ntmps47
    go_upto_region 1 with(go_at_call 42;refine HIN.o.here.mono ?_;rintro e w1 ⟨rfl,hb⟩;obtain⟨c_x,f_x⟩:=bQ hb HX.o;replace HR:=Hd ((HR.o.post hb).put 17 (.int .i64 (inS s)) (s':=inX s) (fun _=>rfl) rfl rfl);clear hb)
    clear HIN;generalize uQ _ _ _=W3 at HR ⊢;clear c_x f_x;obtain⟨c_y,-⟩:=HR.o.cellAt 16 (.int .i64 (inX s).y) (fun _=>rfl);obtain⟨c_top,-⟩:=HR.o.cellAt 18 (.int .i64 (inX s).top) (fun _=>rfl);refine zW2 8 c_y c_top fun w' hS=>?_;replace HR:=Hd (HR.o.post hS.1);clear hS c_y c_top
    rename World=>W4
    obtain⟨c_y,f_y⟩:=HR.o.cellAt 16 (.int .i64 (inX s).y) (fun _=>rfl)
   · rw[if_pos hyr];have hyr2:0<(inX s).y:=hyr
     go_wp2
     go_end0
     exact qZ1
   · rw[if_neg qJ];have hyr2:¬0<(inX s).y:=by show ¬0<s.y;omega
     go_wp2
     go_end0
     exact⟨rfl,HR.o⟩
end
structure Sop where
 kind:Int
 a:Int
 b:Int
 r:Int
 A:Option Addr
 H:List Gh
 cap:Nat
def bY(o:Sop):List Value:=[.int .i64 o.kind,.int .i64 o.a,.int .i64 o.b,.int .i32 o.r,.slice o.A o.H.length o.cap]
theorem Yq:∀o,(bY o).length=5:=fun _=>rfl
def Ky(s:Sc)(p w h:Bool):Sc:={s with pen:={s.pen with put:=p,wrap:=w,home:=h}}
def u8B(r:Int):Int:=r%256
def cP(s:Sc)(o:Sop):Sc:=
 if o.kind=23∨o.kind=24 then Ky s (!(o.a.tmod 2==0)) (o.b.tmod 2==0) (o.kind==24)
 else if o.kind=25 then{s with pen:={s.pen with ch:=dD (u8B o.r)}}
 else if o.kind=26 then{s with st:=iA s.st o.a true}
 else if o.kind=27 then{s with st:=iA s.st o.a false}
 else s
def vG(s:Sc)(o:Sop):Sc:=
 if o.kind=0 then cA s o.r else if o.kind=1 then bZ s o.a else if o.kind=2 then fX s (vK o.H)
 else if o.kind=3 then nD s else if o.kind=4 then{s with x:=0}else if o.kind=5 then(zM s).1
 else if o.kind=6 then yY s else if o.kind=7 then lO s o.a else if o.kind=8 then dF s o.a o.b
 else if o.kind=9 then goS s o.a o.b else if o.kind=10 then yR s o.a o.b else if o.kind=11 then vX s o.a
 else if o.kind=12 then pV s o.a else if o.kind=13 then yH s o.a else if o.kind=14 then pB s o.a
 else if o.kind=15 then pP s o.a else if o.kind=16 then gF s o.a else if o.kind=17 then gR s o.a
 else if o.kind=18 then bJ s o.a else if o.kind=19 then cI s else if o.kind=20 then gD s
 else if o.kind=21 then eE s else if o.kind=22 then fW s else cP s o
structure ScG(rows cols room:Nat)(s:Sc):Prop where
 n:ScN rows cols room s
 f1:zZ s.pen.at_.fl
 f2:zZ s.sp.at_.fl
structure SBx(B:Nat)(w:World)(v:Sv)(m:Mv)(s d:Sc):Prop where
 p:ScO B w v s
 d:DmO B w m d
 ap:∀b∈scX v,b∉dmX m
abbrev SB(B:Nat)(w:World)(v:Sv)(m:Mv)(s:Sc):Prop:=SBx B w v m s s
def sN(B:Nat)(w:World)(v:Sv)(m:Mv)(s' d':Sc)(w':World):Prop:=
 ∃v' m',v'.S=v.S∧v'.T=v.T∧v'.q.P=v.q.P∧m'.M=m.M∧m'.q.D=m.q.D∧SBx B w' v' m' s' d'∧Mod (scX v++dmX m) w w'∧∀b∈scX v'++dmX m',b∈scX v++dmX m∨w.heap.size≤b
abbrev zC(B:Nat)(w:World)(v:Sv)(m:Mv)(s':Sc)(w':World):Prop:=sN B w v m s' s' w'
section
variable {B:Nat}{w w1 w2:World}{v:Sv}{m:Mv}{s d s1 d1:Sc}
theorem SBx.below(h:SBx B w v m s d)(hb:Below w.heap.size w w1):SBx B w1 v m s d:=⟨h.p.below hb,h.d.mod (Mod.of_below (X:=[]) hb) (yD.nil w) (fun _ _ h=>by cases h),h.ap⟩
theorem SBx.res(h:SBx B w v m s d):sN B w v m s d w:=⟨v,m,rfl,rfl,rfl,rfl,rfl,h,Mod.refl _ _,fun _ hb=>.inl hb⟩
theorem ScO.nocel(h:ScO B w v s):yD w (scX v):=by
 intro b hb cs f he;rcases kW.1 hb with rfl|hb
 · exact qZj
 rcases kL.1 hb with hb|hb
 · obtain⟨cur,ty,hc,ht⟩:=h.tabs.types _ hb;rcases ht with rfl|rfl<;>exact uP hc he qZ rfl
 · obtain⟨cur,ty,hc,ht⟩:=h.page.types _ hb;rcases ht with rfl|rfl|rfl|rfl<;>exact uP hc he qZ rfl
theorem uR.modr{w1:World}(h:uR B w v s1 w1):Mod (scX v) w w1:=by
 obtain⟨v',-,-,-,-,hm,-⟩:=h;exact hm
theorem SBx.mid(h:SBx B w v m s d)(hp:uR B w v s1 w1):uN B w1 m d w1:=
 (h.d.mod hp.modr h.p.nocel (fun b hb hx=>h.ap b hx hb)).res
theorem SBx.step(h:SBx B w v m s d)(hp:uR B w v s1 w1)(hd:uN B w1 m d1 w2):sN B w v m s1 d1 w2:=by
 obtain⟨v',e1,e2,e3,hO,hm,hx⟩:=hp;have hdm:=h.d.mod hm h.p.nocel (fun b hb hx=>h.ap b hx hb);obtain⟨m',f1,f2,hD,hm2,hx2⟩:=hd;have hlt:=h.p.lt;have hap:∀b∈scX v',b∉dmX m:=fun b hb hd=>by
  rcases hx b hb with h1|h1
  · exact h.ap b h1 hd
  · have :=(h.d.lt b hd).2;omega
 refine⟨v',m',e1,e2,e3,f1,f2,⟨hO.mod hm2 hdm.nocel hap,hD,fun b hb hd=>?_⟩,?_,fun b hb=>?_⟩
 · rcases hx2 b hd with h1|h1
   · exact hap b hb h1
   · have :=(hO.lt b hb).2;omega
 · have k1:Mod (scX v++dmX m) w w1:=hm.mono (fun b hb=>List.mem_append_left _ hb);have k2:Mod (scX v++dmX m) w1 w2:=hm2.mono (fun b hb=>List.mem_append_right _ hb);exact k1.trans k2 (fun b hb=>.inl hb)
 · rcases kL.1 hb with hb|hb
   · rcases hx b hb with h1|h1
     · exact .inl (by simp[h1])
     · exact .inr h1
   · rcases hx2 b hb with h1|h1
     · exact .inl (by simp[h1])
     · exact .inr (vY hm.size h1)
theorem zC.pre(hb:Below w.heap.size w w1)(h:sN B w1 v m s1 d1 w2):sN B w v m s1 d1 w2:=by
 obtain⟨v',m',e1,e2,e3,e4,e5,hS,hm,hx⟩:=h;refine⟨v',m',e1,e2,e3,e4,e5,hS,(Mod.of_below hb).trans hm (fun b hb=>.inl hb),fun b hb2=>?_⟩;rcases hx b hb2 with h1|h1
 · exact .inl h1
 · exact .inr (vY hb.size h1)
theorem SBx.lt(h:SBx B w v m s d):∀b∈scX v++dmX m,B≤b∧b<w.heap.size:=fun b hb=>by
 rcases kL.1 hb with hb|hb
 · exact h.p.lt b hb
 · exact h.d.lt b hb
theorem SBx.base(h:SBx B w v m s d):B≤w.heap.size:=by have :=h.lt v.S qKg;omega
theorem zC.low(h:SBx B w v m s d)(hr:sN B w v m s1 d1 w1):Below B w w1:=by
 obtain⟨v',m',-,-,-,-,-,-,hm,-⟩:=hr;exact hm.below (fun b hb=>(h.lt b hb).1) h.base
theorem uR.low(h:ScO B w v s)(hr:uR B w v s1 w1):Below B w w1:=
 hr.modr.below (fun b hb=>(h.lt b hb).1) (by have :=h.lt v.S qKg;omega)
end
structure SopOk(B:Nat)(w:World)(o:Sop):Prop where
 g:∀W',Below B w W'→eR W' o.A o.H
 hc:o.H.length≤o.cap
 h1:o.H.length≤1000000
 h2:∀h∈o.H,h.g.length≤1000000
 ia: -9223372036854775808≤o.a∧o.a≤9223372036854775807
theorem SopOk.to{B:Nat}{w w1:World}{o:Sop}(h:SopOk B w o)(hb:Below B w w1):SopOk B w1 o:=⟨fun W' hb'=>h.g W' (hb.trans hb'),h.hc,h.h1,h.h2,h.ia⟩
def DoesX(B:Nat)(w:World)(v:Sv)(m:Mv)(s' d':Sc)(e:Ending)(w':World):Prop:=e=.returned (.tuple #[])∧sN B w v m s' d' w'
def DoesS(B:Nat)(w:World)(v:Sv)(m:Mv)(s':Sc)(e:Ending)(w':World):Prop:=e=.returned (.tuple #[])∧zC B w v m s' w'
section
variable {rows cols room:Nat}{s:Sc}
theorem ScG.like(h:ScG rows cols room s){s':Sc}(hn:ScN rows cols room s')(h1:s'.pen.at_=s.pen.at_)(h2:s'.sp.at_=s.sp.at_):ScG rows cols room s':=⟨hn,by rw[h1];exact h.f1,by rw[h2];exact h.f2⟩
end
def yQ(s s':Sc):Prop:=s'.pen.at_=s.pen.at_∧s'.sp=s.sp
theorem yQ.trans{a b c:Sc}(h:yQ a b)(k:yQ b c):yQ a c:=⟨k.1.trans h.1,k.2.trans h.2⟩
theorem ZH(s:Sc):yQ s (zM s).1:=by
 unfold zM
 split
 · exact⟨rfl,rfl⟩
 split
 · exact⟨rfl,rfl⟩
 · exact⟨rfl,rfl⟩
theorem pen_pad(s:Sc):yQ s (cQ s):=by
 unfold cQ
 split<;>exact⟨rfl,rfl⟩
theorem pen_on(p:Sc×Bool):yQ p.1 (onS p):=by
 unfold onS
 split<;>exact⟨rfl,rfl⟩
theorem qQe(s:Sc)(w:Int):yQ s (cB s w):=by
 unfold cB
 split
 · exact⟨rfl,rfl⟩
 split
 · exact⟨rfl,rfl⟩
 · exact((pen_pad s).trans (ZH _)).trans (pen_on _)
theorem WW(s:Sc)(w:Int):yQ s (bO s w):=by
 unfold bO
 split<;>exact⟨rfl,rfl⟩
theorem Jr(s:Sc)(r:Int):yQ s (pH s r):=by
 unfold pH
 split
 · exact⟨rfl,rfl⟩
 split
 · exact⟨rfl,rfl⟩
 · exact((qQe s _).trans (WW _ _)).trans ⟨rfl,rfl⟩
theorem WM(s:Sc)(r:Int):yQ s (cA s r):=
 yQ.trans (b:={s with pen:={s.pen with ch:=mY s.pen.ch}}) ⟨rfl,rfl⟩ (Jr _ _)
theorem ZU(s:Sc):∀n,yQ s (eA (fun t=>pH t t.last) n s)
 |0=>⟨rfl,rfl⟩
 |n+1=>(ZU s n).trans (Jr _ _)
theorem YQ(s:Sc)(n:Int):yQ s (bZ s n):=by
 unfold bZ
 split
 · exact⟨rfl,rfl⟩
 · exact ZU s _
theorem Kn(s:Sc):yQ s (yY s):=by
 unfold yY
 split
 · exact⟨rfl,rfl⟩
 split<;>exact⟨rfl,rfl⟩
theorem pen_tab(s:Sc)(n:Int):yQ s (lO s n):=by
 unfold lO
 split
 · exact⟨rfl,rfl⟩
 split<;>exact⟨rfl,rfl⟩
theorem ZY(s:Sc)(y x:Int):yQ s (dF s y x):=by
 unfold dF
 split<;>exact⟨rfl,rfl⟩
theorem ZG(s:Sc)(t b:Int):yQ s (yR s t b):=by
 unfold yR
 split
 · exact yQ.trans (b:={s with top:=t,bot:=b}) ⟨rfl,rfl⟩ (ZY _ 0 0)
 · exact⟨rfl,rfl⟩
theorem tU(s:Sc)(a:Int):∀n,yQ s (dE s a n)
 |0=>⟨rfl,rfl⟩
 |n+1=>(tU s a n).trans ⟨rfl,rfl⟩
theorem lT(s:Sc)(k:Int):yQ s (vX s k):=by
 unfold vX
 split
 · exact⟨rfl,rfl⟩
 split
 · exact⟨rfl,rfl⟩
 split
 · exact tU s _ _
 · exact⟨rfl,rfl⟩
theorem JR(s:Sc)(k:Int):yQ s (pV s k):=by
 unfold pV
 split
 · exact(lT s 0).trans (tU _ _ _)
 split
 · exact(lT s 1).trans (tU _ _ _)
 split
 · exact tU s _ _
 split<;>exact⟨rfl,rfl⟩
theorem Js(s:Sc)(n:Int):yQ s (gF s n)∧yQ s (gR s n):=by
 unfold gF gR
 constructor<;>(split<;>exact⟨rfl,rfl⟩)
theorem Xa(s:Sc)(n:Int):yQ s (bJ s n):=by
 unfold bJ
 split
 · exact⟨rfl,rfl⟩
 split<;>exact⟨rfl,rfl⟩
theorem ZX(s:Sc)(y:Int):∀n,yQ s (iO s y n)
 |0=>⟨rfl,rfl⟩
 |n+1=>(ZX s y n).trans ⟨rfl,rfl⟩
theorem Jt(s:Sc):∀n,yQ s (zL s n)
 |0=>⟨rfl,rfl⟩
 |n+1=>((Jt s n).trans ⟨rfl,rfl⟩).trans (ZX _ _ _)
theorem qQf(s:Sc):yQ s (eE s):=yQ.trans (b:=dK s) ⟨rfl,rfl⟩ ((Jt _ _).trans ⟨rfl,rfl⟩)
theorem Zc:zZ 0:=⟨by decide,by decide⟩
section
variable {rows cols room:Nat}{s:Sc}
theorem ScG.same(h:ScG rows cols room s){s':Sc}(hn:ScN rows cols room s')(hp:yQ s s'):ScG rows cols room s':=h.like hn hp.1 (by rw[hp.2])
def zF(rows cols:Nat):Nat:=2*(rows*cols)+2*rows+10
theorem ScG.step(h:ScG rows cols room s)(hc:2≤cols)(o:Sop):ScG rows cols room (vG s o)∧(vG s o).pg.told.length≤s.pg.told.length+zF rows cols:=by
 have hm:zF rows cols=2*(rows*cols)+2*rows+10:=rfl;have hn:=h.n;unfold vG
 by_cases k0:o.kind=0
 · rw[if_pos k0];exact⟨h.same (hn.print hc _).1 (WM _ _),by have :=(hn.print hc o.r).2;omega⟩
 rw[if_neg k0];clear k0
 by_cases k1:o.kind=1
 · rw[if_pos k1];exact⟨h.same (hn.repeat hc _).1 (YQ _ _),by have :=(hn.repeat hc o.a).2;omega⟩
 rw[if_neg k1];clear k1
 by_cases k2:o.kind=2
 · rw[if_pos k2];exact⟨⟨hn.pen _,VR _ _ _ _ h.f1,h.f2⟩,by show s.pg.told.length≤_;omega⟩
 rw[if_neg k2];clear k2
 by_cases k3:o.kind=3
 · rw[if_pos k3];exact⟨h.same (hn.backX hc) ⟨rfl,rfl⟩,by show s.pg.told.length≤_;omega⟩
 rw[if_neg k3];clear k3
 by_cases k4:o.kind=4
 · rw[if_pos k4];exact⟨h.same (hn.setX (Int.le_refl _) qJ) ⟨rfl,rfl⟩,by show s.pg.told.length≤_;omega⟩
 rw[if_neg k4];clear k4
 by_cases k5:o.kind=5
 · rw[if_pos k5];exact⟨h.same (hn.feed hc).1 (ZH _),by have :=(hn.feed hc).2;omega⟩
 rw[if_neg k5];clear k5
 by_cases k6:o.kind=6
 · rw[if_pos k6];exact⟨h.same (hn.feedBack hc).1 (Kn _),by have :=(hn.feedBack hc).2;omega⟩
 rw[if_neg k6];clear k6
 by_cases k7:o.kind=7
 · rw[if_pos k7];exact⟨h.same (hn.tab hc _).1 (pen_tab _ _),by rw[(hn.tab hc o.a).2];omega⟩
 rw[if_neg k7];clear k7
 by_cases k8:o.kind=8
 · rw[if_pos k8];exact⟨h.same (hn.move hc _ _).1 (ZY _ _ _),by rw[(hn.move hc o.a o.b).2];omega⟩
 rw[if_neg k8];clear k8
 by_cases k9:o.kind=9
 · rw[if_pos k9];exact⟨h.same (hn.go hc _ _) ⟨rfl,rfl⟩,by show s.pg.told.length≤_;omega⟩
 rw[if_neg k9];clear k9
 by_cases k10:o.kind=10
 · rw[if_pos k10];exact⟨h.same (hn.margins hc _ _).1 (ZG _ _ _),by rw[(hn.margins hc o.a o.b).2];omega⟩
 rw[if_neg k10];clear k10
 by_cases k11:o.kind=11
 · rw[if_pos k11];exact⟨h.same (hn.eraseLine _).1 (lT _ _),by rw[(hn.eraseLine o.a).2];omega⟩
 rw[if_neg k11];clear k11
 by_cases k12:o.kind=12
 · rw[if_pos k12];exact⟨h.same (hn.erasePage _).1 (JR _ _),by have :=(hn.erasePage o.a).2;omega⟩
 rw[if_neg k12];clear k12
 by_cases k13:o.kind=13
 · rw[if_pos k13];exact⟨h.same (hn.chars hc _).1.1 ⟨rfl,rfl⟩,by rw[(hn.chars hc o.a).1.2];omega⟩
 rw[if_neg k13];clear k13
 by_cases k14:o.kind=14
 · rw[if_pos k14];exact⟨h.same (hn.chars hc _).2.1.1 ⟨rfl,rfl⟩,by rw[(hn.chars hc o.a).2.1.2];omega⟩
 rw[if_neg k14];clear k14
 by_cases k15:o.kind=15
 · rw[if_pos k15];exact⟨h.same (hn.chars hc _).2.2.1 ⟨rfl,rfl⟩,by rw[(hn.chars hc o.a).2.2.2];omega⟩
 rw[if_neg k15];clear k15
 by_cases k16:o.kind=16
 · rw[if_pos k16];exact⟨h.same (hn.lines _).1.1 (Js _ _).1,by have :=(hn.lines o.a).1.2;omega⟩
 rw[if_neg k16];clear k16
 by_cases k17:o.kind=17
 · rw[if_pos k17];exact⟨h.same (hn.lines _).2.1 (Js _ _).2,by have :=(hn.lines o.a).2.2;omega⟩
 rw[if_neg k17];clear k17
 by_cases k18:o.kind=18
 · rw[if_pos k18];exact⟨h.same (hn.scroll _).1 (Xa _ _),by have :=(hn.scroll o.a).2;omega⟩
 rw[if_neg k18];clear k18
 by_cases k19:o.kind=19
 · rw[if_pos k19];exact⟨⟨hn.keep,h.f1,h.f1⟩,by show s.pg.told.length≤_;omega⟩
 rw[if_neg k19];clear k19
 by_cases k20:o.kind=20
 · rw[if_pos k20];refine⟨?_,?_⟩
   · have hr:=hn.restore hc;refine⟨hr,?_,?_⟩
     · unfold gD
       split
       · exact h.f2
       · exact Zc
     · unfold gD
       split<;>exact h.f2
   · have :(gD s).pg=s.pg:=by unfold gD;split<;>rfl
     rw[this];omega
 rw[if_neg k20];clear k20
 by_cases k21:o.kind=21
 · rw[if_pos k21];exact⟨h.same (hn.fill hc).1 (qQf _),by rw[(hn.fill hc).2];omega⟩
 rw[if_neg k21];clear k21
 by_cases k22:o.kind=22
 · rw[if_pos k22];exact⟨⟨hn.reset,Zc,Zc⟩,by show s.pg.told.length≤_;omega⟩
 rw[if_neg k22];clear k22;have hsl:∀b,(iA s.st o.a b).length=cols:=fun b=>by unfold iA;split<;>simp[hn.st]
 unfold cP
 by_cases k1:o.kind=23∨o.kind=24
 · rw[if_pos k1];exact⟨h.same (hn.pen _) ⟨rfl,rfl⟩,by show s.pg.told.length≤_;omega⟩
 rw[if_neg k1]
 by_cases k2:o.kind=25
 · rw[if_pos k2];exact⟨h.same (hn.pen _) ⟨rfl,rfl⟩,by show s.pg.told.length≤_;omega⟩
 rw[if_neg k2]
 by_cases k3:o.kind=26
 · rw[if_pos k3];exact⟨h.same ⟨hn.pg,hsl true,hn.y0,hn.y1,hn.x0,hn.x1,hn.t0,hn.tb,hn.b1,hn.tb2⟩ ⟨rfl,rfl⟩,by show s.pg.told.length≤_;omega⟩
 rw[if_neg k3]
 by_cases k4:o.kind=27
 · rw[if_pos k4];exact⟨h.same ⟨hn.pg,hsl false,hn.y0,hn.y1,hn.x0,hn.x1,hn.t0,hn.tb,hn.b1,hn.tb2⟩ ⟨rfl,rfl⟩,by show s.pg.told.length≤_;omega⟩
 rw[if_neg k4];exact⟨h,by omega⟩
theorem WT(rows cols lines:Nat):PgInv rows cols lines (qQn rows cols lines):=by
 refine⟨by simp[qQn],rfl,rfl,kT _,fun r hr=>?_⟩;have :r∈kJ rows (gZ cols bC):=by simpa[qQn]using hr
 rw[(List.mem_replicate.1 this).2];simp[gZ]
theorem rZ(rows cols lines:Nat)(hr:1≤rows):ScG rows cols lines (lA rows cols lines (bN [] cols)):=
 ⟨⟨WT rows cols lines,oE _ _,Int.le_refl _,by show(0:Int)<_;omega,Int.le_refl _,by show(0:Int)≤_;omega,Int.le_refl _,by show(0:Int)≤(rows:Int)-1;omega,by show(rows:Int)-1<_;omega,.inr ⟨rfl,rfl⟩⟩,Zc,Zc⟩
end
def iR(rows cols lines:Nat)(w:World)(e:Ending)(w':World):Prop:=
 ∃v m,e=.returned (.tuple #[.pointer (some ⟨v.S,0,none⟩),.pointer (some ⟨m.M,0,none⟩)])∧SB w.heap.size w' v m (lA rows cols lines (bN [] cols))∧Below w.heap.size w w'
set_option maxHeartbeats 3200000 in
theorem mW(a b c:Int)(w:World)(ha:0≤a)(hb:0≤b)(hc:0≤c):Calls jG 11 #[.agg #[.int .u8 a,.int .u8 b,.int .u8 c]] w (iR (1+(a%12).toNat) (2+(b%20).toNat) (c%20).toNat w):=by
 obtain⟨r0,hr0,hr1⟩:∃r0:Nat,a%12=(r0:Int)∧r0<12:=⟨(a%12).toNat,by omega,by omega⟩;obtain⟨c0,hc0,hc1⟩:∃r0:Nat,b%20=(r0:Int)∧r0<20:=⟨(b%20).toNat,by omega,by omega⟩;obtain⟨l0,hl0,hl1⟩:∃r0:Nat,c%20=(r0:Int)∧r0<20:=⟨(c%20).toNat,by omega,by omega⟩;rw[hr0,hc0,hl0,uJ,uJ,uJ];rw[←Int.tmod_eq_emod_of_nonneg ha]at hr0;rw[←Int.tmod_eq_emod_of_nonneg hb]at hc0;rw[←Int.tmod_eq_emod_of_nonneg hc]at hl0;obtain⟨R,hR⟩:∃R:Nat,R=1+r0:=⟨_,rfl⟩;obtain⟨C,hC⟩:∃R:Nat,R=2+c0:=⟨_,rfl⟩;rw[←hR,←hC];have hRI:(1:Int)+(r0:Int)=(R:Int):=by omega
 have hCI:(2:Int)+(c0:Int)=(C:Int):=by omega
 have hwr:jP.wrap (r0:Int)=(r0:Int):=jH _ qJ;have hwc:jP.wrap (c0:Int)=(c0:Int):=jH _ qJ;have hwl:jP.wrap (l0:Int)=(l0:Int):=jH _ qJ;have hwR:jP.wrap (R:Int)=(R:Int):=jH _ qJ;have hwC:jP.wrap (C:Int)=(C:Int):=jH _ qJ;have HP:=Hd (fun w=>aG R C l0 w qJ qJ qJ qJ qJ);have HD:=Hd (fun w=>QG R C l0 w qJ qJ qJ qJ qJ);have HB0:=Hd (jW (jU w.heap.size w) (.cells #[.int .u8 a,.int .u8 b,.int .u8 c] 23));have x:=kZ (W:=w) (b:=w.heap.size) (o:=.cells #[.int .u8 a,.int .u8 b,.int .u8 c] 23) rfl;have x0:=(at_ x 0 _ rfl).1;have x1:=(at_ x 1 _ rfl).1;have x2:=(at_ x 2 _ rfl).1;obtain⟨W,hW⟩:∃W,w.alloc (.cells #[.int .u8 a,.int .u8 b,.int .u8 c] 23)=W:=⟨_,rfl⟩;rw[hW]at HB0 x0 x1 x2;have x0:W.cell? ⟨w.heap.size,0,none⟩=some (.int .u8 a):=x0;have x1:W.cell? ⟨w.heap.size,1,none⟩=some (.int .u8 b):=x1;have x2:W.cell? ⟨w.heap.size,2,none⟩=some (.int .u8 c):=x2;have HW:=Hd hW;clear hW x hR hC
 go_enter Tryz.func11,Tryz.ntmps11
 go_upto_region 1 with fail
 rw[HW.o];refine zW3 16 x0 x1 x2 fun w' hS=>?_;have HB1:=Hd (jN HB0.o hS.1);clear hS x0 x1 x2
 go_wp2_with(first
  |(go_at_call 24;(with_reducible refine(HP.o _).mono ?_);rintro e w2 ⟨v,rfl,hp,hb⟩;have HQ:=Hd hp;have HB2:=Hd hb;clear hp hb)
  |(go_at_call 35;(with_reducible refine(HD.o _).mono ?_);rintro e w3 ⟨m,rfl,hd,hb⟩;have HQD:=Hd hd;have HB3:=Hd hb;clear hd hb))
 go_ret2
 have hle:=(jN HB1.o HB2.o).size;exact⟨v,m,rfl,⟨(HQ.o.below HB3.o).weaken HB1.o.size,HQD.o.weaken hle,fun b hb hd=>by have h1:=(HQ.o.lt b hb).2;have h2:=(HQD.o.lt b hd).1;omega⟩,jN (jN HB1.o HB2.o) HB3.o⟩
end Go.Proofs.YtjcpdcncfjkejaaGreatDoor
