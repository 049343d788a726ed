/- Joined by a tool of this claim out of smaller texts. Conditions: as stated. -/
import Derived.Test.YtffdblmdelgkaaaGreatRt34
import Derived.Test.YtffdblmdelgkaaaGreatRt39
import Derived.Test.YtffdblmdelgkaaaGreatRt40
set_option linter.unusedVariables false
set_option linter.unusedSimpArgs false
set_option maxRecDepth 100000
open Go.Lib renaming hid → Hd
namespace Go.Proofs.YtffdblmdelgkaaaGreat
open Go.RowKit
set_option maxHeartbeats 6400000 in
theorem does6_any {base:Nat} {w:World} {qp:Pv} {qd:Dv} {g:Pg} {rows cols room:Nat} (h:Both base w qp qd g) (hg:PgInv rows cols room g) (hrow0:0 < rows) (hrows:rows ≤ 1000) (hroom:room ≤ 100000) (ht:g.told.length ≤ 900000) (o:Pop) (ho:o.kind = 6) (hok:PopOk o) :
 Calls Tryz.prog 9 #[.pointer (some ⟨qp.P,0,none⟩),.pointer (some ⟨qd.D,0,none⟩),.agg #[.int .i64 o.kind,.int .i64 o.x,.int .i64 o.n,.int .i32 o.r,.int .i64 o.at_.fk,.int .i64 o.at_.fn,.int .i64 o.at_.bk,.int .i64 o.at_.bn,.int .i64 o.at_.fl,.int .i64 o.y,.int .i64 o.top,.int .i64 o.bottom]] w (DoesPost base w qp qd (stepP g o)):=by
 obtain ⟨kind,x,n,r,⟨fk,fn,bk,bn,fl⟩,y,top,bottom⟩:=o
 simp only at ho
 subst ho
 obtain ⟨W,hW⟩:∃ W,(w.alloc (.cells (encPop ⟨6,x,n,r,⟨fk,fn,bk,bn,fl⟩,y,top,bottom⟩).toArray 38)).alloc (.cells #[.int .i64 bk,.int .i64 bn] 32) = W:=⟨_,rfl⟩
 have hb0:Below w.heap.size w W:=by rw [← hW];exact below_allocs (below_allocs (Below.refl _ _) _) _
 have HO0:Hid (OpC W w.heap.size (w.heap.size + 1) ⟨6,x,n,r,⟨fk,fn,bk,bn,fl⟩,y,top,bottom⟩):=Hd (by rw [← hW];exact OpC.new _)
 have HB:=Hd hb0
 have hB:=h.below hb0
 have HB0:=Hd hB
 have hXp:∀ i,w.heap.size + i ∉ pgX qp:=fun i hx => by have:=(h.p.lt _ hx).2;omega
 have hr1:=hg.hrows
 have hr2:=hg.hroom
 have hr3:=hg.hhist
 have hL:(dcOf g).L.length ≤ 900000:=by show (g.hist ++ g.scr).length ≤ _;simp;omega
 have hbs:(dcOf g).base ≤ (dcOf g).L.length:=by show g.hist.length ≤ (g.hist ++ g.scr).length;simp
 have HIN:=Hd (rdIn_any hB.d (by omega) hbs y)
 rw [dcOf_in] at HIN
 have HX0:=Hd (And.intro (hXp 0) (hXp 1))
 have HG1:Hid (stepP g ⟨6,x,n,r,⟨fk,fn,bk,bn,fl⟩,y,top,bottom⟩ = timesP g top bottom n (fun t b g => upP g t b ⟨bk,bn⟩)):=Hd (by unfold stepP;rw [if_neg (show ¬ (6:Int) = 0 by decide)];rw [if_neg (show ¬ (6:Int) = 1 by decide)];rw [if_neg (show ¬ (6:Int) = 2 by decide)];rw [if_neg (show ¬ (6:Int) = 3 by decide)];rw [if_neg (show ¬ (6:Int) = 4 by decide)];rw [if_neg (show ¬ (6:Int) = 5 by decide)];rw [if_pos rfl];first | rfl | skip)
 rw [HG1.out]
 have hn1:=hok.hn.1
 have hn2:=hok.hn.2
 have hy1:=hok.hy.1
 have HP:Hid (∀ w1,Below W.heap.size W w1→Calls Tryz.prog 25 #[.pointer (some ⟨qp.P,0,none⟩),.int .i64 top,.int .i64 bottom,.int .i64 n,.agg #[.int .i64 bk,.int .i64 bn]] w1 (PgPost base W qp (timesP g top bottom n (fun t b g => upP g t b ⟨bk,bn⟩)))):=Hd (fun w1 hb => (pUp_any (hB.p.below hb) top bottom n ⟨bk,bn⟩ ht hn2 hn1).mono (fun e w2 hh => ⟨hh.1,hh.2.pre hb⟩))
 have hbL:0 < g.scr.length→(dcOf g).base < (dcOf g).L.length:=fun h0 => by show g.hist.length < (g.hist ++ g.scr).length;simp;omega
 have hbs2:(dcOf g).base ≤ (dcOf g).L.length:=by show g.hist.length ≤ (g.hist ++ g.scr).length;simp
 have hscr:0 < g.scr.length:=by rw [hr1];exact hrow0
 have HD:Hid (∀ w2,PgRes base W qp (timesP g top bottom n (fun t b g => upP g t b ⟨bk,bn⟩)) w2→Calls Tryz.prog 41 #[.pointer (some ⟨qd.D,0,none⟩),.int .i64 top,.int .i64 bottom,.int .i64 n,.agg #[.int .i64 bk,.int .i64 bn],.int .i64 0] w2 (DcPost base w2 qd (dcOf (timesP g top bottom n (fun t b g => upP g t b ⟨bk,bn⟩))))):=Hd (fun w2 hs => by
  have hd:=hB.mid hs
  have:=rdScroll_any hd hg hrows hroom ht top bottom n ⟨bk,bn⟩ 0 86 (fun t b g => upP g t b ⟨bk,bn⟩) (.inl ⟨rfl,rfl,rfl⟩)
  exact this)
 generalize timesP g top bottom n (fun t b g => upP g t b ⟨bk,bn⟩) = g1 at HP HD ⊢
 cases hin:inP g y
 all_goals
  rw [hin] at HIN
  clear h hB hg hin hbL hscr hbs2
  have HWW:=Hd hW
  clear hW hb0 hXp hbs
  go_enter Tryz.func9,Tryz.ntmps9
  go_upto_region 2 with fail
  rw [show (#[.int .i64 6,.int .i64 x,.int .i64 n,.int .i32 r,.int .i64 fk,.int .i64 fn,.int .i64 bk,.int .i64 bn,.int .i64 fl,.int .i64 y,.int .i64 top,.int .i64 bottom]:Array Value) = (encPop ⟨6,x,n,r,⟨fk,fn,bk,bn,fl⟩,y,top,bottom⟩).toArray from rfl,HWW.out]
  clear HWW
  obtain ⟨c0,c1,c2,c3,c4,c5,c6,c7,c8,c9,c10,c11,k0,k1⟩:=HO0.out
  go_upto_region 3 with (go_at_call 28;(with_reducible refine HIN.out.mono ?_);rintro e w1 ⟨rfl,hb⟩;have HB1:=Hd hb;have HO1:=Hd (HO0.out.below hb);clear hb)
  clear c0 c1 c2 c3 c4 c5 c6 c7 c8 c9 c10 c11 k0 k1
  obtain ⟨c0,c1,c2,c3,c4,c5,c6,c7,c8,c9,c10,c11,k0,k1⟩:=HO1.out
  go_upto_region 29 with (go_at_call 25;(with_reducible refine (HP.out _ HB1.out).mono ?_);rintro e w2 ⟨rfl,hs⟩;have HS2:=Hd hs;have HO2:=Hd (HO0.out.mod hs.modr HX0.out.1 HX0.out.2);clear hs c0 c1 c2 c3 c4 c5 c6 c7 c8 c9 c10 c11 k0 k1)
  obtain ⟨c0,c1,c2,c3,c4,c5,c6,c7,c8,c9,c10,c11,k0,k1⟩:=HO2.out
  go_wp2_with (go_at_call 41;(with_reducible refine (HD.out _ HS2.out).mono ?_);rintro e w4 ⟨rfl,hs⟩;have HS4:=Hd hs;clear hs)
  go_end0
  exact ⟨rfl,(HB0.out.step HS2.out HS4.out).pre HB.out⟩
set_option maxHeartbeats 6400000 in
theorem does7_any {base:Nat} {w:World} {qp:Pv} {qd:Dv} {g:Pg} {rows cols room:Nat} (h:Both base w qp qd g) (hg:PgInv rows cols room g) (hrow0:0 < rows) (hrows:rows ≤ 1000) (hroom:room ≤ 100000) (ht:g.told.length ≤ 900000) (o:Pop) (ho:o.kind = 7) (hok:PopOk o) :
 Calls Tryz.prog 9 #[.pointer (some ⟨qp.P,0,none⟩),.pointer (some ⟨qd.D,0,none⟩),.agg #[.int .i64 o.kind,.int .i64 o.x,.int .i64 o.n,.int .i32 o.r,.int .i64 o.at_.fk,.int .i64 o.at_.fn,.int .i64 o.at_.bk,.int .i64 o.at_.bn,.int .i64 o.at_.fl,.int .i64 o.y,.int .i64 o.top,.int .i64 o.bottom]] w (DoesPost base w qp qd (stepP g o)):=by
 obtain ⟨kind,x,n,r,⟨fk,fn,bk,bn,fl⟩,y,top,bottom⟩:=o
 simp only at ho
 subst ho
 obtain ⟨W,hW⟩:∃ W,(w.alloc (.cells (encPop ⟨7,x,n,r,⟨fk,fn,bk,bn,fl⟩,y,top,bottom⟩).toArray 38)).alloc (.cells #[.int .i64 bk,.int .i64 bn] 32) = W:=⟨_,rfl⟩
 have hb0:Below w.heap.size w W:=by rw [← hW];exact below_allocs (below_allocs (Below.refl _ _) _) _
 have HO0:Hid (OpC W w.heap.size (w.heap.size + 1) ⟨7,x,n,r,⟨fk,fn,bk,bn,fl⟩,y,top,bottom⟩):=Hd (by rw [← hW];exact OpC.new _)
 have HB:=Hd hb0
 have hB:=h.below hb0
 have HB0:=Hd hB
 have hXp:∀ i,w.heap.size + i ∉ pgX qp:=fun i hx => by have:=(h.p.lt _ hx).2;omega
 have hr1:=hg.hrows
 have hr2:=hg.hroom
 have hr3:=hg.hhist
 have hL:(dcOf g).L.length ≤ 900000:=by show (g.hist ++ g.scr).length ≤ _;simp;omega
 have hbs:(dcOf g).base ≤ (dcOf g).L.length:=by show g.hist.length ≤ (g.hist ++ g.scr).length;simp
 have HIN:=Hd (rdIn_any hB.d (by omega) hbs y)
 rw [dcOf_in] at HIN
 have HX0:=Hd (And.intro (hXp 0) (hXp 1))
 have HG1:Hid (stepP g ⟨7,x,n,r,⟨fk,fn,bk,bn,fl⟩,y,top,bottom⟩ = timesP g top bottom n (fun t b g => downP g t b ⟨bk,bn⟩)):=Hd (by unfold stepP;rw [if_neg (show ¬ (7:Int) = 0 by decide)];rw [if_neg (show ¬ (7:Int) = 1 by decide)];rw [if_neg (show ¬ (7:Int) = 2 by decide)];rw [if_neg (show ¬ (7:Int) = 3 by decide)];rw [if_neg (show ¬ (7:Int) = 4 by decide)];rw [if_neg (show ¬ (7:Int) = 5 by decide)];rw [if_neg (show ¬ (7:Int) = 6 by decide)];rw [if_pos rfl];first | rfl | skip)
 rw [HG1.out]
 have hn1:=hok.hn.1
 have hn2:=hok.hn.2
 have hy1:=hok.hy.1
 have HP:Hid (∀ w1,Below W.heap.size W w1→Calls Tryz.prog 42 #[.pointer (some ⟨qp.P,0,none⟩),.int .i64 top,.int .i64 bottom,.int .i64 n,.agg #[.int .i64 bk,.int .i64 bn]] w1 (PgPost base W qp (timesP g top bottom n (fun t b g => downP g t b ⟨bk,bn⟩)))):=Hd (fun w1 hb => (pDown_any (hB.p.below hb) top bottom n ⟨bk,bn⟩ ht hn2 hn1).mono (fun e w2 hh => ⟨hh.1,hh.2.pre hb⟩))
 have hbL:0 < g.scr.length→(dcOf g).base < (dcOf g).L.length:=fun h0 => by show g.hist.length < (g.hist ++ g.scr).length;simp;omega
 have hbs2:(dcOf g).base ≤ (dcOf g).L.length:=by show g.hist.length ≤ (g.hist ++ g.scr).length;simp
 have hscr:0 < g.scr.length:=by rw [hr1];exact hrow0
 have HD:Hid (∀ w2,PgRes base W qp (timesP g top bottom n (fun t b g => downP g t b ⟨bk,bn⟩)) w2→Calls Tryz.prog 41 #[.pointer (some ⟨qd.D,0,none⟩),.int .i64 top,.int .i64 bottom,.int .i64 n,.agg #[.int .i64 bk,.int .i64 bn],.int .i64 1] w2 (DcPost base w2 qd (dcOf (timesP g top bottom n (fun t b g => downP g t b ⟨bk,bn⟩))))):=Hd (fun w2 hs => by
  have hd:=hB.mid hs
  have:=rdScroll_any hd hg hrows hroom ht top bottom n ⟨bk,bn⟩ 1 87 (fun t b g => downP g t b ⟨bk,bn⟩) (.inr (.inl ⟨rfl,rfl,rfl⟩))
  exact this)
 generalize timesP g top bottom n (fun t b g => downP g t b ⟨bk,bn⟩) = g1 at HP HD ⊢
 cases hin:inP g y
 all_goals
  rw [hin] at HIN
  clear h hB hg hin hbL hscr hbs2
  have HWW:=Hd hW
  clear hW hb0 hXp hbs
  go_enter Tryz.func9,Tryz.ntmps9
  go_upto_region 2 with fail
  rw [show (#[.int .i64 7,.int .i64 x,.int .i64 n,.int .i32 r,.int .i64 fk,.int .i64 fn,.int .i64 bk,.int .i64 bn,.int .i64 fl,.int .i64 y,.int .i64 top,.int .i64 bottom]:Array Value) = (encPop ⟨7,x,n,r,⟨fk,fn,bk,bn,fl⟩,y,top,bottom⟩).toArray from rfl,HWW.out]
  clear HWW
  obtain ⟨c0,c1,c2,c3,c4,c5,c6,c7,c8,c9,c10,c11,k0,k1⟩:=HO0.out
  go_upto_region 3 with (go_at_call 28;(with_reducible refine HIN.out.mono ?_);rintro e w1 ⟨rfl,hb⟩;have HB1:=Hd hb;have HO1:=Hd (HO0.out.below hb);clear hb)
  clear c0 c1 c2 c3 c4 c5 c6 c7 c8 c9 c10 c11 k0 k1
  obtain ⟨c0,c1,c2,c3,c4,c5,c6,c7,c8,c9,c10,c11,k0,k1⟩:=HO1.out
  go_upto_region 32 with (go_at_call 42;(with_reducible refine (HP.out _ HB1.out).mono ?_);rintro e w2 ⟨rfl,hs⟩;have HS2:=Hd hs;have HO2:=Hd (HO0.out.mod hs.modr HX0.out.1 HX0.out.2);clear hs c0 c1 c2 c3 c4 c5 c6 c7 c8 c9 c10 c11 k0 k1)
  obtain ⟨c0,c1,c2,c3,c4,c5,c6,c7,c8,c9,c10,c11,k0,k1⟩:=HO2.out
  go_wp2_with (go_at_call 41;(with_reducible refine (HD.out _ HS2.out).mono ?_);rintro e w4 ⟨rfl,hs⟩;have HS4:=Hd hs;clear hs)
  go_end0
  exact ⟨rfl,(HB0.out.step HS2.out HS4.out).pre HB.out⟩
set_option maxHeartbeats 6400000 in
theorem does10_any {base:Nat} {w:World} {qp:Pv} {qd:Dv} {g:Pg} {rows cols room:Nat} (h:Both base w qp qd g) (hg:PgInv rows cols room g) (hrow0:0 < rows) (hrows:rows ≤ 1000) (hroom:room ≤ 100000) (ht:g.told.length ≤ 900000) (o:Pop) (ho:o.kind = 10) (hok:PopOk o) :
 Calls Tryz.prog 9 #[.pointer (some ⟨qp.P,0,none⟩),.pointer (some ⟨qd.D,0,none⟩),.agg #[.int .i64 o.kind,.int .i64 o.x,.int .i64 o.n,.int .i32 o.r,.int .i64 o.at_.fk,.int .i64 o.at_.fn,.int .i64 o.at_.bk,.int .i64 o.at_.bn,.int .i64 o.at_.fl,.int .i64 o.y,.int .i64 o.top,.int .i64 o.bottom]] w (DoesPost base w qp qd (stepP g o)):=by
 obtain ⟨kind,x,n,r,⟨fk,fn,bk,bn,fl⟩,y,top,bottom⟩:=o
 simp only at ho
 subst ho
 obtain ⟨W,hW⟩:∃ W,(w.alloc (.cells (encPop ⟨10,x,n,r,⟨fk,fn,bk,bn,fl⟩,y,top,bottom⟩).toArray 38)).alloc (.cells #[.int .i64 bk,.int .i64 bn] 32) = W:=⟨_,rfl⟩
 have hb0:Below w.heap.size w W:=by rw [← hW];exact below_allocs (below_allocs (Below.refl _ _) _) _
 have HO0:Hid (OpC W w.heap.size (w.heap.size + 1) ⟨10,x,n,r,⟨fk,fn,bk,bn,fl⟩,y,top,bottom⟩):=Hd (by rw [← hW];exact OpC.new _)
 have HB:=Hd hb0
 have hB:=h.below hb0
 have HB0:=Hd hB
 have hXp:∀ i,w.heap.size + i ∉ pgX qp:=fun i hx => by have:=(h.p.lt _ hx).2;omega
 have hr1:=hg.hrows
 have hr2:=hg.hroom
 have hr3:=hg.hhist
 have hL:(dcOf g).L.length ≤ 900000:=by show (g.hist ++ g.scr).length ≤ _;simp;omega
 have hbs:(dcOf g).base ≤ (dcOf g).L.length:=by show g.hist.length ≤ (g.hist ++ g.scr).length;simp
 have HIN:=Hd (rdIn_any hB.d (by omega) hbs y)
 rw [dcOf_in] at HIN
 have HX0:=Hd (And.intro (hXp 0) (hXp 1))
 have HG1:Hid (stepP g ⟨10,x,n,r,⟨fk,fn,bk,bn,fl⟩,y,top,bottom⟩ = timesP g top bottom n (fun t b g => cutP g t b ⟨bk,bn⟩)):=Hd (by unfold stepP;rw [if_neg (show ¬ (10:Int) = 0 by decide)];rw [if_neg (show ¬ (10:Int) = 1 by decide)];rw [if_neg (show ¬ (10:Int) = 2 by decide)];rw [if_neg (show ¬ (10:Int) = 3 by decide)];rw [if_neg (show ¬ (10:Int) = 4 by decide)];rw [if_neg (show ¬ (10:Int) = 5 by decide)];rw [if_neg (show ¬ (10:Int) = 6 by decide)];rw [if_neg (show ¬ (10:Int) = 7 by decide)];rw [if_neg (show ¬ (10:Int) = 8 by decide)];rw [if_neg (show ¬ (10:Int) = 9 by decide)];rw [if_pos rfl];first | rfl | skip)
 rw [HG1.out]
 have hn1:=hok.hn.1
 have hn2:=hok.hn.2
 have hy1:=hok.hy.1
 have HP:Hid (∀ w1,Below W.heap.size W w1→Calls Tryz.prog 47 #[.pointer (some ⟨qp.P,0,none⟩),.int .i64 top,.int .i64 bottom,.int .i64 n,.agg #[.int .i64 bk,.int .i64 bn]] w1 (PgPost base W qp (timesP g top bottom n (fun t b g => cutP g t b ⟨bk,bn⟩)))):=Hd (fun w1 hb => (pCut_any (hB.p.below hb) top bottom n ⟨bk,bn⟩ ht hn2 hn1).mono (fun e w2 hh => ⟨hh.1,hh.2.pre hb⟩))
 have hbL:0 < g.scr.length→(dcOf g).base < (dcOf g).L.length:=fun h0 => by show g.hist.length < (g.hist ++ g.scr).length;simp;omega
 have hbs2:(dcOf g).base ≤ (dcOf g).L.length:=by show g.hist.length ≤ (g.hist ++ g.scr).length;simp
 have hscr:0 < g.scr.length:=by rw [hr1];exact hrow0
 have HD:Hid (∀ w2,PgRes base W qp (timesP g top bottom n (fun t b g => cutP g t b ⟨bk,bn⟩)) w2→Calls Tryz.prog 41 #[.pointer (some ⟨qd.D,0,none⟩),.int .i64 top,.int .i64 bottom,.int .i64 n,.agg #[.int .i64 bk,.int .i64 bn],.int .i64 2] w2 (DcPost base w2 qd (dcOf (timesP g top bottom n (fun t b g => cutP g t b ⟨bk,bn⟩))))):=Hd (fun w2 hs => by
  have hd:=hB.mid hs
  have:=rdScroll_any hd hg hrows hroom ht top bottom n ⟨bk,bn⟩ 2 88 (fun t b g => cutP g t b ⟨bk,bn⟩) (.inr (.inr ⟨rfl,rfl,rfl⟩))
  exact this)
 generalize timesP g top bottom n (fun t b g => cutP g t b ⟨bk,bn⟩) = g1 at HP HD ⊢
 cases hin:inP g y
 all_goals
  rw [hin] at HIN
  clear h hB hg hin hbL hscr hbs2
  have HWW:=Hd hW
  clear hW hb0 hXp hbs
  go_enter Tryz.func9,Tryz.ntmps9
  go_upto_region 2 with fail
  rw [show (#[.int .i64 10,.int .i64 x,.int .i64 n,.int .i32 r,.int .i64 fk,.int .i64 fn,.int .i64 bk,.int .i64 bn,.int .i64 fl,.int .i64 y,.int .i64 top,.int .i64 bottom]:Array Value) = (encPop ⟨10,x,n,r,⟨fk,fn,bk,bn,fl⟩,y,top,bottom⟩).toArray from rfl,HWW.out]
  clear HWW
  obtain ⟨c0,c1,c2,c3,c4,c5,c6,c7,c8,c9,c10,c11,k0,k1⟩:=HO0.out
  go_upto_region 3 with (go_at_call 28;(with_reducible refine HIN.out.mono ?_);rintro e w1 ⟨rfl,hb⟩;have HB1:=Hd hb;have HO1:=Hd (HO0.out.below hb);clear hb)
  clear c0 c1 c2 c3 c4 c5 c6 c7 c8 c9 c10 c11 k0 k1
  obtain ⟨c0,c1,c2,c3,c4,c5,c6,c7,c8,c9,c10,c11,k0,k1⟩:=HO1.out
  go_upto_region 42 with (go_at_call 47;(with_reducible refine (HP.out _ HB1.out).mono ?_);rintro e w2 ⟨rfl,hs⟩;have HS2:=Hd hs;have HO2:=Hd (HO0.out.mod hs.modr HX0.out.1 HX0.out.2);clear hs c0 c1 c2 c3 c4 c5 c6 c7 c8 c9 c10 c11 k0 k1)
  obtain ⟨c0,c1,c2,c3,c4,c5,c6,c7,c8,c9,c10,c11,k0,k1⟩:=HO2.out
  go_wp2_with (go_at_call 41;(with_reducible refine (HD.out _ HS2.out).mono ?_);rintro e w4 ⟨rfl,hs⟩;have HS4:=Hd hs;clear hs)
  go_end0
  exact ⟨rfl,(HB0.out.step HS2.out HS4.out).pre HB.out⟩
set_option maxHeartbeats 6400000 in
theorem does5_any {base:Nat} {w:World} {qp:Pv} {qd:Dv} {g:Pg} {rows cols room:Nat} (h:Both base w qp qd g) (hg:PgInv rows cols room g) (hrows:rows ≤ 1000) (hroom:room ≤ 100000) (ht:g.told.length ≤ 900000) (o:Pop) (ho:o.kind = 5) (hok:PopOk o) :
 Calls Tryz.prog 9 #[.pointer (some ⟨qp.P,0,none⟩),.pointer (some ⟨qd.D,0,none⟩),.agg #[.int .i64 o.kind,.int .i64 o.x,.int .i64 o.n,.int .i32 o.r,.int .i64 o.at_.fk,.int .i64 o.at_.fn,.int .i64 o.at_.bk,.int .i64 o.at_.bn,.int .i64 o.at_.fl,.int .i64 o.y,.int .i64 o.top,.int .i64 o.bottom]] w (DoesPost base w qp qd (stepP g o)):=by
 obtain ⟨kind,x,n,r,⟨fk,fn,bk,bn,fl⟩,y,top,bottom⟩:=o
 simp only at ho
 subst ho
 obtain ⟨W,hW⟩:∃ W,(w.alloc (.cells (encPop ⟨5,x,n,r,⟨fk,fn,bk,bn,fl⟩,y,top,bottom⟩).toArray 38)).alloc (.cells #[.int .i64 bk,.int .i64 bn] 32) = W:=⟨_,rfl⟩
 have hb0:Below w.heap.size w W:=by rw [← hW];exact below_allocs (below_allocs (Below.refl _ _) _) _
 have HO0:Hid (OpC W w.heap.size (w.heap.size + 1) ⟨5,x,n,r,⟨fk,fn,bk,bn,fl⟩,y,top,bottom⟩):=Hd (by rw [← hW];exact OpC.new _)
 have HB:=Hd hb0
 have hB:=h.below hb0
 have HB0:=Hd hB
 have hXp:∀ i,w.heap.size + i ∉ pgX qp:=fun i hx => by have:=(h.p.lt _ hx).2;omega
 have hr1:=hg.hrows
 have hr2:=hg.hroom
 have hr3:=hg.hhist
 have hL:(dcOf g).L.length ≤ 900000:=by show (g.hist ++ g.scr).length ≤ _;simp;omega
 have hbs:(dcOf g).base ≤ (dcOf g).L.length:=by show g.hist.length ≤ (g.hist ++ g.scr).length;simp
 have HIN:=Hd (rdIn_any hB.d (by omega) hbs y)
 rw [dcOf_in] at HIN
 have HX0:=Hd (And.intro (hXp 0) (hXp 1))
 have HG1:Hid (stepP g ⟨5,x,n,r,⟨fk,fn,bk,bn,fl⟩,y,top,bottom⟩ = contP g y true):=Hd (by unfold stepP;rw [if_neg (show ¬ (5:Int) = 0 by decide)];rw [if_neg (show ¬ (5:Int) = 1 by decide)];rw [if_neg (show ¬ (5:Int) = 2 by decide)];rw [if_neg (show ¬ (5:Int) = 3 by decide)];rw [if_neg (show ¬ (5:Int) = 4 by decide)];rw [if_pos rfl];first | done | rfl)
 rw [HG1.out]
 have HP:Hid (∀ w1,Below W.heap.size W w1→Calls Tryz.prog 40 #[.pointer (some ⟨qp.P,0,none⟩),.int .i64 y] w1 (PgPost base W qp (contP g y true))):=Hd (fun w1 hb => (pWrap_any (hB.p.below hb) y).mono (fun e w2 hh => ⟨hh.1,hh.2.pre hb⟩))
 have HD1:=Hd (dcOf_wrap g y)
 cases hin:inP g y with
 | false =>
   rw [hin] at HIN
   have HE:Hid (contP g y true = g):=Hd (by unfold contP;rw [hin];rfl)
   generalize contP g y true = g1 at HP HE ⊢
   clear h hB hg HD1
   have HWW:=Hd hW
   clear hW hb0 hXp hbs
   go_enter Tryz.func9,Tryz.ntmps9
   go_upto_region 2 with fail
   rw [show (#[.int .i64 5,.int .i64 x,.int .i64 n,.int .i32 r,.int .i64 fk,.int .i64 fn,.int .i64 bk,.int .i64 bn,.int .i64 fl,.int .i64 y,.int .i64 top,.int .i64 bottom]:Array Value) = (encPop ⟨5,x,n,r,⟨fk,fn,bk,bn,fl⟩,y,top,bottom⟩).toArray from rfl,HWW.out]
   clear HWW
   obtain ⟨c0,c1,c2,c3,c4,c5,c6,c7,c8,c9,c10,c11,k0,k1⟩:=HO0.out
   go_upto_region 3 with (go_at_call 28;(with_reducible refine HIN.out.mono ?_);rintro e w1 ⟨rfl,hb⟩;have HB1:=Hd hb;have HO1:=Hd (HO0.out.below hb);clear hb)
   clear c0 c1 c2 c3 c4 c5 c6 c7 c8 c9 c10 c11 k0 k1
   obtain ⟨c0,c1,c2,c3,c4,c5,c6,c7,c8,c9,c10,c11,k0,k1⟩:=HO1.out
   go_wp2_with (go_at_call 40;(with_reducible refine (HP.out _ HB1.out).mono ?_);rintro e w2 ⟨rfl,hs⟩;have HS2:=Hd hs;clear hs c0 c1 c2 c3 c4 c5 c6 c7 c8 c9 c10 c11 k0 k1)
   go_end0
   exact ⟨rfl,(HB0.out.step HS2.out (by rw [HE.out];exact (HB0.out.mid HS2.out).res)).pre HB.out⟩
 | true =>
   rw [hin] at HIN
   have hin2:dcIn (dcOf g) y = true:=by rw [dcOf_in];exact hin
   obtain ⟨k,r0,rfl,hr,-,-⟩:=dcIn_row hB.d hin2
   have hdw:dcWrap (dcOf g) (k:Int) = { dcOf g with L:=(dcOf g).L.modify ((dcOf g).base + k) (fun r => { r with cont:=true }) }:=by unfold dcWrap;rw [hin2,if_pos rfl,Int.toNat_natCast]
   rw [hdw] at HD1
   have hlen:=hB.d.len
   have hlt:=(List.getElem?_eq_some_iff.1 hr).1
   obtain ⟨gs,cc,hv⟩:=own_form hB.d.own (by omega)
   obtain ⟨kk,hkk⟩:∃ kk:Nat,kk = (dcOf g).base + k:=⟨_,rfl⟩
   obtain ⟨bs,hbs1⟩:∃ bs:Nat,bs = (dcOf g).base:=⟨_,rfl⟩
   have hx0:=hB.d.cells.1
   have hx1:=hB.d.cells.2.1
   rw [hv] at hx0
   rw [← hbs1] at hx1
   have hown:=hB.d.own
   rw [hv] at hown
   obtain ⟨-,hy1⟩:=owns_row hown hr
   rw [← hkk] at hy1 HD1
   have hap:∀ b ∈ dcX qd,b ∉ pgX qp:=fun b hb hx => h.ap b hx hb
   have hDp:qd.D ∉ pgX qp:=hap _ (by simp [dcX])
   have hgs:gs ∉ pgX qp:=hap _ (by simp [dcX,hv,Value.ownBlock])
   have HAP:=Hd (And.intro hDp hgs)
   have HCE:=Hd (And.intro hx0.1 hx1.1)
   have HY:=Hd hy1
   have HST:Hid (∀ w2 w3,PgRes base W qp (contP g k true) w2→Below w2.heap.size w2 w3→DcRes base w2 qd (dcOf (contP g k true)) (w3.setCell ⟨gs,kk * 2 + 1,none⟩ (.bool true))):=Hd (fun w2 w3 hs hb => by
    have hltk:kk < qd.S.length:=by rw [hkk];exact hlt
    have:=(((hB.mid hs).below hb).setCont hv hltk true).pre hb
    rw [HD1.out] at this
    exact this)
   generalize contP g (k:Int) true = g1 at HP HD1 HST ⊢
   have hkI:(bs:Int) + (k:Int) = (kk:Int):=by omega
   have hwk:IntKind.i64.wrap (kk:Int) = (kk:Int):=IntWalk.i64_in _ (by omega)
   have hkl:(kk:Int) < (qd.S.length:Int):=by omega
   clear h hB hg hin hr hin2 hdw hlen hlt hv hkk hbs1 hx0 hx1 hown hy1 hap hDp hgs
   have HWW:=Hd hW
   clear hW hb0 hXp hbs
   go_enter Tryz.func9,Tryz.ntmps9
   go_upto_region 2 with fail
   rw [show (#[.int .i64 5,.int .i64 x,.int .i64 n,.int .i32 r,.int .i64 fk,.int .i64 fn,.int .i64 bk,.int .i64 bn,.int .i64 fl,.int .i64 (k:Int),.int .i64 top,.int .i64 bottom]:Array Value) = (encPop ⟨5,x,n,r,⟨fk,fn,bk,bn,fl⟩,(k:Int),top,bottom⟩).toArray from rfl,HWW.out]
   clear HWW
   obtain ⟨c0,c1,c2,c3,c4,c5,c6,c7,c8,c9,c10,c11,k0,k1⟩:=HO0.out
   go_upto_region 3 with (go_at_call 28;(with_reducible refine HIN.out.mono ?_);rintro e w1 ⟨rfl,hb⟩;have HB1:=Hd hb;have HO1:=Hd (HO0.out.below hb);clear hb)
   clear c0 c1 c2 c3 c4 c5 c6 c7 c8 c9 c10 c11 k0 k1
   obtain ⟨c0,c1,c2,c3,c4,c5,c6,c7,c8,c9,c10,c11,k0,k1⟩:=HO1.out
   go_upto_region 26 with (go_at_call 40;(with_reducible refine (HP.out _ HB1.out).mono ?_);rintro e w2 ⟨rfl,hs⟩;have HS2:=Hd hs;have HO2:=Hd (HO0.out.mod hs.modr HX0.out.1 HX0.out.2);have x0:=hs.modr.cell HAP.out.1 HCE.out.1;have x1:=hs.modr.cell HAP.out.1 HCE.out.2;have HY2:=Hd (hs.modr.hold HAP.out.2 HY.out);clear hs c0 c1 c2 c3 c4 c5 c6 c7 c8 c9 c10 c11 k0 k1)
   obtain ⟨c0,c1,c2,c3,c4,c5,c6,c7,c8,c9,c10,c11,k0,k1⟩:=HO2.out
   refine wp_region_u 11 (fun w' => Below w2.heap.size w2 w'∧w'.cell? ⟨qd.D,0,none⟩ = some (.slice (some ⟨gs,0,none⟩) qd.S.length cc)∧w'.cell? ⟨qd.D,1,none⟩ = some (.int .i64 bs)∧w'.cell? ⟨w.heap.size,9,none⟩ = some (.int .i64 k)) (by kernel_rfl) (by kernel_rfl) ?_ ?_
   · exact ⟨(Below.refl _ _).drew,x0,x1,c9⟩
   simp only [List.take_succ_cons,List.take_zero,List.drop_succ_cons,List.drop_zero]
   repeat (
    (first
     | refine seqU_skip (by rfl) ?_
     | (refine seqU_val ?_ (by rfl) ?_ ?_;rotate_left;(focus (intro w' hS;obtain ⟨_,_,_,_⟩:=hS;go_simp;first | done | with_reducible rfl))))
    simp only [Act.put,List.setIfInBounds_toArray,List.set_cons_zero,List.set_cons_succ])
   refine seqU_nil (fun w' hS => ?_)
   have HB3:=Hd hS.1
   obtain ⟨y1,y1f⟩:=hold hS.1 HY2.out
   have HFIN:=Hd (HST.out w2 w' HS2.out hS.1)
   clear hS x0 x1 c0 c1 c2 c3 c4 c5 c6 c7 c8 c9 c10 c11 k0 k1
   go_wp2
   go_end0
   exact ⟨rfl,(HB0.out.step HS2.out HFIN.out).pre HB.out⟩
set_option maxHeartbeats 6400000 in
theorem doesN_any {base:Nat} {w:World} {qp:Pv} {qd:Dv} {g:Pg} {rows cols room:Nat} (h:Both base w qp qd g) (hg:PgInv rows cols room g) (hrows:rows ≤ 1000) (hroom:room ≤ 100000) (ht:g.told.length ≤ 900000) (o:Pop) (ho:o.kind < 0 ∨ 10 < o.kind) (hok:PopOk o) :
 Calls Tryz.prog 9 #[.pointer (some ⟨qp.P,0,none⟩),.pointer (some ⟨qd.D,0,none⟩),.agg #[.int .i64 o.kind,.int .i64 o.x,.int .i64 o.n,.int .i32 o.r,.int .i64 o.at_.fk,.int .i64 o.at_.fn,.int .i64 o.at_.bk,.int .i64 o.at_.bn,.int .i64 o.at_.fl,.int .i64 o.y,.int .i64 o.top,.int .i64 o.bottom]] w (DoesPost base w qp qd (stepP g o)):=by
 obtain ⟨kind,x,n,r,⟨fk,fn,bk,bn,fl⟩,y,top,bottom⟩:=o
 simp only at ho
 obtain ⟨W,hW⟩:∃ W,(w.alloc (.cells (encPop ⟨kind,x,n,r,⟨fk,fn,bk,bn,fl⟩,y,top,bottom⟩).toArray 38)).alloc (.cells #[.int .i64 bk,.int .i64 bn] 32) = W:=⟨_,rfl⟩
 have hb0:Below w.heap.size w W:=by rw [← hW];exact below_allocs (below_allocs (Below.refl _ _) _) _
 have HO0:Hid (OpC W w.heap.size (w.heap.size + 1) ⟨kind,x,n,r,⟨fk,fn,bk,bn,fl⟩,y,top,bottom⟩):=Hd (by rw [← hW];exact OpC.new _)
 have HB:=Hd hb0
 have hB:=h.below hb0
 have HB0:=Hd hB
 have hXp:∀ i,w.heap.size + i ∉ pgX qp:=fun i hx => by have:=(h.p.lt _ hx).2;omega
 have hr1:=hg.hrows
 have hr2:=hg.hroom
 have hr3:=hg.hhist
 have hL:(dcOf g).L.length ≤ 900000:=by show (g.hist ++ g.scr).length ≤ _;simp;omega
 have hbs:(dcOf g).base ≤ (dcOf g).L.length:=by show g.hist.length ≤ (g.hist ++ g.scr).length;simp
 have HIN:=Hd (rdIn_any hB.d (by omega) hbs y)
 rw [dcOf_in] at HIN
 have HX0:=Hd (And.intro (hXp 0) (hXp 1))
 have HG1:Hid (stepP g ⟨kind,x,n,r,⟨fk,fn,bk,bn,fl⟩,y,top,bottom⟩ = g):=Hd (by unfold stepP;rw [if_neg (show ¬ kind = 0 by omega)];rw [if_neg (show ¬ kind = 1 by omega)];rw [if_neg (show ¬ kind = 2 by omega)];rw [if_neg (show ¬ kind = 3 by omega)];rw [if_neg (show ¬ kind = 4 by omega)];rw [if_neg (show ¬ kind = 5 by omega)];rw [if_neg (show ¬ kind = 6 by omega)];rw [if_neg (show ¬ kind = 7 by omega)];rw [if_neg (show ¬ kind = 8 by omega)];rw [if_neg (show ¬ kind = 9 by omega)];rw [if_neg (show ¬ kind = 10 by omega)]; first | done | rfl)
 rw [HG1.out]
 have hk0:(kind == 0) = false:=beq_eq_false_iff_ne.2 (by omega)
 have hk1:(kind == 1) = false:=beq_eq_false_iff_ne.2 (by omega)
 have hk2:(kind == 2) = false:=beq_eq_false_iff_ne.2 (by omega)
 have hk3:(kind == 3) = false:=beq_eq_false_iff_ne.2 (by omega)
 have hk4:(kind == 4) = false:=beq_eq_false_iff_ne.2 (by omega)
 have hk5:(kind == 5) = false:=beq_eq_false_iff_ne.2 (by omega)
 have hk6:(kind == 6) = false:=beq_eq_false_iff_ne.2 (by omega)
 have hk7:(kind == 7) = false:=beq_eq_false_iff_ne.2 (by omega)
 have hk8:(kind == 8) = false:=beq_eq_false_iff_ne.2 (by omega)
 have hk9:(kind == 9) = false:=beq_eq_false_iff_ne.2 (by omega)
 have hk10:(kind == 10) = false:=beq_eq_false_iff_ne.2 (by omega)
 generalize inP g y = bin at HIN
 clear h hB hg
 cases bin
 all_goals
  have HWW:=Hd hW
  clear hW hb0 hXp hbs
  go_enter Tryz.func9,Tryz.ntmps9
  go_upto_region 2 with fail
  rw [show (#[.int .i64 kind,.int .i64 x,.int .i64 n,.int .i32 r,.int .i64 fk,.int .i64 fn,.int .i64 bk,.int .i64 bn,.int .i64 fl,.int .i64 y,.int .i64 top,.int .i64 bottom]:Array Value) = (encPop ⟨kind,x,n,r,⟨fk,fn,bk,bn,fl⟩,y,top,bottom⟩).toArray from rfl,HWW.out]
  clear HWW
  obtain ⟨c0,c1,c2,c3,c4,c5,c6,c7,c8,c9,c10,c11,k0,k1⟩:=HO0.out
  go_upto_region 3 with (go_at_call 28;(with_reducible refine HIN.out.mono ?_);rintro e w1 ⟨rfl,hb⟩;have HB1:=Hd hb;have HO1:=Hd (HO0.out.below hb);clear hb)
  clear c0 c1 c2 c3 c4 c5 c6 c7 c8 c9 c10 c11 k0 k1
  obtain ⟨c0,c1,c2,c3,c4,c5,c6,c7,c8,c9,c10,c11,k0,k1⟩:=HO1.out
  go_wp2
  go_end0
  exact ⟨rfl,(HB0.out.res.post HB1.out).pre HB.out⟩
theorem does_any {base:Nat} {w:World} {qp:Pv} {qd:Dv} {g:Pg} {rows cols room:Nat} (h:Both base w qp qd g) (hg:PgInv rows cols room g) (hrow0:0 < rows) (hrows:rows ≤ 1000) (hroom:room ≤ 100000) (ht:g.told.length ≤ 900000) (o:Pop) (hok:PopOk o) :
 Calls Tryz.prog 9 #[.pointer (some ⟨qp.P,0,none⟩),.pointer (some ⟨qd.D,0,none⟩),.agg #[.int .i64 o.kind,.int .i64 o.x,.int .i64 o.n,.int .i32 o.r,.int .i64 o.at_.fk,.int .i64 o.at_.fn,.int .i64 o.at_.bk,.int .i64 o.at_.bn,.int .i64 o.at_.fl,.int .i64 o.y,.int .i64 o.top,.int .i64 o.bottom]] w (DoesPost base w qp qd (stepP g o)):=by
 by_cases h0:o.kind = 0
 · exact does0_any h hg hrows hroom ht o h0 hok
 by_cases h1:o.kind = 1
 · exact does1_any h hg hrows hroom ht o h1 hok
 by_cases h2:o.kind = 2
 · exact does2_any h hg hrow0 hrows hroom ht o h2 hok
 by_cases h3:o.kind = 3
 · exact does3_any h hg hrows hroom ht o h3 hok
 by_cases h4:o.kind = 4
 · exact does4_any h hg hrows hroom ht o h4 hok
 by_cases h5:o.kind = 5
 · exact does5_any h hg hrows hroom ht o h5 hok
 by_cases h6:o.kind = 6
 · exact does6_any h hg hrow0 hrows hroom ht o h6 hok
 by_cases h7:o.kind = 7
 · exact does7_any h hg hrow0 hrows hroom ht o h7 hok
 by_cases h8:o.kind = 8
 · exact does8_any h hg hrow0 hrows hroom ht o h8 hok
 by_cases h9:o.kind = 9
 · exact does9_any h hg hrows hroom ht o h9 hok
 by_cases h10:o.kind = 10
 · exact does10_any h hg hrow0 hrows hroom ht o h10 hok
 · exact doesN_any h hg hrows hroom ht o (by omega) hok
theorem rowP_told (g:Pg) (y:Int) (F:List Cl→List Cl):(rowP g y F).told = g.told:=by
 unfold rowP;split <;> rfl
theorem times_told {F:Nat→Nat→Pg→Pg} (hF:Calm F) (g:Pg) (top bottom n:Int):(timesP g top bottom n F).told.length ≤ g.told.length + 2 * g.scr.length:=by
 unfold timesP
 split
 · next hc =>
   simp only [Bool.and_eq_true,inP,decide_eq_true_eq] at hc
   have:=(iter_calm hF (t:=top.toNat) (b:=bottom.toNat) (by omega) (min n.toNat (bottom - top + 1).toNat) g (by omega)).2
   omega
 · omega
theorem step_told (g:Pg) (o:Pop):(stepP g o).told.length ≤ g.told.length + 2 * g.scr.length + 1:=by
 unfold stepP
 by_cases h0:o.kind = 0
 · rw [if_pos h0,rowP_told];omega
 rw [if_neg h0]
 by_cases h1:o.kind = 1
 · rw [if_pos h1,rowP_told];omega
 rw [if_neg h1]
 by_cases h2:o.kind = 2
 · rw [if_pos h2]
   unfold eraseP
   simp only []
   split
   · split
     · split
       · rw [(contP_scr _ _ _).2.1,(contP_scr _ _ _).2.1,rowP_told];omega
       · rw [(contP_scr _ _ _).2.1,rowP_told];omega
     · rw [rowP_told];omega
   · omega
 rw [if_neg h2]
 by_cases h3:o.kind = 3
 · rw [if_pos h3,rowP_told];omega
 rw [if_neg h3]
 by_cases h4:o.kind = 4
 · rw [if_pos h4,rowP_told];omega
 rw [if_neg h4]
 by_cases h5:o.kind = 5
 · rw [if_pos h5,(contP_scr _ _ _).2.1];omega
 rw [if_neg h5]
 by_cases h6:o.kind = 6
 · rw [if_pos h6];have:=times_told (calm_up (backOf o.at_)) g o.top o.bottom o.n;omega
 rw [if_neg h6]
 by_cases h7:o.kind = 7
 · rw [if_pos h7];have:=times_told (calm_down (backOf o.at_)) g o.top o.bottom o.n;omega
 rw [if_neg h7]
 by_cases h8:o.kind = 8
 · rw [if_pos h8]
   unfold forgetP
   split
   · omega
   · rw [(contP_scr _ _ _).2.1];simp [tellP]
     try omega
 rw [if_neg h8]
 by_cases h9:o.kind = 9
 · rw [if_pos h9,rowP_told];omega
 rw [if_neg h9]
 by_cases h10:o.kind = 10
 · rw [if_pos h10];have:=times_told (calm_cut (backOf o.at_)) g o.top o.bottom o.n;omega
 rw [if_neg h10];omega
theorem newP_inv (rows cols lines:Nat):PgInv rows cols lines (newP rows cols lines):=by
 refine ⟨by simp [newP],rfl,rfl,Nat.zero_le _,fun r hr => ?_⟩
 have:r ∈ List.replicate rows (blankR cols zeroCol):=by simpa [newP] using hr
 rw [(List.mem_replicate.1 this).2]
 simp [blankR]
theorem PgInv.told {rows cols room:Nat} {g:Pg} (h:PgInv rows cols room g) (t:List Tl):PgInv rows cols room { g with told:=t }:=⟨h.hrows,h.hcols,h.hroom,h.hhist,h.wide⟩
theorem resize_inv {g:Pg} {rows0 cols0 room:Nat} (hg:PgInv rows0 cols0 room g) (rows cols:Nat) (hc:2 ≤ cols) (at_:P2) (l:List P2):PgInv rows cols room (resizeG g rows cols at_ l):=by
 have hw:∀ r ∈ rsAll g cols,r.cs.length = cols:=by
  unfold rsAll
  split
  · next h => intro r hr;rw [h,hg.hcols];exact hg.wide r hr
  · exact reflowL_wide hc _
 unfold resizeG
 generalize rsAll g cols = al at hw ⊢
 generalize rsRow g cols at_ l = y1
 have hw2:∀ r ∈ al.take (trimN al y1 al.length),r.cs.length = cols:=fun r hr => hw r (List.mem_of_mem_take hr)
 have hs1:tailS al y1 rows ≤ trimN al y1 al.length:=by unfold tailS;omega
 have hs2:=trimN_le al y1 al.length
 refine ⟨?_,rfl,hg.hroom,?_,fun r hr => ?_⟩
 · show ((((al.take (trimN al y1 al.length)).drop (tailS al y1 rows)).take rows) ++ _).length = rows
   rw [List.length_append,List.length_replicate,List.length_take]
   omega
 · show (fillH ((al.take (trimN al y1 al.length)).take (tailS al y1 rows)) g.room (tailS al y1 rows)).length ≤ room
   rw [fillH_len (by rw [List.length_take,List.length_take];omega),← hg.hroom]
   omega
 · have hr':r ∈ fillH ((al.take (trimN al y1 al.length)).take (tailS al y1 rows)) g.room (tailS al y1 rows) ++ (((al.take (trimN al y1 al.length)).drop (tailS al y1 rows)).take rows ++ List.replicate (rows - (((al.take (trimN al y1 al.length)).drop (tailS al y1 rows)).take rows).length) (blankR cols zeroCol)):=hr
   rcases List.mem_append.1 hr' with h | h
   · unfold fillH at h
     exact hw2 r (List.mem_of_mem_take (List.mem_of_mem_take (List.mem_of_mem_drop h)))
   · rcases List.mem_append.1 h with h | h
     · exact hw2 r (List.mem_of_mem_drop (List.mem_of_mem_take h))
     · rw [(List.mem_replicate.1 h).2];simp [blankR]
theorem presize_bad {base:Nat} {w:World} {q:Pv} {g:Pg} (h:PgO base w q g) (rows cols:Int) (hf:fitsB rows cols = false) (at1 at2:Int) (B:Value) :
 Calls Tryz.prog 15 #[.pointer (some ⟨q.P,0,none⟩),.int .i64 rows,.int .i64 cols,.agg #[.int .i64 at1,.int .i64 at2],B] w (fun e w' => e = .returned (.tuple #[.agg #[.int .i64 0,.int .i64 0],.slice none 0 0,.int .i64 1])∧Below w.heap.size w w'):=by
 have HF:=Hd (fun w' => pfits_any rows cols w')
 rw [hf] at HF
 have HB0:=Hd (below_allocs (below_allocs (Below.refl w.heap.size w) (.cells #[.int .i64 at1,.int .i64 at2] 57)) (.cells #[.int .i64 0,.int .i64 0] 57))
 have HZ:=Hd (hp_new (W:=w.alloc (.cells #[.int .i64 at1,.int .i64 at2] 57)) (b:=w.heap.size + 1) (o:=.cells #[.int .i64 0,.int .i64 0] 57) (by simp))
 clear h hf
 go_enter Tryz.func15,Tryz.ntmps15
 go_upto_region 1 with fail
 generalize World.alloc _ _ = W at HB0 HZ ⊢
 obtain ⟨z0,z0f⟩:=at_ HZ.out 0 _ rfl
 obtain ⟨z1,z1f⟩:=at_ HZ.out 1 _ rfl
 go_wp2_with (go_at_call 52;(with_reducible refine (HF.out _).mono ?_);rintro e w9 ⟨rfl,rfl⟩)
 have hset:=set_two (u':=.int .i64 0) (v':=.int .i64 0) ⟨z0,z0f⟩ ⟨z1,z1f⟩
 exact bodyPost_ret (ret_pos3 rfl _ _ (w.heap.size + 1) _ _ _ _ rfl rfl rfl hset.1.1 hset.2.1) rfl ⟨rfl,below_set (below_set HB0.out (by omega) (o:=0) (.int .i64 0)) (by omega) (o:=1) (.int .i64 0)⟩
end Go.Proofs.YtffdblmdelgkaaaGreat
