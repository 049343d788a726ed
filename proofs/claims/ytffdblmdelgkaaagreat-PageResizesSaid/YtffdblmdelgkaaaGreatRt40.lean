/- Joined by a tool of this claim out of smaller texts. Conditions: as stated. -/
import Derived.Test.YtffdblmdelgkaaaGreatRt25
import Derived.Test.YtffdblmdelgkaaaGreatRt37
set_option linter.unusedVariables false
set_option linter.unusedSimpArgs false
set_option maxRecDepth 100000
open Go.Lib renaming hid → Hd
namespace Go.Proofs.YtffdblmdelgkaaaGreat
open Go.RowKit
set_option maxHeartbeats 6400000 in
theorem does3_any {base:Nat} {w:World} {qp:Pv} {qd:Dv} {g:Pg} {rows cols room:Nat} (h:Both base w qp qd g) (hg:PgInv rows cols room g) (hrows:rows ≤ 1000) (hroom:room ≤ 100000) (ht:g.told.length ≤ 900000) (o:Pop) (ho:o.kind = 3) (hok:PopOk o) :
 Calls Tryz.prog 9 #[.pointer (some ⟨qp.P,0,none⟩),.pointer (some ⟨qd.D,0,none⟩),.agg #[.int .i64 o.kind,.int .i64 o.x,.int .i64 o.n,.int .i32 o.r,.int .i64 o.at_.fk,.int .i64 o.at_.fn,.int .i64 o.at_.bk,.int .i64 o.at_.bn,.int .i64 o.at_.fl,.int .i64 o.y,.int .i64 o.top,.int .i64 o.bottom]] w (DoesPost base w qp qd (stepP g o)):=by
 obtain ⟨kind,x,n,r,⟨fk,fn,bk,bn,fl⟩,y,top,bottom⟩:=o
 simp only at ho
 subst ho
 obtain ⟨W,hW⟩:∃ W,(w.alloc (.cells (encPop ⟨3,x,n,r,⟨fk,fn,bk,bn,fl⟩,y,top,bottom⟩).toArray 38)).alloc (.cells #[.int .i64 bk,.int .i64 bn] 32) = W:=⟨_,rfl⟩
 have hb0:Below w.heap.size w W:=by rw [← hW];exact below_allocs (below_allocs (Below.refl _ _) _) _
 have HO0:Hid (OpC W w.heap.size (w.heap.size + 1) ⟨3,x,n,r,⟨fk,fn,bk,bn,fl⟩,y,top,bottom⟩):=Hd (by rw [← hW];exact OpC.new _)
 have HB:=Hd hb0
 have hB:=h.below hb0
 have HB0:=Hd hB
 have hXp:∀ i,w.heap.size + i ∉ pgX qp:=fun i hx => by have:=(h.p.lt _ hx).2;omega
 have hr1:=hg.hrows
 have hr2:=hg.hroom
 have hr3:=hg.hhist
 have hL:(dcOf g).L.length ≤ 900000:=by show (g.hist ++ g.scr).length ≤ _;simp;omega
 have hbs:(dcOf g).base ≤ (dcOf g).L.length:=by show g.hist.length ≤ (g.hist ++ g.scr).length;simp
 have HIN:=Hd (rdIn_any hB.d (by omega) hbs y)
 rw [dcOf_in] at HIN
 have HX0:=Hd (And.intro (hXp 0) (hXp 1))
 have HG1:Hid (stepP g ⟨3,x,n,r,⟨fk,fn,bk,bn,fl⟩,y,top,bottom⟩ = rowP g y (fun l => insertL l x n ⟨bk,bn⟩)):=Hd (by unfold stepP;rw [if_neg (show ¬ (3:Int) = 0 by decide)];rw [if_neg (show ¬ (3:Int) = 1 by decide)];rw [if_neg (show ¬ (3:Int) = 2 by decide)];rw [if_pos rfl];first | done | rfl)
 rw [HG1.out]
 have HP:Hid (∀ w1,Below W.heap.size W w1→Calls Tryz.prog 36 #[.pointer (some ⟨qp.P,0,none⟩),.int .i64 y,.int .i64 x,.int .i64 n,.agg #[.int .i64 bk,.int .i64 bn]] w1 (PgPost base W qp (rowP g y (fun l => insertL l x n ⟨bk,bn⟩)))):=Hd (fun w1 hb => (pInsert_any (hB.p.below hb) y x n ⟨bk,bn⟩).mono (fun e w2 hh => ⟨hh.1,hh.2.pre hb⟩))
 have HD1:=Hd (dcOf_row g y (fun l => insertL l x n ⟨bk,bn⟩))
 cases hin:inP g y with
 | false =>
   rw [hin] at HIN
   have HE:Hid (rowP g y (fun l => insertL l x n ⟨bk,bn⟩) = g):=Hd (by unfold rowP;rw [hin];rfl)
   generalize rowP g y (fun l => insertL l x n ⟨bk,bn⟩) = g1 at HP HE ⊢
   clear h hB hg HD1
   have HWW:=Hd hW
   clear hW hb0 hXp hbs
   go_enter Tryz.func9,Tryz.ntmps9
   go_upto_region 2 with fail
   rw [show (#[.int .i64 3,.int .i64 x,.int .i64 n,.int .i32 r,.int .i64 fk,.int .i64 fn,.int .i64 bk,.int .i64 bn,.int .i64 fl,.int .i64 y,.int .i64 top,.int .i64 bottom]:Array Value) = (encPop ⟨3,x,n,r,⟨fk,fn,bk,bn,fl⟩,y,top,bottom⟩).toArray from rfl,HWW.out]
   clear HWW
   obtain ⟨c0,c1,c2,c3,c4,c5,c6,c7,c8,c9,c10,c11,k0,k1⟩:=HO0.out
   go_upto_region 3 with (go_at_call 28;(with_reducible refine HIN.out.mono ?_);rintro e w1 ⟨rfl,hb⟩;have HB1:=Hd hb;have HO1:=Hd (HO0.out.below hb);clear hb)
   clear c0 c1 c2 c3 c4 c5 c6 c7 c8 c9 c10 c11 k0 k1
   obtain ⟨c0,c1,c2,c3,c4,c5,c6,c7,c8,c9,c10,c11,k0,k1⟩:=HO1.out
   go_wp2_with (go_at_call 36;(with_reducible refine (HP.out _ HB1.out).mono ?_);rintro e w2 ⟨rfl,hs⟩;have HS2:=Hd hs;clear hs c0 c1 c2 c3 c4 c5 c6 c7 c8 c9 c10 c11 k0 k1)
   go_end0
   exact ⟨rfl,(HB0.out.step HS2.out (by rw [HE.out];exact (HB0.out.mid HS2.out).res)).pre HB.out⟩
 | true =>
   rw [hin] at HIN
   have hin2:dcIn (dcOf g) y = true:=by rw [dcOf_in];exact hin
   obtain ⟨k,r0,rfl,hr,-,-⟩:=dcIn_row hB.d hin2
   have HRC:Hid (∀ w2 g1,PgRes base W qp g1 w2→_):=Hd (fun w2 g1 hs => row_calls (hB.mid (g1:=g1) hs) hin2 hr (by omega))
   generalize rowP g (k:Int) (fun l => insertL l x n ⟨bk,bn⟩) = g1 at HP HD1 ⊢
   have HC2:=Hd hg.hcols
   clear h hB hg hin hr hin2
   have HWW:=Hd hW
   clear hW hb0 hXp hbs
   go_enter Tryz.func9,Tryz.ntmps9
   go_upto_region 2 with fail
   rw [show (#[.int .i64 3,.int .i64 x,.int .i64 n,.int .i32 r,.int .i64 fk,.int .i64 fn,.int .i64 bk,.int .i64 bn,.int .i64 fl,.int .i64 (k:Int),.int .i64 top,.int .i64 bottom]:Array Value) = (encPop ⟨3,x,n,r,⟨fk,fn,bk,bn,fl⟩,(k:Int),top,bottom⟩).toArray from rfl,HWW.out]
   clear HWW
   obtain ⟨c0,c1,c2,c3,c4,c5,c6,c7,c8,c9,c10,c11,k0,k1⟩:=HO0.out
   go_upto_region 3 with (go_at_call 28;(with_reducible refine HIN.out.mono ?_);rintro e w1 ⟨rfl,hb⟩;have HB1:=Hd hb;have HO1:=Hd (HO0.out.below hb);clear hb)
   clear c0 c1 c2 c3 c4 c5 c6 c7 c8 c9 c10 c11 k0 k1
   obtain ⟨c0,c1,c2,c3,c4,c5,c6,c7,c8,c9,c10,c11,k0,k1⟩:=HO1.out
   go_upto_region 18 with (go_at_call 36;(with_reducible refine (HP.out _ HB1.out).mono ?_);rintro e w2 ⟨rfl,hs⟩;have HS2:=Hd hs;have HO2:=Hd (HO0.out.mod hs.modr HX0.out.1 HX0.out.2);clear hs c0 c1 c2 c3 c4 c5 c6 c7 c8 c9 c10 c11 k0 k1)
   obtain ⟨hof,hrc,hrl,hce⟩:=HRC.out w2 g1 HS2.out
   have HOF:=Hd hof
   have HRR:=Hd hrc
   have HRL:=Hd hrl
   have HCE:=Hd (hce (fun l => insertL l x n ⟨bk,bn⟩) (fun l => insertL_len _ _ _ _))
   clear hof hrc hrl hce
   have hO2:=HO2.out
   refine wp_region_n 15 (fun w' => Below w2.heap.size w2 w'∧OpC w' w.heap.size (w.heap.size + 1) ⟨3,x,n,r,⟨fk,fn,bk,bn,fl⟩,k,top,bottom⟩) (by kernel_rfl) (by kernel_rfl) (fun w1 w2 hS hb => ⟨below_tail hS.1 hb,hS.2.below hb⟩) ⟨(Below.refl _ _).drew,(hO2:OpC w2.drew _ _ _)⟩ ?_
   clear hO2
   refine AtN.go 0 ?_
   iterate 6 (refine AtC.take (o:=⟨_,_,_,_,_,_⟩) (v:=?_) (by kernel_rfl) rfl (by simp) (by kernel_rfl) (by kernel_rfl) ?_ ?_;rotate_left;(focus (first | exact StabN.skip (by rfl) | (refine StabN.val (by rfl) ?_;intro w' hS;obtain ⟨_,_,_,_,_,_,_,_,_,_,_,_,_,_,_⟩:=hS;go_simp;first | done | with_reducible rfl)));simp only [Act.put,List.setIfInBounds_toArray,List.set_cons_zero,List.set_cons_succ])
   refine AtC.back ?_
   refine AtN.take 6 (o:=⟨_,_,_,_,_,_⟩) (v:=.slice r0.A r0.cs.length r0.cap) (by kernel_rfl) rfl (by simp) (by kernel_rfl) (by kernel_rfl) (StabN.call1 31 #[.pointer (some ⟨qd.D,0,none⟩),.int .i64 k] (.slice r0.A r0.cs.length r0.cap) (by rfl) (by intro w';go_simp;done) (fun w' hS => HOF.out _ hS.1)) ?_
   simp only [Act.put,List.setIfInBounds_toArray,List.set_cons_zero,List.set_cons_succ]
   refine AtN.go 7 ?_
   iterate 7 (refine AtC.take (o:=⟨_,_,_,_,_,_⟩) (v:=?_) (by kernel_rfl) rfl (by simp) (by kernel_rfl) (by kernel_rfl) ?_ ?_;rotate_left;(focus (first | exact StabN.skip (by rfl) | (refine StabN.val (by rfl) ?_;intro w' hS;obtain ⟨_,_,_,_,_,_,_,_,_,_,_,_,_,_,_⟩:=hS;go_simp;first | done | with_reducible rfl)));simp only [Act.put,List.setIfInBounds_toArray,List.set_cons_zero,List.set_cons_succ])
   refine AtC.back ?_
   refine AtN.one 14 (o:=⟨_,_,_,_,_,_⟩) (fun v => ∃ g cap,v = .slice (some ⟨g,0,none⟩) r0.cs.length cap) (fun v w' => ∃ g cap,v = .slice (some ⟨g,0,none⟩) r0.cs.length cap∧RcAt w' ⟨some ⟨g,0,none⟩,(fun l => insertL l x n ⟨bk,bn⟩) r0.cs,cap,r0.cont⟩) (by simp) (by kernel_rfl) rfl (fun v w1 w2 ⟨g,cap,hv,hr⟩ hb => ⟨g,cap,hv,hr.below hb⟩) (StabN.call 37 #[.slice r0.A r0.cs.length r0.cap,.int .i64 x,.int .i64 n,.agg #[.int .i64 bk,.int .i64 bn]] _ _ (by rfl) ?_ (fun w' hS => ?_)) ?_
   · intro w'
     go_simp
   · have hrc:=HRR.out w' hS.1
     have h0:0 < r0.cs.length:=by rw [HRL.out];have:=HB0.out.d.cols2;omega
     refine (rInsert_any r0.A r0.cs r0.cap x n ⟨bk,bn⟩ w' hrc.2.2.1 h0 hrc.1).mono ?_
     rintro e w3 ⟨g1,cap,rfl,hc,hb⟩
     have hlen:(insertL r0.cs x n ⟨bk,bn⟩).length = r0.cs.length:=insertL_len _ _ _ _
     rw [hlen]
     exact ⟨_,rfl,⟨⟨g1,cap,rfl⟩,g1,cap,rfl,.of_own hc (by rw [hlen];exact hrc.1) (hrc.2.1.insert _ _ _) _⟩,hb⟩
   rintro v ⟨g5,cap,rfl⟩
   simp only [Act.put,List.setIfInBounds_toArray,List.set_cons_zero,List.set_cons_succ]
   refine AtN.done (by kernel_rfl) (fun w' hS => ?_)
   obtain ⟨⟨hb1,-⟩,g1',cap',hv',hrc'⟩:=hS
   simp only [Value.slice.injEq,Option.some.injEq,Addr.mk.injEq,and_true,true_and] at hv'
   obtain ⟨rfl,rfl⟩:=hv'
   have HCE2:=Hd (HCE.out w' g5 cap hb1 hrc')
   rw [HD1.out] at HCE2
   clear hb1 hrc'
   go_wp2_with (go_at_call 29;(with_reducible refine HCE2.out.mono ?_);rintro e w4 ⟨rfl,hs⟩;have HS4:=Hd hs;clear hs)
   go_end0
   exact ⟨rfl,(HB0.out.step HS2.out HS4.out).pre HB.out⟩
set_option maxHeartbeats 6400000 in
theorem does4_any {base:Nat} {w:World} {qp:Pv} {qd:Dv} {g:Pg} {rows cols room:Nat} (h:Both base w qp qd g) (hg:PgInv rows cols room g) (hrows:rows ≤ 1000) (hroom:room ≤ 100000) (ht:g.told.length ≤ 900000) (o:Pop) (ho:o.kind = 4) (hok:PopOk o) :
 Calls Tryz.prog 9 #[.pointer (some ⟨qp.P,0,none⟩),.pointer (some ⟨qd.D,0,none⟩),.agg #[.int .i64 o.kind,.int .i64 o.x,.int .i64 o.n,.int .i32 o.r,.int .i64 o.at_.fk,.int .i64 o.at_.fn,.int .i64 o.at_.bk,.int .i64 o.at_.bn,.int .i64 o.at_.fl,.int .i64 o.y,.int .i64 o.top,.int .i64 o.bottom]] w (DoesPost base w qp qd (stepP g o)):=by
 obtain ⟨kind,x,n,r,⟨fk,fn,bk,bn,fl⟩,y,top,bottom⟩:=o
 simp only at ho
 subst ho
 obtain ⟨W,hW⟩:∃ W,(w.alloc (.cells (encPop ⟨4,x,n,r,⟨fk,fn,bk,bn,fl⟩,y,top,bottom⟩).toArray 38)).alloc (.cells #[.int .i64 bk,.int .i64 bn] 32) = W:=⟨_,rfl⟩
 have hb0:Below w.heap.size w W:=by rw [← hW];exact below_allocs (below_allocs (Below.refl _ _) _) _
 have HO0:Hid (OpC W w.heap.size (w.heap.size + 1) ⟨4,x,n,r,⟨fk,fn,bk,bn,fl⟩,y,top,bottom⟩):=Hd (by rw [← hW];exact OpC.new _)
 have HB:=Hd hb0
 have hB:=h.below hb0
 have HB0:=Hd hB
 have hXp:∀ i,w.heap.size + i ∉ pgX qp:=fun i hx => by have:=(h.p.lt _ hx).2;omega
 have hr1:=hg.hrows
 have hr2:=hg.hroom
 have hr3:=hg.hhist
 have hL:(dcOf g).L.length ≤ 900000:=by show (g.hist ++ g.scr).length ≤ _;simp;omega
 have hbs:(dcOf g).base ≤ (dcOf g).L.length:=by show g.hist.length ≤ (g.hist ++ g.scr).length;simp
 have HIN:=Hd (rdIn_any hB.d (by omega) hbs y)
 rw [dcOf_in] at HIN
 have HX0:=Hd (And.intro (hXp 0) (hXp 1))
 have HG1:Hid (stepP g ⟨4,x,n,r,⟨fk,fn,bk,bn,fl⟩,y,top,bottom⟩ = rowP g y (fun l => deleteL l x n ⟨bk,bn⟩)):=Hd (by unfold stepP;rw [if_neg (show ¬ (4:Int) = 0 by decide)];rw [if_neg (show ¬ (4:Int) = 1 by decide)];rw [if_neg (show ¬ (4:Int) = 2 by decide)];rw [if_neg (show ¬ (4:Int) = 3 by decide)];rw [if_pos rfl];first | done | rfl)
 rw [HG1.out]
 have HP:Hid (∀ w1,Below W.heap.size W w1→Calls Tryz.prog 38 #[.pointer (some ⟨qp.P,0,none⟩),.int .i64 y,.int .i64 x,.int .i64 n,.agg #[.int .i64 bk,.int .i64 bn]] w1 (PgPost base W qp (rowP g y (fun l => deleteL l x n ⟨bk,bn⟩)))):=Hd (fun w1 hb => (pDelete_any (hB.p.below hb) y x n ⟨bk,bn⟩).mono (fun e w2 hh => ⟨hh.1,hh.2.pre hb⟩))
 have HD1:=Hd (dcOf_row g y (fun l => deleteL l x n ⟨bk,bn⟩))
 cases hin:inP g y with
 | false =>
   rw [hin] at HIN
   have HE:Hid (rowP g y (fun l => deleteL l x n ⟨bk,bn⟩) = g):=Hd (by unfold rowP;rw [hin];rfl)
   generalize rowP g y (fun l => deleteL l x n ⟨bk,bn⟩) = g1 at HP HE ⊢
   clear h hB hg HD1
   have HWW:=Hd hW
   clear hW hb0 hXp hbs
   go_enter Tryz.func9,Tryz.ntmps9
   go_upto_region 2 with fail
   rw [show (#[.int .i64 4,.int .i64 x,.int .i64 n,.int .i32 r,.int .i64 fk,.int .i64 fn,.int .i64 bk,.int .i64 bn,.int .i64 fl,.int .i64 y,.int .i64 top,.int .i64 bottom]:Array Value) = (encPop ⟨4,x,n,r,⟨fk,fn,bk,bn,fl⟩,y,top,bottom⟩).toArray from rfl,HWW.out]
   clear HWW
   obtain ⟨c0,c1,c2,c3,c4,c5,c6,c7,c8,c9,c10,c11,k0,k1⟩:=HO0.out
   go_upto_region 3 with (go_at_call 28;(with_reducible refine HIN.out.mono ?_);rintro e w1 ⟨rfl,hb⟩;have HB1:=Hd hb;have HO1:=Hd (HO0.out.below hb);clear hb)
   clear c0 c1 c2 c3 c4 c5 c6 c7 c8 c9 c10 c11 k0 k1
   obtain ⟨c0,c1,c2,c3,c4,c5,c6,c7,c8,c9,c10,c11,k0,k1⟩:=HO1.out
   go_wp2_with (go_at_call 38;(with_reducible refine (HP.out _ HB1.out).mono ?_);rintro e w2 ⟨rfl,hs⟩;have HS2:=Hd hs;clear hs c0 c1 c2 c3 c4 c5 c6 c7 c8 c9 c10 c11 k0 k1)
   go_end0
   exact ⟨rfl,(HB0.out.step HS2.out (by rw [HE.out];exact (HB0.out.mid HS2.out).res)).pre HB.out⟩
 | true =>
   rw [hin] at HIN
   have hin2:dcIn (dcOf g) y = true:=by rw [dcOf_in];exact hin
   obtain ⟨k,r0,rfl,hr,-,-⟩:=dcIn_row hB.d hin2
   have HRC:Hid (∀ w2 g1,PgRes base W qp g1 w2→_):=Hd (fun w2 g1 hs => row_calls (hB.mid (g1:=g1) hs) hin2 hr (by omega))
   generalize rowP g (k:Int) (fun l => deleteL l x n ⟨bk,bn⟩) = g1 at HP HD1 ⊢
   have HC2:=Hd hg.hcols
   clear h hB hg hin hr hin2
   have HWW:=Hd hW
   clear hW hb0 hXp hbs
   go_enter Tryz.func9,Tryz.ntmps9
   go_upto_region 2 with fail
   rw [show (#[.int .i64 4,.int .i64 x,.int .i64 n,.int .i32 r,.int .i64 fk,.int .i64 fn,.int .i64 bk,.int .i64 bn,.int .i64 fl,.int .i64 (k:Int),.int .i64 top,.int .i64 bottom]:Array Value) = (encPop ⟨4,x,n,r,⟨fk,fn,bk,bn,fl⟩,(k:Int),top,bottom⟩).toArray from rfl,HWW.out]
   clear HWW
   obtain ⟨c0,c1,c2,c3,c4,c5,c6,c7,c8,c9,c10,c11,k0,k1⟩:=HO0.out
   go_upto_region 3 with (go_at_call 28;(with_reducible refine HIN.out.mono ?_);rintro e w1 ⟨rfl,hb⟩;have HB1:=Hd hb;have HO1:=Hd (HO0.out.below hb);clear hb)
   clear c0 c1 c2 c3 c4 c5 c6 c7 c8 c9 c10 c11 k0 k1
   obtain ⟨c0,c1,c2,c3,c4,c5,c6,c7,c8,c9,c10,c11,k0,k1⟩:=HO1.out
   go_upto_region 22 with (go_at_call 38;(with_reducible refine (HP.out _ HB1.out).mono ?_);rintro e w2 ⟨rfl,hs⟩;have HS2:=Hd hs;have HO2:=Hd (HO0.out.mod hs.modr HX0.out.1 HX0.out.2);clear hs c0 c1 c2 c3 c4 c5 c6 c7 c8 c9 c10 c11 k0 k1)
   obtain ⟨hof,hrc,hrl,hce⟩:=HRC.out w2 g1 HS2.out
   have HOF:=Hd hof
   have HRR:=Hd hrc
   have HRL:=Hd hrl
   have HCE:=Hd (hce (fun l => deleteL l x n ⟨bk,bn⟩) (fun l => deleteL_len _ _ _ _))
   clear hof hrc hrl hce
   have hO2:=HO2.out
   refine wp_region_n 15 (fun w' => Below w2.heap.size w2 w'∧OpC w' w.heap.size (w.heap.size + 1) ⟨4,x,n,r,⟨fk,fn,bk,bn,fl⟩,k,top,bottom⟩) (by kernel_rfl) (by kernel_rfl) (fun w1 w2 hS hb => ⟨below_tail hS.1 hb,hS.2.below hb⟩) ⟨(Below.refl _ _).drew,(hO2:OpC w2.drew _ _ _)⟩ ?_
   clear hO2
   refine AtN.go 0 ?_
   iterate 6 (refine AtC.take (o:=⟨_,_,_,_,_,_⟩) (v:=?_) (by kernel_rfl) rfl (by simp) (by kernel_rfl) (by kernel_rfl) ?_ ?_;rotate_left;(focus (first | exact StabN.skip (by rfl) | (refine StabN.val (by rfl) ?_;intro w' hS;obtain ⟨_,_,_,_,_,_,_,_,_,_,_,_,_,_,_⟩:=hS;go_simp;first | done | with_reducible rfl)));simp only [Act.put,List.setIfInBounds_toArray,List.set_cons_zero,List.set_cons_succ])
   refine AtC.back ?_
   refine AtN.take 6 (o:=⟨_,_,_,_,_,_⟩) (v:=.slice r0.A r0.cs.length r0.cap) (by kernel_rfl) rfl (by simp) (by kernel_rfl) (by kernel_rfl) (StabN.call1 31 #[.pointer (some ⟨qd.D,0,none⟩),.int .i64 k] (.slice r0.A r0.cs.length r0.cap) (by rfl) (by intro w';go_simp;done) (fun w' hS => HOF.out _ hS.1)) ?_
   simp only [Act.put,List.setIfInBounds_toArray,List.set_cons_zero,List.set_cons_succ]
   refine AtN.go 7 ?_
   iterate 7 (refine AtC.take (o:=⟨_,_,_,_,_,_⟩) (v:=?_) (by kernel_rfl) rfl (by simp) (by kernel_rfl) (by kernel_rfl) ?_ ?_;rotate_left;(focus (first | exact StabN.skip (by rfl) | (refine StabN.val (by rfl) ?_;intro w' hS;obtain ⟨_,_,_,_,_,_,_,_,_,_,_,_,_,_,_⟩:=hS;go_simp;first | done | with_reducible rfl)));simp only [Act.put,List.setIfInBounds_toArray,List.set_cons_zero,List.set_cons_succ])
   refine AtC.back ?_
   refine AtN.one 14 (o:=⟨_,_,_,_,_,_⟩) (fun v => ∃ g cap,v = .slice (some ⟨g,0,none⟩) r0.cs.length cap) (fun v w' => ∃ g cap,v = .slice (some ⟨g,0,none⟩) r0.cs.length cap∧RcAt w' ⟨some ⟨g,0,none⟩,(fun l => deleteL l x n ⟨bk,bn⟩) r0.cs,cap,r0.cont⟩) (by simp) (by kernel_rfl) rfl (fun v w1 w2 ⟨g,cap,hv,hr⟩ hb => ⟨g,cap,hv,hr.below hb⟩) (StabN.call 39 #[.slice r0.A r0.cs.length r0.cap,.int .i64 x,.int .i64 n,.agg #[.int .i64 bk,.int .i64 bn]] _ _ (by rfl) ?_ (fun w' hS => ?_)) ?_
   · intro w'
     go_simp
   · have hrc:=HRR.out w' hS.1
     have h0:0 < r0.cs.length:=by rw [HRL.out];have:=HB0.out.d.cols2;omega
     refine (rDelete_any r0.A r0.cs r0.cap x n ⟨bk,bn⟩ w' hrc.2.2.1 h0 hrc.1).mono ?_
     rintro e w3 ⟨g1,cap,rfl,hc,hb⟩
     have hlen:(deleteL r0.cs x n ⟨bk,bn⟩).length = r0.cs.length:=deleteL_len _ _ _ _
     rw [hlen]
     exact ⟨_,rfl,⟨⟨g1,cap,rfl⟩,g1,cap,rfl,.of_own hc (by rw [hlen];exact hrc.1) (hrc.2.1.delete _ _ _) _⟩,hb⟩
   rintro v ⟨g5,cap,rfl⟩
   simp only [Act.put,List.setIfInBounds_toArray,List.set_cons_zero,List.set_cons_succ]
   refine AtN.done (by kernel_rfl) (fun w' hS => ?_)
   obtain ⟨⟨hb1,-⟩,g1',cap',hv',hrc'⟩:=hS
   simp only [Value.slice.injEq,Option.some.injEq,Addr.mk.injEq,and_true,true_and] at hv'
   obtain ⟨rfl,rfl⟩:=hv'
   have HCE2:=Hd (HCE.out w' g5 cap hb1 hrc')
   rw [HD1.out] at HCE2
   clear hb1 hrc'
   go_wp2_with (go_at_call 29;(with_reducible refine HCE2.out.mono ?_);rintro e w4 ⟨rfl,hs⟩;have HS4:=Hd hs;clear hs)
   go_end0
   exact ⟨rfl,(HB0.out.step HS2.out HS4.out).pre HB.out⟩
set_option maxHeartbeats 6400000 in
theorem does9_any {base:Nat} {w:World} {qp:Pv} {qd:Dv} {g:Pg} {rows cols room:Nat} (h:Both base w qp qd g) (hg:PgInv rows cols room g) (hrows:rows ≤ 1000) (hroom:room ≤ 100000) (ht:g.told.length ≤ 900000) (o:Pop) (ho:o.kind = 9) (hok:PopOk o) :
 Calls Tryz.prog 9 #[.pointer (some ⟨qp.P,0,none⟩),.pointer (some ⟨qd.D,0,none⟩),.agg #[.int .i64 o.kind,.int .i64 o.x,.int .i64 o.n,.int .i32 o.r,.int .i64 o.at_.fk,.int .i64 o.at_.fn,.int .i64 o.at_.bk,.int .i64 o.at_.bn,.int .i64 o.at_.fl,.int .i64 o.y,.int .i64 o.top,.int .i64 o.bottom]] w (DoesPost base w qp qd (stepP g o)):=by
 obtain ⟨kind,x,n,r,⟨fk,fn,bk,bn,fl⟩,y,top,bottom⟩:=o
 simp only at ho
 subst ho
 obtain ⟨W,hW⟩:∃ W,(w.alloc (.cells (encPop ⟨9,x,n,r,⟨fk,fn,bk,bn,fl⟩,y,top,bottom⟩).toArray 38)).alloc (.cells #[.int .i64 bk,.int .i64 bn] 32) = W:=⟨_,rfl⟩
 have hb0:Below w.heap.size w W:=by rw [← hW];exact below_allocs (below_allocs (Below.refl _ _) _) _
 have HO0:Hid (OpC W w.heap.size (w.heap.size + 1) ⟨9,x,n,r,⟨fk,fn,bk,bn,fl⟩,y,top,bottom⟩):=Hd (by rw [← hW];exact OpC.new _)
 have HB:=Hd hb0
 have hB:=h.below hb0
 have HB0:=Hd hB
 have hXp:∀ i,w.heap.size + i ∉ pgX qp:=fun i hx => by have:=(h.p.lt _ hx).2;omega
 have hr1:=hg.hrows
 have hr2:=hg.hroom
 have hr3:=hg.hhist
 have hL:(dcOf g).L.length ≤ 900000:=by show (g.hist ++ g.scr).length ≤ _;simp;omega
 have hbs:(dcOf g).base ≤ (dcOf g).L.length:=by show g.hist.length ≤ (g.hist ++ g.scr).length;simp
 have HIN:=Hd (rdIn_any hB.d (by omega) hbs y)
 rw [dcOf_in] at HIN
 have HX0:=Hd (And.intro (hXp 0) (hXp 1))
 have HG1:Hid (stepP g ⟨9,x,n,r,⟨fk,fn,bk,bn,fl⟩,y,top,bottom⟩ = rowP g y (fun l => closeL l)):=Hd (by unfold stepP;rw [if_neg (show ¬ (9:Int) = 0 by decide)];rw [if_neg (show ¬ (9:Int) = 1 by decide)];rw [if_neg (show ¬ (9:Int) = 2 by decide)];rw [if_neg (show ¬ (9:Int) = 3 by decide)];rw [if_neg (show ¬ (9:Int) = 4 by decide)];rw [if_neg (show ¬ (9:Int) = 5 by decide)];rw [if_neg (show ¬ (9:Int) = 6 by decide)];rw [if_neg (show ¬ (9:Int) = 7 by decide)];rw [if_neg (show ¬ (9:Int) = 8 by decide)];rw [if_pos rfl];first | done | rfl)
 rw [HG1.out]
 have HP:Hid (∀ w1,Below W.heap.size W w1→Calls Tryz.prog 45 #[.pointer (some ⟨qp.P,0,none⟩),.int .i64 y] w1 (PgPost base W qp (rowP g y (fun l => closeL l)))):=Hd (fun w1 hb => (pPad_any (hB.p.below hb) y).mono (fun e w2 hh => ⟨hh.1,hh.2.pre hb⟩))
 have HD1:=Hd (dcOf_row g y (fun l => closeL l))
 cases hin:inP g y with
 | false =>
   rw [hin] at HIN
   have HE:Hid (rowP g y (fun l => closeL l) = g):=Hd (by unfold rowP;rw [hin];rfl)
   generalize rowP g y (fun l => closeL l) = g1 at HP HE ⊢
   clear h hB hg HD1
   have HWW:=Hd hW
   clear hW hb0 hXp hbs
   go_enter Tryz.func9,Tryz.ntmps9
   go_upto_region 2 with fail
   rw [show (#[.int .i64 9,.int .i64 x,.int .i64 n,.int .i32 r,.int .i64 fk,.int .i64 fn,.int .i64 bk,.int .i64 bn,.int .i64 fl,.int .i64 y,.int .i64 top,.int .i64 bottom]:Array Value) = (encPop ⟨9,x,n,r,⟨fk,fn,bk,bn,fl⟩,y,top,bottom⟩).toArray from rfl,HWW.out]
   clear HWW
   obtain ⟨c0,c1,c2,c3,c4,c5,c6,c7,c8,c9,c10,c11,k0,k1⟩:=HO0.out
   go_upto_region 3 with (go_at_call 28;(with_reducible refine HIN.out.mono ?_);rintro e w1 ⟨rfl,hb⟩;have HB1:=Hd hb;have HO1:=Hd (HO0.out.below hb);clear hb)
   clear c0 c1 c2 c3 c4 c5 c6 c7 c8 c9 c10 c11 k0 k1
   obtain ⟨c0,c1,c2,c3,c4,c5,c6,c7,c8,c9,c10,c11,k0,k1⟩:=HO1.out
   go_wp2_with (go_at_call 45;(with_reducible refine (HP.out _ HB1.out).mono ?_);rintro e w2 ⟨rfl,hs⟩;have HS2:=Hd hs;clear hs c0 c1 c2 c3 c4 c5 c6 c7 c8 c9 c10 c11 k0 k1)
   go_end0
   exact ⟨rfl,(HB0.out.step HS2.out (by rw [HE.out];exact (HB0.out.mid HS2.out).res)).pre HB.out⟩
 | true =>
   rw [hin] at HIN
   have hin2:dcIn (dcOf g) y = true:=by rw [dcOf_in];exact hin
   obtain ⟨k,r0,rfl,hr,-,-⟩:=dcIn_row hB.d hin2
   have HRC:Hid (∀ w2 g1,PgRes base W qp g1 w2→_):=Hd (fun w2 g1 hs => row_calls (hB.mid (g1:=g1) hs) hin2 hr (by omega))
   generalize rowP g (k:Int) (fun l => closeL l) = g1 at HP HD1 ⊢
   have HC2:=Hd hg.hcols
   clear h hB hg hin hr hin2
   have HWW:=Hd hW
   clear hW hb0 hXp hbs
   go_enter Tryz.func9,Tryz.ntmps9
   go_upto_region 2 with fail
   rw [show (#[.int .i64 9,.int .i64 x,.int .i64 n,.int .i32 r,.int .i64 fk,.int .i64 fn,.int .i64 bk,.int .i64 bn,.int .i64 fl,.int .i64 (k:Int),.int .i64 top,.int .i64 bottom]:Array Value) = (encPop ⟨9,x,n,r,⟨fk,fn,bk,bn,fl⟩,(k:Int),top,bottom⟩).toArray from rfl,HWW.out]
   clear HWW
   obtain ⟨c0,c1,c2,c3,c4,c5,c6,c7,c8,c9,c10,c11,k0,k1⟩:=HO0.out
   go_upto_region 3 with (go_at_call 28;(with_reducible refine HIN.out.mono ?_);rintro e w1 ⟨rfl,hb⟩;have HB1:=Hd hb;have HO1:=Hd (HO0.out.below hb);clear hb)
   clear c0 c1 c2 c3 c4 c5 c6 c7 c8 c9 c10 c11 k0 k1
   obtain ⟨c0,c1,c2,c3,c4,c5,c6,c7,c8,c9,c10,c11,k0,k1⟩:=HO1.out
   go_upto_region 39 with (go_at_call 45;(with_reducible refine (HP.out _ HB1.out).mono ?_);rintro e w2 ⟨rfl,hs⟩;have HS2:=Hd hs;have HO2:=Hd (HO0.out.mod hs.modr HX0.out.1 HX0.out.2);clear hs c0 c1 c2 c3 c4 c5 c6 c7 c8 c9 c10 c11 k0 k1)
   obtain ⟨hof,hrc,hrl,hce⟩:=HRC.out w2 g1 HS2.out
   have HOF:=Hd hof
   have HRR:=Hd hrc
   have HRL:=Hd hrl
   have HCE:=Hd (hce (fun l => closeL l) (fun l => closeL_len _))
   clear hof hrc hrl hce
   have hO2:=HO2.out
   refine wp_region_n 8 (fun w' => Below w2.heap.size w2 w'∧OpC w' w.heap.size (w.heap.size + 1) ⟨9,x,n,r,⟨fk,fn,bk,bn,fl⟩,k,top,bottom⟩) (by kernel_rfl) (by kernel_rfl) (fun w1 w2 hS hb => ⟨below_tail hS.1 hb,hS.2.below hb⟩) ⟨(Below.refl _ _).drew,(hO2:OpC w2.drew _ _ _)⟩ ?_
   clear hO2
   refine AtN.go 0 ?_
   iterate 6 (refine AtC.take (o:=⟨_,_,_,_,_,_⟩) (v:=?_) (by kernel_rfl) rfl (by simp) (by kernel_rfl) (by kernel_rfl) ?_ ?_;rotate_left;(focus (first | exact StabN.skip (by rfl) | (refine StabN.val (by rfl) ?_;intro w' hS;obtain ⟨_,_,_,_,_,_,_,_,_,_,_,_,_,_,_⟩:=hS;go_simp;first | done | with_reducible rfl)));simp only [Act.put,List.setIfInBounds_toArray,List.set_cons_zero,List.set_cons_succ])
   refine AtC.back ?_
   refine AtN.take 6 (o:=⟨_,_,_,_,_,_⟩) (v:=.slice r0.A r0.cs.length r0.cap) (by kernel_rfl) rfl (by simp) (by kernel_rfl) (by kernel_rfl) (StabN.call1 31 #[.pointer (some ⟨qd.D,0,none⟩),.int .i64 k] (.slice r0.A r0.cs.length r0.cap) (by rfl) (by intro w';go_simp;done) (fun w' hS => HOF.out _ hS.1)) ?_
   simp only [Act.put,List.setIfInBounds_toArray,List.set_cons_zero,List.set_cons_succ]
   refine AtN.one 7 (o:=⟨_,_,_,_,_,_⟩) (fun v => ∃ g cap,v = .slice (some ⟨g,0,none⟩) r0.cs.length cap) (fun v w' => ∃ g cap,v = .slice (some ⟨g,0,none⟩) r0.cs.length cap∧RcAt w' ⟨some ⟨g,0,none⟩,(fun l => closeL l) r0.cs,cap,r0.cont⟩) (by simp) (by kernel_rfl) rfl (fun v w1 w2 ⟨g,cap,hv,hr⟩ hb => ⟨g,cap,hv,hr.below hb⟩) (StabN.call 46 #[.slice r0.A r0.cs.length r0.cap] _ _ (by rfl) ?_ (fun w' hS => ?_)) ?_
   · intro w'
     go_simp
   · have hrc:=HRR.out w' hS.1
     have h0:0 < r0.cs.length:=by rw [HRL.out];have:=HB0.out.d.cols2;omega
     refine (rClose_any r0.A r0.cs r0.cap w' hrc.2.2.1 h0 hrc.1).mono ?_
     rintro e w3 ⟨g1,cap,rfl,hc,hb⟩
     have hlen:(closeL r0.cs).length = r0.cs.length:=closeL_len _
     rw [hlen]
     exact ⟨_,rfl,⟨⟨g1,cap,rfl⟩,g1,cap,rfl,.of_own hc (by rw [hlen];exact hrc.1) (hrc.2.1.close) _⟩,hb⟩
   rintro v ⟨g5,cap,rfl⟩
   simp only [Act.put,List.setIfInBounds_toArray,List.set_cons_zero,List.set_cons_succ]
   refine AtN.done (by kernel_rfl) (fun w' hS => ?_)
   obtain ⟨⟨hb1,-⟩,g1',cap',hv',hrc'⟩:=hS
   simp only [Value.slice.injEq,Option.some.injEq,Addr.mk.injEq,and_true,true_and] at hv'
   obtain ⟨rfl,rfl⟩:=hv'
   have HCE2:=Hd (HCE.out w' g5 cap hb1 hrc')
   rw [HD1.out] at HCE2
   clear hb1 hrc'
   go_wp2_with (go_at_call 29;(with_reducible refine HCE2.out.mono ?_);rintro e w4 ⟨rfl,hs⟩;have HS4:=Hd hs;clear hs)
   go_end0
   exact ⟨rfl,(HB0.out.step HS2.out HS4.out).pre HB.out⟩
end Go.Proofs.YtffdblmdelgkaaaGreat
