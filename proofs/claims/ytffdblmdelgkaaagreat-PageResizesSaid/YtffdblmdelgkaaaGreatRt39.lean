/- Joined by a tool of this claim out of smaller texts. Conditions: as stated. -/
import Derived.Test.YtffdblmdelgkaaaGreatRt25
import Derived.Test.YtffdblmdelgkaaaGreatRt26
import Derived.Test.YtffdblmdelgkaaaGreatRt37
set_option linter.unusedVariables false
set_option linter.unusedSimpArgs false
set_option maxRecDepth 100000
open Go.Lib renaming hid → Hd
namespace Go.Proofs.YtffdblmdelgkaaaGreat
open Go.RowKit
set_option maxHeartbeats 6400000 in
theorem does0_any {base:Nat} {w:World} {qp:Pv} {qd:Dv} {g:Pg} {rows cols room:Nat} (h:Both base w qp qd g) (hg:PgInv rows cols room g) (hrows:rows ≤ 1000) (hroom:room ≤ 100000) (ht:g.told.length ≤ 900000) (o:Pop) (ho:o.kind = 0) (hok:PopOk o) :
 Calls Tryz.prog 9 #[.pointer (some ⟨qp.P,0,none⟩),.pointer (some ⟨qd.D,0,none⟩),.agg #[.int .i64 o.kind,.int .i64 o.x,.int .i64 o.n,.int .i32 o.r,.int .i64 o.at_.fk,.int .i64 o.at_.fn,.int .i64 o.at_.bk,.int .i64 o.at_.bn,.int .i64 o.at_.fl,.int .i64 o.y,.int .i64 o.top,.int .i64 o.bottom]] w (DoesPost base w qp qd (stepP g o)):=by
 obtain ⟨kind,x,n,r,⟨fk,fn,bk,bn,fl⟩,y,top,bottom⟩:=o
 simp only at ho
 subst ho
 obtain ⟨W,hW⟩:∃ W,(w.alloc (.cells (encPop ⟨0,x,n,r,⟨fk,fn,bk,bn,fl⟩,y,top,bottom⟩).toArray 38)).alloc (.cells #[.int .i64 bk,.int .i64 bn] 32) = W:=⟨_,rfl⟩
 have hb0:Below w.heap.size w W:=by rw [← hW];exact below_allocs (below_allocs (Below.refl _ _) _) _
 have HO0:Hid (OpC W w.heap.size (w.heap.size + 1) ⟨0,x,n,r,⟨fk,fn,bk,bn,fl⟩,y,top,bottom⟩):=Hd (by rw [← hW];exact OpC.new _)
 have HB:=Hd hb0
 have hB:=h.below hb0
 have HB0:=Hd hB
 have hXp:∀ i,w.heap.size + i ∉ pgX qp:=fun i hx => by have:=(h.p.lt _ hx).2;omega
 have hr1:=hg.hrows
 have hr2:=hg.hroom
 have hr3:=hg.hhist
 have hL:(dcOf g).L.length ≤ 900000:=by show (g.hist ++ g.scr).length ≤ _;simp;omega
 have hbs:(dcOf g).base ≤ (dcOf g).L.length:=by show g.hist.length ≤ (g.hist ++ g.scr).length;simp
 have HIN:=Hd (rdIn_any hB.d (by omega) hbs y)
 rw [dcOf_in] at HIN
 have HX0:=Hd (And.intro (hXp 0) (hXp 1))
 have HG1:Hid (stepP g ⟨0,x,n,r,⟨fk,fn,bk,bn,fl⟩,y,top,bottom⟩ = rowP g y (fun l => putL l x r ⟨fk,fn,bk,bn,fl⟩)):=Hd (by unfold stepP;rw [if_pos rfl];first | done | rfl)
 rw [HG1.out]
 have HP:Hid (∀ w1,Below W.heap.size W w1→Calls Tryz.prog 24 #[.pointer (some ⟨qp.P,0,none⟩),.int .i64 y,.int .i64 x,.int .i32 r,.agg #[.int .i64 fk,.int .i64 fn,.int .i64 bk,.int .i64 bn,.int .i64 fl]] w1 (PgPost base W qp (rowP g y (fun l => putL l x r ⟨fk,fn,bk,bn,fl⟩)))):=Hd (fun w1 hb => (pPut_any (hB.p.below hb) y x r ⟨fk,fn,bk,bn,fl⟩).mono (fun e w2 hh => ⟨hh.1,hh.2.pre hb⟩))
 have HD1:=Hd (dcOf_row g y (fun l => putL l x r ⟨fk,fn,bk,bn,fl⟩))
 cases hin:inP g y with
 | false =>
   rw [hin] at HIN
   have HE:Hid (rowP g y (fun l => putL l x r ⟨fk,fn,bk,bn,fl⟩) = g):=Hd (by unfold rowP;rw [hin];rfl)
   generalize rowP g y (fun l => putL l x r ⟨fk,fn,bk,bn,fl⟩) = g1 at HP HE ⊢
   clear h hB hg HD1
   have HWW:=Hd hW
   clear hW hb0 hXp hbs
   go_enter Tryz.func9,Tryz.ntmps9
   go_upto_region 2 with fail
   rw [show (#[.int .i64 0,.int .i64 x,.int .i64 n,.int .i32 r,.int .i64 fk,.int .i64 fn,.int .i64 bk,.int .i64 bn,.int .i64 fl,.int .i64 y,.int .i64 top,.int .i64 bottom]:Array Value) = (encPop ⟨0,x,n,r,⟨fk,fn,bk,bn,fl⟩,y,top,bottom⟩).toArray from rfl,HWW.out]
   clear HWW
   obtain ⟨c0,c1,c2,c3,c4,c5,c6,c7,c8,c9,c10,c11,k0,k1⟩:=HO0.out
   go_upto_region 3 with (go_at_call 28;(with_reducible refine HIN.out.mono ?_);rintro e w1 ⟨rfl,hb⟩;have HB1:=Hd hb;have HO1:=Hd (HO0.out.below hb);clear hb)
   clear c0 c1 c2 c3 c4 c5 c6 c7 c8 c9 c10 c11 k0 k1
   obtain ⟨c0,c1,c2,c3,c4,c5,c6,c7,c8,c9,c10,c11,k0,k1⟩:=HO1.out
   go_wp2_with (go_at_call 24;(with_reducible refine (HP.out _ HB1.out).mono ?_);rintro e w2 ⟨rfl,hs⟩;have HS2:=Hd hs;clear hs c0 c1 c2 c3 c4 c5 c6 c7 c8 c9 c10 c11 k0 k1)
   go_end0
   exact ⟨rfl,(HB0.out.step HS2.out (by rw [HE.out];exact (HB0.out.mid HS2.out).res)).pre HB.out⟩
 | true =>
   rw [hin] at HIN
   have hin2:dcIn (dcOf g) y = true:=by rw [dcOf_in];exact hin
   obtain ⟨k,r0,rfl,hr,-,-⟩:=dcIn_row hB.d hin2
   have HRC:Hid (∀ w2 g1,PgRes base W qp g1 w2→_):=Hd (fun w2 g1 hs => row_calls (hB.mid (g1:=g1) hs) hin2 hr (by omega))
   generalize rowP g (k:Int) (fun l => putL l x r ⟨fk,fn,bk,bn,fl⟩) = g1 at HP HD1 ⊢
   have HC2:=Hd hg.hcols
   clear h hB hg hin hr hin2
   have HWW:=Hd hW
   clear hW hb0 hXp hbs
   go_enter Tryz.func9,Tryz.ntmps9
   go_upto_region 2 with fail
   rw [show (#[.int .i64 0,.int .i64 x,.int .i64 n,.int .i32 r,.int .i64 fk,.int .i64 fn,.int .i64 bk,.int .i64 bn,.int .i64 fl,.int .i64 (k:Int),.int .i64 top,.int .i64 bottom]:Array Value) = (encPop ⟨0,x,n,r,⟨fk,fn,bk,bn,fl⟩,(k:Int),top,bottom⟩).toArray from rfl,HWW.out]
   clear HWW
   obtain ⟨c0,c1,c2,c3,c4,c5,c6,c7,c8,c9,c10,c11,k0,k1⟩:=HO0.out
   go_upto_region 3 with (go_at_call 28;(with_reducible refine HIN.out.mono ?_);rintro e w1 ⟨rfl,hb⟩;have HB1:=Hd hb;have HO1:=Hd (HO0.out.below hb);clear hb)
   clear c0 c1 c2 c3 c4 c5 c6 c7 c8 c9 c10 c11 k0 k1
   obtain ⟨c0,c1,c2,c3,c4,c5,c6,c7,c8,c9,c10,c11,k0,k1⟩:=HO1.out
   go_upto_region 7 with (go_at_call 24;(with_reducible refine (HP.out _ HB1.out).mono ?_);rintro e w2 ⟨rfl,hs⟩;have HS2:=Hd hs;have HO2:=Hd (HO0.out.mod hs.modr HX0.out.1 HX0.out.2);clear hs c0 c1 c2 c3 c4 c5 c6 c7 c8 c9 c10 c11 k0 k1)
   obtain ⟨hof,hrc,hrl,hce⟩:=HRC.out w2 g1 HS2.out
   have HOF:=Hd hof
   have HRR:=Hd hrc
   have HRL:=Hd hrl
   have HCE:=Hd (hce (fun l => putL l x r ⟨fk,fn,bk,bn,fl⟩) (fun l => putL_len _ _ _ _))
   clear hof hrc hrl hce
   have hO2:=HO2.out
   refine wp_region_n 17 (fun w' => Below w2.heap.size w2 w'∧OpC w' w.heap.size (w.heap.size + 1) ⟨0,x,n,r,⟨fk,fn,bk,bn,fl⟩,k,top,bottom⟩) (by kernel_rfl) (by kernel_rfl) (fun w1 w2 hS hb => ⟨below_tail hS.1 hb,hS.2.below hb⟩) ⟨(Below.refl _ _).drew,(hO2:OpC w2.drew _ _ _)⟩ ?_
   clear hO2
   refine AtN.go 0 ?_
   iterate 6 (refine AtC.take (o:=⟨_,_,_,_,_,_⟩) (v:=?_) (by kernel_rfl) rfl (by simp) (by kernel_rfl) (by kernel_rfl) ?_ ?_;rotate_left;(focus (first | exact StabN.skip (by rfl) | (refine StabN.val (by rfl) ?_;intro w' hS;obtain ⟨_,_,_,_,_,_,_,_,_,_,_,_,_,_,_⟩:=hS;go_simp;first | done | with_reducible rfl)));simp only [Act.put,List.setIfInBounds_toArray,List.set_cons_zero,List.set_cons_succ])
   refine AtC.back ?_
   refine AtN.take 6 (o:=⟨_,_,_,_,_,_⟩) (v:=.slice r0.A r0.cs.length r0.cap) (by kernel_rfl) rfl (by simp) (by kernel_rfl) (by kernel_rfl) (StabN.call1 31 #[.pointer (some ⟨qd.D,0,none⟩),.int .i64 k] (.slice r0.A r0.cs.length r0.cap) (by rfl) (by intro w';go_simp;done) (fun w' hS => HOF.out _ hS.1)) ?_
   simp only [Act.put,List.setIfInBounds_toArray,List.set_cons_zero,List.set_cons_succ]
   refine AtN.go 7 ?_
   iterate 9 (refine AtC.take (o:=⟨_,_,_,_,_,_⟩) (v:=?_) (by kernel_rfl) rfl (by simp) (by kernel_rfl) (by kernel_rfl) ?_ ?_;rotate_left;(focus (first | exact StabN.skip (by rfl) | (refine StabN.val (by rfl) ?_;intro w' hS;obtain ⟨_,_,_,_,_,_,_,_,_,_,_,_,_,_,_⟩:=hS;go_simp;first | done | with_reducible rfl)));simp only [Act.put,List.setIfInBounds_toArray,List.set_cons_zero,List.set_cons_succ])
   refine AtC.back ?_
   refine AtN.one 16 (o:=⟨_,_,_,_,_,_⟩) (fun v => ∃ g cap,v = .slice (some ⟨g,0,none⟩) r0.cs.length cap) (fun v w' => ∃ g cap,v = .slice (some ⟨g,0,none⟩) r0.cs.length cap∧RcAt w' ⟨some ⟨g,0,none⟩,(fun l => putL l x r ⟨fk,fn,bk,bn,fl⟩) r0.cs,cap,r0.cont⟩) (by simp) (by kernel_rfl) rfl (fun v w1 w2 ⟨g,cap,hv,hr⟩ hb => ⟨g,cap,hv,hr.below hb⟩) (StabN.call 30 #[.slice r0.A r0.cs.length r0.cap,.int .i64 x,.int .i32 r,.agg #[.int .i64 fk,.int .i64 fn,.int .i64 bk,.int .i64 bn,.int .i64 fl]] _ _ (by rfl) ?_ (fun w' hS => ?_)) ?_
   · intro w'
     go_simp
   · have hrc:=HRR.out w' hS.1
     have h0:0 < r0.cs.length:=by rw [HRL.out];have:=HB0.out.d.cols2;omega
     refine (rPut_any r0.A r0.cs r0.cap x r ⟨fk,fn,bk,bn,fl⟩ w' hrc.2.2.1 h0 hrc.1).mono ?_
     rintro e w3 ⟨g1,cap,rfl,hc,hb⟩
     have hlen:(putL r0.cs x r ⟨fk,fn,bk,bn,fl⟩).length = r0.cs.length:=putL_len _ _ _ _
     rw [hlen]
     exact ⟨_,rfl,⟨⟨g1,cap,rfl⟩,g1,cap,rfl,.of_own hc (by rw [hlen];exact hrc.1) (hrc.2.1.put _ _ _) _⟩,hb⟩
   rintro v ⟨g5,cap,rfl⟩
   simp only [Act.put,List.setIfInBounds_toArray,List.set_cons_zero,List.set_cons_succ]
   refine AtN.done (by kernel_rfl) (fun w' hS => ?_)
   obtain ⟨⟨hb1,-⟩,g1',cap',hv',hrc'⟩:=hS
   simp only [Value.slice.injEq,Option.some.injEq,Addr.mk.injEq,and_true,true_and] at hv'
   obtain ⟨rfl,rfl⟩:=hv'
   have HCE2:=Hd (HCE.out w' g5 cap hb1 hrc')
   rw [HD1.out] at HCE2
   clear hb1 hrc'
   go_wp2_with (go_at_call 29;(with_reducible refine HCE2.out.mono ?_);rintro e w4 ⟨rfl,hs⟩;have HS4:=Hd hs;clear hs)
   go_end0
   exact ⟨rfl,(HB0.out.step HS2.out HS4.out).pre HB.out⟩
set_option maxHeartbeats 6400000 in
theorem does1_any {base:Nat} {w:World} {qp:Pv} {qd:Dv} {g:Pg} {rows cols room:Nat} (h:Both base w qp qd g) (hg:PgInv rows cols room g) (hrows:rows ≤ 1000) (hroom:room ≤ 100000) (ht:g.told.length ≤ 900000) (o:Pop) (ho:o.kind = 1) (hok:PopOk o) :
 Calls Tryz.prog 9 #[.pointer (some ⟨qp.P,0,none⟩),.pointer (some ⟨qd.D,0,none⟩),.agg #[.int .i64 o.kind,.int .i64 o.x,.int .i64 o.n,.int .i32 o.r,.int .i64 o.at_.fk,.int .i64 o.at_.fn,.int .i64 o.at_.bk,.int .i64 o.at_.bn,.int .i64 o.at_.fl,.int .i64 o.y,.int .i64 o.top,.int .i64 o.bottom]] w (DoesPost base w qp qd (stepP g o)):=by
 obtain ⟨kind,x,n,r,⟨fk,fn,bk,bn,fl⟩,y,top,bottom⟩:=o
 simp only at ho
 subst ho
 obtain ⟨W,hW⟩:∃ W,(w.alloc (.cells (encPop ⟨1,x,n,r,⟨fk,fn,bk,bn,fl⟩,y,top,bottom⟩).toArray 38)).alloc (.cells #[.int .i64 bk,.int .i64 bn] 32) = W:=⟨_,rfl⟩
 have hb0:Below w.heap.size w W:=by rw [← hW];exact below_allocs (below_allocs (Below.refl _ _) _) _
 have HO0:Hid (OpC W w.heap.size (w.heap.size + 1) ⟨1,x,n,r,⟨fk,fn,bk,bn,fl⟩,y,top,bottom⟩):=Hd (by rw [← hW];exact OpC.new _)
 have HB:=Hd hb0
 have hB:=h.below hb0
 have HB0:=Hd hB
 have hXp:∀ i,w.heap.size + i ∉ pgX qp:=fun i hx => by have:=(h.p.lt _ hx).2;omega
 have hr1:=hg.hrows
 have hr2:=hg.hroom
 have hr3:=hg.hhist
 have hL:(dcOf g).L.length ≤ 900000:=by show (g.hist ++ g.scr).length ≤ _;simp;omega
 have hbs:(dcOf g).base ≤ (dcOf g).L.length:=by show g.hist.length ≤ (g.hist ++ g.scr).length;simp
 have HIN:=Hd (rdIn_any hB.d (by omega) hbs y)
 rw [dcOf_in] at HIN
 have HX0:=Hd (And.intro (hXp 0) (hXp 1))
 have HG1:Hid (stepP g ⟨1,x,n,r,⟨fk,fn,bk,bn,fl⟩,y,top,bottom⟩ = rowP g y (fun l => markL l x r)):=Hd (by unfold stepP;rw [if_neg (show ¬ (1:Int) = 0 by decide)];rw [if_pos rfl];first | done | rfl)
 rw [HG1.out]
 have HP:Hid (∀ w1,Below W.heap.size W w1→Calls Tryz.prog 32 #[.pointer (some ⟨qp.P,0,none⟩),.int .i64 y,.int .i64 x,.int .i32 r] w1 (PgPost base W qp (rowP g y (fun l => markL l x r)))):=Hd (fun w1 hb => (pMark_any (hB.p.below hb) y x r).mono (fun e w2 hh => ⟨hh.1,hh.2.pre hb⟩))
 have HD1:=Hd (dcOf_row g y (fun l => markL l x r))
 cases hin:inP g y with
 | false =>
   rw [hin] at HIN
   have HE:Hid (rowP g y (fun l => markL l x r) = g):=Hd (by unfold rowP;rw [hin];rfl)
   generalize rowP g y (fun l => markL l x r) = g1 at HP HE ⊢
   clear h hB hg HD1
   have HWW:=Hd hW
   clear hW hb0 hXp hbs
   go_enter Tryz.func9,Tryz.ntmps9
   go_upto_region 2 with fail
   rw [show (#[.int .i64 1,.int .i64 x,.int .i64 n,.int .i32 r,.int .i64 fk,.int .i64 fn,.int .i64 bk,.int .i64 bn,.int .i64 fl,.int .i64 y,.int .i64 top,.int .i64 bottom]:Array Value) = (encPop ⟨1,x,n,r,⟨fk,fn,bk,bn,fl⟩,y,top,bottom⟩).toArray from rfl,HWW.out]
   clear HWW
   obtain ⟨c0,c1,c2,c3,c4,c5,c6,c7,c8,c9,c10,c11,k0,k1⟩:=HO0.out
   go_upto_region 3 with (go_at_call 28;(with_reducible refine HIN.out.mono ?_);rintro e w1 ⟨rfl,hb⟩;have HB1:=Hd hb;have HO1:=Hd (HO0.out.below hb);clear hb)
   clear c0 c1 c2 c3 c4 c5 c6 c7 c8 c9 c10 c11 k0 k1
   obtain ⟨c0,c1,c2,c3,c4,c5,c6,c7,c8,c9,c10,c11,k0,k1⟩:=HO1.out
   go_wp2_with (go_at_call 32;(with_reducible refine (HP.out _ HB1.out).mono ?_);rintro e w2 ⟨rfl,hs⟩;have HS2:=Hd hs;clear hs c0 c1 c2 c3 c4 c5 c6 c7 c8 c9 c10 c11 k0 k1)
   go_end0
   exact ⟨rfl,(HB0.out.step HS2.out (by rw [HE.out];exact (HB0.out.mid HS2.out).res)).pre HB.out⟩
 | true =>
   rw [hin] at HIN
   have hin2:dcIn (dcOf g) y = true:=by rw [dcOf_in];exact hin
   obtain ⟨k,r0,rfl,hr,-,-⟩:=dcIn_row hB.d hin2
   have HRC:Hid (∀ w2 g1,PgRes base W qp g1 w2→_):=Hd (fun w2 g1 hs => row_calls (hB.mid (g1:=g1) hs) hin2 hr (by omega))
   generalize rowP g (k:Int) (fun l => markL l x r) = g1 at HP HD1 ⊢
   have HC2:=Hd hg.hcols
   clear h hB hg hin hr hin2
   have HWW:=Hd hW
   clear hW hb0 hXp hbs
   go_enter Tryz.func9,Tryz.ntmps9
   go_upto_region 2 with fail
   rw [show (#[.int .i64 1,.int .i64 x,.int .i64 n,.int .i32 r,.int .i64 fk,.int .i64 fn,.int .i64 bk,.int .i64 bn,.int .i64 fl,.int .i64 (k:Int),.int .i64 top,.int .i64 bottom]:Array Value) = (encPop ⟨1,x,n,r,⟨fk,fn,bk,bn,fl⟩,(k:Int),top,bottom⟩).toArray from rfl,HWW.out]
   clear HWW
   obtain ⟨c0,c1,c2,c3,c4,c5,c6,c7,c8,c9,c10,c11,k0,k1⟩:=HO0.out
   go_upto_region 3 with (go_at_call 28;(with_reducible refine HIN.out.mono ?_);rintro e w1 ⟨rfl,hb⟩;have HB1:=Hd hb;have HO1:=Hd (HO0.out.below hb);clear hb)
   clear c0 c1 c2 c3 c4 c5 c6 c7 c8 c9 c10 c11 k0 k1
   obtain ⟨c0,c1,c2,c3,c4,c5,c6,c7,c8,c9,c10,c11,k0,k1⟩:=HO1.out
   go_upto_region 11 with (go_at_call 32;(with_reducible refine (HP.out _ HB1.out).mono ?_);rintro e w2 ⟨rfl,hs⟩;have HS2:=Hd hs;have HO2:=Hd (HO0.out.mod hs.modr HX0.out.1 HX0.out.2);clear hs c0 c1 c2 c3 c4 c5 c6 c7 c8 c9 c10 c11 k0 k1)
   obtain ⟨hof,hrc,hrl,hce⟩:=HRC.out w2 g1 HS2.out
   have HOF:=Hd hof
   have HRR:=Hd hrc
   have HRL:=Hd hrl
   have HCE:=Hd (hce (fun l => markL l x r) (fun l => markL_len _ _ _))
   clear hof hrc hrl hce
   have hO2:=HO2.out
   refine wp_region_n 14 (fun w' => Below w2.heap.size w2 w'∧OpC w' w.heap.size (w.heap.size + 1) ⟨1,x,n,r,⟨fk,fn,bk,bn,fl⟩,k,top,bottom⟩) (by kernel_rfl) (by kernel_rfl) (fun w1 w2 hS hb => ⟨below_tail hS.1 hb,hS.2.below hb⟩) ⟨(Below.refl _ _).drew,(hO2:OpC w2.drew _ _ _)⟩ ?_
   clear hO2
   refine AtN.go 0 ?_
   iterate 6 (refine AtC.take (o:=⟨_,_,_,_,_,_⟩) (v:=?_) (by kernel_rfl) rfl (by simp) (by kernel_rfl) (by kernel_rfl) ?_ ?_;rotate_left;(focus (first | exact StabN.skip (by rfl) | (refine StabN.val (by rfl) ?_;intro w' hS;obtain ⟨_,_,_,_,_,_,_,_,_,_,_,_,_,_,_⟩:=hS;go_simp;first | done | with_reducible rfl)));simp only [Act.put,List.setIfInBounds_toArray,List.set_cons_zero,List.set_cons_succ])
   refine AtC.back ?_
   refine AtN.take 6 (o:=⟨_,_,_,_,_,_⟩) (v:=.slice r0.A r0.cs.length r0.cap) (by kernel_rfl) rfl (by simp) (by kernel_rfl) (by kernel_rfl) (StabN.call1 31 #[.pointer (some ⟨qd.D,0,none⟩),.int .i64 k] (.slice r0.A r0.cs.length r0.cap) (by rfl) (by intro w';go_simp;done) (fun w' hS => HOF.out _ hS.1)) ?_
   simp only [Act.put,List.setIfInBounds_toArray,List.set_cons_zero,List.set_cons_succ]
   refine AtN.go 7 ?_
   iterate 6 (refine AtC.take (o:=⟨_,_,_,_,_,_⟩) (v:=?_) (by kernel_rfl) rfl (by simp) (by kernel_rfl) (by kernel_rfl) ?_ ?_;rotate_left;(focus (first | exact StabN.skip (by rfl) | (refine StabN.val (by rfl) ?_;intro w' hS;obtain ⟨_,_,_,_,_,_,_,_,_,_,_,_,_,_,_⟩:=hS;go_simp;first | done | with_reducible rfl)));simp only [Act.put,List.setIfInBounds_toArray,List.set_cons_zero,List.set_cons_succ])
   refine AtC.back ?_
   refine AtN.one 13 (o:=⟨_,_,_,_,_,_⟩) (fun v => ∃ g cap,v = .slice (some ⟨g,0,none⟩) r0.cs.length cap) (fun v w' => ∃ g cap,v = .slice (some ⟨g,0,none⟩) r0.cs.length cap∧RcAt w' ⟨some ⟨g,0,none⟩,(fun l => markL l x r) r0.cs,cap,r0.cont⟩) (by simp) (by kernel_rfl) rfl (fun v w1 w2 ⟨g,cap,hv,hr⟩ hb => ⟨g,cap,hv,hr.below hb⟩) (StabN.call 33 #[.slice r0.A r0.cs.length r0.cap,.int .i64 x,.int .i32 r] _ _ (by rfl) ?_ (fun w' hS => ?_)) ?_
   · intro w'
     go_simp
   · have hrc:=HRR.out w' hS.1
     have h0:0 < r0.cs.length:=by rw [HRL.out];have:=HB0.out.d.cols2;omega
     refine (rMark_any r0.A r0.cs r0.cap x r w' hrc.2.2.1 h0 hrc.1 hrc.2.1).mono ?_
     rintro e w3 ⟨g1,cap,rfl,hc,hb⟩
     have hlen:(markL r0.cs x r).length = r0.cs.length:=markL_len _ _ _
     rw [hlen]
     exact ⟨_,rfl,⟨⟨g1,cap,rfl⟩,g1,cap,rfl,.of_own hc (by rw [hlen];exact hrc.1) (hrc.2.1.mark _ _) _⟩,hb⟩
   rintro v ⟨g5,cap,rfl⟩
   simp only [Act.put,List.setIfInBounds_toArray,List.set_cons_zero,List.set_cons_succ]
   refine AtN.done (by kernel_rfl) (fun w' hS => ?_)
   obtain ⟨⟨hb1,-⟩,g1',cap',hv',hrc'⟩:=hS
   simp only [Value.slice.injEq,Option.some.injEq,Addr.mk.injEq,and_true,true_and] at hv'
   obtain ⟨rfl,rfl⟩:=hv'
   have HCE2:=Hd (HCE.out w' g5 cap hb1 hrc')
   rw [HD1.out] at HCE2
   clear hb1 hrc'
   go_wp2_with (go_at_call 29;(with_reducible refine HCE2.out.mono ?_);rintro e w4 ⟨rfl,hs⟩;have HS4:=Hd hs;clear hs)
   go_end0
   exact ⟨rfl,(HB0.out.step HS2.out HS4.out).pre HB.out⟩
set_option maxHeartbeats 6400000 in
theorem does2_any {base:Nat} {w:World} {qp:Pv} {qd:Dv} {g:Pg} {rows cols room:Nat} (h:Both base w qp qd g) (hg:PgInv rows cols room g) (hrow0:0 < rows) (hrows:rows ≤ 1000) (hroom:room ≤ 100000) (ht:g.told.length ≤ 900000) (o:Pop) (ho:o.kind = 2) (hok:PopOk o) :
 Calls Tryz.prog 9 #[.pointer (some ⟨qp.P,0,none⟩),.pointer (some ⟨qd.D,0,none⟩),.agg #[.int .i64 o.kind,.int .i64 o.x,.int .i64 o.n,.int .i32 o.r,.int .i64 o.at_.fk,.int .i64 o.at_.fn,.int .i64 o.at_.bk,.int .i64 o.at_.bn,.int .i64 o.at_.fl,.int .i64 o.y,.int .i64 o.top,.int .i64 o.bottom]] w (DoesPost base w qp qd (stepP g o)):=by
 obtain ⟨kind,x,n,r,⟨fk,fn,bk,bn,fl⟩,y,top,bottom⟩:=o
 simp only at ho
 subst ho
 obtain ⟨W,hW⟩:∃ W,(w.alloc (.cells (encPop ⟨2,x,n,r,⟨fk,fn,bk,bn,fl⟩,y,top,bottom⟩).toArray 38)).alloc (.cells #[.int .i64 bk,.int .i64 bn] 32) = W:=⟨_,rfl⟩
 have hb0:Below w.heap.size w W:=by rw [← hW];exact below_allocs (below_allocs (Below.refl _ _) _) _
 have HO0:Hid (OpC W w.heap.size (w.heap.size + 1) ⟨2,x,n,r,⟨fk,fn,bk,bn,fl⟩,y,top,bottom⟩):=Hd (by rw [← hW];exact OpC.new _)
 have HB:=Hd hb0
 have hB:=h.below hb0
 have HB0:=Hd hB
 have hXp:∀ i,w.heap.size + i ∉ pgX qp:=fun i hx => by have:=(h.p.lt _ hx).2;omega
 have hr1:=hg.hrows
 have hr2:=hg.hroom
 have hr3:=hg.hhist
 have hL:(dcOf g).L.length ≤ 900000:=by show (g.hist ++ g.scr).length ≤ _;simp;omega
 have hbs:(dcOf g).base ≤ (dcOf g).L.length:=by show g.hist.length ≤ (g.hist ++ g.scr).length;simp
 have HIN:=Hd (rdIn_any hB.d (by omega) hbs y)
 rw [dcOf_in] at HIN
 have HX0:=Hd (And.intro (hXp 0) (hXp 1))
 have HG1:Hid (stepP g ⟨2,x,n,r,⟨fk,fn,bk,bn,fl⟩,y,top,bottom⟩ = eraseP g y x n ⟨bk,bn⟩):=Hd (by unfold stepP;rw [if_neg (show ¬ (2:Int) = 0 by decide)];rw [if_neg (show ¬ (2:Int) = 1 by decide)];rw [if_pos rfl];first | rfl | skip)
 rw [HG1.out]
 have hn1:=hok.hn.1
 have hn2:=hok.hn.2
 have hy1:=hok.hy.1
 have HP:Hid (∀ w1,Below W.heap.size W w1→Calls Tryz.prog 34 #[.pointer (some ⟨qp.P,0,none⟩),.int .i64 y,.int .i64 x,.int .i64 n,.agg #[.int .i64 bk,.int .i64 bn]] w1 (PgPost base W qp (eraseP g y x n ⟨bk,bn⟩))):=Hd (fun w1 hb => (pErase_any (hB.p.below hb) y x n ⟨bk,bn⟩).mono (fun e w2 hh => ⟨hh.1,hh.2.pre hb⟩))
 have hbL:0 < g.scr.length→(dcOf g).base < (dcOf g).L.length:=fun h0 => by show g.hist.length < (g.hist ++ g.scr).length;simp;omega
 have hbs2:(dcOf g).base ≤ (dcOf g).L.length:=by show g.hist.length ≤ (g.hist ++ g.scr).length;simp
 have hscr:0 < g.scr.length:=by rw [hr1];exact hrow0
 have HD:Hid (∀ w2,PgRes base W qp (eraseP g y x n ⟨bk,bn⟩) w2→Calls Tryz.prog 35 #[.pointer (some ⟨qd.D,0,none⟩),.int .i64 y,.int .i64 x,.int .i64 n,.agg #[.int .i64 bk,.int .i64 bn]] w2 (DcPost base w2 qd (dcOf (eraseP g y x n ⟨bk,bn⟩)))):=Hd (fun w2 hs => by
  have hd:=hB.mid hs
  rw [← dcOf_erase]
  exact rdErase_any hd y x n ⟨bk,bn⟩ hbs2 hL hy1)
 generalize eraseP g y x n ⟨bk,bn⟩ = g1 at HP HD ⊢
 cases hin:inP g y
 all_goals
  rw [hin] at HIN
  clear h hB hg hin hbL hscr hbs2
  have HWW:=Hd hW
  clear hW hb0 hXp hbs
  go_enter Tryz.func9,Tryz.ntmps9
  go_upto_region 2 with fail
  rw [show (#[.int .i64 2,.int .i64 x,.int .i64 n,.int .i32 r,.int .i64 fk,.int .i64 fn,.int .i64 bk,.int .i64 bn,.int .i64 fl,.int .i64 y,.int .i64 top,.int .i64 bottom]:Array Value) = (encPop ⟨2,x,n,r,⟨fk,fn,bk,bn,fl⟩,y,top,bottom⟩).toArray from rfl,HWW.out]
  clear HWW
  obtain ⟨c0,c1,c2,c3,c4,c5,c6,c7,c8,c9,c10,c11,k0,k1⟩:=HO0.out
  go_upto_region 3 with (go_at_call 28;(with_reducible refine HIN.out.mono ?_);rintro e w1 ⟨rfl,hb⟩;have HB1:=Hd hb;have HO1:=Hd (HO0.out.below hb);clear hb)
  clear c0 c1 c2 c3 c4 c5 c6 c7 c8 c9 c10 c11 k0 k1
  obtain ⟨c0,c1,c2,c3,c4,c5,c6,c7,c8,c9,c10,c11,k0,k1⟩:=HO1.out
  go_upto_region 14 with (go_at_call 34;(with_reducible refine (HP.out _ HB1.out).mono ?_);rintro e w2 ⟨rfl,hs⟩;have HS2:=Hd hs;have HO2:=Hd (HO0.out.mod hs.modr HX0.out.1 HX0.out.2);clear hs c0 c1 c2 c3 c4 c5 c6 c7 c8 c9 c10 c11 k0 k1)
  obtain ⟨c0,c1,c2,c3,c4,c5,c6,c7,c8,c9,c10,c11,k0,k1⟩:=HO2.out
  go_wp2_with (go_at_call 35;(with_reducible refine (HD.out _ HS2.out).mono ?_);rintro e w4 ⟨rfl,hs⟩;have HS4:=Hd hs;clear hs)
  go_end0
  exact ⟨rfl,(HB0.out.step HS2.out HS4.out).pre HB.out⟩
set_option maxHeartbeats 6400000 in
theorem does8_any {base:Nat} {w:World} {qp:Pv} {qd:Dv} {g:Pg} {rows cols room:Nat} (h:Both base w qp qd g) (hg:PgInv rows cols room g) (hrow0:0 < rows) (hrows:rows ≤ 1000) (hroom:room ≤ 100000) (ht:g.told.length ≤ 900000) (o:Pop) (ho:o.kind = 8) (hok:PopOk o) :
 Calls Tryz.prog 9 #[.pointer (some ⟨qp.P,0,none⟩),.pointer (some ⟨qd.D,0,none⟩),.agg #[.int .i64 o.kind,.int .i64 o.x,.int .i64 o.n,.int .i32 o.r,.int .i64 o.at_.fk,.int .i64 o.at_.fn,.int .i64 o.at_.bk,.int .i64 o.at_.bn,.int .i64 o.at_.fl,.int .i64 o.y,.int .i64 o.top,.int .i64 o.bottom]] w (DoesPost base w qp qd (stepP g o)):=by
 obtain ⟨kind,x,n,r,⟨fk,fn,bk,bn,fl⟩,y,top,bottom⟩:=o
 simp only at ho
 subst ho
 obtain ⟨W,hW⟩:∃ W,(w.alloc (.cells (encPop ⟨8,x,n,r,⟨fk,fn,bk,bn,fl⟩,y,top,bottom⟩).toArray 38)).alloc (.cells #[.int .i64 bk,.int .i64 bn] 32) = W:=⟨_,rfl⟩
 have hb0:Below w.heap.size w W:=by rw [← hW];exact below_allocs (below_allocs (Below.refl _ _) _) _
 have HO0:Hid (OpC W w.heap.size (w.heap.size + 1) ⟨8,x,n,r,⟨fk,fn,bk,bn,fl⟩,y,top,bottom⟩):=Hd (by rw [← hW];exact OpC.new _)
 have HB:=Hd hb0
 have hB:=h.below hb0
 have HB0:=Hd hB
 have hXp:∀ i,w.heap.size + i ∉ pgX qp:=fun i hx => by have:=(h.p.lt _ hx).2;omega
 have hr1:=hg.hrows
 have hr2:=hg.hroom
 have hr3:=hg.hhist
 have hL:(dcOf g).L.length ≤ 900000:=by show (g.hist ++ g.scr).length ≤ _;simp;omega
 have hbs:(dcOf g).base ≤ (dcOf g).L.length:=by show g.hist.length ≤ (g.hist ++ g.scr).length;simp
 have HIN:=Hd (rdIn_any hB.d (by omega) hbs y)
 rw [dcOf_in] at HIN
 have HX0:=Hd (And.intro (hXp 0) (hXp 1))
 have HG1:Hid (stepP g ⟨8,x,n,r,⟨fk,fn,bk,bn,fl⟩,y,top,bottom⟩ = forgetP g):=Hd (by unfold stepP;rw [if_neg (show ¬ (8:Int) = 0 by decide)];rw [if_neg (show ¬ (8:Int) = 1 by decide)];rw [if_neg (show ¬ (8:Int) = 2 by decide)];rw [if_neg (show ¬ (8:Int) = 3 by decide)];rw [if_neg (show ¬ (8:Int) = 4 by decide)];rw [if_neg (show ¬ (8:Int) = 5 by decide)];rw [if_neg (show ¬ (8:Int) = 6 by decide)];rw [if_neg (show ¬ (8:Int) = 7 by decide)];rw [if_pos rfl];first | rfl | skip)
 rw [HG1.out]
 have hn1:=hok.hn.1
 have hn2:=hok.hn.2
 have hy1:=hok.hy.1
 have HP:Hid (∀ w1,Below W.heap.size W w1→Calls Tryz.prog 43 #[.pointer (some ⟨qp.P,0,none⟩)] w1 (PgPost base W qp (forgetP g))):=Hd (fun w1 hb => (pForget_any (hB.p.below hb) ht).mono (fun e w2 hh => ⟨hh.1,hh.2.pre hb⟩))
 have hbL:0 < g.scr.length→(dcOf g).base < (dcOf g).L.length:=fun h0 => by show g.hist.length < (g.hist ++ g.scr).length;simp;omega
 have hbs2:(dcOf g).base ≤ (dcOf g).L.length:=by show g.hist.length ≤ (g.hist ++ g.scr).length;simp
 have hscr:0 < g.scr.length:=by rw [hr1];exact hrow0
 have HD:Hid (∀ w2,PgRes base W qp (forgetP g) w2→Calls Tryz.prog 44 #[.pointer (some ⟨qd.D,0,none⟩)] w2 (DcPost base w2 qd (dcOf (forgetP g)))):=Hd (fun w2 hs => by
  have hd:=hB.mid hs
  rw [← dcOf_forget]
  exact rdForget_any hd (hbL hscr) hL (show g.told.length ≤ 999990 by omega))
 generalize forgetP g = g1 at HP HD ⊢
 cases hin:inP g y
 all_goals
  rw [hin] at HIN
  clear h hB hg hin hbL hscr hbs2
  have HWW:=Hd hW
  clear hW hb0 hXp hbs
  go_enter Tryz.func9,Tryz.ntmps9
  go_upto_region 2 with fail
  rw [show (#[.int .i64 8,.int .i64 x,.int .i64 n,.int .i32 r,.int .i64 fk,.int .i64 fn,.int .i64 bk,.int .i64 bn,.int .i64 fl,.int .i64 y,.int .i64 top,.int .i64 bottom]:Array Value) = (encPop ⟨8,x,n,r,⟨fk,fn,bk,bn,fl⟩,y,top,bottom⟩).toArray from rfl,HWW.out]
  clear HWW
  obtain ⟨c0,c1,c2,c3,c4,c5,c6,c7,c8,c9,c10,c11,k0,k1⟩:=HO0.out
  go_upto_region 3 with (go_at_call 28;(with_reducible refine HIN.out.mono ?_);rintro e w1 ⟨rfl,hb⟩;have HB1:=Hd hb;have HO1:=Hd (HO0.out.below hb);clear hb)
  clear c0 c1 c2 c3 c4 c5 c6 c7 c8 c9 c10 c11 k0 k1
  obtain ⟨c0,c1,c2,c3,c4,c5,c6,c7,c8,c9,c10,c11,k0,k1⟩:=HO1.out
  go_upto_region 35 with (go_at_call 43;(with_reducible refine (HP.out _ HB1.out).mono ?_);rintro e w2 ⟨rfl,hs⟩;have HS2:=Hd hs;have HO2:=Hd (HO0.out.mod hs.modr HX0.out.1 HX0.out.2);clear hs c0 c1 c2 c3 c4 c5 c6 c7 c8 c9 c10 c11 k0 k1)
  obtain ⟨c0,c1,c2,c3,c4,c5,c6,c7,c8,c9,c10,c11,k0,k1⟩:=HO2.out
  go_wp2_with (go_at_call 44;(with_reducible refine (HD.out _ HS2.out).mono ?_);rintro e w4 ⟨rfl,hs⟩;have HS4:=Hd hs;clear hs)
  go_end0
  exact ⟨rfl,(HB0.out.step HS2.out HS4.out).pre HB.out⟩
end Go.Proofs.YtffdblmdelgkaaaGreat
