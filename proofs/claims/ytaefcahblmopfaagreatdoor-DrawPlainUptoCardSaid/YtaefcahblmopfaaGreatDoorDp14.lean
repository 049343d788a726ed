/- Joined by a tool of this claim out of smaller texts. Conditions: as stated. -/
import Derived.Test.YtaefcahblmopfaaGreatDoorDp13
import Derived.Deep.LoopGhost
set_option linter.unusedVariables false
set_option linter.unusedSimpArgs false
set_option maxRecDepth 100000
open Go.Lib renaming hid → Hd
namespace Go.Proofs.YtaefcahblmopfaaGreatDoor
open Go.RowKit
section
variable {base:Nat} {w w1:World} {q:Pv} {g g1:Pg}
theorem rowP_len {g:Pg} (y:Int) (F:List Cl→List Cl):(rowP g y F).scr.length = g.scr.length∧(rowP g y F).cols = g.cols:=by
 unfold rowP
 split
 · exact ⟨by simp,rfl⟩
 · exact ⟨rfl,rfl⟩
set_option maxHeartbeats 3200000 in
theorem pErase_any (h:PgO base w q g) (y x z:Int) (b:Col):Calls Tryz.prog 196 #[.pointer (some ⟨q.P,0,none⟩),.int .i64 y,.int .i64 x,.int .i64 z,.agg #[.int .i64 b.k,.int .i64 b.n]] w (PgPost base w q (eraseP g y x z b)):=by
 have hrows:=h.rows1000
 have hlen:=h.len
 obtain ⟨W,hW⟩:∃ W,((w.alloc (.cells #[.int .i64 x] 3)).alloc (.cells #[.int .i64 z] 3)).alloc (.cells #[.int .i64 b.k,.int .i64 b.n] 61) = W:=⟨_,rfl⟩
 have hb0:Below w.heap.size w W:=by rw [← hW];exact below_allocs (below_allocs (below_allocs (Below.refl _ _) _) _) _
 have hp0:W.heap[w.heap.size]? = some (.cells #[.int .i64 x] 3 (0,0)):=by rw [← hW];exact hp_old (hp_old (hp_new rfl))
 have hp1:W.heap[w.heap.size + 1]? = some (.cells #[.int .i64 z] 3 (0,0)):=by rw [← hW];exact hp_old (hp_new (by simp))
 have hp2:W.heap[w.heap.size + 2]? = some (.cells #[.int .i64 b.k,.int .i64 b.n] 61 (0,0)):=by rw [← hW];exact hp_new (by simp)
 have HB:=Hd hb0
 have hO:=h.below hb0
 have H0:=Hd hO.res
 have HIN:=Hd (pIn_any hO y)
 have HXb:Hid (∀ i,w.heap.size + i ∉ pgX q):=Hd (fun i hx => by have:=h.lt _ hx;omega)
 have HXz:Hid (w.heap.size ∉ pgX q):=Hd (HXb.out 0)
 cases hin:inP g y with
 | false =>
   rw [hin] at HIN
   have HE:=Hd (show eraseP g y x z b = g from by unfold eraseP;rw [hin];rfl)
   rw [HE.out]
   clear h hb0 hp0 hp1 hp2 hO
   go_enter Tryz.func196,Tryz.ntmps196
   go_wp2_with (go_at_call 289;refine HIN.out.mono ?_;rintro e w9 ⟨rfl,rfl⟩)
   go_end0
   exact ⟨rfl,H0.out.pre HB.out⟩
 | true =>
   rw [hin] at HIN
   have hy:0 ≤ y∧y < 1000:=by unfold inP at hin;simp at hin;omega
   have HE:=Hd (show eraseP g y x z b = (if x < g.cols∧(g.cols:Int) ≤ z then (if x ≤ 0 then contP (contP (rowP g y (fun l => eraseL l x z b)) (y + 1) false) y false else contP (rowP g y (fun l => eraseL l x z b)) (y + 1) false) else rowP g y (fun l => eraseL l x z b)) from by unfold eraseP;rw [hin];rfl)
   rw [HE.out]
   have hwy:IntKind.i64.wrap (y + 1) = y + 1:=IntWalk.i64_in _ (by omega)
   have hc2:=h.cols2
   have HA:=Hd (pat_any hO y 291 #[.pointer (some ⟨w.heap.size,0,none⟩),.pointer (some ⟨w.heap.size + 1,0,none⟩),.pointer (some ⟨w.heap.size + 2,0,none⟩)] (fun l => eraseL l x z b) (fun l => eraseL_len l x z b) (fun l hl => hl.erase x z b) (fun args w => by kernel_rfl) (fun r w' hb hr hl => perase1_any r x z b _ _ _ w' hr (by omega) (holda hb (range_box hp0 0 _ rfl)) (holda hb (range_box hp1 0 _ rfl)) (holda hb (range_box hp2 0 _ rfl)) (holda hb (range_box hp2 1 _ rfl))))
   have HX0:=Hd (range_box hp0 0 _ rfl)
   have HX1:=Hd (range_box hp1 0 _ rfl)
   have HP2:Hid (∀ w1,PgRes base W q (rowP g y (fun l => eraseL l x z b)) w1→w1.cell? ⟨q.P,2,none⟩ = some (.int .i64 g.cols)):=Hd (fun w1 hs => by
    obtain ⟨q1,e1,-,hq1,-⟩:=hs
    have:=hq1.cells.2.2.1.1
    rw [e1,(rowP_len y _).2] at this
    exact this)
   have HPA:=Hd (fun (g1:Pg) (y:Int) (w1:World) (hs:PgRes base W q g1 w1) => part_then hs y)
   clear h hb0 hp0 hp1 hp2 hO hin
   by_cases hc:x < g.cols∧(g.cols:Int) ≤ z
   rotate_left
   · rw [if_neg hc]
     have HNC:=Hd hc
     by_cases hx:x < g.cols
     · have hz:¬ (g.cols:Int) ≤ z:=fun h => hc ⟨hx,h⟩
       clear hc
       go_enter Tryz.func196,Tryz.ntmps196
       go_upto_region 3 with (first | (go_at_call 289;refine HIN.out.mono ?_;rintro e w9 ⟨rfl,rfl⟩) | (go_at_call 290;(with_reducible refine HA.out.mono ?_);rintro e w1 ⟨rfl,hs⟩;have HS:=Hd hs;have x0:=hs.hold HXz.out HX0.out;have x1:=hs.hold (HXb.out 1) HX1.out;have x2:=HP2.out _ hs;clear hs))
       refine wp_region_u 13 (fun w' => Below w1.heap.size w1 w'∧w'.cell? ⟨w.heap.size,0,none⟩ = some (.int .i64 x)∧w'.cell? ⟨w.heap.size + 1,0,none⟩ = some (.int .i64 z)∧w'.cell? ⟨q.P,2,none⟩ = some (.int .i64 g.cols)) (by kernel_rfl) (by kernel_rfl) ?_ ?_
       · exact ⟨(Below.refl _ _).drew,x0,x1,x2⟩
       simp only [List.take_succ_cons,List.take_zero,List.drop_succ_cons,List.drop_zero]
       repeat (
        (first
         | refine seqU_skip (by rfl) ?_
         | (refine seqU_val ?_ (by rfl) ?_ ?_;rotate_left;(focus (intro w' hS;obtain ⟨_,_,_,_⟩:=hS;go_simp;first | done | with_reducible rfl))))
        simp only [Act.put,List.setIfInBounds_toArray,List.set_cons_zero,List.set_cons_succ])
       refine seqU_nil (fun w' hS => ?_)
       have HS:=Hd (HS.out.post hS.1)
       have x0:=hS.2.1
       clear hS x1 x2
       go_wp2
       go_end0
       exact ⟨rfl,HS.out.pre HB.out⟩
     · clear hc
       go_enter Tryz.func196,Tryz.ntmps196
       go_upto_region 3 with (first | (go_at_call 289;refine HIN.out.mono ?_;rintro e w9 ⟨rfl,rfl⟩) | (go_at_call 290;(with_reducible refine HA.out.mono ?_);rintro e w1 ⟨rfl,hs⟩;have HS:=Hd hs;have x0:=hs.hold HXz.out HX0.out;have x1:=hs.hold (HXb.out 1) HX1.out;have x2:=HP2.out _ hs;clear hs))
       have hxn:¬ x < (g.cols:Int):=by omega
       refine wp_region_u 13 (fun w' => Below w1.heap.size w1 w'∧w'.cell? ⟨w.heap.size,0,none⟩ = some (.int .i64 x)∧w'.cell? ⟨w.heap.size + 1,0,none⟩ = some (.int .i64 z)∧w'.cell? ⟨q.P,2,none⟩ = some (.int .i64 g.cols)) (by kernel_rfl) (by kernel_rfl) ?_ ?_
       · exact ⟨(Below.refl _ _).drew,x0,x1,x2⟩
       simp only [List.take_succ_cons,List.take_zero,List.drop_succ_cons,List.drop_zero]
       repeat (
        (first
         | refine seqU_skip (by rfl) ?_
         | (refine seqU_val ?_ (by rfl) ?_ ?_;rotate_left;(focus (intro w' hS;obtain ⟨_,_,_,_⟩:=hS;go_simp;first | done | with_reducible rfl))))
        simp only [Act.put,List.setIfInBounds_toArray,List.set_cons_zero,List.set_cons_succ])
       refine seqU_nil (fun w' hS => ?_)
       have HS:=Hd (HS.out.post hS.1)
       have x0:=hS.2.1
       clear hS x1 x2
       go_wp2
       go_end0
       exact ⟨rfl,HS.out.pre HB.out⟩
   rw [if_pos hc]
   obtain ⟨hx,hz⟩:=hc
   by_cases hx0:x ≤ 0
   · rw [if_pos hx0]
     go_enter Tryz.func196,Tryz.ntmps196
     go_upto_region 3 with (first | (go_at_call 289;refine HIN.out.mono ?_;rintro e w9 ⟨rfl,rfl⟩) | (go_at_call 290;(with_reducible refine HA.out.mono ?_);rintro e w1 ⟨rfl,hs⟩;have HS:=Hd hs;have x0:=hs.hold HXz.out HX0.out;have x1:=hs.hold (HXb.out 1) HX1.out;have x2:=HP2.out _ hs;clear hs))
     refine wp_region_u 13 (fun w' => Below w1.heap.size w1 w'∧w'.cell? ⟨w.heap.size,0,none⟩ = some (.int .i64 x)∧w'.cell? ⟨w.heap.size + 1,0,none⟩ = some (.int .i64 z)∧w'.cell? ⟨q.P,2,none⟩ = some (.int .i64 g.cols)) (by kernel_rfl) (by kernel_rfl) ?_ ?_
     · exact ⟨(Below.refl _ _).drew,x0,x1,x2⟩
     simp only [List.take_succ_cons,List.take_zero,List.drop_succ_cons,List.drop_zero]
     repeat (
      (first
       | refine seqU_skip (by rfl) ?_
       | (refine seqU_val ?_ (by rfl) ?_ ?_;rotate_left;(focus (intro w' hS;obtain ⟨_,_,_,_⟩:=hS;go_simp;first | done | with_reducible rfl))))
      simp only [Act.put,List.setIfInBounds_toArray,List.set_cons_zero,List.set_cons_succ])
     refine seqU_nil (fun w' hS => ?_)
     have HS:=Hd (HS.out.post hS.1)
     have x0:=hS.2.1
     clear hS x1 x2
     go_wp2_with (go_at_call 293;first
      | (have hpv:=HS4.out;clear hpv;(with_reducible refine (HPA.out _ _ _ HS4.out).mono ?_);rintro e w4 ⟨rfl,hs⟩;have HS5:=Hd hs;clear hs)
      | ((with_reducible refine (HPA.out _ _ _ HS.out).mono ?_);rintro e w4 ⟨rfl,hs⟩;have HS4:=Hd hs;have y0:=hs.hold HXz.out HX0.out;clear hs x0))
     go_end0
     exact ⟨rfl,HS5.out.pre HB.out⟩
   · rw [if_neg hx0]
     go_enter Tryz.func196,Tryz.ntmps196
     go_upto_region 3 with (first | (go_at_call 289;refine HIN.out.mono ?_;rintro e w9 ⟨rfl,rfl⟩) | (go_at_call 290;(with_reducible refine HA.out.mono ?_);rintro e w1 ⟨rfl,hs⟩;have HS:=Hd hs;have x0:=hs.hold HXz.out HX0.out;have x1:=hs.hold (HXb.out 1) HX1.out;have x2:=HP2.out _ hs;clear hs))
     refine wp_region_u 13 (fun w' => Below w1.heap.size w1 w'∧w'.cell? ⟨w.heap.size,0,none⟩ = some (.int .i64 x)∧w'.cell? ⟨w.heap.size + 1,0,none⟩ = some (.int .i64 z)∧w'.cell? ⟨q.P,2,none⟩ = some (.int .i64 g.cols)) (by kernel_rfl) (by kernel_rfl) ?_ ?_
     · exact ⟨(Below.refl _ _).drew,x0,x1,x2⟩
     simp only [List.take_succ_cons,List.take_zero,List.drop_succ_cons,List.drop_zero]
     repeat (
      (first
       | refine seqU_skip (by rfl) ?_
       | (refine seqU_val ?_ (by rfl) ?_ ?_;rotate_left;(focus (intro w' hS;obtain ⟨_,_,_,_⟩:=hS;go_simp;first | done | with_reducible rfl))))
      simp only [Act.put,List.setIfInBounds_toArray,List.set_cons_zero,List.set_cons_succ])
     refine seqU_nil (fun w' hS => ?_)
     have HS:=Hd (HS.out.post hS.1)
     have x0:=hS.2.1
     clear hS x1 x2
     go_wp2_with (go_at_call 293;(with_reducible refine (HPA.out _ _ _ HS.out).mono ?_);rintro e w4 ⟨rfl,hs⟩;have HS4:=Hd hs;have y0:=hs.hold HXz.out HX0.out;clear hs x0)
     go_end0
     exact ⟨rfl,HS4.out.pre HB.out⟩
end
section
variable {base:Nat} {w w1:World} {q:Pv} {g g1:Pg}
theorem PgO.grown {vs':Value} {r:Rh} (h:PgO base w q g) (ho:w1.ownsRow base 52 2 vs' (q.S.length + 1) (flat encRh (q.S ++ [r]))) (hm:Mod q.vs.ownBlock.toList w w1) (hv:∀ b,vs'.ownBlock = some b→q.vs.ownBlock = some b ∨ w.heap.size ≤ b)
 (hr:RcAt w1 r) (hrl:r.cs.length = g.cols) (hz:q.S.length + 1 ≤ 1000):PgRes base w q { g with scr:=g.scr ++ [roOf r] } (w1.setCell ⟨q.P,1,none⟩ vs'):=by
 have hvs:∀ b,q.vs.ownBlock = some b→∃ cur:Array Value,w.heap[b]? = some (.cells cur 52 (0,0)):=fun b hb => own_block h.own hb
 have hPv:q.P ∉ q.vs.ownBlock.toList:=fun hb => by
  obtain ⟨cur,hc⟩:=hvs _ (Option.mem_toList.1 hb)
  exact block_ne h.blk hc (by decide) rfl
 have hPl:=(Array.getElem?_eq_some_iff.1 h.blk).1
 have hm2:Mod (q.P :: q.vs.ownBlock.toList) w (w1.setCell ⟨q.P,1,none⟩ vs'):=(hm.mono (fun b hb => by simp [Option.mem_toList.1 hb])).setCell (a:=⟨q.P,1,none⟩) (.inl (by simp)) _
 have hX:NoCel w (q.P :: q.vs.ownBlock.toList):=fun b hb cs f he => by
  refine h.nocel b ?_ cs f he
  rcases List.mem_cons.1 hb with rfl | hb
  · simp [pgX]
  · simp [pgX,Option.mem_toList.1 hb]
 have hblk:=whole_set (cs:=[.pointer (some ⟨q.R,0,none⟩),q.vs,.int .i64 g.cols,q.vt]) ((hm.block q.P hPl hPv).trans h.blk) 1 vs' (cs':=[.pointer (some ⟨q.R,0,none⟩),vs',.int .i64 g.cols,q.vt]) rfl
 have hM1:Mod [q.P] w1 (w1.setCell ⟨q.P,1,none⟩ vs'):=(Mod.refl [q.P] w1).setCell (a:=⟨q.P,1,none⟩) (.inl (by simp)) vs'
 have hN1:NoCel w1 [q.P]:=fun b hb cs f he => by
  rw [List.mem_singleton.1 hb,hm.block q.P hPl hPv] at he
  exact block_ne h.blk he (by decide) rfl
 refine ⟨{ q with vs:=vs',S:=q.S ++ [r] },rfl,rfl,⟨hblk,h.hb,h.ring.mod hm2 hX (fun b hb hx => ?_),?_,owns_mod h.told hm2 (fun b hb hx => ?_),fun b hb hb2 => ?_,?_,h.hist,fun x hx => ?_,h.cols2,h.cols1000,by show (q.S ++ [r]).length ≤ 1000;simpa using hz,h.gone0⟩,hm2.mono (fun b hb => ?_),fun b hb => ?_⟩
 · rcases List.mem_cons.1 hx with rfl | hx
   · rcases List.mem_cons.1 hb with h1 | hb
     · exact block_ne h.blk h.ring.blk (by decide) h1
     · obtain ⟨cur,hc⟩:=own_block h.ring.own (Option.mem_toList.1 hb)
       exact block_ne h.blk hc (by decide) rfl
   · rcases List.mem_cons.1 hb with rfl | hb
     · obtain ⟨cur,hc⟩:=hvs _ (Option.mem_toList.1 hx)
       exact block_ne h.ring.blk hc (by decide) rfl
     · exact h.apart b (Option.mem_toList.1 hx) (Option.mem_toList.1 hb)
 · have:=owns_mod ho hM1 (fun b hb hx => by
    have e:=List.mem_singleton.1 hx
    rcases hv b hb with h1 | h1
    · exact hPv (by rw [← e];simp [h1])
    · omega)
   simpa using this
 · obtain ⟨cur,hc⟩:=own_block h.told hb
   rcases List.mem_cons.1 hx with rfl | hx
   · exact block_ne h.blk hc (by decide) rfl
   · obtain ⟨cur2,hc2⟩:=hvs _ (Option.mem_toList.1 hx)
     exact block_ne hc2 hc (by decide) rfl
 · rcases hv b hb with h1 | h1
   · exact h.apart b h1 hb2
   · have:=(h.ring.own.lt b hb2).2;omega
 · show (q.S ++ [r]).map roOf = g.scr ++ [roOf r]
   rw [List.map_append,h.scr];rfl
 · rcases List.mem_append.1 (show x ∈ q.S ++ [r] from hx) with hx | hx
   · exact ⟨(h.rows x hx).1.mod hm2 hX,(h.rows x hx).2⟩
   · rw [List.mem_singleton.1 hx]
     exact ⟨hr.mod hM1 hN1,hrl⟩
 · rcases List.mem_cons.1 hb with rfl | hb
   · simp [pgX]
   · simp [pgX,Option.mem_toList.1 hb]
 · rcases List.mem_cons.1 hb with rfl | hb
   · exact .inl (by simp [pgX])
   rcases List.mem_append.1 hb with hb | hb
   · rcases hv b (Option.mem_toList.1 hb) with h1 | h1
     · exact .inl (by simp [pgX,h1])
     · exact .inr h1
   · exact .inl (by simp only [pgX,List.mem_cons,List.mem_append];right;right;simpa using hb)
def zeroCol:Col:=⟨0,0⟩
set_option maxHeartbeats 3200000 in
theorem pfill_any (h:PgO base w q g) (rows:Nat) (hr:rows ≤ 1000):Calls Tryz.prog 112 #[.pointer (some ⟨q.P,0,none⟩),.int .i64 rows] w (PgPost base w q { g with scr:=g.scr ++ List.replicate (rows - g.scr.length) (blankR g.cols zeroCol) }):=by
 obtain ⟨j0,hj,gz0,gz1,gz2⟩:=info_parts info_rowz
 have hrows:=h.rows1000
 have hlen:=h.len
 have hc2:=h.cols2
 have hc3:=h.cols1000
 have HBK:=Hd (fun w' (x2:w'.cell? ⟨q.P,2,none⟩ = some (.int .i64 g.cols)) => pblank_any q.P g.cols zeroCol w' x2 hc2 hc3)
 have H:=Hd h
 clear h
 obtain ⟨N,hN⟩:∃ N,rows - g.scr.length = N:=⟨_,rfl⟩
 rw [hN]
 have HN:=Hd hN
 clear hN
 go_enter Tryz.func112,Tryz.ntmps112
 go_wp2_with fail
 go_loopg [10] N (fun k _ wr => ∃ i:Nat,i + k = N∧PgRes base w q { g with scr:=g.scr ++ List.replicate i (blankR g.cols zeroCol) } wr)
 case atStart => exact ⟨0,by omega,by simpa using H.out.res⟩
 case round =>
  obtain ⟨i,hik,hs⟩:=hrel
  have HS:=Hd hs
  obtain ⟨q1,e1,e2,hq1,hm1,hx1⟩:=hs
  obtain ⟨A1,c1,hv1⟩:=row_form hq1.own
  have hl1:q1.S.length = g.scr.length + i:=by rw [hq1.len];simp
  obtain ⟨-,⟨x1,x1f⟩,⟨x2,-⟩,-⟩:=hq1.cells
  rw [e1] at x1 x1f x2
  rw [hv1] at x1
  obtain ⟨m,hm⟩:∃ m,q1.S.length = m:=⟨_,rfl⟩
  rw [hm] at x1
  have HM:=Hd hm
  have hbw:base ≤ wr.heap.size:=by have:=hq1.lt q1.P (by simp [pgX]);omega
  have hPl:=lt_of_cell x2
  by_cases hlt:m < rows
  rotate_left
  · have hltI:¬ (m:Int) < (rows:Int):=by omega
    have hi:i = N:=by have:=HN.out;omega
    subst hi
    clear hm hq1 hm1 hx1
    go_wp2
    go_end0
    exact ⟨rfl,HS.out⟩
  · have hltI:(m:Int) < (rows:Int):=by omega
    have HQ:=Hd hq1
    have HE:=Hd (And.intro e1 (And.intro e2 (And.intro hm1 hx1)))
    have HV:=Hd (show q1.vs = .slice A1 m c1 from by rw [← hm];exact hv1)
    have hNi:i < N:=by have:=HN.out;omega
    have hm1000:m + 1 ≤ 1000:=by omega
    clear hm hq1 hm1 hx1 hv1 HS
    go_upto_region 1 with fail
    refine Go.RL.wp_region_l 12 (fun w' => (w'.cell? ⟨q.P,1,none⟩ = some (.slice A1 m c1)∧w'.frozen? ⟨q.P,1,none⟩ = false)∧w'.cell? ⟨q.P,2,none⟩ = some (.int .i64 g.cols)) (fun w' => Below wr.heap.size wr w') (by kernel_rfl) (by kernel_rfl) ⟨⟨x1,x1f⟩,x2⟩ ((Below.refl _ _).drew) ?_
    refine Go.RL.AtL.go 0 ?_
    iterate 7 (refine Go.RL.AtK.take (o:=⟨_,_,_,_,_,_⟩) (v:=?_) (by kernel_rfl) rfl (by simp) (by kernel_rfl) (by kernel_rfl) ?_ ?_;rotate_left;(focus (refine Go.RL.Pure.val (by rfl) ?_;intro w' hI;obtain ⟨⟨_,_⟩,_⟩:=hI;go_simp;first | done | with_reducible rfl));simp only [Act.put,List.setIfInBounds_toArray,List.set_cons_zero,List.set_cons_succ])
    refine Go.RL.AtK.back ?_
    refine Go.RL.AtL.one 7 (o:=⟨_,_,_,_,_,_⟩) (fun v => ∃ g1 cap,v = .agg #[.slice (some ⟨g1,0,none⟩) g.cols cap,.bool false]) (fun v w' => ∃ g1 cap,v = .agg #[.slice (some ⟨g1,0,none⟩) g.cols cap,.bool false]∧Below wr.heap.size wr w'∧RcAt w' ⟨some ⟨g1,0,none⟩,List.replicate g.cols (blankC zeroCol),cap,false⟩) (by simp) (by kernel_rfl) rfl
     (Go.RL.StabL.call 174 #[.pointer (some ⟨q.P,0,none⟩),.agg #[.int .i64 0,.int .i64 0]] _ _ (by rfl) ?_ (fun w' hI hS => ?_)) ?_
    · intro w'
      go_simp
    · refine (HBK.out w' hI.2).mono ?_
      rintro e w3 ⟨g1,cap,rfl,hr,hb⟩
      exact ⟨_,rfl,⟨g1,cap,rfl⟩,⟨hold hb hI.1,holda hb hI.2⟩,g1,cap,rfl,below_tail hS hb,hr⟩
    rintro v ⟨g1,cap,rfl⟩
    simp only [Act.put,List.setIfInBounds_toArray,List.set_cons_zero,List.set_cons_succ]
    refine Go.RL.AtL.one 8 (o:=⟨_,_,_,_,_,_⟩) (fun v => ∃ k,v = .slice (some ⟨k,0,none⟩) 1 1) (fun v w' => ∃ k,v = .slice (some ⟨k,0,none⟩) 1 1∧Below wr.heap.size wr w'∧RcAt w' ⟨some ⟨g1,0,none⟩,List.replicate g.cols (blankC zeroCol),cap,false⟩∧w'.heap[k]? = some (.cells #[.slice (some ⟨g1,0,none⟩) g.cols cap,.bool false] 52 (0,0))) (by simp) (by kernel_rfl) rfl (Go.RL.StabL.op _ _ (by rfl) (fun w' hI hS => ?_)) ?_
    · obtain ⟨g1',cap',hv',hb,hrc⟩:=hS
      simp only [Value.agg.injEq,Array.mk.injEq,List.cons.injEq,Value.slice.injEq,Option.some.injEq,Addr.mk.injEq,and_true,true_and] at hv'
      obtain ⟨rfl,rfl⟩:=hv'
      have hb2:=below_allocs (Below.refl w'.heap.size w') (.cells #[.slice (some ⟨g1,0,none⟩) g.cols cap,.bool false] 52)
      exact ⟨.slice (some ⟨w'.heap.size,0,none⟩) 1 1,w'.alloc (.cells #[.slice (some ⟨g1,0,none⟩) g.cols cap,.bool false] 52),by go_simp,⟨_,rfl⟩,⟨hold hb2 hI.1,holda hb2 hI.2⟩,_,rfl,below_tail hb hb2,hrc.below hb2,hp_new rfl⟩
    rintro v ⟨k,rfl⟩
    simp only [Act.put,List.setIfInBounds_toArray,List.set_cons_zero,List.set_cons_succ]
    refine Go.RL.AtL.one 9 (o:=⟨some 20,.call { callee:=.builtin .append,args:=#[.tmp 15,.tmp 19],argTypes:=#[46,46] },46,_,_,none⟩) (fun v => ∃ g' c',v = .slice (some ⟨g',0,none⟩) (m + 1) c') (fun v w' => w'.ownsRow base 52 2 v (m + 1) (flat encRh (q1.S ++ [⟨some ⟨g1,0,none⟩,List.replicate g.cols (blankC zeroCol),cap,false⟩]))∧Mod q1.vs.ownBlock.toList wr w'∧(∀ b,v.ownBlock = some b→q1.vs.ownBlock = some b ∨ wr.heap.size ≤ b)∧RcAt w' ⟨some ⟨g1,0,none⟩,List.replicate g.cols (blankC zeroCol),cap,false⟩) (by simp) (by kernel_rfl) rfl (Go.RL.StabL.op _ _ (by rfl) (fun w' hI hS => ?_)) ?_
    · obtain ⟨k',hv',hb,hrc,hk⟩:=hS
      simp only [Value.slice.injEq,Option.some.injEq,Addr.mk.injEq,and_true,true_and] at hv'
      subst hv'
      have hown:=(HQ.out.below hb).own
      rw [HM.out] at hown
      obtain ⟨v',w3,hr3,ho3,hg3,-,hn3⟩:=run_append_own_at (P:=Tryz.prog) w' base 46 46 52 j0 _ 2 32 Tryz.underlying46 hj gz0 gz1 gz2 rfl (by decide) q1.vs m (flat encRh q1.S) hown ⟨k,0,none⟩ 1 1 (encRh ⟨some ⟨g1,0,none⟩,List.replicate g.cols (blankC zeroCol),cap,false⟩) rfl (fun j u hj => by
       rw [add_lit',Nat.zero_add]
       exact (at_ hk j u (by simpa [encRh] using hj)).1) (encRh_one _) (by simp only [maxLen];omega) (by omega) (Nat.le_trans hbw hb.size)
      obtain ⟨g',c',rfl⟩:=own_form ho3 (by omega)
      have hvs:∀ b,q1.vs.ownBlock = some b→b < wr.heap.size:=fun b hb => (HQ.out.own.lt b hb).2
      have hMg:Mod q1.vs.ownBlock.toList w' w3:=Mod.of_grown hg3 (fun b hb => by simp [hb])
      have hPn:q.P ∉ q1.vs.ownBlock.toList:=fun hx => by
       obtain ⟨cur,hc⟩:=own_block HQ.out.own (Option.mem_toList.1 hx)
       have:=HQ.out.blk
       rw [HE.out.1] at this
       exact block_ne this hc (by decide) rfl
      have hNC:NoCel w' q1.vs.ownBlock.toList:=fun b hb' cs f he => by
       obtain ⟨cur,hc⟩:=own_block hown (Option.mem_toList.1 hb')
       exact block_ne hc he (by decide) rfl
      refine ⟨_,w3,exec_append _ _ _ rfl _ _ _ rfl rfl (by rw [HV.out] at hr3;exact hr3),⟨g',c',rfl⟩,⟨hMg.hold hPn hI.1,hMg.cell hPn hI.2⟩,?_,(Mod.of_below (X:=q1.vs.ownBlock.toList) hb).trans hMg (fun b hb => .inl hb),fun b hb' => ?_,hrc.mod hMg hNC⟩
      · rw [flat_append];exact ho3
      · rcases hn3 with h3 | h3
        · exact .inl (by rw [← h3];exact hb')
        · rw [h3] at hb';injection hb' with hb';exact .inr (by have:=hb.size;omega)
    rintro v ⟨g',c',rfl⟩
    simp only [Act.put,List.setIfInBounds_toArray,List.set_cons_zero,List.set_cons_succ]
    refine Go.RL.AtL.go 10 ?_
    iterate 2 (refine Go.RL.AtK.take (o:=⟨_,_,_,_,_,_⟩) (v:=?_) (by kernel_rfl) rfl (by simp) (by kernel_rfl) (by kernel_rfl) ?_ ?_;rotate_left;(focus (refine Go.RL.Pure.val (by rfl) ?_;intro w' hI;obtain ⟨⟨_,_⟩,_⟩:=hI;go_simp;first | done | with_reducible rfl));simp only [Act.put,List.setIfInBounds_toArray,List.set_cons_zero,List.set_cons_succ])
    refine Go.RL.AtK.back ?_
    refine Go.RL.AtL.done (by kernel_rfl) (fun w' hI hS => ?_)
    obtain ⟨hs1,hs2,hs3,hs4⟩:=hS
    rw [← HM.out] at hs1
    have HG:=Hd (HQ.out.grown hs1 hs2 hs3 hs4 (by simp) (by rw [HM.out];exact hm1000))
    rw [HM.out,HE.out.1] at HG
    obtain ⟨⟨z1,z1f⟩,-⟩:=hI
    clear hs1 hs2 hs3 hs4 x1 x1f x2
    go_wp2
    go_roundg (gk - 1)
    case rel =>
     refine ⟨i + 1,by omega,?_⟩
     have:=PgRes.trans ⟨HE.out.1,HE.out.2.1,HE.out.2.2.1,HE.out.2.2.2⟩ HG.out
     rw [List.replicate_succ',← List.append_assoc]
     exact this
    case measure => omega
def fitsB (r c:Int):Bool:=decide (1 ≤ r∧r ≤ 1000∧2 ≤ c∧c ≤ 1000)
theorem pfits_any (r c:Int) (w:World):Calls Tryz.prog 111 #[.int .i64 r,.int .i64 c] w fun e w' => e = .returned (.bool (fitsB r c))∧w = w':=by
 unfold fitsB
 by_cases h1:1 ≤ r <;> by_cases h2:r ≤ 1000 <;> by_cases h3:2 ≤ c <;>
 · go_enter Tryz.func111,Tryz.ntmps111
   go_wp2
   go_ret
   refine ⟨?_,rfl⟩
   simp [h1,h2,h3]
   try omega
end
def newP (rows cols lines:Nat):Pg:=⟨lines,[],0,List.replicate rows (blankR cols zeroCol),cols,[]⟩
def NewPost (rows cols lines:Nat) (w:World) (e:Ending) (w':World):Prop :=
 ∃ q,e = .returned (.tuple #[.pointer (some ⟨q.P,0,none⟩),.int .i64 0])∧PgO w.heap.size w' q (newP rows cols lines)∧Below w.heap.size w w'
set_option maxHeartbeats 1600000 in
theorem pnew_ok (rows cols lines:Nat) (w:World) (hr1:1 ≤ rows) (hr2:rows ≤ 1000) (hc1:2 ≤ cols) (hc2:cols ≤ 1000) (hl:lines ≤ 100000) :
 Calls Tryz.prog 62 #[.int .i64 rows,.int .i64 cols,.int .i64 lines] w (NewPost rows cols lines w):=by
 have HN:=Hd (rnew_ok lines w hl)
 have hf:fitsB rows cols = true:=by unfold fitsB;simp;omega
 have HF:=Hd (fun w => pfits_any rows cols w)
 rw [hf] at HF
 clear hf
 go_enter Tryz.func62,Tryz.ntmps62
 go_upto_region 5 with (first
  | (go_at_call 110;refine HN.out.mono ?_;rintro e w1 ⟨rfl,hro,hb⟩;have HRO:=Hd hro;have HB:=Hd hb;clear hro hb)
  | (go_at_call 111;refine (HF.out _).mono ?_;rintro e w9 ⟨rfl,rfl⟩))
 have hb2:=below_allocs (Below.refl w1.heap.size w1) (.cells #[.pointer (some ⟨w.heap.size,0,none⟩),.slice none 0 0,.int .i64 cols,.slice none 0 0] 175)
 have hp:(w1.alloc (.cells #[.pointer (some ⟨w.heap.size,0,none⟩),.slice none 0 0,.int .i64 cols,.slice none 0 0] 175)).heap[w1.heap.size]? = some (.cells #[.pointer (some ⟨w.heap.size,0,none⟩),.slice none 0 0,.int .i64 cols,.slice none 0 0] 175 (0,0)):=hp_new rfl
 have hO:PgO w.heap.size (w1.alloc (.cells #[.pointer (some ⟨w.heap.size,0,none⟩),.slice none 0 0,.int .i64 cols,.slice none 0 0] 175)) ⟨w1.heap.size,w.heap.size,.slice none 0 0,.slice none 0 0,.slice none 0 0,[],[],0,0⟩ ⟨lines,[],0,[],cols,[]⟩ :=
  ⟨hp,HB.out.size,HRO.out.below hb2,World.ownsRow_nil _ _ _ _,World.ownsRow_nil _ _ _ _,(fun b hb => by simp [Value.ownBlock] at hb),rfl,rfl,(fun r hr => by cases hr),hc1,hc2,by simp,Int.le_refl _⟩
 have HFI:=Hd (pfill_any hO rows hr2)
 have HB2:=Hd (below_tail HB.out hb2)
 have HX:=Hd hO.lt
 clear hb2 hp hO
 go_wp2_with (go_at_call 112;(with_reducible refine HFI.out.mono ?_);rintro e w3 ⟨rfl,hs⟩;have HS:=Hd hs;clear hs)
 go_ret2
 obtain ⟨q,e1,e2,h1,h2,h3⟩:=HS.out
 simp only [List.length_nil,Nat.sub_zero,List.nil_append] at h1
 refine ⟨q,by rw [e1];rfl,h1,HB2.out.trans (h2.below (B:=w.heap.size) (fun b hb => (HX.out b hb).1) HB2.out.size)⟩
def RowsO (base:Nat) (w:World) (v:Value) (L:List Rh):Prop:=w.ownsRow base 52 2 v L.length (flat encRh L)∧∀ r ∈ L,RcAt w r∧0 < r.cs.length
theorem RowsO.below {base:Nat} {w w':World} {v:Value} {L:List Rh} (h:RowsO base w v L) (hb:Below w.heap.size w w'):RowsO base w' v L:=⟨owns_mod h.1 (Mod.of_below (X:=[]) hb) (fun _ _ h => by cases h),fun r hr => ⟨(h.2 r hr).1.below hb,(h.2 r hr).2⟩⟩
theorem RowsO.push {base:Nat} {w w1:World} {v v':Value} {L:List Rh} {r:Rh} (h:RowsO base w v L) (ho:w1.ownsRow base 52 2 v' (L.length + 1) (flat encRh L ++ encRh r)) (hg:w.grownBy w1 v.ownBlock) (hr:RcAt w r) (h0:0 < r.cs.length):RowsO base w1 v' (L ++ [r]):=by
 have hm:Mod v.ownBlock.toList w w1:=Mod.of_grown hg (fun b hb => by simp [hb])
 have hn:NoCel w v.ownBlock.toList:=fun b hb cs f he => by
  obtain ⟨cur,hc⟩:=own_block h.1 (Option.mem_toList.1 hb)
  exact block_ne hc he (by decide) rfl
 refine ⟨by rw [flat_append,List.length_append];exact ho,fun x hx => ?_⟩
 rcases List.mem_append.1 hx with hx | hx
 · exact ⟨(h.2 x hx).1.mod hm hn,(h.2 x hx).2⟩
 · rw [List.mem_singleton.1 hx];exact ⟨hr.mod hm hn,h0⟩
def AllPost (H:List Ro) (w:World) (e:Ending) (w':World):Prop:=∃ v L,e = .returned v∧RowsO w.heap.size w' v L∧L.map roOf = H∧Below w.heap.size w w'
section
variable {base:Nat} {w:World} {R:Nat} {vl:Value} {SL:List Rh} {room first n:Nat} {gone:Int}
set_option maxHeartbeats 3200000 in
theorem rall_any (h:RgO base w R vl SL room first n gone):Calls Tryz.prog 159 #[.pointer (some ⟨R,0,none⟩)] w (AllPost ((histL SL first n).map roOf) w):=by
 obtain ⟨j0,hj,gz0,gz1,gz2⟩:=info_parts info_rowz
 have HLEN:=Hd (rlen_any h)
 have H:=Hd h
 have hnr:n ≤ 100000:=by have:=h.hn;have:=h.hm;have:=h.hroom;omega
 have hmr:SL.length ≤ 100000:=by have:=h.hm;have:=h.hroom;omega
 have HOWN:=Hd (fun (r:Rh) (w':World) (h:RcAt w' r) (h0:0 < r.cs.length) => rown_any r w' h h0)
 clear h
 go_enter Tryz.func159,Tryz.ntmps159
 go_wp2_with (go_at_call 161;refine HLEN.out.mono ?_;rintro e w9 ⟨rfl,rfl⟩)
 go_loopw [3,7] (fun s3 s7 wr => ∃ (i:Nat) (L:List Rh),s7 = .int .i64 i∧i ≤ n∧L.length = i∧RowsO w.heap.size wr s3 L∧L.map roOf = ((histL SL first n).take i).map roOf∧Below w.heap.size w wr) (fun _ s7 _ => n - (intOf s7).toNat)
 case atStart => exact ⟨0,[],rfl,Nat.zero_le _,rfl,⟨World.ownsRow_nil _ _ _ _,fun r hr => by cases hr⟩,rfl,Below.refl _ _⟩
 case round =>
  obtain ⟨i,L,rfl,hi,hL,hRo,hmap,hb⟩:=hrel
  have HRO:=Hd hRo
  have HMP:=Hd hmap
  have HB:=Hd hb
  have HL:=Hd hL
  obtain ⟨A3,c3,hv3⟩:=row_form hRo.1
  subst hv3
  rw [hL]
  clear hRo hmap hb hL
  by_cases hlt:i < n
  rotate_left
  · obtain rfl:i = n:=by omega
    go_wp2
    go_ret
    exact ⟨.slice A3 L.length c3,L,by rw [HL.out];rfl,HRO.out,by rw [HMP.out,List.take_of_length_le (by rw [histL_len];exact Nat.le_refl _)],HB.out⟩
  · have hltI:(i:Int) < (n:Int):=by omega
    have hf:first < SL.length:=by
     rcases H.out.hf with hf | ⟨-,hf⟩
     · exact hf
     · have:=H.out.hn;omega
    obtain ⟨k,hk⟩:∃ k,slotOf SL.length first i = k:=⟨_,rfl⟩
    have hkl:k < SL.length:=by rw [← hk];exact slotOf_lt hf (by have:=H.out.hn;omega)
    obtain ⟨r,hr⟩:∃ r,SL[k]? = some r:=⟨SL[k],List.getElem?_eq_getElem hkl⟩
    have hHi:(histL SL first n)[i]? = some r:=by rw [histL_at hf H.out.hn hlt,hk,hr]
    have hrr:=H.out.rows r (List.mem_of_getElem? hHi)
    have HRi:=Hd (H.out.below HB.out)
    obtain ⟨gs,cs,hvs⟩:=own_form H.out.own (by omega)
    have hownS:=HRi.out.own
    have x0:=(at_ HRi.out.blk 0 _ rfl).1
    have x2:wr.cell? ⟨R,2,none⟩ = some (.int .i64 first):=(at_ HRi.out.blk 2 _ rfl).1
    rw [hvs] at hownS x0
    obtain ⟨⟨r0,-⟩,r1,-⟩:=owns_row hownS hr
    have hfr:first ≤ 100000:=by omega
    have hkI:(k:Int) < (SL.length:Int):=by omega
    have HHI:=Hd hHi
    have HRR:=Hd hrr
    clear hHi hr hownS hvs hf hrr
    go_upto_region 5 with fail
    refine wp_region_n 12 (fun w2 => Below wr.heap.size wr w2∧w2.cell? ⟨R,0,none⟩ = some (.slice (some ⟨gs,0,none⟩) SL.length cs)∧w2.cell? ⟨gs,k * 2,none⟩ = some (.slice r.A r.cs.length r.cap)∧w2.cell? ⟨gs,k * 2 + 1,none⟩ = some (.bool r.cont)) (by kernel_rfl) (by kernel_rfl) (fun w1 w2 hS hb => ⟨below_tail hS.1 hb,holda hb hS.2.1,holda hb hS.2.2.1,holda hb hS.2.2.2⟩) ⟨(Below.refl _ _).drew,x0,r0,r1⟩ ?_
    refine AtN.go 0 ?_
    iterate 7 (refine AtC.take (o:=⟨_,_,_,_,_,_⟩) (v:=?_) (by kernel_rfl) rfl (by simp) (by kernel_rfl) (by kernel_rfl) ?_ ?_;rotate_left;(focus (first | exact StabN.skip (by rfl) | (refine StabN.val (by rfl) ?_;intro w' hS;obtain ⟨_,_,_,_⟩:=hS;go_simp;first | done | with_reducible rfl)));simp only [Act.put,List.setIfInBounds_toArray,List.set_cons_zero,List.set_cons_succ])
    refine AtC.back ?_
    refine AtN.take 7 (o:=⟨_,_,_,_,_,_⟩) (v:=.int .i64 k) (by kernel_rfl) rfl (by simp) (by kernel_rfl) (by kernel_rfl) (StabN.call1 251 #[.pointer (some ⟨R,0,none⟩),.int .i64 i] (.int .i64 k) (by rfl) (by intro w';go_simp;done) (fun w' hS => (slot_raw hS.2.1 ((Mod.of_below (X:=[]) hS.1).cell (by simp) x2) hmr hfr i (by omega)).mono (fun e w3 h => ⟨by rw [← hk];exact h.1,h.2 ▸ Below.refl _ _⟩))) ?_
    simp only [Act.put,List.setIfInBounds_toArray,List.set_cons_zero,List.set_cons_succ]
    refine AtN.go 8 ?_
    iterate 2 (refine AtC.take (o:=⟨_,_,_,_,_,_⟩) (v:=?_) (by kernel_rfl) rfl (by simp) (by kernel_rfl) (by kernel_rfl) ?_ ?_;rotate_left;(focus (first | exact StabN.skip (by rfl) | (refine StabN.val (by rfl) ?_;intro w' hS;obtain ⟨_,_,_,_⟩:=hS;go_simp;first | done | with_reducible rfl)));simp only [Act.put,List.setIfInBounds_toArray,List.set_cons_zero,List.set_cons_succ])
    refine AtC.back ?_
    refine AtN.one 10 (o:=⟨_,_,_,_,_,_⟩) (fun v => ∃ g1 cap,v = .agg #[.slice (some ⟨g1,0,none⟩) r.cs.length cap,.bool r.cont]) (fun v w' => ∃ g1 cap,v = .agg #[.slice (some ⟨g1,0,none⟩) r.cs.length cap,.bool r.cont]∧RcAt w' ⟨some ⟨g1,0,none⟩,r.cs,cap,r.cont⟩) (by simp) (by kernel_rfl) rfl (fun v w1 w2 ⟨g1,cap,hv,hr⟩ hb => ⟨g1,cap,hv,hr.below hb⟩) (StabN.call 250 #[.agg #[.slice r.A r.cs.length r.cap,.bool r.cont]] _ _ (by rfl) ?_ (fun w' hS => ?_)) ?_
    · intro w'
      go_simp
    · refine (HOWN.out r w' (HRR.out.1.below (below_tail HB.out hS.1)) HRR.out.2).mono ?_
      rintro e w3 ⟨g1,cap,rfl,hrc,hb,-⟩
      exact ⟨_,rfl,⟨⟨g1,cap,rfl⟩,g1,cap,rfl,hrc⟩,hb⟩
    rintro v ⟨g1,cap,rfl⟩
    simp only [Act.put,List.setIfInBounds_toArray,List.set_cons_zero,List.set_cons_succ]
    refine AtN.one 11 (o:=⟨_,_,_,_,_,_⟩) (fun v => ∃ k,v = .slice (some ⟨k,0,none⟩) 1 1) (fun v w' => ∃ k,v = .slice (some ⟨k,0,none⟩) 1 1∧w'.heap[k]? = some (.cells #[.slice (some ⟨g1,0,none⟩) r.cs.length cap,.bool r.cont] 52 (0,0))) (by simp) (by kernel_rfl) rfl (fun v w1 w2 ⟨k,hv,hk⟩ hb => ⟨k,hv,(hb.block k (lt_of_heap hk)).trans hk⟩) (StabN.new _ _ (by rfl) (fun w' hS => ?_)) ?_
    · exact ⟨.slice (some ⟨w'.heap.size,0,none⟩) 1 1,w'.alloc (.cells #[.slice (some ⟨g1,0,none⟩) r.cs.length cap,.bool r.cont] 52),by go_simp,⟨_,rfl⟩,⟨_,rfl,hp_new rfl⟩,below_allocs (Below.refl _ _) _⟩
    rintro v ⟨kb,rfl⟩
    simp only [Act.put,List.setIfInBounds_toArray,List.set_cons_zero,List.set_cons_succ]
    refine AtN.done (by kernel_rfl) (fun w' hS => ?_)
    obtain ⟨⟨⟨hb1,-⟩,g1',cap',hv',hrc'⟩,kb',hvk,hkb⟩:=hS
    simp only [Value.agg.injEq,Array.mk.injEq,List.cons.injEq,Value.slice.injEq,Option.some.injEq,Addr.mk.injEq,and_true,true_and] at hv' hvk
    obtain ⟨rfl,rfl⟩:=hv'
    subst hvk
    have HBW:=Hd (below_tail HB.out hb1)
    have HRO1:=Hd (HRO.out.below hb1)
    have HRC1:=Hd hrc'
    have HKB:=Hd hkb
    clear hb1 hrc' hkb x0 x2 r0 r1
    simp only [List.drop_succ_cons,List.drop_zero]
    refine wpList_append_g rfl (.tmp 10) (.tmp 21) 46 rfl w.heap.size 52 j0 _ 2 32 Tryz.underlying46 hj gz0 gz1 gz2 rfl (by decide) (.slice A3 L.length c3) L.length (flat encRh L) (by rw [HL.out];rfl) HRO1.out.1 ⟨kb,0,none⟩ 1 1 (encRh ⟨some ⟨g1,0,none⟩,r.cs,cap,r.cont⟩) rfl rfl ?_ (encRh_one _) ?_ ?_ ?_ ?_
    all_goals first
     | (have:=HL.out;omega)
     | (simp only [maxLen];have:=HL.out;omega)
     | exact HBW.out.size
     | skip
    · intro j u hj
      rw [add_lit',Nat.zero_add]
      exact (at_ HKB.out j u (by simpa [encRh] using hj)).1
    · intro v' w3 ho hg hv'
      have HRO2:=Hd (HRO1.out.push (r:=⟨some ⟨g1,0,none⟩,r.cs,cap,r.cont⟩) ho hg HRC1.out HRR.out.2)
      have HB3:=Hd (HBW.out.grown hg HBW.out.size (fun x hx => (HRO1.out.1.lt x hx).1))
      clear ho hg hv'
      obtain ⟨A4,c4,hv4⟩:=row_form HRO2.out.1
      subst hv4
      go_wp2
      go_roundw
      case rel => exact ⟨i + 1,L ++ [⟨some ⟨g1,0,none⟩,r.cs,cap,r.cont⟩],by go_num,by omega,by rw [List.length_append,HL.out];rfl,by have:=HRO2.out;rw [List.length_append] at this;exact this,by rw [List.map_append,HMP.out,List.take_add_one,HHI.out,List.map_append];rfl,HB3.out⟩
      case measure => simp [intOf];omega
end
section
variable {base:Nat} {w:World} {q:Pv} {g:Pg}
set_option maxHeartbeats 3200000 in
theorem pAll_any (h:PgO base w q g):Calls Tryz.prog 88 #[.pointer (some ⟨q.P,0,none⟩)] w (AllPost (g.hist ++ g.scr) w):=by
 obtain ⟨j0,hj,gz0,gz1,gz2⟩:=info_parts info_rowz
 have HALL:=Hd (rall_any h.ring)
 rw [h.hist] at HALL
 have H:=Hd h
 have hh:=h.hist100k
 have hrows:=h.rows1000
 obtain ⟨⟨x0,-⟩,⟨x1,-⟩,-⟩:=h.cells
 obtain ⟨AS,cS,hvS⟩:=h.vform
 rw [hvS] at x1
 have HOWN:=Hd (fun (r:Rh) (w':World) (h:RcAt w' r) (h0:0 < r.cs.length) => pown_any r w' h h0)
 obtain ⟨m,hm⟩:∃ m,q.S.length = m:=⟨_,rfl⟩
 rw [hm] at x1 hrows
 have HM:=Hd hm
 have HVS:=Hd hvS
 clear h hm hvS
 go_enter Tryz.func88,Tryz.ntmps88
 go_upto_region 4 with (go_at_call 159;refine HALL.out.mono ?_;rintro e w1 ⟨v0,L0,rfl,hro,hmp,hb⟩;have HRO:=Hd hro;have HMP:=Hd hmp;have HB:=Hd hb;have x1':=holda hb x1;clear hro hmp hb x1)
 go_wp2_with fail
 go_loopw [3,18] (fun s3 s18 wr => ∃ (i:Nat) (L:List Rh),s18 = .int .i64 i∧i ≤ m∧L.length = L0.length + i∧RowsO w.heap.size wr s3 L∧L.map roOf = g.hist ++ (q.S.take i).map roOf∧Below w.heap.size w wr) (fun _ s18 _ => m - (intOf s18).toNat)
 case atStart => exact ⟨0,L0,rfl,Nat.zero_le _,rfl,HRO.out,by rw [HMP.out];simp,HB.out⟩
 case round =>
  obtain ⟨i,L,rfl,hi,hL,hRo,hmap,hb⟩:=hrel
  have hL0:L0.length ≤ 100000:=by have:=congrArg List.length HMP.out;simp at this;omega
  obtain ⟨bx,rfl⟩:∃ bx:Value × Unit,u3 = bx.1:=⟨(u3,()),rfl⟩
  have HRO2:=Hd hRo
  have HMP2:=Hd hmap
  have HB2:=Hd hb
  have HL:=Hd hL
  clear hRo hmap hb hL
  by_cases hlt:i < m
  rotate_left
  · obtain rfl:i = m:=by omega
    go_wp2
    go_ret
    exact ⟨_,L,rfl,HRO2.out,by rw [HMP2.out,← HM.out,List.take_length,H.out.scr],HB2.out⟩
  · have hltI:(i:Int) < (m:Int):=by omega
    have hiS:i < q.S.length:=by rw [HM.out];exact hlt
    obtain ⟨r,hr⟩:∃ r,q.S[i]? = some r:=⟨_,List.getElem?_eq_getElem hiS⟩
    obtain ⟨hrc,hrl⟩:=H.out.rows r (List.mem_of_getElem? hr)
    obtain ⟨gs,cs,hvs⟩:=own_form H.out.own (by omega)
    have hAS:AS = some ⟨gs,0,none⟩:=by have:=HVS.out;rw [hvs] at this;simp only [Value.slice.injEq] at this;exact this.1.symm
    have hownS:=(H.out.below HB2.out).own
    rw [hvs] at hownS
    obtain ⟨⟨r0,-⟩,r1,-⟩:=owns_row hownS hr
    have HRC:=Hd (hrc.below HB2.out)
    have h0r:0 < r.cs.length:=by rw [hrl];have:=H.out.cols2;omega
    have HRR:=Hd h0r
    have HR:=Hd hr
    clear hr hownS hvs hrc hrl
    subst hAS
    have hb5:=below_allocs (Below.refl wr.heap.size wr) (.cells #[.slice r.A r.cs.length r.cap,.bool r.cont] 52)
    have HO5:=Hd (HOWN.out r (wr.alloc (.cells #[.slice r.A r.cs.length r.cap,.bool r.cont] 52)) (HRC.out.below hb5) h0r)
    have HB5:=Hd hb5
    clear hb5
    go_wp2_with (first
     | (go_at_call 160;refine HO5.out.mono ?_;rintro e w6 ⟨g1,cap,rfl,hrc,hb,-⟩;have HRC6:=Hd hrc;have HB6:=Hd (below_tail HB5.out hb);clear hrc hb)
     | (refine wpList_append_g rfl (.tmp 22) (.tmp 25) 46 rfl w.heap.size 52 j0 _ 2 32 Tryz.underlying46 hj gz0 gz1 gz2 rfl (by decide) bx.1 L.length (flat encRh L) rfl ((HRO2.out.below HB6.out).below (below_allocs (Below.refl _ _) _)).1 ⟨w6.heap.size,0,none⟩ 1 1 (encRh ⟨some ⟨g1,0,none⟩,r.cs,cap,r.cont⟩) rfl rfl ?_ (encRh_one _) ?_ ?_ ?_ ?_))
    all_goals first
     | (have:=HL.out;omega)
     | (simp only [maxLen];have:=HL.out;omega)
     | (have:=HB2.out.size;have:=HB6.out.size;simp;omega)
     | skip
    · intro j u hj
      rw [add_lit',Nat.zero_add]
      exact (at_ (hp_new rfl) j u (by simpa [encRh] using hj)).1
    · intro v' w7 ho hg hv'
      have hb7:=below_allocs (Below.refl w6.heap.size w6) (.cells #[.slice (some ⟨g1,0,none⟩) r.cs.length cap,.bool r.cont] 52)
      have HB7:=Hd (below_tail HB6.out hb7)
      have HRO7:=Hd (((HRO2.out.below HB6.out).below hb7).push (r:=⟨some ⟨g1,0,none⟩,r.cs,cap,r.cont⟩) ho hg (HRC6.out.below hb7) HRR.out)
      have HB8:=Hd ((below_tail HB2.out HB7.out).grown hg (below_tail HB2.out HB7.out).size (fun x hx => ((HRO2.out.below HB7.out).1.lt x hx).1))
      clear ho hg hv' hb7
      go_wp2
      go_roundw
      case rel => exact ⟨i + 1,L ++ [⟨some ⟨g1,0,none⟩,r.cs,cap,r.cont⟩],by go_num,by omega,by rw [List.length_append,HL.out];rfl,HRO7.out,by rw [List.map_append,HMP2.out,List.take_add_one,HR.out,List.map_append,List.append_assoc];rfl,HB8.out⟩
      case measure => simp [intOf];omega
end
end Go.Proofs.YtaefcahblmopfaaGreatDoor
