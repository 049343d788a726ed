/- Joined by a tool of this claim out of smaller texts. Conditions: as stated. -/
import Derived.Test.YtaefcahblmopfaaGreatDoorDp15
import Derived.Lib.TrailingZeros
import Derived.Lib.BitFns
import Derived.Laws.OwnMore
import Derived.Lib.AppendStr
set_option linter.unusedVariables false
set_option linter.unusedSimpArgs false
set_option maxRecDepth 100000
open Go.Lib renaming hid → Hd
namespace Go.Proofs.YtaefcahblmopfaaGreatDoor
open Go.RowKit
structure ScI (s:Sc):Prop where
 y0:0 ≤ s.y
 y1:s.y < s.pg.scr.length
 x0:0 ≤ s.x
 x1:s.x ≤ s.pg.cols
 t0:0 ≤ s.top
 tb:s.top ≤ s.bot
 b1:s.bot < s.pg.scr.length
section
variable {base:Nat} {w:World} {v:Sv} {s:Sc}
def ScPost (base:Nat) (w:World) (v:Sv) (s':Sc) (e:Ending) (w':World):Prop:=e = .returned (.tuple #[])∧ScRes base w v s' w'
def ScBool (base:Nat) (w:World) (v:Sv) (r:Sc × Bool) (e:Ending) (w':World):Prop:=e = .returned (.bool r.2)∧ScRes base w v r.1 w'
set_option maxHeartbeats 1600000 in
theorem sFeed_any (h:ScO base w v s) (hi:ScI s) (ht:s.pg.told.length ≤ 900000):Calls Tryz.prog 185 #[.pointer (some ⟨v.S,0,none⟩)] w (ScBool base w v (feedS s)):=by
 have hc2:=h.page.cols2
 have hc3:=h.page.cols1000
 have hr3:s.pg.scr.length ≤ 1000:=by rw [← h.page.len];exact h.page.rows1000
 have HI:=Hd (sIn_any h)
 have hy0:=hi.y0
 have hy1:=hi.y1
 have htop:=hi.t0
 obtain ⟨pg,st,pen,y,x,top,bot,sp,sy,sx,has,last⟩:=s
 obtain ⟨xi,hxi⟩:∃ xi,inS ⟨pg,st,pen,y,x,top,bot,sp,sy,sx,has,last⟩ = xi:=⟨_,rfl⟩
 unfold feedS rowsS
 rw [hxi] at HI ⊢
 simp only [] at ht hc2 hc3 hr3 hy0 hy1 htop ⊢
 have HO:=Hd h
 have HX:=Hd (at_ h.blk 17 (.int .i64 x) rfl)
 clear h hxi hi
 -- behind x is brought in
 have main:∀ w1,Below w.heap.size w w1→ScO base (w1.setCell ⟨v.S,17,none⟩ (.int .i64 xi)) v ⟨pg,st,pen,y,xi,top,bot,sp,sy,sx,has,last⟩∧Mod (scX v) w (w1.setCell ⟨v.S,17,none⟩ (.int .i64 xi)):=fun w1 hb =>
  ⟨(HO.out.below hb).put 17 _ rfl rfl rfl,(Mod.of_below hb).setCell (a:=⟨v.S,17,none⟩) (.inl (by simp [scX])) _⟩
 have HM:=Hd main
 clear main
 by_cases hyb:y = bot
 · subst hyb
   rw [if_pos rfl]
   go_enter Tryz.func185,Tryz.ntmps185
   go_upto_region 3 with (go_at_call 182;refine HI.out.mono ?_;rintro e w1 ⟨rfl,hb⟩;have HM1:=Hd (HM.out w1 hb);obtain ⟨c17,f17⟩:=hold hb HX.out;clear hb)
   generalize World.setCell _ _ _ = W3 at HM1 ⊢
   clear c17 f17
   obtain ⟨c16,-⟩:=at_ HM1.out.1.blk 16 (.int .i64 y) rfl
   obtain ⟨c19,-⟩:=at_ HM1.out.1.blk 19 (.int .i64 y) rfl
   refine wp_region_u 9 (fun w' => Below W3.heap.size W3 w'∧w'.cell? ⟨v.S,16,none⟩ = some (.int .i64 y)∧w'.cell? ⟨v.S,19,none⟩ = some (.int .i64 y)) (by kernel_rfl) (by kernel_rfl) ?_ ?_
   · exact ⟨(Below.refl _ _).drew,c16,c19⟩
   simp only [List.take_succ_cons,List.take_zero,List.drop_succ_cons,List.drop_zero]
   repeat (
    (first
     | refine seqU_skip (by rfl) ?_
     | (refine seqU_val ?_ (by rfl) ?_ ?_;rotate_left;(focus (intro w' hS;obtain ⟨_,_,_⟩:=hS;go_simp;first | done | with_reducible rfl))))
    simp only [Act.put,List.setIfInBounds_toArray,List.set_cons_zero,List.set_cons_succ])
   refine seqU_nil (fun w' hS => ?_)
   have HB4:=Hd hS.1
   clear hS c16 c19
   rename World => W4
   go_upto_region 4 with fail
   have hO4:=HM1.out.1.below HB4.out
   have HBK:Hid (∀ w',Below W4.heap.size W4 w'→Calls Tryz.prog 279 #[.pointer (some ⟨v.S,0,none⟩)] w' fun e w2 => e = .returned (.agg #[.int .i64 pen.at_.bk,.int .i64 pen.at_.bn])∧Below w'.heap.size w' w2):=Hd (fun w' hb => sBack_any (hO4.below hb))
   have HUP:Hid (∀ w',Below W4.heap.size W4 w'→Calls Tryz.prog 285 #[.pointer (some ⟨v.q.P,0,none⟩),.int .i64 top,.int .i64 y,.int .i64 1,.agg #[.int .i64 pen.at_.bk,.int .i64 pen.at_.bn]] w' (PgPost base w' v.q (timesP pg top y 1 (fun t b g => upP g t b ⟨pen.at_.bk,pen.at_.bn⟩)))) :=
    Hd (fun w' hb => pUp_any (hO4.below hb).page top y 1 ⟨pen.at_.bk,pen.at_.bn⟩ ht (by decide) (by decide))
   obtain ⟨c14,-⟩:=at_ hO4.blk 14 (.pointer (some ⟨v.q.P,0,none⟩)) rfl
   obtain ⟨c18,-⟩:=at_ hO4.blk 18 (.int .i64 top) rfl
   obtain ⟨c19,-⟩:=at_ hO4.blk 19 (.int .i64 y) rfl
   have HO4:=Hd hO4
   clear hO4
   refine wp_region_u 14 (fun w' => Below W4.heap.size W4 w'∧w'.cell? ⟨v.S,14,none⟩ = some (.pointer (some ⟨v.q.P,0,none⟩))∧w'.cell? ⟨v.S,18,none⟩ = some (.int .i64 top)∧w'.cell? ⟨v.S,19,none⟩ = some (.int .i64 y)) (by kernel_rfl) (by kernel_rfl) ?_ ?_
   · exact ⟨(Below.refl _ _).drew,c14,c18,c19⟩
   simp only [List.take_succ_cons,List.take_zero,List.drop_succ_cons,List.drop_zero]
   repeat (
    (first
     | refine seqU_skip (by rfl) ?_
     | ((refine seqU_call 279 #[.pointer (some ⟨v.S,0,none⟩)] (.agg #[.int .i64 pen.at_.bk,.int .i64 pen.at_.bn]) (by rfl) ?_ (fun w' hS => (HBK.out w' hS.1).mono fun e w2 ⟨he,hb⟩ => ⟨he,below_tail hS.1 hb,holda hb hS.2.1,holda hb hS.2.2.1,holda hb hS.2.2.2⟩) ?_;(focus (intro w2;go_simp;done))))
     | (refine seqU_val ?_ (by rfl) ?_ ?_;rotate_left;(focus (intro w' hS;obtain ⟨_,_,_,_⟩:=hS;go_simp;first | done | with_reducible rfl))))
    simp only [Act.put,List.setIfInBounds_toArray,List.set_cons_zero,List.set_cons_succ])
   refine seqU_nil (fun w' hS => ?_)
   have HB5:=Hd hS.1
   clear hS c14 c18 c19
   rename World => W5
   go_wp2_with (go_at_call 285;refine (HUP.out _ HB5.out).mono ?_;rintro e w6 ⟨rfl,hp⟩;have HP6:=Hd hp;clear hp)
   go_ret
   exact ⟨rfl,ScRes.trans ⟨rfl,rfl,rfl,((HM1.out.2.then_below HB4.out).then_below HB5.out),fun b hb => .inl hb⟩ ((HO4.out.below HB5.out).paged HP6.out)⟩
 · rw [if_neg hyb]
   have hyb2:(y == bot) = false:=by simpa using hyb
   by_cases hyr:y < (pg.scr.length:Int) - 1
   all_goals
    have hwr:IntKind.i64.wrap ((pg.scr.length:Int) - 1) = (pg.scr.length:Int) - 1:=IntWalk.i64_in _ (by omega)
    go_enter Tryz.func185,Tryz.ntmps185
    go_upto_region 3 with (go_at_call 182;refine HI.out.mono ?_;rintro e w1 ⟨rfl,hb⟩;have HM1:=Hd (HM.out w1 hb);obtain ⟨c17,f17⟩:=hold hb HX.out;clear hb)
    generalize World.setCell _ _ _ = W3 at HM1 ⊢
    clear c17 f17
    obtain ⟨c16,-⟩:=at_ HM1.out.1.blk 16 (.int .i64 y) rfl
    obtain ⟨c19,-⟩:=at_ HM1.out.1.blk 19 (.int .i64 bot) rfl
    refine wp_region_u 9 (fun w' => Below W3.heap.size W3 w'∧w'.cell? ⟨v.S,16,none⟩ = some (.int .i64 y)∧w'.cell? ⟨v.S,19,none⟩ = some (.int .i64 bot)) (by kernel_rfl) (by kernel_rfl) ?_ ?_
    · exact ⟨(Below.refl _ _).drew,c16,c19⟩
    simp only [List.take_succ_cons,List.take_zero,List.drop_succ_cons,List.drop_zero]
    repeat (
     (first
      | refine seqU_skip (by rfl) ?_
      | (refine seqU_val ?_ (by rfl) ?_ ?_;rotate_left;(focus (intro w' hS;obtain ⟨_,_,_⟩:=hS;go_simp;first | done | with_reducible rfl))))
     simp only [Act.put,List.setIfInBounds_toArray,List.set_cons_zero,List.set_cons_succ])
    refine seqU_nil (fun w' hS => ?_)
    have HB4:=Hd hS.1
    clear hS c16 c19
    rename World => W4
    go_upto_region 5 with fail
    have hO4:=HM1.out.1.below HB4.out
    have HRW:Hid (∀ w',Below W4.heap.size W4 w'→Calls Tryz.prog 152 #[.pointer (some ⟨v.S,0,none⟩)] w' fun e w2 => e = .returned (.int .i64 pg.scr.length)∧w' = w2):=Hd (fun w' hb => sRows_any (hO4.below hb))
    obtain ⟨c16,-⟩:=at_ hO4.blk 16 (.int .i64 y) rfl
    have HO4:=Hd hO4
    clear hO4
    refine wp_region_u 8 (fun w' => Below W4.heap.size W4 w'∧w'.cell? ⟨v.S,16,none⟩ = some (.int .i64 y)) (by kernel_rfl) (by kernel_rfl) ?_ ?_
    · exact ⟨(Below.refl _ _).drew,c16⟩
    simp only [List.take_succ_cons,List.take_zero,List.drop_succ_cons,List.drop_zero]
    repeat (
     (first
      | refine seqU_skip (by rfl) ?_
      | ((refine seqU_call 152 #[.pointer (some ⟨v.S,0,none⟩)] (.int .i64 pg.scr.length) (by rfl) ?_ (fun w' hS => (HRW.out w' hS.1).mono fun e w2 ⟨he,hb⟩ => ⟨he,hb ▸ hS⟩) ?_;(focus (intro w2;go_simp;done))))
      | (refine seqU_val ?_ (by rfl) ?_ ?_;rotate_left;(focus (intro w' hS;obtain ⟨_,_⟩:=hS;go_simp;first | done | with_reducible rfl))))
     simp only [Act.put,List.setIfInBounds_toArray,List.set_cons_zero,List.set_cons_succ])
    refine seqU_nil (fun w' hS => ?_)
    have HB5:=Hd hS.1
    clear hS c16
    rename World => W5
    obtain ⟨c16,f16⟩:=at_ (HO4.out.below HB5.out).blk 16 (.int .i64 y) rfl
    have hwy:IntKind.i64.wrap (y + 1) = y + 1:=IntWalk.i64_in _ (by omega)
   · rw [if_pos hyr]
     go_wp2
     go_ret
     exact ⟨rfl,ScRes.trans ⟨rfl,rfl,rfl,((HM1.out.2.then_below HB4.out).then_below HB5.out),fun b hb => .inl hb⟩ ⟨v,rfl,rfl,rfl,(HO4.out.below HB5.out).put 16 _ rfl rfl rfl,ScO.mod_put 16 _,fun b hb => .inl hb⟩⟩
   · rw [if_neg (by omega)]
     go_wp2
     go_ret
     exact ⟨rfl,ScRes.trans ⟨rfl,rfl,rfl,((HM1.out.2.then_below HB4.out).then_below HB5.out),fun b hb => .inl hb⟩ (HO4.out.below HB5.out).res⟩
theorem rowP_told (g:Pg) (y:Int) (F:List Cl→List Cl):(rowP g y F).told = g.told∧(rowP g y F).room = g.room∧(rowP g y F).hist = g.hist∧(rowP g y F).gone = g.gone:=by
 unfold rowP
 split <;> exact ⟨rfl,rfl,rfl,rfl⟩
theorem padS_same (s:Sc):(padS s).pg.scr.length = s.pg.scr.length∧(padS s).pg.cols = s.pg.cols∧(padS s).pg.told = s.pg.told∧(padS s).y = s.y∧(padS s).x = s.x∧(padS s).top = s.top∧(padS s).bot = s.bot:=by
 unfold padS
 split
 · exact ⟨(rowP_len _ _).1,(rowP_len _ _).2,(rowP_told _ _ _).1,rfl,rfl,rfl,rfl⟩
 · exact ⟨rfl,rfl,rfl,rfl,rfl,rfl,rfl⟩
theorem ScI.pad (h:ScI s):ScI (padS s):=by
 obtain ⟨a1,a2,a3,a4,a5,a6,a7⟩:=padS_same s
 refine ⟨?_,?_,?_,?_,?_,?_,?_⟩
 · rw [a4];exact h.y0
 · rw [a4,a1];exact h.y1
 · rw [a5];exact h.x0
 · rw [a5,a2];exact h.x1
 · rw [a6];exact h.t0
 · rw [a6,a7];exact h.tb
 · rw [a7,a1];exact h.b1
set_option maxHeartbeats 3200000 in
theorem sRoom_any (h:ScO base w v s) (hi:ScI s) (ht:s.pg.told.length ≤ 900000) (n:Int) (hn1:1 ≤ n) (hn2:n ≤ 2):Calls Tryz.prog 277 #[.pointer (some ⟨v.S,0,none⟩),.int .i64 n] w (ScPost base w v (roomS s n)):=by
 have hc2:=h.page.cols2
 have hc3:=h.page.cols1000
 have hx0:=hi.x0
 have hx1:=hi.x1
 have HC:Hid (∀ w',Below w.heap.size w w'→Calls Tryz.prog 197 #[.pointer (some ⟨v.S,0,none⟩)] w' fun e w2 => e = .returned (.int .i64 s.pg.cols)∧w' = w2):=Hd (fun w' hb => sCols_any (h.below hb))
 have hwx:IntKind.i64.wrap (s.x + n) = s.x + n:=IntWalk.i64_in _ (by omega)
 have hwc:IntKind.i64.wrap ((s.pg.cols:Int) - n) = (s.pg.cols:Int) - n:=IntWalk.i64_in _ (by omega)
 have HO:=Hd h
 have HI:=Hd hi
 obtain ⟨c17,-⟩:=at_ h.blk 17 (.int .i64 s.x) rfl
 have hroom:roomS s n = if s.x + n ≤ s.pg.cols then s else if s.pen.wrap = false then { s with x:=(s.pg.cols:Int) - n } else onS (feedS (padS s)):=rfl
 rw [hroom]
 clear hroom h hi
 by_cases hA:s.x + n ≤ s.pg.cols
 · rw [if_pos hA]
   go_enter Tryz.func277,Tryz.ntmps277
   go_upto_region 0 with fail
   refine wp_region_u 8 (fun w' => Below w.heap.size w w'∧w'.cell? ⟨v.S,17,none⟩ = some (.int .i64 s.x)) (by kernel_rfl) (by kernel_rfl) ?_ ?_
   · exact ⟨(Below.refl _ _).drew,c17⟩
   simp only [List.take_succ_cons,List.take_zero,List.drop_succ_cons,List.drop_zero]
   repeat (
    (first
     | refine seqU_skip (by rfl) ?_
     | ((refine seqU_call 197 #[.pointer (some ⟨v.S,0,none⟩)] (.int .i64 s.pg.cols) (by rfl) ?_ (fun w' hS => (HC.out w' hS.1).mono fun e w2 ⟨he,hb⟩ => ⟨he,hb ▸ hS⟩) ?_;(focus (intro w2;go_simp;done))))
     | (refine seqU_val ?_ (by rfl) ?_ ?_;rotate_left;(focus (intro w' hS;obtain ⟨_,_⟩:=hS;go_simp;first | done | with_reducible rfl))))
    simp only [Act.put,List.setIfInBounds_toArray,List.set_cons_zero,List.set_cons_succ])
   refine seqU_nil (fun w' hS => ?_)
   go_wp2
   go_end0
   exact ⟨rfl,HO.out.res_below hS.1⟩
 · rw [if_neg hA]
   have hA2:¬ s.x + n ≤ (s.pg.cols:Int):=hA
   cases hwrap:s.pen.wrap with
   | false =>
     rw [if_pos rfl]
     go_enter Tryz.func277,Tryz.ntmps277
     go_upto_region 0 with fail
     refine wp_region_u 8 (fun w' => Below w.heap.size w w'∧w'.cell? ⟨v.S,17,none⟩ = some (.int .i64 s.x)) (by kernel_rfl) (by kernel_rfl) ?_ ?_
     · exact ⟨(Below.refl _ _).drew,c17⟩
     simp only [List.take_succ_cons,List.take_zero,List.drop_succ_cons,List.drop_zero]
     repeat (
      (first
       | refine seqU_skip (by rfl) ?_
       | ((refine seqU_call 197 #[.pointer (some ⟨v.S,0,none⟩)] (.int .i64 s.pg.cols) (by rfl) ?_ (fun w' hS => (HC.out w' hS.1).mono fun e w2 ⟨he,hb⟩ => ⟨he,hb ▸ hS⟩) ?_;(focus (intro w2;go_simp;done))))
       | (refine seqU_val ?_ (by rfl) ?_ ?_;rotate_left;(focus (intro w' hS;obtain ⟨_,_⟩:=hS;go_simp;first | done | with_reducible rfl))))
      simp only [Act.put,List.setIfInBounds_toArray,List.set_cons_zero,List.set_cons_succ])
     refine seqU_nil (fun w' hS => ?_)
     have HB1:=Hd hS.1
     clear hS c17
     rename World => W1
     obtain ⟨c12,-⟩:=at_ (HO.out.below HB1.out).blk 12 (.bool s.pen.wrap) rfl
     rw [hwrap] at c12
     obtain ⟨c17,f17⟩:=at_ (HO.out.below HB1.out).blk 17 (.int .i64 s.x) rfl
     go_wp2_with (go_at_call 197;refine (HC.out _ HB1.out).mono ?_;rintro e w2 ⟨rfl,rfl⟩)
     go_end0
     exact ⟨rfl,ScRes.trans ⟨rfl,rfl,rfl,Mod.of_below HB1.out,fun b hb => .inl hb⟩ ⟨v,rfl,rfl,rfl,(HO.out.below HB1.out).put 17 _ rfl rfl rfl,ScO.mod_put 17 _,fun b hb => .inl hb⟩⟩
   | true =>
     rw [if_neg (by decide)]
     obtain ⟨r,hr⟩:∃ r,feedS (padS s) = r:=⟨_,rfl⟩
     rw [hr]
     have HRR:=Hd hr
     clear hr
     obtain ⟨s5,on⟩:=r
     by_cases hxc:s.x < s.pg.cols
     all_goals
      go_enter Tryz.func277,Tryz.ntmps277
      go_upto_region 0 with fail
      refine wp_region_u 8 (fun w' => Below w.heap.size w w'∧w'.cell? ⟨v.S,17,none⟩ = some (.int .i64 s.x)) (by kernel_rfl) (by kernel_rfl) ?_ ?_
      · exact ⟨(Below.refl _ _).drew,c17⟩
      simp only [List.take_succ_cons,List.take_zero,List.drop_succ_cons,List.drop_zero]
      repeat (
       (first
        | refine seqU_skip (by rfl) ?_
        | ((refine seqU_call 197 #[.pointer (some ⟨v.S,0,none⟩)] (.int .i64 s.pg.cols) (by rfl) ?_ (fun w' hS => (HC.out w' hS.1).mono fun e w2 ⟨he,hb⟩ => ⟨he,hb ▸ hS⟩) ?_;(focus (intro w2;go_simp;done))))
        | (refine seqU_val ?_ (by rfl) ?_ ?_;rotate_left;(focus (intro w' hS;obtain ⟨_,_⟩:=hS;go_simp;first | done | with_reducible rfl))))
       simp only [Act.put,List.setIfInBounds_toArray,List.set_cons_zero,List.set_cons_succ])
      refine seqU_nil (fun w' hS => ?_)
      have HB1:=Hd hS.1
      clear hS c17
      rename World => W1
      obtain ⟨c12,-⟩:=at_ (HO.out.below HB1.out).blk 12 (.bool s.pen.wrap) rfl
      rw [hwrap] at c12
      obtain ⟨c17,f17⟩:=at_ (HO.out.below HB1.out).blk 17 (.int .i64 s.x) rfl
      go_upto_region 3 with fail
      clear c12
      refine wp_region_u 6 (fun w' => Below w.heap.size w w'∧w'.cell? ⟨v.S,17,none⟩ = some (.int .i64 s.x)) (by kernel_rfl) (by kernel_rfl) ?_ ?_
      · exact ⟨HB1.out.drew,c17⟩
      simp only [List.take_succ_cons,List.take_zero,List.drop_succ_cons,List.drop_zero]
      repeat (
       (first
        | refine seqU_skip (by rfl) ?_
        | ((refine seqU_call 197 #[.pointer (some ⟨v.S,0,none⟩)] (.int .i64 s.pg.cols) (by rfl) ?_ (fun w' hS => (HC.out w' hS.1).mono fun e w2 ⟨he,hb⟩ => ⟨he,hb ▸ hS⟩) ?_;(focus (intro w2;go_simp;done))))
        | (refine seqU_val ?_ (by rfl) ?_ ?_;rotate_left;(focus (intro w' hS;obtain ⟨_,_⟩:=hS;go_simp;first | done | with_reducible rfl))))
       simp only [Act.put,List.setIfInBounds_toArray,List.set_cons_zero,List.set_cons_succ])
      refine seqU_nil (fun w' hS => ?_)
      have HB2:=Hd hS.1
      clear hS c17 f17
      rename World => W2
     go_upto_region 4 with fail
     have hO2:=HO.out.below HB2.out
     have HPD:Hid (∀ w',Below W2.heap.size W2 w'→Calls Tryz.prog 341 #[.pointer (some ⟨v.q.P,0,none⟩),.int .i64 s.y] w' (PgPost base w' v.q (rowP s.pg s.y closeL))):=Hd (fun w' hb => pPad_any (hO2.below hb).page s.y)
     obtain ⟨c14,-⟩:=at_ hO2.blk 14 (.pointer (some ⟨v.q.P,0,none⟩)) rfl
     obtain ⟨c16,-⟩:=at_ hO2.blk 16 (.int .i64 s.y) rfl
     have HO2:=Hd hO2
     clear hO2
     refine wp_region_u 8 (fun w' => Below W2.heap.size W2 w'∧w'.cell? ⟨v.S,14,none⟩ = some (.pointer (some ⟨v.q.P,0,none⟩))∧w'.cell? ⟨v.S,16,none⟩ = some (.int .i64 s.y)) (by kernel_rfl) (by kernel_rfl) ?_ ?_
     · exact ⟨(Below.refl _ _).drew,c14,c16⟩
     simp only [List.take_succ_cons,List.take_zero,List.drop_succ_cons,List.drop_zero]
     repeat (
      (first
       | refine seqU_skip (by rfl) ?_
       | (refine seqU_val ?_ (by rfl) ?_ ?_;rotate_left;(focus (intro w' hS;obtain ⟨_,_,_⟩:=hS;go_simp;first | done | with_reducible rfl))))
      simp only [Act.put,List.setIfInBounds_toArray,List.set_cons_zero,List.set_cons_succ])
     refine seqU_nil (fun w' hS => ?_)
     have HB3:=Hd hS.1
     clear hS c14 c16
     rename World => W3
     go_upto_region 5 with (go_at_call 341;refine (HPD.out _ HB3.out).mono ?_;rintro e w4 ⟨rfl,hp⟩;have HP4:=Hd hp;clear hp)
     have HR:Hid (ScRes base w v (padS s) w4):=Hd (by
      have e:padS s = { s with pg:=rowP s.pg s.y closeL }:=by unfold padS colsS;rw [if_pos hxc]
      rw [e]
      exact ScRes.trans ⟨rfl,rfl,rfl,(Mod.of_below HB2.out).then_below HB3.out,fun b hb => .inl hb⟩ ((HO2.out.below HB3.out).paged HP4.out))
     clear HB1 HB2 HB3 HP4 HO2 HPD
     rename World => W4
     rotate_left
     have HR:Hid (ScRes base w v (padS s) W2):=Hd (by
      have e:padS s = s:=by unfold padS colsS;rw [if_neg (show ¬ s.x < (s.pg.cols:Int) by omega)]
      rw [e]
      exact HO.out.res_below HB2.out)
     clear HB1 HB2
     rename World => W4
     go_upto_region 5 with fail
     all_goals
      obtain ⟨v4,e1,e2,e3,hO4,hm4,hx4⟩:=HR.out
      obtain ⟨p1,-,p3,-⟩:=padS_same s
      have HF:=Hd (sFeed_any hO4 HI.out.pad (by rw [p3];exact ht))
      rw [e1,HRR.out] at HF
      have HE:=Hd (show v4.S = v.S∧v4.T = v.T∧v4.q.P = v.q.P∧Mod (scX v) w W4∧∀ b ∈ scX v4,b ∈ scX v ∨ w.heap.size ≤ b from ⟨e1,e2,e3,hm4,hx4⟩)
      clear hO4 hm4 hx4 e1 e2 e3 HR
      go_upto_region 6 with (go_at_call 185;refine HF.out.mono ?_;rintro e w5 ⟨rfl,hs⟩;have HS5:=Hd (ScRes.trans HE.out hs);clear hs)
      obtain ⟨v5,e1,e2,e3,hO5,hm5,hx5⟩:=HS5.out
      obtain ⟨c17,f17⟩:=at_ hO5.blk 17 (.int .i64 s5.x) rfl
      rw [e1] at c17 f17
      have HO6:=Hd (hO5.put 17 (.int .i64 0) (s':={ s5 with x:=0 }) rfl rfl rfl)
      have HM6:=Hd (hm5.trans (ScO.mod_put (v:=v5) (w:=w5) 17 (.int .i64 0)) hx5)
      rw [e1] at HO6 HM6
      have HE6:=Hd (show v5.S = v.S∧v5.T = v.T∧v5.q.P = v.q.P∧∀ b ∈ scX v5,b ∈ scX v ∨ w.heap.size ≤ b from ⟨e1,e2,e3,hx5⟩)
      clear hO5 hm5 hx5 e2 e3 HE HS5
      go_upto_region 7 with fail
      generalize World.setCell _ _ _ = W6 at HO6 HM6 ⊢
      clear c17 f17
      cases on with
      | false =>
        go_wp2
        go_end0
        exact ⟨rfl,v5,HE6.out.1,HE6.out.2.1,HE6.out.2.2.1,HO6.out,HM6.out,HE6.out.2.2.2⟩
      | true =>
        go_upto_region 8 with fail
        have HW:Hid (∀ w',Below W6.heap.size W6 w'→Calls Tryz.prog 342 #[.pointer (some ⟨v5.q.P,0,none⟩),.int .i64 s5.y] w' (PgPost base w' v5.q (contP s5.pg s5.y true))):=Hd (fun w' hb => pWrap_any (HO6.out.below hb).page s5.y)
        obtain ⟨c14,-⟩:=at_ HO6.out.blk 14 (.pointer (some ⟨v5.q.P,0,none⟩)) rfl
        obtain ⟨c16,-⟩:=at_ HO6.out.blk 16 (.int .i64 s5.y) rfl
        rw [e1] at c14 c16
        refine wp_region_u 8 (fun w' => Below W6.heap.size W6 w'∧w'.cell? ⟨v.S,14,none⟩ = some (.pointer (some ⟨v5.q.P,0,none⟩))∧w'.cell? ⟨v.S,16,none⟩ = some (.int .i64 s5.y)) (by kernel_rfl) (by kernel_rfl) ?_ ?_
        · exact ⟨(Below.refl _ _).drew,c14,c16⟩
        simp only [List.take_succ_cons,List.take_zero,List.drop_succ_cons,List.drop_zero]
        repeat (
         (first
          | refine seqU_skip (by rfl) ?_
          | (refine seqU_val ?_ (by rfl) ?_ ?_;rotate_left;(focus (intro w' hS;obtain ⟨_,_,_⟩:=hS;go_simp;first | done | with_reducible rfl))))
         simp only [Act.put,List.setIfInBounds_toArray,List.set_cons_zero,List.set_cons_succ])
        refine seqU_nil (fun w' hS => ?_)
        have HB7:=Hd hS.1
        clear hS c14 c16
        go_wp2_with (go_at_call 342;refine (HW.out _ HB7.out).mono ?_;rintro e w8 ⟨rfl,hp⟩;have HP8:=Hd hp;clear hp)
        go_end0
        exact ⟨rfl,ScRes.trans ⟨HE6.out.1,HE6.out.2.1,HE6.out.2.2.1,HM6.out.then_below HB7.out,HE6.out.2.2.2⟩ ((HO6.out.below HB7.out).paged HP8.out)⟩
end
structure Sg where
 kind:Int
 code:Int
 has:Bool
 text:ByteArray
structure Cg where
 told:Bool
 sg:Sg
 row:Int
 col:Int
 sh:Tl
structure Tm where
 pz:Pz
 s0:Sc
 s1:Sc
 use:Bool
 modes:Int
 title:ByteArray
 rep:List UInt8
 ch:List Cg
def modesT:List Int:=[4,20,1,5,6,7,25,47,66,1000,1002,1003,1004,1006,1047,1048,1049,2004]
def placeM (priv:Bool) (n:Int):Nat:=if priv then 2 + (modesT.drop 2).findIdx (· == n) else (modesT.take 2).findIdx (· == n)
def knownM (priv:Bool) (n:Int):Bool:=if priv then decide (placeM true n < 18) else decide (placeM false n < 2)
def withM (b:Int) (priv:Bool) (n:Int) (on:Bool):Int :=
 if knownM priv n then (if on then (b.toNat ||| 2 ^ placeM priv n:Nat) else (b.toNat &&& (4294967295 - 2 ^ placeM priv n):Nat)) else b
def newM:Int:=withM (withM 0 true 7 true) true 25 true
def curT (t:Tm):Sc:=if t.use then t.s1 else t.s0
def putT (t:Tm) (s:Sc):Tm:=if t.use then { t with s1:=s } else { t with s0:=s }
def doT (t:Tm) (f:Sc→Sc):Tm:=putT t (f (curT t))
def getG (l:List (List Int)) (i:Nat) (usual:Int):Int:=if i < (cleanL l).length then (if ((cleanL l).getD i []).headD 0 = -1 then usual else ((cleanL l).getD i []).headD 0) else usual
def countG (l:List (List Int)) (i:Nat):Int:=max 1 (getG l i 1)
def bV (xs:List Int):List Value:=xs.map (fun x => .int .u8 x)
theorem bV_snoc (xs:List Int) (c:Int):bV xs ++ [.int .u8 c] = bV (xs ++ [c]):=by simp [bV]
structure Zv where
 P:Nat
 r:Nat→Value
def Pz.r (p:Pz):Nat→List Int
 | 0 => p.head
 | 1 => p.inter
 | _ => p.text
def Pz.sr (p:Pz) (xs:List Int):Nat→Pz
 | 0 => { p with head:=xs }
 | 1 => { p with inter:=xs }
 | _ => { p with text:=xs }
def Zv.sr (v:Zv) (k:Nat) (x:Value):Zv:={ v with r:=fun i => if i = k then x else v.r i }
def encPz (p:Pz) (v:Zv):List Value :=
 [.int .u8 p.pre,v.r 0,v.r 1,v.r 2,.int .u8 p.last,.bool p.wrong,.bool p.cut,.int .i64 p.most,.int .i64 p.state,.int .i32 p.dec.n,.int .i64 p.dec.need,.int .i64 p.dec.hv,.int .u8 p.dec.lo,.int .u8 p.dec.hi]
def ParB (w:World) (v:Zv) (p:Pz):Prop:=w.heap[v.P]? = some (.cells (encPz p v).toArray 134 (0,0))
theorem ParB.lt {w:World} {v:Zv} {p:Pz} (h:ParB w v p):v.P < w.heap.size:=(Array.getElem?_eq_some_iff.1 h).1
theorem ParB.put {w:World} {v v':Zv} {p p':Pz} (h:ParB w v p) (i:Nat) (x:Value) (hP:v'.P = v.P) (he:(encPz p v).set i x = encPz p' v'):ParB (w.setCell ⟨v.P,i,none⟩ x) v' p':=by
 have:=heap_setCell_eq (o:=i) (v:=x) h
 rw [List.setIfInBounds_toArray,he] at this
 unfold ParB
 rw [hP]
 exact this
theorem ParB.keep {w w':World} {v:Zv} {p:Pz} {r:Option Nat} (h:ParB w v p) (hg:w.grownBy w' r) (hr:r ≠ some v.P):ParB w' v p:=(hg.block v.P h.lt (fun e => hr e.symm)).trans h
theorem ParB.below {w w':World} {v:Zv} {p:Pz} (h:ParB w v p) (hb:Below w.heap.size w w'):ParB w' v p:=(hb.block v.P h.lt).trans h
def Zin (v:Zv) (b:Nat):Prop:=∃ k,k < 3∧(v.r k).ownBlock = some b
def zvX (v:Zv):List Nat:=v.P :: ([0,1,2].flatMap fun k => (v.r k).ownBlock.toList)
theorem mem_zvX {v:Zv} {b:Nat}:b ∈ zvX v ↔ b = v.P ∨ Zin v b:=by
 unfold zvX Zin
 simp only [List.mem_cons,List.flatMap_cons,List.flatMap_nil,List.append_nil,List.mem_append,Option.mem_toList]
 constructor
 · rintro (h | h | h | h)
   · exact .inl h
   · exact .inr ⟨0,by omega,h⟩
   · exact .inr ⟨1,by omega,h⟩
   · exact .inr ⟨2,by omega,h⟩
 · rintro (h | ⟨k,hk,h⟩)
   · exact .inl h
   · match k,hk,h with
     | 0,_,h => exact .inr (.inl h)
     | 1,_,h => exact .inr (.inr (.inl h))
     | 2,_,h => exact .inr (.inr (.inr h))
structure PzO (base:Nat) (w:World) (v:Zv) (p:Pz):Prop where
 blk:ParB w v p
 hb:base ≤ v.P
 row:∀ k,k < 3→w.ownsRow base 5 1 (v.r k) (p.r k).length (bV (p.r k))
 nd:∀ i j g,i < 3→j < 3→i ≠ j→(v.r i).ownBlock = some g→(v.r j).ownBlock ≠ some g
section
variable {base:Nat} {w:World} {v:Zv} {p:Pz}
theorem PzO.types (h:PzO base w v p):∀ b ∈ zvX v,∃ cur ty,w.heap[b]? = some (.cells cur ty (0,0))∧(ty = 134 ∨ ty = 5):=by
 intro b hb
 rcases mem_zvX.1 hb with rfl | ⟨k,hk,hg⟩
 · exact ⟨_,_,h.blk,.inl rfl⟩
 · obtain ⟨cur,hc⟩:=own_block (h.row k hk) hg
   exact ⟨_,_,hc,.inr rfl⟩
theorem PzO.np (h:PzO base w v p):¬ Zin v v.P:=fun ⟨k,hk,hg⟩ => by
 obtain ⟨cur,hc⟩:=own_block (h.row k hk) hg
 have hb:w.heap[v.P]? = _:=h.blk
 rw [hb,Option.some.injEq,Obj.cells.injEq] at hc
 exact absurd hc.2.1 (by decide)
theorem PzO.lt (h:PzO base w v p):∀ b ∈ zvX v,base ≤ b∧b < w.heap.size:=by
 intro b hb
 rcases mem_zvX.1 hb with rfl | ⟨k,hk,hg⟩
 · exact ⟨h.hb,h.blk.lt⟩
 · exact (h.row k hk).lt b hg
theorem PzO.nocel (h:PzO base w v p):NoCel w (zvX v):=fun b hb cs f he => by
 obtain ⟨cur,ty,h1,h2⟩:=h.types b hb
 rw [he,Option.some.injEq,Obj.cells.injEq] at h1
 obtain ⟨-,rfl,-⟩:=h1
 rcases h2 with h2 | h2 <;> exact absurd h2 (by decide)
theorem PzO.mod {X:List Nat} {w':World} (h:PzO base w v p) (hm:Mod X w w') (hd:∀ b ∈ zvX v,b ∉ X):PzO base w' v p :=
 ⟨(hm.block v.P h.blk.lt (hd _ (mem_zvX.2 (.inl rfl)))).trans h.blk,h.hb,fun k hk => owns_mod (h.row k hk) hm (fun g hg => hd g (mem_zvX.2 (.inr ⟨k,hk,hg⟩))),h.nd⟩
theorem PzO.below {w':World} (h:PzO base w v p) (hb:Below w.heap.size w w'):PzO base w' v p:=h.mod (Mod.of_below (X:=[]) hb) (fun _ _ h => by cases h)
def PzRes (base:Nat) (w:World) (v:Zv) (p':Pz) (w':World):Prop :=
 ∃ v',v'.P = v.P∧PzO base w' v' p'∧Mod (zvX v) w w'∧∀ b ∈ zvX v',b ∈ zvX v ∨ w.heap.size ≤ b
theorem PzO.res (h:PzO base w v p):PzRes base w v p w:=⟨v,rfl,h,Mod.refl _ _,fun _ hb => .inl hb⟩
theorem PzO.res_below {w':World} (h:PzO base w v p) (hb:Below w.heap.size w w'):PzRes base w v p w':=⟨v,rfl,h.below hb,Mod.of_below hb,fun _ hb => .inl hb⟩
theorem PzRes.trans {w1 w2:World} {v1:Zv} {p2:Pz} (h1:v1.P = v.P∧Mod (zvX v) w w1∧∀ b ∈ zvX v1,b ∈ zvX v ∨ w.heap.size ≤ b) (h2:PzRes base w1 v1 p2 w2):PzRes base w v p2 w2:=by
 obtain ⟨e1,hm,hx⟩:=h1
 obtain ⟨v2,a1,a4,a5,a6⟩:=h2
 refine ⟨v2,a1.trans e1,a4,hm.trans a5 hx,fun b hb => ?_⟩
 rcases a6 b hb with h | h
 · exact hx b h
 · exact .inr (Nat.le_trans hm.size h)
theorem PzRes.pre {w1 w2:World} {p2:Pz} (hb:Below w.heap.size w w1) (h2:PzRes base w1 v p2 w2):PzRes base w v p2 w2:=PzRes.trans ⟨rfl,Mod.of_below hb,fun _ hb => .inl hb⟩ h2
theorem PzO.reblk {v':Zv} {p':Pz} {w':World} (h:PzO base w v p) (hm:Mod [v.P] w w') (hP:v'.P = v.P) (hb:ParB w' v' p') (hr:∀ k,k < 3→(v'.r k = v.r k∧p'.r k = p.r k) ∨ (v'.r k = .slice none 0 0∧p'.r k = [])):PzRes base w v p' w':=by
 have hn:∀ k,k < 3→∀ g,(v'.r k).ownBlock = some g→(v.r k).ownBlock = some g:=fun k hk g hg => by
  rcases hr k hk with ⟨e,-⟩ | ⟨e,-⟩
  · rw [← e];exact hg
  · rw [e] at hg;cases hg
 refine ⟨v',hP,⟨hb,by rw [hP];exact h.hb,fun k hk => ?_,fun i j g hi hj hne h1 h2 => h.nd i j g hi hj hne (hn i hi g h1) (hn j hj g h2)⟩,hm.mono (fun b hb => mem_zvX.2 (.inl (List.mem_singleton.1 hb))),fun b hb => .inl ?_⟩
 · rcases hr k hk with ⟨e1,e2⟩ | ⟨e1,e2⟩
   · rw [e1,e2]
     exact owns_mod (h.row k hk) hm (fun g hg hx => h.np ⟨k,hk,by rw [← List.mem_singleton.1 hx];exact hg⟩)
   · rw [e1,e2]
     exact World.ownsRow_nil w' base 5 1
 · rcases mem_zvX.1 hb with rfl | ⟨k,hk,hg⟩
   · exact mem_zvX.2 (.inl hP)
   · exact mem_zvX.2 (.inr ⟨k,hk,hn k hk b hg⟩)
theorem PzO.one {p':Pz} (h:PzO base w v p) (i:Nat) (x:Value) (he:(encPz p v).set i x = encPz p' v) (hr:∀ k,k < 3→p'.r k = p.r k):PzRes base w v p' (w.setCell ⟨v.P,i,none⟩ x) :=
 h.reblk ((Mod.refl _ _).setCell (a:=⟨v.P,i,none⟩) (.inl (by simp)) _) rfl (h.blk.put i x rfl he) (fun k hk => .inl ⟨rfl,hr k hk⟩)
theorem PzO.grow (h:PzO base w v p) {k:Nat} (hk:k < 3) {w2:World} {xs:List Int} {v':Value} (hg:w.grownBy w2 (v.r k).ownBlock) (ho:w2.ownsRow base 5 1 v' xs.length (bV xs)) (hn:∀ g,v'.ownBlock = some g→(v.r k).ownBlock = some g ∨ w.heap.size ≤ g) :
 PzRes base w v (p.sr xs k) (w2.setCell ⟨v.P,k + 1,none⟩ v'):=by
 have hm:Mod ((v.r k).ownBlock.toList) w w2:=Mod.of_grown hg (fun g e => by simp [e])
 have hnp:(v.r k).ownBlock ≠ some v.P:=fun hx => h.np ⟨k,hk,hx⟩
 have hM:Mod [v.P] w2 (w2.setCell ⟨v.P,k + 1,none⟩ v'):=(Mod.refl _ _).setCell (a:=⟨v.P,k + 1,none⟩) (.inl (by simp)) _
 have hP:v.P < w.heap.size:=h.blk.lt
 have hb2:ParB w2 v p:=h.blk.keep hg hnp
 have hv':∀ g,v'.ownBlock = some g→g ∉ [v.P]:=fun g hg' hx => by
  rw [List.mem_singleton.1 hx] at hg'
  rcases hn _ hg' with h1 | h1
  · exact hnp h1
  · omega
 have hnew:∀ j g,j < 3→j ≠ k→(v.r j).ownBlock = some g→v'.ownBlock ≠ some g:=fun j g hj hjk h1 h2 => by
  rcases hn g h2 with h3 | h3
  · exact h.nd j k g hj hk hjk h1 h3
  · have:=((h.row j hj).lt g h1).2;omega
 have e1:∀ j,(v.sr k v').r j = if j = k then v' else v.r j:=fun _ => rfl
 have e2:∀ j,j < 3→(p.sr xs k).r j = if j = k then xs else p.r j:=fun j hj => by
  match k,j,hk,hj with
  | 0,0,_,_ => rfl
  | 0,1,_,_ => rfl
  | 0,2,_,_ => rfl
  | 1,0,_,_ => rfl
  | 1,1,_,_ => rfl
  | 1,2,_,_ => rfl
  | 2,0,_,_ => rfl
  | 2,1,_,_ => rfl
  | 2,2,_,_ => rfl
 refine ⟨v.sr k v',rfl,⟨hb2.put (v':=v.sr k v') (k + 1) v' rfl ?_,h.hb,fun j hj => ?_,fun i j g hi hj hne h1 h2 => ?_⟩,(hm.mono (fun b hb => mem_zvX.2 (.inr ⟨k,hk,Option.mem_toList.1 hb⟩))).trans hM (fun g hg' => .inl (mem_zvX.2 (.inl (List.mem_singleton.1 hg')))),fun b hb => ?_⟩
 · match k,hk with
   | 0,_ => rfl
   | 1,_ => rfl
   | 2,_ => rfl
 · rw [e1,e2 j hj]
   by_cases hjk:j = k
   · rw [if_pos hjk,if_pos hjk]
     exact owns_mod ho hM hv'
   · rw [if_neg hjk,if_neg hjk]
     exact owns_mod (owns_mod (h.row j hj) hm (fun g hg' hx => h.nd j k g hj hk hjk hg' (Option.mem_toList.1 hx))) hM (fun g hg' hx => h.np ⟨j,hj,by rw [← List.mem_singleton.1 hx];exact hg'⟩)
 · rw [e1] at h1 h2
   by_cases hik:i = k
   · rw [if_pos hik] at h1
     rw [if_neg (fun e => hne (hik.trans e.symm))] at h2
     exact hnew j g hj (fun e => hne (hik.trans e.symm)) h2 h1
   · rw [if_neg hik] at h1
     by_cases hjk:j = k
     · rw [if_pos hjk] at h2
       exact hnew i g hi hik h1 h2
     · rw [if_neg hjk] at h2
       exact h.nd i j g hi hj hne h1 h2
 · rcases mem_zvX.1 hb with rfl | ⟨j,hj,hg'⟩
   · exact .inl (mem_zvX.2 (.inl rfl))
   · rw [e1] at hg'
     by_cases hjk:j = k
     · rw [if_pos hjk] at hg'
       rcases hn b hg' with h1 | h1
       · exact .inl (mem_zvX.2 (.inr ⟨k,hk,h1⟩))
       · exact .inr h1
     · rw [if_neg hjk] at hg'
       exact .inl (mem_zvX.2 (.inr ⟨j,hj,hg'⟩))
end
def encCg (c:Cg):List Value:=[.bool c.told,.int .i64 c.sg.kind,.int .i64 c.sg.code,.bool c.sg.has,.string c.sg.text,.int .i64 c.row,.int .i64 c.col,.int .i64 c.sh.k,.int .i64 c.sh.a,.int .i64 c.sh.n]
structure Tv where
 M:Nat
 z:Zv
 a:Sv
 b:Sv
 ba:Value
 bf:Value
 vc:Value
def encTm (t:Tm) (v:Tv):List Value:=[.pointer (some ⟨v.z.P,0,none⟩),.pointer (some ⟨v.a.S,0,none⟩),.pointer (some ⟨v.b.S,0,none⟩),.int .i64 (if t.use then 1 else 0),.int .u32 t.modes,.string t.title,v.ba,v.bf,v.vc]
structure TmO (base:Nat) (w:World) (v:Tv) (t:Tm):Prop where
 blk:w.heap[v.M]? = some (.cells (encTm t v).toArray 78 (0,0))
 hb:base ≤ v.M
 z:PzO base w v.z t.pz
 a:ScO base w v.a t.s0
 b:ScO base w v.b t.s1
 ad:v.ba = .pointer none ∨ v.ba = .pointer (some ⟨v.M,6,none⟩)
 bu:w.ownsRow base 5 1 v.bf t.rep.length (Lib.byteCells t.rep)
 ch:w.ownsRow base 96 10 v.vc t.ch.length (flat encCg t.ch)
 ab:∀ x ∈ scX v.a,x ∉ scX v.b
 bz:∀ x,v.bf.ownBlock = some x→x ∉ zvX v.z
def tmX (v:Tv):List Nat:=v.M :: (zvX v.z ++ (scX v.a ++ (scX v.b ++ (v.bf.ownBlock.toList ++ v.vc.ownBlock.toList))))
def TyAt (w:World) (b:Nat) (l:List TypeId):Prop:=∃ cur ty,w.heap[b]? = some (.cells cur ty (0,0))∧ty ∈ l
theorem TyAt.apart {w:World} {b:Nat} {l1 l2:List TypeId} (h1:TyAt w b l1) (h2:TyAt w b l2) (hd:∀ t ∈ l1,t ∉ l2):False:=by
 obtain ⟨c1,t1,e1,m1⟩:=h1
 obtain ⟨c2,t2,e2,m2⟩:=h2
 rw [e1,Option.some.injEq,Obj.cells.injEq] at e2
 exact hd t1 m1 (by rw [e2.2.1];exact m2)
theorem TyAt.own {w:World} {base n size:Nat} {e:TypeId} {v:Value} {xs:List Value} (h:w.ownsRow base e size v n xs) {g:Nat} (hg:v.ownBlock = some g):TyAt w g [e]:=by
 obtain ⟨cur,hc⟩:=own_block h hg
 exact ⟨_,_,hc,by simp⟩
def scTy:List TypeId:=[128,179,206,175,52,94,225]
theorem ScO.ty {base:Nat} {w:World} {v:Sv} {s:Sc} (h:ScO base w v s):∀ b ∈ scX v,TyAt w b scTy:=fun b hb => by
 unfold scTy
 rcases List.mem_cons.1 hb with rfl | hb
 · exact ⟨_,_,h.blk,by simp⟩
 rcases List.mem_append.1 hb with hb | hb
 · obtain ⟨cur,ty,h1,h2⟩:=h.tabs.types b hb
   exact ⟨_,_,h1,by rcases h2 with rfl | rfl <;> simp⟩
 · obtain ⟨cur,ty,h1,h2⟩:=h.page.types b hb
   exact ⟨_,_,h1,by rcases h2 with rfl | rfl | rfl | rfl <;> simp⟩
theorem PzO.ty {base:Nat} {w:World} {v:Zv} {p:Pz} (h:PzO base w v p):∀ b ∈ zvX v,TyAt w b [134,5]:=fun b hb => by
 obtain ⟨cur,ty,h1,h2⟩:=h.types b hb
 exact ⟨_,_,h1,by rcases h2 with rfl | rfl <;> simp⟩
theorem nocel_ty {w:World} {X:List Nat} {l:List TypeId} (h:∀ b ∈ X,TyAt w b l) (hl:65 ∉ l):NoCel w X:=fun b hb cs f he => by
 obtain ⟨cur,ty,h1,h2⟩:=h b hb
 rw [he,Option.some.injEq,Obj.cells.injEq] at h1
 exact hl (by rw [h1.2.1];exact h2)
section
variable {base:Nat} {w:World} {v:Tv} {t:Tm}
theorem TmO.tyM (h:TmO base w v t):TyAt w v.M [78]:=⟨_,_,h.blk,by simp⟩
theorem TmO.tyX (h:TmO base w v t):∀ b ∈ tmX v,TyAt w b (78 :: 134 :: 5 :: 96 :: scTy):=fun b hb => by
 have up:∀ {l:List TypeId},TyAt w b l→(∀ t ∈ l,t ∈ 78 :: 134 :: 5 :: 96 :: scTy)→TyAt w b (78 :: 134 :: 5 :: 96 :: scTy):=fun ⟨c,t,h1,h2⟩ hl => ⟨c,t,h1,hl t h2⟩
 unfold tmX at hb
 rcases List.mem_cons.1 hb with rfl | hb
 · exact up h.tyM (by decide)
 rcases List.mem_append.1 hb with hb | hb
 · exact up (h.z.ty b hb) (by decide)
 rcases List.mem_append.1 hb with hb | hb
 · exact up (h.a.ty b hb) (by decide)
 rcases List.mem_append.1 hb with hb | hb
 · exact up (h.b.ty b hb) (by decide)
 rcases List.mem_append.1 hb with hb | hb
 · exact up (TyAt.own h.bu (Option.mem_toList.1 hb)) (by decide)
 · exact up (TyAt.own h.ch (Option.mem_toList.1 hb)) (by decide)
theorem TmO.lt (h:TmO base w v t):∀ b ∈ tmX v,base ≤ b∧b < w.heap.size:=fun b hb => by
 unfold tmX at hb
 rcases List.mem_cons.1 hb with rfl | hb
 · exact ⟨h.hb,(Array.getElem?_eq_some_iff.1 h.blk).1⟩
 rcases List.mem_append.1 hb with hb | hb
 · exact h.z.lt b hb
 rcases List.mem_append.1 hb with hb | hb
 · exact h.a.lt b hb
 rcases List.mem_append.1 hb with hb | hb
 · exact h.b.lt b hb
 rcases List.mem_append.1 hb with hb | hb
 · exact h.bu.lt b (Option.mem_toList.1 hb)
 · exact h.ch.lt b (Option.mem_toList.1 hb)
theorem mem_tmX {x:Nat}:x ∈ tmX v ↔ x = v.M ∨ x ∈ zvX v.z ∨ x ∈ scX v.a ∨ x ∈ scX v.b ∨ v.bf.ownBlock = some x ∨ v.vc.ownBlock = some x:=by
 unfold tmX
 simp only [List.mem_cons,List.mem_append,Option.mem_toList]
theorem TmO.mod {X:List Nat} {w':World} (h:TmO base w v t) (hm:Mod X w w') (hX:NoCel w X) (hd:∀ b ∈ tmX v,b ∉ X):TmO base w' v t :=
 ⟨(hm.block v.M (Array.getElem?_eq_some_iff.1 h.blk).1 (hd _ (mem_tmX.2 (.inl rfl)))).trans h.blk,h.hb,h.z.mod hm (fun b hb => hd b (mem_tmX.2 (.inr (.inl hb)))),h.a.mod hm hX (fun b hb => hd b (mem_tmX.2 (.inr (.inr (.inl hb))))),h.b.mod hm hX (fun b hb => hd b (mem_tmX.2 (.inr (.inr (.inr (.inl hb)))))),h.ad,
  owns_mod h.bu hm (fun g hg => hd g (mem_tmX.2 (.inr (.inr (.inr (.inr (.inl hg))))))),owns_mod h.ch hm (fun g hg => hd g (mem_tmX.2 (.inr (.inr (.inr (.inr (.inr hg))))))),h.ab,h.bz⟩
theorem TmO.below {w':World} (h:TmO base w v t) (hb:Below w.heap.size w w'):TmO base w' v t:=h.mod (Mod.of_below (X:=[]) hb) (NoCel.nil w) (fun _ _ h => by cases h)
structure TmV (w:World) (v v':Tv):Prop where
 M:v'.M = v.M
 z:v'.z.P = v.z.P
 a:v'.a.S = v.a.S
 b:v'.b.S = v.b.S
 x:∀ x ∈ tmX v',x ∈ tmX v ∨ w.heap.size ≤ x
def TmRes (base:Nat) (w:World) (v:Tv) (t':Tm) (w':World):Prop:=∃ v',TmV w v v'∧TmO base w' v' t'∧Mod (tmX v) w w'
theorem TmO.res (h:TmO base w v t):TmRes base w v t w:=⟨v,⟨rfl,rfl,rfl,rfl,fun _ hb => .inl hb⟩,h,Mod.refl _ _⟩
theorem TmRes.trans {w1 w2:World} {v1:Tv} {t2:Tm} (h1:TmV w v v1) (hm:Mod (tmX v) w w1) (h2:TmRes base w1 v1 t2 w2):TmRes base w v t2 w2:=by
 obtain ⟨v2,k,a4,a5⟩:=h2
 refine ⟨v2,⟨k.M.trans h1.M,k.z.trans h1.z,k.a.trans h1.a,k.b.trans h1.b,fun x hx => ?_⟩,a4,hm.trans a5 h1.x⟩
 rcases k.x x hx with h | h
 · exact h1.x x h
 · exact .inr (Nat.le_trans hm.size h)
theorem TmRes.pre {w1 w2:World} {t2:Tm} (hb:Below w.heap.size w w1) (h2:TmRes base w1 v t2 w2):TmRes base w v t2 w2:=TmRes.trans ⟨rfl,rfl,rfl,rfl,fun _ hb => .inl hb⟩ (Mod.of_below hb) h2
theorem TmO.za (h:TmO base w v t):∀ x ∈ zvX v.z,x ∉ scX v.a:=fun x h1 h2 => (h.z.ty x h1).apart (h.a.ty x h2) (by decide)
theorem TmO.zb (h:TmO base w v t):∀ x ∈ zvX v.z,x ∉ scX v.b:=fun x h1 h2 => (h.z.ty x h1).apart (h.b.ty x h2) (by decide)
theorem TmO.fa (h:TmO base w v t):∀ x,v.bf.ownBlock = some x→x ∉ scX v.a:=fun x h1 h2 => (TyAt.own h.bu h1).apart (h.a.ty x h2) (by decide)
theorem TmO.fb (h:TmO base w v t):∀ x,v.bf.ownBlock = some x→x ∉ scX v.b:=fun x h1 h2 => (TyAt.own h.bu h1).apart (h.b.ty x h2) (by decide)
theorem TmO.ca (h:TmO base w v t):∀ x,v.vc.ownBlock = some x→x ∉ scX v.a:=fun x h1 h2 => (TyAt.own h.ch h1).apart (h.a.ty x h2) (by decide)
theorem TmO.cb (h:TmO base w v t):∀ x,v.vc.ownBlock = some x→x ∉ scX v.b:=fun x h1 h2 => (TyAt.own h.ch h1).apart (h.b.ty x h2) (by decide)
theorem TmO.cz (h:TmO base w v t):∀ x,v.vc.ownBlock = some x→x ∉ zvX v.z:=fun x h1 h2 => (TyAt.own h.ch h1).apart (h.z.ty x h2) (by decide)
theorem TmO.mz (h:TmO base w v t):v.M ∉ zvX v.z:=fun h2 => h.tyM.apart (h.z.ty _ h2) (by decide)
theorem TmO.ma (h:TmO base w v t):v.M ∉ scX v.a:=fun h2 => h.tyM.apart (h.a.ty _ h2) (by decide)
theorem TmO.mb (h:TmO base w v t):v.M ∉ scX v.b:=fun h2 => h.tyM.apart (h.b.ty _ h2) (by decide)
theorem TmO.mf (h:TmO base w v t):v.bf.ownBlock ≠ some v.M:=fun h2 => h.tyM.apart (TyAt.own h.bu h2) (by decide)
theorem TmO.mc (h:TmO base w v t):v.vc.ownBlock ≠ some v.M:=fun h2 => h.tyM.apart (TyAt.own h.ch h2) (by decide)
theorem TmO.ltM (h:TmO base w v t):v.M < w.heap.size:=(Array.getElem?_eq_some_iff.1 h.blk).1
theorem TmO.withZ {p':Pz} {w':World} (h:TmO base w v t) (hp:PzRes base w v.z p' w'):TmRes base w v { t with pz:=p' } w':=by
 obtain ⟨z',e1,hO,hm,hx⟩:=hp
 refine ⟨{ v with z:=z' },⟨rfl,e1,rfl,rfl,fun x hx2 => ?_⟩,⟨?_,h.hb,hO,h.a.mod hm h.z.nocel (fun b hb hz => h.za b hz hb),h.b.mod hm h.z.nocel (fun b hb hz => h.zb b hz hb),h.ad,owns_mod h.bu hm h.bz,owns_mod h.ch hm h.cz,h.ab,fun x h1 h2 => ?_⟩,hm.mono (fun b hb => mem_tmX.2 (.inr (.inl hb)))⟩
 · rcases mem_tmX.1 hx2 with h1 | h1 | h1
   · exact .inl (mem_tmX.2 (.inl h1))
   · exact (hx x h1).imp (fun h => mem_tmX.2 (.inr (.inl h))) id
   · exact .inl (mem_tmX.2 (.inr (.inr h1)))
 · have:=(hm.block v.M h.ltM h.mz).trans h.blk
   rw [this]
   unfold encTm
   rw [e1]
 · rcases hx x h2 with h3 | h3
   · exact h.bz x h1 h3
   · have:=(h.bu.lt x h1).2;omega
theorem TmO.withA {s':Sc} {w':World} (h:TmO base w v t) (hp:ScRes base w v.a s' w'):TmRes base w v { t with s0:=s' } w':=by
 obtain ⟨a',e1,e2,e3,hO,hm,hx⟩:=hp
 have hc:NoCel w (scX v.a):=nocel_ty h.a.ty (by decide)
 refine ⟨{ v with a:=a' },⟨rfl,rfl,e1,rfl,fun x hx2 => ?_⟩,⟨?_,h.hb,h.z.mod hm h.za,hO,h.b.mod hm hc (fun b hb hz => h.ab b hz hb),h.ad,owns_mod h.bu hm h.fa,owns_mod h.ch hm h.ca,fun x h1 h2 => ?_,h.bz⟩,hm.mono (fun b hb => mem_tmX.2 (.inr (.inr (.inl hb))))⟩
 · rcases mem_tmX.1 hx2 with h1 | h1 | h1 | h1
   · exact .inl (mem_tmX.2 (.inl h1))
   · exact .inl (mem_tmX.2 (.inr (.inl h1)))
   · exact (hx x h1).imp (fun h => mem_tmX.2 (.inr (.inr (.inl h)))) id
   · exact .inl (mem_tmX.2 (.inr (.inr (.inr h1))))
 · have:=(hm.block v.M h.ltM h.ma).trans h.blk
   rw [this]
   unfold encTm
   rw [e1]
 · rcases hx x h1 with h3 | h3
   · exact h.ab x h3 h2
   · have:=(h.b.lt x h2).2;omega
theorem TmO.withB {s':Sc} {w':World} (h:TmO base w v t) (hp:ScRes base w v.b s' w'):TmRes base w v { t with s1:=s' } w':=by
 obtain ⟨a',e1,e2,e3,hO,hm,hx⟩:=hp
 have hc:NoCel w (scX v.b):=nocel_ty h.b.ty (by decide)
 refine ⟨{ v with b:=a' },⟨rfl,rfl,rfl,e1,fun x hx2 => ?_⟩,⟨?_,h.hb,h.z.mod hm h.zb,h.a.mod hm hc h.ab,hO,h.ad,owns_mod h.bu hm h.fb,owns_mod h.ch hm h.cb,fun x h1 h2 => ?_,h.bz⟩,hm.mono (fun b hb => mem_tmX.2 (.inr (.inr (.inr (.inl hb)))))⟩
 · rcases mem_tmX.1 hx2 with h1 | h1 | h1 | h1 | h1
   · exact .inl (mem_tmX.2 (.inl h1))
   · exact .inl (mem_tmX.2 (.inr (.inl h1)))
   · exact .inl (mem_tmX.2 (.inr (.inr (.inl h1))))
   · exact (hx x h1).imp (fun h => mem_tmX.2 (.inr (.inr (.inr (.inl h))))) id
   · exact .inl (mem_tmX.2 (.inr (.inr (.inr (.inr h1)))))
 · have:=(hm.block v.M h.ltM h.mb).trans h.blk
   rw [this]
   unfold encTm
   rw [e1]
 · rcases hx x h2 with h3 | h3
   · exact h.ab x h1 h3
   · have:=(h.a.lt x h1).2;omega
def curV (v:Tv) (t:Tm):Sv:=if t.use then v.b else v.a
theorem TmO.cur (h:TmO base w v t):ScO base w (curV v t) (curT t):=by
 unfold curV curT
 by_cases hu:t.use = true
 · rw [if_pos hu,if_pos hu];exact h.b
 · rw [if_neg hu,if_neg hu];exact h.a
theorem TmO.did {s':Sc} {w':World} (h:TmO base w v t) (hp:ScRes base w (curV v t) s' w'):TmRes base w v (putT t s') w':=by
 unfold curV at hp
 unfold putT
 by_cases hu:t.use = true
 · rw [if_pos hu] at hp ⊢;exact h.withB hp
 · rw [if_neg hu] at hp ⊢;exact h.withA hp
end
end Go.Proofs.YtaefcahblmopfaaGreatDoor
