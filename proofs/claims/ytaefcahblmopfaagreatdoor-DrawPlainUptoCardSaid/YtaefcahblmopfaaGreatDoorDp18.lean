/- Joined by a tool of this claim out of smaller texts. Conditions: as stated. -/
import Derived.Test.YtaefcahblmopfaaGreatDoorDp17
import Derived.Lib.TrailingZeros
import Derived.Lib.BitFns
set_option linter.unusedVariables false
set_option linter.unusedSimpArgs false
set_option maxRecDepth 100000
open Go.Lib renaming hid → Hd
namespace Go.Proofs.YtaefcahblmopfaaGreatDoor
open Go.RowKit
section
variable {base:Nat} {w:World} {v:Sv} {s:Sc}
set_option maxHeartbeats 1600000 in
theorem sEraseChars_any (h:ScO base w v s) (hi:ScI s) (n:Int):Calls Tryz.prog 219 #[.pointer (some ⟨v.S,0,none⟩),.int .i64 n] w (ScPost base w v (eraseCharsS s n)):=by
 have hb3:-1 ≤ inS s∧inS s ≤ 1000:=by have h1:=hi.x0;have h2:=h.page.cols2;have h3:=h.page.cols1000;unfold inS colsS;omega
 have hn3:1 ≤ nearI n 1 1000∧nearI n 1 1000 ≤ 1000:=by unfold nearI;omega
 have hwx:IntKind.i64.wrap ((inX s).x + nearI n 1 1000) = (inX s).x + nearI n 1 1000:=IntWalk.i64_in _ (by show _ ≤ inS s + _∧inS s + _ ≤ _;omega)
 have HI:=Hd (sIn_any h)
 have HO:=Hd h
 have HX:=Hd (at_ h.blk 17 (.int .i64 s.x) rfl)
 have HMN:Hid (∀ w1,Below w.heap.size w w1→ScO base (w1.setCell ⟨v.S,17,none⟩ (.int .i64 (inS s))) v (inX s)∧Mod (scX v) w (w1.setCell ⟨v.S,17,none⟩ (.int .i64 (inS s)))):=Hd (fun w1 hb =>
  ⟨(h.below hb).put 17 _ rfl rfl rfl,(Mod.of_below hb).setCell (a:=⟨v.S,17,none⟩) (.inl (by simp [scX])) _⟩)
 clear h hi
 go_enter Tryz.func219,Tryz.ntmps219
 go_upto_region 2 with (go_at_call 182;refine HI.out.mono ?_;rintro e w1 ⟨rfl,hb⟩;have HM1:=Hd (HMN.out w1 hb);obtain ⟨c17,f17⟩:=hold hb HX.out;clear hb)
 generalize World.setCell _ _ _ = W3 at HM1 ⊢
 clear c17 f17
 have HO3:=Hd HM1.out.1
 have HM3:=Hd HM1.out.2
 clear HM1
 obtain ⟨c14,-⟩:=at_ HO3.out.blk 14 (.pointer (some ⟨v.q.P,0,none⟩)) rfl
 obtain ⟨c16,-⟩:=at_ HO3.out.blk 16 (.int .i64 (inX s).y) rfl
 obtain ⟨c17,-⟩:=at_ HO3.out.blk 17 (.int .i64 (inX s).x) rfl
 have HBK:Hid (∀ w',Below W3.heap.size W3 w'→Calls Tryz.prog 279 #[.pointer (some ⟨v.S,0,none⟩)] w' fun e w2 => e = .returned (.agg #[.int .i64 (inX s).pen.at_.bk,.int .i64 (inX s).pen.at_.bn])∧Below w'.heap.size w' w2):=Hd (fun w' hb => sBack_any (HO3.out.below hb))
 have HPC:Hid (∀ w',Below W3.heap.size W3 w'→Calls Tryz.prog 196 #[.pointer (some ⟨v.q.P,0,none⟩),.int .i64 (inX s).y,.int .i64 (inX s).x,.int .i64 ((inX s).x + nearI n 1 1000),.agg #[.int .i64 (inX s).pen.at_.bk,.int .i64 (inX s).pen.at_.bn]] w' (PgPost base w' v.q (eraseP (inX s).pg (inX s).y (inX s).x ((inX s).x + nearI n 1 1000) ⟨(inX s).pen.at_.bk,(inX s).pen.at_.bn⟩))):=Hd (fun w' hb => pErase_any (HO3.out.below hb).page _ _ _ ⟨_,_⟩)
 refine wp_region_u 21 (fun w' => Below W3.heap.size W3 w'∧w'.cell? ⟨v.S,14,none⟩ = some (.pointer (some ⟨v.q.P,0,none⟩))∧w'.cell? ⟨v.S,16,none⟩ = some (.int .i64 (inX s).y)∧w'.cell? ⟨v.S,17,none⟩ = some (.int .i64 (inX s).x)) (by kernel_rfl) (by kernel_rfl) ?_ ?_
 · exact ⟨(Below.refl _ _).drew,c14,c16,c17⟩
 simp only [List.take_succ_cons,List.take_zero,List.drop_succ_cons,List.drop_zero]
 repeat (
  (first
   | refine seqU_skip (by rfl) ?_
   | ((refine seqU_call 279 #[.pointer (some ⟨v.S,0,none⟩)] (.agg #[.int .i64 (inX s).pen.at_.bk,.int .i64 (inX s).pen.at_.bn]) (by rfl) ?_ (fun w' hS => (HBK.out w' hS.1).mono fun e w2 ⟨he,hb⟩ => ⟨he,⟨below_tail hS.1 hb,holda hb hS.2.1,holda hb hS.2.2.1,holda hb hS.2.2.2⟩⟩) ?_;(focus (intro w2;go_simp;done))))
   | ((refine seqU_call 296 #[.int .i64 n,.int .i64 1,.int .i64 1000] (.int .i64 (nearI n 1 1000)) (by rfl) ?_ (fun w' hS => (snear_any n 1 1000 w').mono fun e w2 ⟨he,hb⟩ => ⟨he,hb ▸ hS⟩) ?_;(focus (intro w2;go_simp;done))))
   | (refine seqU_val ?_ (by rfl) ?_ ?_;rotate_left;(focus (intro w' hS;obtain ⟨_,_,_,_⟩:=hS;go_simp;first | done | with_reducible rfl))))
  simp only [Act.put,List.setIfInBounds_toArray,List.set_cons_zero,List.set_cons_succ])
 refine seqU_nil (fun w' hS => ?_)
 have HBT:=Hd hS.1
 clear hS c14 c16 c17
 go_wp2_with (go_at_call 196;refine (HPC.out _ HBT.out).mono ?_;rintro e w9 ⟨rfl,hp⟩;have HP9:=Hd hp;clear hp)
 go_end0
 exact ⟨rfl,ScRes.trans ⟨rfl,rfl,rfl,HM3.out.then_below HBT.out,fun b hb => .inl hb⟩ ((HO3.out.below HBT.out).paged HP9.out)⟩
end
section
variable {base:Nat} {w:World} {v:Sv} {s:Sc}
theorem ScRes.duo {w1:World} {s1 s':Sc} (h:ScO base w v s) (hb:Below w.heap.size w w1) (i j:Nat) (x y:Value) (he:(encSc s v.q.P v.T).set i x = encSc s1 v.q.P v.T) (he2:(encSc s1 v.q.P v.T).set j y = encSc s' v.q.P v.T) (hp1:s1.pg = s.pg) (ht1:s1.st = s.st) (hp:s'.pg = s1.pg) (ht:s'.st = s1.st) :
 ScRes base w v s' ((w1.setCell ⟨v.S,i,none⟩ x).setCell ⟨v.S,j,none⟩ y) :=
 ScRes.pre hb ⟨v,rfl,rfl,rfl,((h.below hb).put i x he hp1 ht1).put j y he2 hp ht,(ScO.mod_put (v:=v) i x).trans (ScO.mod_put (v:=v) j y) (fun _ hb => .inl hb),fun _ hb => .inl hb⟩
set_option maxHeartbeats 1600000 in
theorem sMove_any (h:ScO base w v s) (h0:0 ≤ s.top) (h1:s.top ≤ s.bot) (h2:s.bot < s.pg.scr.length) (y x:Int):Calls Tryz.prog 213 #[.pointer (some ⟨v.S,0,none⟩),.int .i64 y,.int .i64 x] w (ScPost base w v (moveS s y x)):=by
 have HR:=Hd (sRows_any h)
 have HN:=Hd (fun a b c w => snear_any a b c w)
 have hr3:s.pg.scr.length ≤ 1000:=by rw [← h.page.len];exact h.page.rows1000
 have hc3:=h.page.cols1000
 have hwr:IntKind.i64.wrap ((s.pg.scr.length:Int) - 1) = (s.pg.scr.length:Int) - 1:=IntWalk.i64_in _ (by omega)
 have hwc:IntKind.i64.wrap ((s.pg.cols:Int) - 1) = (s.pg.cols:Int) - 1:=IntWalk.i64_in _ (by omega)
 have HO:=Hd h
 obtain ⟨c13,-⟩:=at_ h.blk 13 (.bool s.pen.home) rfl
 unfold moveS rowsS colsS
 cases hh:s.pen.home with
 | false =>
   rw [hh] at c13
   rw [if_neg (by decide)]
   obtain ⟨c16,f16⟩:=at_ h.blk 16 (.int .i64 s.y) rfl
   have hw0:IntKind.i64.wrap ((s.pg.scr.length:Int) - 1 - 0) = (s.pg.scr.length:Int) - 1:=by rw [Int.sub_zero];exact hwr
   have hnb:-1 ≤ nearI y 0 ((s.pg.scr.length:Int) - 1)∧nearI y 0 ((s.pg.scr.length:Int) - 1) ≤ 1000:=by unfold nearI;omega
   have hwn:IntKind.i64.wrap (nearI y 0 ((s.pg.scr.length:Int) - 1)) = nearI y 0 ((s.pg.scr.length:Int) - 1):=IntWalk.i64_in _ (by omega)
   have HC:=Hd (sCols_any (h.put 16 (.int .i64 (nearI y 0 ((s.pg.scr.length:Int) - 1))) (s':={ s with y:=nearI y 0 ((s.pg.scr.length:Int) - 1) }) rfl rfl rfl))
   obtain ⟨c17,f17⟩:=at_ (h.put 16 (.int .i64 (nearI y 0 ((s.pg.scr.length:Int) - 1))) (s':={ s with y:=nearI y 0 ((s.pg.scr.length:Int) - 1) }) rfl rfl rfl).blk 17 (.int .i64 s.x) rfl
   clear h
   go_enter Tryz.func213,Tryz.ntmps213
   go_wp2_with (first
    | (go_at_call 152;refine HR.out.mono ?_;rintro e w1 ⟨rfl,rfl⟩)
    | (go_at_call 197;refine HC.out.mono ?_;rintro e w1 ⟨rfl,rfl⟩)
    | (go_at_call 296;refine (HN.out _ _ _ _).mono ?_;rintro e w1 ⟨rfl,rfl⟩))
   go_end0
   exact ⟨rfl,ScRes.duo (s1:={ s with y:=nearI y 0 ((s.pg.scr.length:Int) - 1) }) HO.out (Below.refl _ _) 16 17 _ _ rfl rfl rfl rfl rfl rfl⟩
 | true =>
   rw [hh] at c13
   rw [if_pos rfl]
   obtain ⟨c18,-⟩:=at_ h.blk 18 (.int .i64 s.top) rfl
   obtain ⟨c19,-⟩:=at_ h.blk 19 (.int .i64 s.bot) rfl
   have hnb:0 ≤ nearI y 0 (s.bot - s.top)∧nearI y 0 (s.bot - s.top) ≤ s.bot - s.top:=by unfold nearI;omega
   have hwd:IntKind.i64.wrap (s.bot - s.top) = s.bot - s.top:=IntWalk.i64_in _ (by omega)
   have hwn:IntKind.i64.wrap (s.top + nearI y 0 (s.bot - s.top)) = s.top + nearI y 0 (s.bot - s.top):=IntWalk.i64_in _ (by omega)
   clear h
   go_enter Tryz.func213,Tryz.ntmps213
   go_upto_region 3 with (go_at_call 152;refine HR.out.mono ?_;rintro e w1 ⟨rfl,rfl⟩)
   clear c13
   refine wp_region_u 9 (fun w' => Below w.heap.size w w'∧w'.cell? ⟨v.S,18,none⟩ = some (.int .i64 s.top)∧w'.cell? ⟨v.S,19,none⟩ = some (.int .i64 s.bot)) (by kernel_rfl) (by kernel_rfl) ?_ ?_
   · exact ⟨(Below.refl _ _).drew,c18,c19⟩
   simp only [List.take_succ_cons,List.take_zero,List.drop_succ_cons,List.drop_zero]
   repeat (
    (first
     | refine seqU_skip (by rfl) ?_
     | (refine seqU_val ?_ (by rfl) ?_ ?_;rotate_left;(focus (intro w' hS;obtain ⟨_,_,_⟩:=hS;go_simp;first | done | with_reducible rfl))))
    simp only [Act.put,List.setIfInBounds_toArray,List.set_cons_zero,List.set_cons_succ])
   refine seqU_nil (fun w' hS => ?_)
   have HB:=Hd hS.1
   clear hS c18 c19
   rename World => W2
   have hO2:=HO.out.below HB.out
   obtain ⟨c16,f16⟩:=at_ hO2.blk 16 (.int .i64 s.y) rfl
   have hO3:=hO2.put 16 (.int .i64 (s.top + nearI y 0 (s.bot - s.top))) (s':={ s with y:=s.top + nearI y 0 (s.bot - s.top) }) rfl rfl rfl
   have HC:=Hd (sCols_any hO3)
   obtain ⟨c17,f17⟩:=at_ hO3.blk 17 (.int .i64 s.x) rfl
   clear hO2 hO3
   go_wp2_with (first
    | (go_at_call 197;refine HC.out.mono ?_;rintro e w1 ⟨rfl,rfl⟩)
    | (go_at_call 296;refine (HN.out _ _ _ _).mono ?_;rintro e w1 ⟨rfl,rfl⟩))
   go_end0
   exact ⟨rfl,ScRes.duo (s1:={ s with y:=s.top + nearI y 0 (s.bot - s.top) }) HO.out HB.out 16 17 _ _ rfl rfl rfl rfl rfl rfl⟩
end
theorem wpList_callS {P:Program} {ops:Array Oper} {rest:List Oper} {o:Oper} {a:Act} {w:World} {Q:Exit→Act→World→Prop} (hg:o.guard = none) (f:FuncId) (args:Array Value) (hrun:(execOp a.eval o).run P w = .ok (.enter f args) w)
 {Post:Ending→World→Prop} (hc:Calls P f args w Post) (v:Value) (hv:∀ e w',Post e w'→e = .returned v) (h:∀ w',Post (.returned v) w'→wpList P ops Q rest (a.put o.dst v) w'):wpList P ops Q (o :: rest) a w:=by
 refine wpList_plain hg fun K hK => ?_
 unfold Oper.wp
 rw [hrun,Oper.upon_enter]
 refine hc.mono fun e w'' hh => ?_
 obtain rfl:=hv e w'' hh
 exact hK _ _ (h _ hh)
section
variable {base:Nat} {w:World} {v:Sv} {s:Sc}
set_option maxHeartbeats 1600000 in
theorem sPrint_any (h:ScO base w v s) (hi:ScI s) (ht:s.pg.told.length ≤ 900000) (r:Int):Calls Tryz.prog 121 #[.pointer (some ⟨v.S,0,none⟩),.int .i32 r] w (ScPost base w v (printS s r)):=by
 have HM:=Hd (fun w => cmap_any s.pen.ch r w)
 unfold MapPost chV onceC at HM
 have HO:=Hd h
 have HI:=Hd hi
 obtain ⟨c5,-⟩:=at_ h.blk 5 (.int .i64 s.pen.ch.g0) rfl
 obtain ⟨c6,-⟩:=at_ h.blk 6 (.int .i64 s.pen.ch.g1) rfl
 obtain ⟨c7,-⟩:=at_ h.blk 7 (.int .i64 s.pen.ch.g2) rfl
 obtain ⟨c8,-⟩:=at_ h.blk 8 (.int .i64 s.pen.ch.g3) rfl
 obtain ⟨c9,-⟩:=at_ h.blk 9 (.int .i64 s.pen.ch.use) rfl
 obtain ⟨c10,-⟩:=at_ h.blk 10 (.int .i64 s.pen.ch.once) rfl
 clear h hi
 go_enter Tryz.func121,Tryz.ntmps121
 go_upto_region 2 with (go_at_call 180;refine (HM.out _).mono ?_;rintro e w1 ⟨rfl,hb⟩;have HB1:=Hd hb;have hO1:=HO.out.below hb;clear hb c5 c6 c7 c8 c9 c10;obtain ⟨c5,f5⟩:=at_ hO1.blk 5 (.int .i64 s.pen.ch.g0) rfl;obtain ⟨c6,f6⟩:=at_ hO1.blk 6 (.int .i64 s.pen.ch.g1) rfl;obtain ⟨c7,f7⟩:=at_ hO1.blk 7 (.int .i64 s.pen.ch.g2) rfl;obtain ⟨c8,f8⟩:=at_ hO1.blk 8 (.int .i64 s.pen.ch.g3) rfl;obtain ⟨c9,f9⟩:=at_ hO1.blk 9 (.int .i64 s.pen.ch.use) rfl;obtain ⟨c10,f10⟩:=at_ hO1.blk 10 (.int .i64 s.pen.ch.once) rfl;have HO1:=Hd hO1;clear hO1)
 have hb6:ScO base ((((((w1.setCell ⟨v.S,5,none⟩ (.int .i64 s.pen.ch.g0)).setCell ⟨v.S,6,none⟩ (.int .i64 s.pen.ch.g1)).setCell ⟨v.S,7,none⟩ (.int .i64 s.pen.ch.g2)).setCell ⟨v.S,8,none⟩ (.int .i64 s.pen.ch.g3)).setCell ⟨v.S,9,none⟩ (.int .i64 s.pen.ch.use)).setCell ⟨v.S,10,none⟩ (.int .i64 0)) v { s with pen:={ s.pen with ch:=onceC s.pen.ch } } :=
  (((((HO1.out.put 5 _ (s':=s) rfl rfl rfl).put 6 _ (s':=s) rfl rfl rfl).put 7 _ (s':=s) rfl rfl rfl).put 8 _ (s':=s) rfl rfl rfl).put 9 _ (s':=s) rfl rfl rfl).put 10 _ rfl rfl rfl
 have hm6:Mod (scX v) w1 ((((((w1.setCell ⟨v.S,5,none⟩ (.int .i64 s.pen.ch.g0)).setCell ⟨v.S,6,none⟩ (.int .i64 s.pen.ch.g1)).setCell ⟨v.S,7,none⟩ (.int .i64 s.pen.ch.g2)).setCell ⟨v.S,8,none⟩ (.int .i64 s.pen.ch.g3)).setCell ⟨v.S,9,none⟩ (.int .i64 s.pen.ch.use)).setCell ⟨v.S,10,none⟩ (.int .i64 0)):=by
  have hv:v.S ∈ scX v:=by simp [scX]
  exact ((((((Mod.refl _ _).setCell (a:=⟨v.S,5,none⟩) (.inl hv) _).setCell (a:=⟨v.S,6,none⟩) (.inl hv) _).setCell (a:=⟨v.S,7,none⟩) (.inl hv) _).setCell (a:=⟨v.S,8,none⟩) (.inl hv) _).setCell (a:=⟨v.S,9,none⟩) (.inl hv) _).setCell (a:=⟨v.S,10,none⟩) (.inl hv) _
 have HM6:=Hd ((Mod.of_below HB1.out).trans hm6 (fun b hb => .inl hb))
 have HI6:Hid (ScI { s with pen:={ s.pen with ch:=onceC s.pen.ch } }):=Hd ⟨HI.out.y0,HI.out.y1,HI.out.x0,HI.out.x1,HI.out.t0,HI.out.tb,HI.out.b1⟩
 clear hm6 c5 f5 c6 f6 c7 f7 c8 f8 c9 f9 c10 f10
 generalize World.setCell _ _ _ = W6 at hb6 HM6 ⊢
 have HW:=Hd (sWrite_any hb6 HI6.out ht (mapC s.pen.ch r))
 clear hb6
 go_wp2_with (go_at_call 181;refine HW.out.mono ?_;rintro e w7 ⟨rfl,hs⟩;have HS7:=Hd hs;clear hs)
 go_end0
 exact ⟨rfl,ScRes.trans ⟨rfl,rfl,rfl,HM6.out,fun b hb => .inl hb⟩ HS7.out⟩
def stL (s:Sc):List Value:=[.int .i64 s.y,.int .i64 s.x,.int .i64 s.pen.at_.fk,.int .i64 s.pen.at_.fn,.int .i64 s.pen.at_.bk,.int .i64 s.pen.at_.bn,.int .i64 s.pen.at_.fl,.int .i64 s.pen.ch.g0,.int .i64 s.pen.ch.g1,.int .i64 s.pen.ch.g2,.int .i64 s.pen.ch.g3,.int .i64 s.pen.ch.use,.int .i64 s.pen.ch.once,.bool s.pen.put,.bool s.pen.wrap,.bool s.pen.home,.int .i64 s.top,.int .i64 s.bot,.bool s.has]
theorem stL_one (s:Sc):∀ v ∈ stL s,v.oneCell' = true:=fun v hv => by
 simp only [stL,List.mem_cons,List.not_mem_nil,or_false] at hv
 rcases hv with rfl | rfl | rfl | rfl | rfl | rfl | rfl | rfl | rfl | rfl | rfl | rfl | rfl | rfl | rfl | rfl | rfl | rfl | rfl <;> rfl
theorem info_state:(Tryz.prog.info? 103).map (·.size) = some 19:=by kernel_rfl
def StPost (s:Sc) (w:World) (e:Ending) (w':World):Prop:=e = .returned (.agg (stL s).toArray)∧Below w.heap.size w w'
set_option maxHeartbeats 3200000 in
theorem sState_any (h:ScO base w v s):Calls Tryz.prog 47 #[.pointer (some ⟨v.S,0,none⟩)] w (StPost s w):=by
 obtain ⟨c0,-⟩:=at_ h.blk 0 (.int .i64 s.pen.at_.fk) rfl
 obtain ⟨c1,-⟩:=at_ h.blk 1 (.int .i64 s.pen.at_.fn) rfl
 obtain ⟨c2,-⟩:=at_ h.blk 2 (.int .i64 s.pen.at_.bk) rfl
 obtain ⟨c3,-⟩:=at_ h.blk 3 (.int .i64 s.pen.at_.bn) rfl
 obtain ⟨c4,-⟩:=at_ h.blk 4 (.int .i64 s.pen.at_.fl) rfl
 obtain ⟨c5,-⟩:=at_ h.blk 5 (.int .i64 s.pen.ch.g0) rfl
 obtain ⟨c6,-⟩:=at_ h.blk 6 (.int .i64 s.pen.ch.g1) rfl
 obtain ⟨c7,-⟩:=at_ h.blk 7 (.int .i64 s.pen.ch.g2) rfl
 obtain ⟨c8,-⟩:=at_ h.blk 8 (.int .i64 s.pen.ch.g3) rfl
 obtain ⟨c9,-⟩:=at_ h.blk 9 (.int .i64 s.pen.ch.use) rfl
 obtain ⟨c10,-⟩:=at_ h.blk 10 (.int .i64 s.pen.ch.once) rfl
 obtain ⟨c11,-⟩:=at_ h.blk 11 (.bool s.pen.put) rfl
 obtain ⟨c12,-⟩:=at_ h.blk 12 (.bool s.pen.wrap) rfl
 obtain ⟨c13,-⟩:=at_ h.blk 13 (.bool s.pen.home) rfl
 obtain ⟨c16,-⟩:=at_ h.blk 16 (.int .i64 s.y) rfl
 obtain ⟨c17,-⟩:=at_ h.blk 17 (.int .i64 s.x) rfl
 obtain ⟨c18,-⟩:=at_ h.blk 18 (.int .i64 s.top) rfl
 obtain ⟨c19,-⟩:=at_ h.blk 19 (.int .i64 s.bot) rfl
 obtain ⟨c36,-⟩:=at_ h.blk 36 (.bool s.has) rfl
 have hl:=lt_of_cell c0
 clear h
 go_enter Tryz.func47,Tryz.ntmps47
 go_upto_region 3 with fail
 generalize hW:World.alloc _ _ = W
 have hb2:Below w.heap.size w W:=by rw [← hW];exact below_allocs (Below.refl _ _) _
 have hc2:W.heap[w.heap.size]? = some (.cells ([.int .i64 0,.int .i64 0,.int .i64 0,.int .i64 0,.int .i64 0,.int .i64 0,.int .i64 0,.int .i64 0,.int .i64 0,.int .i64 0,.int .i64 0,.int .i64 0,.int .i64 0,.bool false,.bool false,.bool false,.int .i64 0,.int .i64 0,.bool false]:List Value).toArray 103 (0,0)):=by rw [← hW];exact hp_new rfl
 have HB2:=Hd hb2
 have HC2:=Hd hc2
 replace c0:=holda hb2 c0
 replace c1:=holda hb2 c1
 replace c2:=holda hb2 c2
 replace c3:=holda hb2 c3
 replace c4:=holda hb2 c4
 replace c5:=holda hb2 c5
 replace c6:=holda hb2 c6
 replace c7:=holda hb2 c7
 replace c8:=holda hb2 c8
 replace c9:=holda hb2 c9
 replace c10:=holda hb2 c10
 replace c11:=holda hb2 c11
 replace c12:=holda hb2 c12
 replace c13:=holda hb2 c13
 replace c16:=holda hb2 c16
 replace c17:=holda hb2 c17
 replace c18:=holda hb2 c18
 replace c19:=holda hb2 c19
 replace c36:=holda hb2 c36
 clear hW hb2 hc2
 refine wp_region_u 37 (fun w' => Below W.heap.size W w'∧w'.cell? ⟨v.S,0,none⟩ = some (.int .i64 s.pen.at_.fk)∧w'.cell? ⟨v.S,1,none⟩ = some (.int .i64 s.pen.at_.fn)∧w'.cell? ⟨v.S,2,none⟩ = some (.int .i64 s.pen.at_.bk)∧w'.cell? ⟨v.S,3,none⟩ = some (.int .i64 s.pen.at_.bn)∧w'.cell? ⟨v.S,4,none⟩ = some (.int .i64 s.pen.at_.fl)∧w'.cell? ⟨v.S,5,none⟩ = some (.int .i64 s.pen.ch.g0)∧w'.cell? ⟨v.S,6,none⟩ = some (.int .i64 s.pen.ch.g1)∧w'.cell? ⟨v.S,7,none⟩ = some (.int .i64 s.pen.ch.g2)∧w'.cell? ⟨v.S,8,none⟩ = some (.int .i64 s.pen.ch.g3)∧w'.cell? ⟨v.S,9,none⟩ = some (.int .i64 s.pen.ch.use)∧w'.cell? ⟨v.S,10,none⟩ = some (.int .i64 s.pen.ch.once)∧w'.cell? ⟨v.S,11,none⟩ = some (.bool s.pen.put)∧w'.cell? ⟨v.S,12,none⟩ = some (.bool s.pen.wrap)∧w'.cell? ⟨v.S,13,none⟩ = some (.bool s.pen.home)∧w'.cell? ⟨v.S,16,none⟩ = some (.int .i64 s.y)∧w'.cell? ⟨v.S,17,none⟩ = some (.int .i64 s.x)∧w'.cell? ⟨v.S,18,none⟩ = some (.int .i64 s.top)∧w'.cell? ⟨v.S,19,none⟩ = some (.int .i64 s.bot)∧w'.cell? ⟨v.S,36,none⟩ = some (.bool s.has)) (by kernel_rfl) (by kernel_rfl) ?_ ?_
 · exact ⟨(Below.refl _ _).drew,c0,c1,c2,c3,c4,c5,c6,c7,c8,c9,c10,c11,c12,c13,c16,c17,c18,c19,c36⟩
 simp only [List.take_succ_cons,List.take_zero,List.drop_succ_cons,List.drop_zero]
 repeat (
  (first
   | refine seqU_skip (by rfl) ?_
   | (refine seqU_val ?_ (by rfl) ?_ ?_;rotate_left;(focus (intro w' hS;obtain ⟨_,_,_,_,_,_,_,_,_,_,_,_,_,_,_,_,_,_,_,_⟩:=hS;go_simp;first | done | with_reducible rfl))))
  simp only [Act.put,List.setIfInBounds_toArray,List.set_cons_zero,List.set_cons_succ])
 refine seqU_nil (fun w' hS => ?_)
 have hc3:=(hS.1.block _ (lt_of_heap HC2.out)).trans HC2.out
 have hb3:=below_tail HB2.out hS.1
 refine wpList_store_mid rfl 103 (.tmp 2) (.tmp 42) rfl (w.heap.size) (0) ((stL s).toArray) rfl rfl ((show World.there _ w.heap.size 0 19 from there_new hc3)) info_state (all_oneCell_toArray (stL_one s)) ?_
 simp only [Act.put]
 go_wp2
 have hw:=whole_setCells (stL s) 0 _ _ hc3 (by simp [stL])
 exact bodyPost_ret (ret_agg rfl _ _ w.heap.size (stL s) rfl (range_new hw) Tryz.underlying103 rfl info_state) rfl ⟨rfl,below_setN hb3 (Nat.le_refl _) _ _⟩
def peL (p:Pe):List Value:=[.int .i64 p.at_.fk,.int .i64 p.at_.fn,.int .i64 p.at_.bk,.int .i64 p.at_.bn,.int .i64 p.at_.fl,.int .i64 p.ch.g0,.int .i64 p.ch.g1,.int .i64 p.ch.g2,.int .i64 p.ch.g3,.int .i64 p.ch.use,.int .i64 p.ch.once,.bool p.put,.bool p.wrap,.bool p.home]
theorem peL_one (p:Pe):∀ v ∈ peL p,v.oneCell' = true:=fun v hv => by
 simp only [peL,List.mem_cons,List.not_mem_nil,or_false] at hv
 rcases hv with rfl | rfl | rfl | rfl | rfl | rfl | rfl | rfl | rfl | rfl | rfl | rfl | rfl | rfl <;> rfl
theorem info_pen:(Tryz.prog.info? 123).map (·.size) = some 14:=by kernel_rfl
set_option maxHeartbeats 1600000 in
theorem sfresh_any (w:World):Calls Tryz.prog 64 #[] w fun e w' => e = .returned (.agg (peL firstPe).toArray)∧Below w.heap.size w w':=by
 have HN:=Hd (fun w => cnew_any w)
 unfold chV at HN
 go_enter Tryz.func64,Tryz.ntmps64
 go_upto_region 1 with fail
 generalize hW:World.alloc _ _ = W
 have hb2:Below w.heap.size w W:=by rw [← hW];exact below_allocs (Below.refl _ _) _
 have hc2:W.heap[w.heap.size]? = some (.cells (peL zeroPe).toArray 123 (0,0)):=by rw [← hW];exact hp_new rfl
 clear hW
 refine wp_region_lit ?_
 refine wpList_callS rfl 114 #[] (by go_simp) (HN.out _) (.agg #[.int .i64 66,.int .i64 66,.int .i64 66,.int .i64 66,.int .i64 0,.int .i64 0]) (fun e w' h => h.1) ?_
 rintro w1 ⟨-,hb⟩
 simp only [Act.put,List.setIfInBounds_toArray,List.set_cons_zero,List.set_cons_succ]
 refine wpList_valG (.agg #[.bool false,.bool true,.bool false]) (by rfl) (by go_simp) ?_
 simp only [Act.put,List.setIfInBounds_toArray,List.set_cons_zero,List.set_cons_succ]
 refine wpList_valG (.agg (peL firstPe).toArray) (by rfl) (by go_simp;rfl) ?_
 simp only [Act.put,List.setIfInBounds_toArray,List.set_cons_zero,List.set_cons_succ]
 have hc3:=(hb.block _ (lt_of_heap hc2)).trans hc2
 have hb3:=below_tail hb2 hb
 refine wpList_store_mid rfl 123 (.tmp 0) (.tmp 3) rfl (w.heap.size) (0) ((peL firstPe).toArray) rfl rfl ((show World.there _ w.heap.size 0 14 from there_new hc3)) info_pen (all_oneCell_toArray (peL_one _)) ?_
 simp only [Act.put]
 go_wp2
 have hw:=whole_setCells (peL firstPe) 0 _ _ hc3 (by simp [peL])
 exact bodyPost_ret (ret_agg rfl _ _ w.heap.size (peL firstPe) rfl (range_new hw) Tryz.underlying123 rfl info_pen) rfl ⟨rfl,below_setN hb3 (Nat.le_refl _) _ _⟩
def SNewPost (rows cols lines:Nat) (w:World) (e:Ending) (w':World):Prop :=
 ∃ v,e = .returned (.tuple #[.pointer (some ⟨v.S,0,none⟩),.int .i64 0])∧ScO w.heap.size w' v (newS rows cols lines (sizeT [] cols))∧Below w.heap.size w w'
theorem TbO.weaken {b2 T:Nat} {vw:Value} {ws:List Nat} {st:List Bool} (h:TbO base w T vw ws st) (hb:b2 ≤ base):TbO b2 w T vw ws st :=
 ⟨h.blk,Nat.le_trans hb h.hb,owns_weaken h.own hb,h.wds,h.le,h.few⟩
set_option maxHeartbeats 1600000 in
theorem snew_ok (rows cols lines:Nat) (w:World) (hr1:1 ≤ rows) (hr2:rows ≤ 1000) (hc1:2 ≤ cols) (hc2:cols ≤ 1000) (hl:lines ≤ 100000) :
 Calls Tryz.prog 35 #[.int .i64 rows,.int .i64 cols,.int .i64 lines] w (SNewPost rows cols lines w):=by
 have HP:=Hd (pnew_ok rows cols lines w hr1 hr2 hc1 hc2 hl)
 have HT:=Hd (fun w => tnew_ok cols w hc1 hc2)
 have HF:=Hd (fun w => sfresh_any w)
 unfold peL at HF
 have hwr:IntKind.i64.wrap ((rows:Int) - 1) = (rows:Int) - 1:=IntWalk.i64_in _ (by omega)
 go_enter Tryz.func35,Tryz.ntmps35
 go_wp2_with (first
  | (go_at_call 62;refine HP.out.mono ?_;rintro e w1 ⟨q,rfl,hq,hb⟩;have HQ:=Hd hq;have HB1:=Hd hb;clear hq hb)
  | (go_at_call 63;refine (HT.out _).mono ?_;rintro e w2 ⟨T,vw,ws,rfl,ht,hb⟩;have HTB:=Hd ht;have HB2:=Hd hb;clear ht hb)
  | (go_at_call 64;refine (HF.out _).mono ?_;rintro e w3 ⟨rfl,hb⟩;have HB3:=Hd hb;clear hb))
 go_ret2
 have hba:=below_allocs (Below.refl w3.heap.size w3) (.cells (encSc (newS rows cols lines (sizeT [] cols)) q.P T).toArray 128)
 have h1:=HB1.out.size
 have h2:=HB2.out.size
 have h3:=HB3.out.size
 exact ⟨⟨w3.heap.size,q,T,vw,ws⟩,rfl,⟨hp_new rfl,by show w.heap.size ≤ w3.heap.size;omega,((HQ.out.below HB2.out).below HB3.out).below hba,(((HTB.out.weaken h1).below HB3.out).below hba)⟩,below_tail (below_tail (below_tail HB1.out HB2.out) HB3.out) hba⟩
end
section
variable {base:Nat} {w:World} {v:Sv} {s:Sc} {rows cols room:Nat}
theorem ScO.puts {s':Sc} (h:ScO base w v s) (o:Nat) (vs:List Value) (ho:o + vs.length ≤ 38) (he:(encSc s v.q.P v.T).take o ++ (vs ++ (encSc s v.q.P v.T).drop (o + vs.length)) = encSc s' v.q.P v.T) (hp:s'.pg = s.pg) (ht:s'.st = s.st) :
 ScO base (w.setCells v.S o vs) v s'∧Mod (scX v) w (w.setCells v.S o vs):=by
 have hM:Mod [v.S] w (w.setCells v.S o vs):=mod_setCellsN (.inl (by simp)) vs o w (Mod.refl _ _)
 refine ⟨⟨?_,h.hb,?_,?_⟩,hM.mono (fun b hb => by rw [List.mem_singleton.1 hb];simp [scX])⟩
 · rw [← he]
   exact whole_setCells vs o _ w h.blk (by show _ ≤ 38;exact ho)
 · rw [hp]
   exact h.page.mod hM (fun b hb cs f he => by rw [List.mem_singleton.1 hb] at he;exact block_ne h.blk he (by decide) rfl) (fun b hb hx => h.np (by rw [← List.mem_singleton.1 hx];exact hb))
 · rw [ht]
   exact h.tabs.mod hM (fun b hb hx => h.nt (by rw [← List.mem_singleton.1 hx];exact hb))
theorem ScO.there (h:ScO base w v s) {o n:Nat} (ho:o + n ≤ 38):w.there v.S o n:=fun j hj => by
 have:=there_new h.blk (o + j) (by show o + j < 38;omega)
 rw [Nat.zero_add] at this
 exact this
end
section
variable {P:Program}
theorem exec_store_mid {o:Oper} {a:Act} {w:World} (ty:TypeId) (x y:Operand) (ho:o.op = .store ty x y) (b off:Nat) (cells:Array Value) (hx:a.eval x = .pointer (some ⟨b,off,none⟩)) (hy:a.eval y = .agg cells)
 (ht:w.there b off cells.size) (hi:(P.info? ty).map (·.size) = some cells.size) (h1:cells.all (·.oneCell') = true):(execOp a.eval o).run P w = .ok .skip (w.setCells b off cells.toList):=by
 unfold execOp
 simp only [ho,hx,hy,Sem.run_bind,run_storeAt_mid w b off ty cells ht hi h1,Result.andThen_ok,Sem.run_pure]
end
section
variable {base:Nat} {w:World} {v:Sv} {s:Sc} {rows cols room:Nat}
end
section
variable {base:Nat} {w:World} {v:Sv} {s:Sc} {rows cols room:Nat}
def aL (a:Atr):List Value:=[.int .i64 a.fk,.int .i64 a.fn,.int .i64 a.bk,.int .i64 a.bn,.int .i64 a.fl]
theorem info_attr5:(Tryz.prog.info? 63).map (·.size) = some 5:=by kernel_rfl
theorem one5 (a:Atr):∀ u ∈ aL a,u.oneCell' = true:=fun u hu => by
 simp only [aL,List.mem_cons,List.not_mem_nil,or_false] at hu
 rcases hu with rfl | rfl | rfl | rfl | rfl <;> rfl
end
structure Gh where
 A:Option Addr
 g:List Int
 cap:Nat
def encZ (n:Int):List Value:=[.int .i64 n]
theorem encZ_len:∀ n,(encZ n).length = 1:=fun _ => rfl
theorem encZ_one:∀ n,∀ v ∈ encZ n,v.oneCell' = true:=fun n v hv => by
 obtain rfl:=List.mem_singleton.1 hv;rfl
def encGh (h:Gh):List Value:=[.slice h.A h.g.length h.cap]
theorem encGh_len:∀ h,(encGh h).length = 1:=fun _ => rfl
theorem encGh_one:∀ h,∀ v ∈ encGh h,v.oneCell' = true:=fun h v hv => by
 obtain rfl:=List.mem_singleton.1 hv;rfl
def gsOf (H:List Gh):List (List Int):=H.map (·.g)
def GsAt (w:World) (A:Option Addr) (H:List Gh):Prop:=GrAt encGh 1 w A H∧∀ h ∈ H,GrAt encZ 1 w h.A h.g∧h.g.length ≤ h.cap
theorem GsAt.below {w w':World} {A:Option Addr} {H:List Gh} (h:GsAt w A H) (hb:Below w.heap.size w w'):GsAt w' A H:=⟨h.1.below hb,fun x hx => ⟨(h.2 x hx).1.below hb,(h.2 x hx).2⟩⟩
theorem GsAt.get {w:World} {A:Option Addr} {H:List Gh} (h:GsAt w A H) {i:Nat} (hi:i < H.length):∃ (x:Gh) (gb off:Nat),H[i]? = some x∧A = some ⟨gb,off,none⟩∧w.cell? ⟨gb,off + i,none⟩ = some (.slice x.A x.g.length x.cap)∧(GrAt encZ 1 w x.A x.g∧x.g.length ≤ x.cap)∧(gsOf H).getD i [] = x.g:=by
 obtain ⟨gb,off,hA,hg⟩:=h.1 (by omega)
 have hx:H[i]? = some H[i]:=List.getElem?_eq_getElem hi
 have:=hg i _ hx 0 _ rfl
 rw [Nat.mul_one,Nat.add_zero] at this
 refine ⟨H[i],gb,off,hx,hA,this,h.2 _ (List.getElem_mem hi),?_⟩
 unfold gsOf
 rw [List.getD_eq_getElem?_getD,List.getElem?_map,hx]
 rfl
theorem gr_num {w:World} {A:Option Addr} {g:List Int} (h:GrAt encZ 1 w A g) {i:Nat} (hi:i < g.length):∃ b off,A = some ⟨b,off,none⟩∧w.cell? ⟨b,off + i,none⟩ = some (.int .i64 (g.getD i 0)):=by
 obtain ⟨b,off,hA,hg⟩:=h (by omega)
 have hx:g[i]? = some (g.getD i 0):=by rw [List.getD_eq_getElem?_getD,List.getElem?_eq_getElem hi];rfl
 have:=hg i _ hx 0 _ rfl
 rw [Nat.mul_one,Nat.add_zero] at this
 exact ⟨b,off,hA,this⟩
theorem headD_getD (g:List Int):g.headD 0 = g.getD 0 0:=by cases g <;> rfl
section
variable {w:World} {A:Option Addr} {H:List Gh}
theorem afirst_any (hG:GsAt w A H) (ca i:Nat) (hz:H.length ≤ 1000000):Calls Tryz.prog 358 #[.slice A H.length ca,.int .i64 i] w fun e w' => e = .returned (.int .i64 (fstG (gsOf H) i))∧w = w':=by
 unfold fstG
 by_cases hi:i < H.length
 rotate_left
 · have hiI:¬ (i:Int) < (H.length:Int):=by omega
   have hiI2:(H.length:Int) ≤ (i:Int):=by omega
   have e:(gsOf H).getD i [] = []:=by unfold gsOf;rw [List.getD_eq_getElem?_getD,List.getElem?_eq_none (by simp;omega)];rfl
   rw [e]
   clear hG e hi
   go_enter Tryz.func358,Tryz.ntmps358
   go_wp2
   go_ret
   exact ⟨rfl,rfl⟩
 obtain ⟨x,gb,off,hx,rfl,hc,⟨hg,-⟩,e⟩:=hG.get hi
 rw [e,headD_getD]
 have hiI:(i:Int) < (H.length:Int):=by omega
 have hiI2:¬ (H.length:Int) ≤ (i:Int):=by omega
 clear hG e hx
 obtain ⟨L,hL⟩:∃ L,H.length = L:=⟨_,rfl⟩
 rw [hL] at hi hiI hiI2 hz ⊢
 clear hL
 by_cases h0:0 < x.g.length
 · obtain ⟨b,off2,hA,hc2⟩:=gr_num hg h0
   rw [hA] at hc
   obtain ⟨K,hK⟩:∃ K,x.g.length = K:=⟨_,rfl⟩
   rw [hK] at h0 hc
   have h0I:¬ (K:Int) = 0:=by omega
   have h0N:¬ K = 0:=by omega
   have h0J:(0:Int) < (K:Int):=by omega
   have hq:((K:Int) == 0) = false:=beq_eq_false_iff_ne.2 h0I
   rw [Nat.add_zero] at hc2
   obtain ⟨n,hn⟩:∃ n,x.g.getD 0 0 = n:=⟨_,rfl⟩
   rw [hn] at hc2 ⊢
   clear hg hA hK hn
   go_enter Tryz.func358,Tryz.ntmps358
   go_wp2
   all_goals
    go_ret
    exact ⟨by simp;try omega,rfl⟩
 · have hK:x.g.length = 0:=by omega
   have e:x.g.getD 0 0 = 0:=by rw [List.eq_nil_of_length_eq_zero hK];rfl
   rw [hK] at hc
   rw [e]
   clear hg hK e h0
   go_enter Tryz.func358,Tryz.ntmps358
   go_wp2
   go_ret
   exact ⟨rfl,rfl⟩
def lineV (g:List Int):Int:=if 1 < g.length∧g.getD 1 0 = 0 then 0 else if 1 < g.length∧g.getD 1 0 = 2 then 256 else 8
theorem aline_any {B:Option Addr} {g:List Int} (hG:GrAt encZ 1 w B g) (ca:Nat) (hz:g.length ≤ 1000000):Calls Tryz.prog 359 #[.slice B g.length ca] w fun e w' => e = .returned (.int .i64 (lineV g))∧w = w':=by
 unfold lineV
 by_cases h1:1 < g.length
 rotate_left
 · rw [if_neg (by omega),if_neg (by omega)]
   have h1I:¬ (1:Int) < (g.length:Int):=by omega
   obtain ⟨K,hK⟩:∃ K,g.length = K:=⟨_,rfl⟩
   rw [hK] at h1I h1 ⊢
   clear hK hG
   go_enter Tryz.func359,Tryz.ntmps359
   go_wp2
   go_ret
   exact ⟨rfl,rfl⟩
 obtain ⟨b,off,rfl,hc⟩:=gr_num hG h1
 have h1I:(1:Int) < (g.length:Int):=by omega
 obtain ⟨n,hn⟩:∃ n,g.getD 1 0 = n:=⟨_,rfl⟩
 rw [hn] at hc ⊢
 obtain ⟨K,hK⟩:∃ K,g.length = K:=⟨_,rfl⟩
 rw [hK] at h1 h1I ⊢
 clear hG hn hK
 by_cases h2:n = 0
 · rw [if_pos ⟨h1,h2⟩]
   subst h2
   go_enter Tryz.func359,Tryz.ntmps359
   go_wp2
   go_ret
   exact ⟨rfl,rfl⟩
 rw [if_neg (by omega)]
 have e2:(n == 0) = false:=beq_eq_false_iff_ne.2 h2
 by_cases h3:n = 2
 · rw [if_pos ⟨h1,h3⟩]
   subst h3
   clear e2 h2
   go_enter Tryz.func359,Tryz.ntmps359
   go_wp2
   go_ret
   exact ⟨rfl,rfl⟩
 · rw [if_neg (by omega)]
   have e3:(n == 2) = false:=beq_eq_false_iff_ne.2 h3
   clear h2 h3
   go_enter Tryz.func359,Tryz.ntmps359
   go_wp2
   go_ret
   exact ⟨rfl,rfl⟩
def setsV (v:Int):Int:=if v == 1 then 1 else if v == 2 then 2 else if v == 3 then 4 else if v == 5 then 16 else if v == 6 then 16 else if v == 7 then 32 else if v == 8 then 64 else if v == 9 then 128 else if v == 53 then 512 else 0
def clearsV (v:Int):Int:=if v == 22 then 3 else if v == 23 then 4 else if v == 24 then 264 else if v == 25 then 16 else if v == 27 then 32 else if v == 28 then 64 else if v == 29 then 128 else if v == 55 then 512 else 0
theorem asets_any (v:Int) (w:World):Calls Tryz.prog 385 #[.int .i64 v] w fun e w' => e = .returned (.int .i64 (setsV v))∧w = w':=by
 go_enter Tryz.func385,Tryz.ntmps385
 go_wp2
 all_goals
  go_ret
  refine ⟨?_,rfl⟩
  unfold setsV
  simp [*]
theorem aclears_any (v:Int) (w:World):Calls Tryz.prog 386 #[.int .i64 v] w fun e w' => e = .returned (.int .i64 (clearsV v))∧w = w':=by
 go_enter Tryz.func386,Tryz.ntmps386
 go_wp2
 all_goals
  go_ret
  refine ⟨?_,rfl⟩
  unfold clearsV
  simp [*]
def palV (v lo hi:Int):Col × Bool:=if lo ≤ v∧v < lo + 8 then (⟨1,v - lo⟩,true) else if hi ≤ v∧v < hi + 8 then (⟨1,v - hi + 8⟩,true) else (⟨0,0⟩,v == lo + 9)
def PalPost (v lo hi:Int) (w:World) (e:Ending) (w':World):Prop:=e = .returned (.tuple #[.agg #[.int .i64 (palV v lo hi).1.k,.int .i64 (palV v lo hi).1.n],.bool (palV v lo hi).2])∧Below w.heap.size w w'
end
def TyB (w:World) (b:Nat) (ty:TypeId):Prop:=∃ cur,w.heap[b]? = some (.cells cur ty (0,0))
theorem TyB.lt {w:World} {b:Nat} {ty:TypeId} (h:TyB w b ty):b < w.heap.size:=by obtain ⟨cur,hc⟩:=h;exact lt_of_heap hc
theorem TyB.mod {X:List Nat} {w w':World} {b:Nat} {ty:TypeId} (h:TyB w b ty) (hm:Mod X w w') (hX:b ∉ X):TyB w' b ty:=by obtain ⟨cur,hc⟩:=h;exact ⟨cur,(hm.block b (lt_of_heap hc) hX).trans hc⟩
def NoG (w:World) (b:Nat):Prop:=¬ TyB w b 241∧¬ TyB w b 3
def GnAt (w:World) (lo:Nat) (A:Option Addr) (H:List Gh):Prop :=
 (H ≠ []→∃ b off,A = some ⟨b,off,none⟩∧lo ≤ b∧TyB w b 241)∧GsAt w A H∧∀ h ∈ H,h.g ≠ []→∃ b off,h.A = some ⟨b,off,none⟩∧lo ≤ b∧TyB w b 3
theorem GnAt.nil (w:World) (lo:Nat):GnAt w lo none []:=⟨fun h => absurd rfl h,⟨fun h => absurd h (by simp),fun h hh => by cases hh⟩,fun h hh => by cases hh⟩
theorem GnAt.modT {X:List Nat} {w w':World} {lo:Nat} {A:Option Addr} {H:List Gh} (h:GnAt w lo A H) (hm:Mod X w w') (hX:∀ b ∈ X,b < lo ∨ w.heap.size ≤ b ∨ NoG w b):GnAt w' lo A H:=by
 obtain ⟨h1,⟨h2,h3⟩,h4⟩:=h
 have out1:∀ b,lo ≤ b→TyB w b 241→b ∉ X:=fun b hl ht hx => by
  rcases hX b hx with h | h | h
  · omega
  · have:=ht.lt;omega
  · exact h.1 ht
 have out2:∀ b,lo ≤ b→TyB w b 3→b ∉ X:=fun b hl ht hx => by
  rcases hX b hx with h | h | h
  · omega
  · have:=ht.lt;omega
  · exact h.2 ht
 refine ⟨fun hn => ?_,⟨?_,fun x hx => ⟨?_,(h3 x hx).2⟩⟩,fun x hx hn => ?_⟩
 · obtain ⟨b,off,e,a,c⟩:=h1 hn
   exact ⟨b,off,e,a,c.mod hm (out1 b a c)⟩
 · by_cases hn:H = []
   · subst hn;intro h;simp at h
   · obtain ⟨b,off,rfl,a,c⟩:=h1 hn
     exact gr_mod h2 hm (out1 b a c)
 · by_cases hn:x.g = []
   · rw [hn];intro h;simp at h
   · obtain ⟨b,off,e,a,c⟩:=h4 x hx hn
     have:=(h3 x hx).1
     rw [e] at this ⊢
     exact gr_mod this hm (out2 b a c)
 · obtain ⟨b,off,e,a,c⟩:=h4 x hx hn
   exact ⟨b,off,e,a,c.mod hm (out2 b a c)⟩
theorem GnAt.mod {X:List Nat} {w w':World} {lo:Nat} {A:Option Addr} {H:List Gh} (h:GnAt w lo A H) (hm:Mod X w w') (hX:∀ b ∈ X,b < lo ∨ w.heap.size ≤ b):GnAt w' lo A H:=h.modT hm (fun b hb => (hX b hb).imp id .inl)
theorem GnAt.below {w w':World} {lo:Nat} {A:Option Addr} {H:List Gh} (h:GnAt w lo A H) (hb:Below w.heap.size w w'):GnAt w' lo A H:=h.mod (X:=[]) (Mod.of_below hb) (fun _ h => by cases h)
theorem GnAt.weaken {w:World} {lo lo2:Nat} {A:Option Addr} {H:List Gh} (h:GnAt w lo A H) (hl:lo2 ≤ lo):GnAt w lo2 A H :=
 ⟨fun hn => by obtain ⟨b,off,e,a,c⟩:=h.1 hn;exact ⟨b,off,e,Nat.le_trans hl a,c⟩,h.2.1,fun x hx hn => by obtain ⟨b,off,e,a,c⟩:=h.2.2 x hx hn;exact ⟨b,off,e,Nat.le_trans hl a,c⟩⟩
structure Ex where
 e:Ev
 A:Option Addr
 H:List Gh
 ca:Nat
def encEx (x:Ex):List Value:=[.int .i64 x.e.kind,.int .i32 x.e.r,.int .u8 x.e.byte,.int .u8 x.e.pre,.slice x.A x.H.length x.ca,.string (strOfNums x.e.inter),.string (strOfNums x.e.text),.bool x.e.cut]
theorem encEx_len:∀ x,(encEx x).length = 8:=fun _ => rfl
theorem encEx_one:∀ x,∀ v ∈ encEx x,v.oneCell' = true:=fun x v hv => by
 simp only [encEx,List.mem_cons,List.not_mem_nil,or_false] at hv
 rcases hv with rfl | rfl | rfl | rfl | rfl | rfl | rfl | rfl <;> rfl
structure ExOk (w:World) (lo:Nat) (x:Ex):Prop where
 g:gsOf x.H = x.e.nums
 c:x.H.length ≤ x.ca
 z:x.H.length ≤ 32∧∀ h ∈ x.H,h.g.length ≤ 8
 n:GnAt w lo x.A x.H
theorem ExOk.mod {X:List Nat} {w w':World} {lo:Nat} {x:Ex} (h:ExOk w lo x) (hm:Mod X w w') (hX:∀ b ∈ X,b < lo ∨ w.heap.size ≤ b):ExOk w' lo x:=⟨h.g,h.c,h.z,h.n.mod hm hX⟩
theorem ExOk.modT {X:List Nat} {w w':World} {lo:Nat} {x:Ex} (h:ExOk w lo x) (hm:Mod X w w') (hX:∀ b ∈ X,b < lo ∨ w.heap.size ≤ b ∨ NoG w b):ExOk w' lo x:=⟨h.g,h.c,h.z,h.n.modT hm hX⟩
theorem ExOk.below {w w':World} {lo:Nat} {x:Ex} (h:ExOk w lo x) (hb:Below w.heap.size w w'):ExOk w' lo x:=⟨h.g,h.c,h.z,h.n.below hb⟩
theorem ExOk.weaken {w:World} {lo lo2:Nat} {x:Ex} (h:ExOk w lo x) (hl:lo2 ≤ lo):ExOk w lo2 x:=⟨h.g,h.c,h.z,h.n.weaken hl⟩
def ex0 (e:Ev):Ex:=⟨e,none,[],0⟩
theorem ex0_ok (w:World) (lo:Nat) {e:Ev} (h:e.nums = []):ExOk w lo (ex0 e):=⟨h.symm,Nat.le_refl _,⟨by show 0 ≤ 32;omega,fun h hh => by cases hh⟩,GnAt.nil w lo⟩
structure ExsO (w:World) (lo:Nat) (u:Value) (X:List Ex) (evs:List Ev):Prop where
 own:w.ownsRow lo 83 8 u X.length (flat encEx X)
 es:X.map (·.e) = evs
 ok:∀ x ∈ X,ExOk w lo x
theorem ExsO.nil (w:World) (lo:Nat):ExsO w lo (.slice none 0 0) [] []:=⟨World.ownsRow_nil w lo 83 8,rfl,fun _ h => by cases h⟩
theorem ExsO.mod {X:List Nat} {w w':World} {lo:Nat} {u:Value} {L:List Ex} {evs:List Ev} (h:ExsO w lo u L evs) (hm:Mod X w w') (hX:∀ b ∈ X,b < lo ∨ w.heap.size ≤ b):ExsO w' lo u L evs :=
 ⟨owns_mod h.own hm (fun g hg hx => by have:=h.own.lt g hg;rcases hX g hx with h | h <;> omega),h.es,fun x hx => (h.ok x hx).mod hm hX⟩
theorem ExsO.below {w w':World} {lo:Nat} {u:Value} {L:List Ex} {evs:List Ev} (h:ExsO w lo u L evs) (hb:Below w.heap.size w w'):ExsO w' lo u L evs:=h.mod (X:=[]) (Mod.of_below hb) (fun _ h => by cases h)
theorem ExsO.weaken {w:World} {lo lo2:Nat} {u:Value} {L:List Ex} {evs:List Ev} (h:ExsO w lo u L evs) (hl:lo2 ≤ lo):ExsO w lo2 u L evs:=⟨owns_weaken h.own hl,h.es,fun x hx => (h.ok x hx).weaken hl⟩
def EvPost (base:Nat) (w:World) (v:Zv) (x:Pz × List Ev) (e:Ending) (w':World):Prop:=∃ u L,e = .returned u∧ExsO w' w.heap.size u L x.2∧PzRes base w v x.1 w'
end Go.Proofs.YtaefcahblmopfaaGreatDoor
