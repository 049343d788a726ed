/- Joined by a tool of this claim out of smaller texts. Conditions: as stated. -/
import Derived.Test.YtffdblmdelgkaaaGreatRt28
import Derived.Test.YtffdblmdelgkaaaGreatRt31
set_option linter.unusedVariables false
set_option linter.unusedSimpArgs false
set_option maxRecDepth 100000
open Go.Lib renaming hid → Hd
namespace Go.Proofs.YtffdblmdelgkaaaGreat
open Go.RowKit
theorem append_pos (w:World) (k base:Nat) (p:P2) (hk:w.heap[k]? = some (.cells #[.int .i64 p.1,.int .i64 p.2] 57 (0,0))) (hbk:base ≤ k) (B:Option Addr) (l:List P2) (cb:Nat) (hb:GrAt encP 2 w B l) (hz:l.length ≤ 100000) (hbw:base ≤ w.heap.size) :
 ∃ g8 c8 w',(Builtin.append_ #[58,58] 58 #[.slice (some ⟨k,0,none⟩) 1 1,.slice B l.length cb]).run Tryz.prog w = .ok (.slice (some ⟨g8,0,none⟩) (l.length + 1) c8) w'∧w'.ownsRow base 57 2 (.slice (some ⟨g8,0,none⟩) (l.length + 1) c8) (l.length + 1) (flat encP (p :: l))∧Below base w w':=by
 obtain ⟨jp,hjp,gp0,gp1,gp2⟩:=info_parts info_poszz
 by_cases h0:0 < l.length
 · obtain ⟨b,off,rfl,-⟩:=hb h0
   obtain ⟨v',w',hr,ho,hgr,-⟩:=run_append_own_at (P:=Tryz.prog) w base 58 58 57 jp _ 2 16 Tryz.underlying58 hjp gp0 gp1 gp2 rfl (by decide) _ 1 (flat encP [p]) (owns_pos1 hk hbk) ⟨b,off,none⟩ l.length cb (flat encP l) (flat_len encP_len l) (hb.news encP_len) (flat_one encP_one _) (by simp only [maxLen];omega) (by omega) hbw
   rw [Nat.add_comm 1 l.length] at ho
   obtain ⟨g8,c8,hv⟩:=Go.Joins.ownsRow_form ho (by omega)
   subst hv
   exact ⟨g8,c8,w',hr,ho,(Below.refl base w).grown hgr hbw (fun x hx => by simp [Value.ownBlock] at hx;omega)⟩
 · have:l = []:=List.length_eq_zero_iff.1 (by omega)
   subst this
   exact ⟨k,1,w,append_empty Tryz.underlying58 hjp ⟨k,0,none⟩ 1 1 B cb w (Nat.le_refl _),owns_pos1 hk hbk,Below.refl _ _⟩
theorem results_cell_tt {P:Program} {fn:Func} {p u u2:Tmp} {ty:TypeId} (h:fn.results = #[.cell p ty,.tmp u,.tmp u2]) (tmps:Array Value) (w:World) :
 (results fn tmps).run P w = ((asAddr (tmps.getD p undef)).run P w).andThen fun a w₁ => ((loadVar ty a).run P w₁).andThen fun v w₂ => .ok (.tuple #[v,tmps.getD u undef,tmps.getD u2 undef]) w₂:=by
 simp only [results,h]
 simp [Sem.run_bind,Result.andThen]
theorem ret_pos3 {fn:Func} {p u z:Tmp} (hr:fn.results = #[.cell p 57,.tmp u,.tmp z]) (tmps:Array Value) (w:World) (b:Nat) (x y s t:Value) (hp:tmps.getD p undef = .pointer (some ⟨b,0,none⟩)) (hu:tmps.getD u undef = s) (hz:tmps.getD z undef = t) (h0:w.cell? ⟨b,0,none⟩ = some x) (h1:w.cell? ⟨b,1,none⟩ = some y) :
 (results fn tmps).run Tryz.prog w = .ok (.tuple #[.agg #[x,y],s,t]) w:=by
 have hl:=run_loadVar_mid (P:=Tryz.prog) w b 0 57 [x,y] _ (fun j v hj => by
  rw [Nat.zero_add]
  match j,hj with
  | 0,hj => simp at hj;subst hj;exact h0
  | 1,hj => simp at hj;subst hj;exact h1) Tryz.underlying57 rfl info_posz
 rw [results_cell_tt hr,hp,hu,hz]
 simp only [asAddr,Sem.run_pure,Result.andThen_ok,hl]
def ResizePost (base:Nat) (w:World) (q:Pv) (g:Pg) (rows cols:Nat) (at_:P2) (l:List P2) (e:Ending) (w':World):Prop :=
 ∃ A' c',e = .returned (.tuple #[.agg #[.int .i64 (resizeAt g rows cols at_ l).1,.int .i64 (resizeAt g rows cols at_ l).2],.slice A' (resizeL g rows cols at_ l).length c',.int .i64 0])∧GrAt encP 2 w' A' (resizeL g rows cols at_ l)∧(∀ b off,A' = some ⟨b,off,none⟩→w.heap.size ≤ b)∧PgRes base w q (resizeG g rows cols at_ l) w'
section
variable {base:Nat} {w:World} {q:Pv} {g:Pg}
set_option maxHeartbeats 12800000 in
theorem presize_any (h:PgO base w q g) (hbw:base ≤ w.heap.size) (h0:0 < g.scr.length) (rows cols:Nat) (hr1:1 ≤ rows) (hr2:rows ≤ 1000) (hc:2 ≤ cols) (hc2:cols ≤ 1000) (at1 at2:Int) (B:Option Addr) (l:List P2) (cb:Nat) (hb:GrAt encP 2 w B l) (hlz:l.length ≤ 1000) (hlok:Ok2 l)
 (hN:cntL (g.hist ++ g.scr) ≤ 10000) (hL:(g.hist ++ g.scr).length ≤ 10000) (hwd:∀ r ∈ g.hist ++ g.scr,r.cs.length = g.cols) :
 Calls Tryz.prog 15 #[.pointer (some ⟨q.P,0,none⟩),.int .i64 rows,.int .i64 cols,.agg #[.int .i64 at1,.int .i64 at2],.slice B l.length cb] w (ResizePost base w q g rows cols (at1,at2) l):=by
 obtain ⟨jp,hjp,gp0,gp1,gp2⟩:=info_parts info_poszz
 obtain ⟨jr,hjr,gr0,gr1,gr2⟩:=info_parts info_rowz
 have H:=Hd h
 have HRW:=Hd (And.intro hr1 (And.intro hr2 (And.intro hc hc2)))
 have HBW:=Hd hbw
 have HLB:=Hd hb
 have HLOK:=Hd hlok
 have HNN:=Hd (And.intro hN (And.intro hL hwd))
 have hg2:=h.cols2
 have hg3:=h.cols1000
 have hrow:=h.rows1000
 have hlen:=h.len
 have hh:=h.hist100k
 obtain ⟨n,hn⟩:∃ n,l.length = n:=⟨_,rfl⟩
 have HLN:=Hd hn
 rw [hn] at hlz ⊢
 obtain ⟨hl,hhl⟩:∃ hl,hl = g.hist.length:=⟨_,rfl⟩
 obtain ⟨sl,hsl⟩:∃ sl,sl = g.scr.length:=⟨_,rfl⟩
 obtain ⟨c0,hc0⟩:∃ c0,c0 = g.cols:=⟨_,rfl⟩
 have HFIT:Hid (∀ w':World,Calls Tryz.prog 52 #[.int .i64 rows,.int .i64 cols] w' fun e w'' => e = .returned (.bool true)∧w' = w''):=Hd (fun w' => by
  have:=pfits_any rows cols w'
  rw [show fitsB rows cols = true by unfold fitsB;simp;omega] at this
  exact this)
 have HBA:Hid (∀ w',Below w.heap.size w w'→Calls Tryz.prog 17 #[.pointer (some ⟨q.P,0,none⟩)] w' fun e w'' => e = .returned (.int .i64 hl)∧w' = w''):=Hd (fun w' hb => by rw [hhl];exact pBase_any (h.below hb))
 have HRO:Hid (∀ w',Below w.heap.size w w'→Calls Tryz.prog 18 #[.pointer (some ⟨q.P,0,none⟩)] w' fun e w'' => e = .returned (.int .i64 sl)∧w' = w''):=Hd (fun w' hb => by rw [hsl];exact pRows_any (h.below hb))
 have HALL:Hid (∀ w',Below w.heap.size w w'→Calls Tryz.prog 16 #[.pointer (some ⟨q.P,0,none⟩)] w' (AllPost (g.hist ++ g.scr) w')):=Hd (fun w' hb => pAll_any (h.below hb))
 obtain ⟨s1,hs1⟩:∃ s1,s1 + 1 = sl:=⟨sl - 1,by omega⟩
 have hs1I:(sl:Int) - 1 = (s1:Int):=by omega
 have hws1:IntKind.i64.wrap (s1:Int) = (s1:Int):=IntWalk.i64_in _ (by omega)
 obtain ⟨y,hy⟩:∃ y:Nat,max (0:Int) (min at1 (s1:Int)) = (y:Int):=⟨(max (0:Int) (min at1 (s1:Int))).toNat,by omega⟩
 obtain ⟨y0,hy0⟩:∃ y0,hl + y = y0:=⟨_,rfl⟩
 have hyI:(hl:Int) + (y:Int) = (y0:Int):=by omega
 have hwy:IntKind.i64.wrap (y0:Int) = (y0:Int):=IntWalk.i64_in _ (by omega)
 obtain ⟨x0,hx0⟩:∃ x0:Nat,max (0:Int) (min at2 (c0:Int)) = (x0:Int):=⟨(max (0:Int) (min at2 (c0:Int))).toNat,by omega⟩
 have HYX:Hid (rsY g at1 = y0∧rsX g at2 = x0):=Hd (by unfold rsY rsX;rw [← hsl,← hc0,← hhl];omega)
 have HY0:Hid (y0 < (g.hist ++ g.scr).length):=Hd (by rw [List.length_append];omega)
 have HL0:Hid (0 < (g.hist ++ g.scr).length):=Hd (by rw [List.length_append];omega)
 have HC0:=Hd hc0
 have HX0:Hid (x0 ≤ c0):=Hd (by omega)
 have HB0:=Hd (below_allocs (below_allocs (Below.refl w.heap.size w) (.cells #[.int .i64 at1,.int .i64 at2] 57)) (.cells #[.int .i64 0,.int .i64 0] 57))
 have HA:=Hd (hp_old (o:=.cells #[.int .i64 0,.int .i64 0] 57) (hp_new (W:=w) (b:=w.heap.size) (o:=.cells #[.int .i64 at1,.int .i64 at2] 57) rfl))
 have HZ:=Hd (hp_new (W:=w.alloc (.cells #[.int .i64 at1,.int .i64 at2] 57)) (b:=w.heap.size + 1) (o:=.cells #[.int .i64 0,.int .i64 0] 57) (by simp))
 clear h hb hlok hN hL hwd hlen hh hrow hn hhl hsl hc0 hs1 hbw h0
 go_enter Tryz.func15,Tryz.ntmps15
 go_upto_region 1 with fail
 generalize World.alloc _ _ = W at HB0 HA HZ ⊢
 go_upto_region 3 with (go_at_call 52;(with_reducible refine (HFIT.out _).mono ?_);rintro e w9 ⟨rfl,rfl⟩)
 have k0:=(at_ HA.out 0 _ rfl).1
 refine wp_region_u 11 (fun w' => Below W.heap.size W w'∧w'.cell? ⟨w.heap.size,0,none⟩ = some (.int .i64 at1)) (by kernel_rfl) (by kernel_rfl) ?_ ?_
 · exact ⟨(Below.refl _ _).drew,k0⟩
 simp only [List.take_succ_cons,List.take_zero,List.drop_succ_cons,List.drop_zero]
 repeat (
  (first
   | refine seqU_skip (by rfl) ?_
   | ((refine seqU_call 17 #[.pointer (some ⟨q.P,0,none⟩)] (.int .i64 hl) (by rfl) ?_ (fun w' hS => (HBA.out w' (below_tail HB0.out hS.1)).mono fun e w2 ⟨he,hw⟩ => ⟨he,hw ▸ hS⟩) ?_;(focus (intro w2;go_simp;done))))
   | ((refine seqU_call 18 #[.pointer (some ⟨q.P,0,none⟩)] (.int .i64 sl) (by rfl) ?_ (fun w' hS => (HRO.out w' (below_tail HB0.out hS.1)).mono fun e w2 ⟨he,hw⟩ => ⟨he,hw ▸ hS⟩) ?_;(focus (intro w2;go_simp;done))))
   | (refine seqU_val ?_ (by rfl) ?_ ?_;rotate_left;(focus (intro w' hS;obtain ⟨_,_⟩:=hS;go_simp;first | done | with_reducible rfl))))
  simp only [Act.put,List.setIfInBounds_toArray,List.set_cons_zero,List.set_cons_succ])
 refine seqU_nil (fun w' hS => ?_)
 have HB2:=Hd (below_tail HB0.out hS.1)
 have HA2:=Hd ((hS.1.block _ (lt_of_heap HA.out)).trans HA.out)
 have HZ2:=Hd ((hS.1.block _ (lt_of_heap HZ.out)).trans HZ.out)
 obtain ⟨m0,m0f⟩:=at_ HA2.out 0 _ rfl
 clear hS k0 hy
 go_upto_region 4 with fail
 have HA3:=Hd (whole_set HA2.out 0 (.int .i64 (y0:Int)) (cs':=[.int .i64 (y0:Int),.int .i64 at2]) rfl)
 have HZ3:=Hd ((heap_other (i:=0) (v:=.int .i64 (y0:Int)) (show w.heap.size + 1 ≠ w.heap.size by omega)).trans HZ2.out)
 have HB3:=Hd (below_set HB2.out (Nat.le_refl _) (o:=0) (.int .i64 (y0:Int)))
 clear m0 m0f hs1I hws1 hyI hwy
 generalize World.setCell _ _ _ = W3 at HA3 HZ3 HB3 ⊢
 have k1:=(at_ HA3.out 1 _ rfl).1
 obtain ⟨-,-,⟨x2,-⟩,-⟩:=(H.out.below HB3.out).cells
 rw [← HC0.out] at x2
 refine wp_region_u 9 (fun w' => Below W3.heap.size W3 w'∧w'.cell? ⟨w.heap.size,1,none⟩ = some (.int .i64 at2)∧w'.cell? ⟨q.P,2,none⟩ = some (.int .i64 (c0:Int))) (by kernel_rfl) (by kernel_rfl) ?_ ?_
 · exact ⟨(Below.refl _ _).drew,k1,x2⟩
 simp only [List.take_succ_cons,List.take_zero,List.drop_succ_cons,List.drop_zero]
 repeat (
  (first
   | refine seqU_skip (by rfl) ?_
   | (refine seqU_val ?_ (by rfl) ?_ ?_;rotate_left;(focus (intro w' hS;obtain ⟨_,_,_⟩:=hS;go_simp;first | done | with_reducible rfl))))
  simp only [Act.put,List.setIfInBounds_toArray,List.set_cons_zero,List.set_cons_succ])
 refine seqU_nil (fun w' hS => ?_)
 have HB4:=Hd (below_tail HB3.out hS.1)
 have HA4:=Hd ((hS.1.block _ (lt_of_heap HA3.out)).trans HA3.out)
 have HZ4:=Hd ((hS.1.block _ (lt_of_heap HZ3.out)).trans HZ3.out)
 obtain ⟨m0,m0f⟩:=at_ HA4.out 1 _ rfl
 clear hS k1 x2
 go_upto_region 5 with fail
 have HA5:=Hd (whole_set HA4.out 1 (.int .i64 (x0:Int)) (cs':=[.int .i64 (y0:Int),.int .i64 (x0:Int)]) rfl)
 have HZ5:=Hd ((heap_other (i:=1) (v:=.int .i64 (x0:Int)) (show w.heap.size + 1 ≠ w.heap.size by omega)).trans HZ4.out)
 have HB5:=Hd (below_set HB4.out (Nat.le_refl _) (o:=1) (.int .i64 (x0:Int)))
 clear m0 m0f hx0
 generalize World.setCell _ _ _ = W5 at HA5 HZ5 HB5 ⊢
 go_upto_region 6 with (go_at_call 16;(with_reducible refine (HALL.out _ HB5.out).mono ?_);rintro e w6 ⟨v6,L6,rfl,hro,hmp,hb6⟩;have HR6:=Hd hro;have HM6:=Hd hmp;have HB6:=Hd (below_tail HB5.out hb6);have HA6:=Hd ((hb6.block _ (lt_of_heap HA5.out)).trans HA5.out);have HZ6:=Hd ((hb6.block _ (lt_of_heap HZ5.out)).trans HZ5.out);have HS5:=Hd (show w.heap.size + 2 ≤ w6.heap.size from by have:=lt_of_heap HZ6.out;omega);clear hro hmp hb6)
 have hl6:L6.length = (g.hist ++ g.scr).length:=by rw [← HM6.out,List.length_map]
 obtain ⟨g6,c6,rfl⟩:=own_form HR6.out.1 (by rw [hl6];exact HL0.out)
 have HL6:=Hd hl6
 clear hl6
 have k0:=(at_ HA6.out 0 _ rfl).1
 have k1:=(at_ HA6.out 1 _ rfl).1
 refine wp_region_lit ?_
 refine wpList_valG (.agg #[.int .i64 (y0:Int),.int .i64 (x0:Int)]) (by rfl) (by go_simp) ?_
 simp only [Act.put,List.setIfInBounds_toArray,List.set_cons_zero,List.set_cons_succ]
 have hb7:=below_allocs (Below.refl w6.heap.size w6) (.cells #[.int .i64 (y0:Int),.int .i64 (x0:Int)] 57)
 refine wpList_actG (.slice (some ⟨w6.heap.size,0,none⟩) 1 1) (w6.alloc (.cells #[.int .i64 (y0:Int),.int .i64 (x0:Int)] 57)) (by rfl) (by go_simp) ?_
 simp only [Act.put,List.setIfInBounds_toArray,List.set_cons_zero,List.set_cons_succ]
 refine wpList_valG (.slice B n cb) (by rfl) (by rfl) ?_
 simp only [Act.put,List.setIfInBounds_toArray,List.set_cons_zero,List.set_cons_succ]
 obtain ⟨gp,cp,w7,hap,hop,hbp⟩:=append_pos (w6.alloc (.cells #[.int .i64 (y0:Int),.int .i64 (x0:Int)] 57)) w6.heap.size w6.heap.size ((y0:Int),(x0:Int)) (hp_new rfl) (Nat.le_refl _) B l cb (HLB.out.below (below_tail HB6.out hb7)) (by rw [HLN.out];omega) hb7.size
 rw [HLN.out] at hap hop
 refine wpList_actG (.slice (some ⟨gp,0,none⟩) (n + 1) cp) w7 (by rfl) (exec_append _ _ _ rfl _ _ _ rfl rfl hap) ?_
 simp only [Act.put,List.setIfInBounds_toArray,List.set_cons_zero,List.set_cons_succ]
 have HOP:=Hd hop
 have hb67:Below w6.heap.size w6 w7:=hb7.trans hbp
 have HB7:=Hd (below_tail HB6.out hb67)
 have HA7:=Hd ((hb67.block _ (lt_of_heap HA6.out)).trans HA6.out)
 have HZ7:=Hd ((hb67.block _ (lt_of_heap HZ6.out)).trans HZ6.out)
 have HR7:=Hd (HR6.out.below hb67)
 have HPL:Hid (rsP g (at1,at2) l = ((y0:Int),(x0:Int)) :: l):=Hd (by unfold rsP;rw [HYX.out.1,HYX.out.2])
 clear hap hop hbp hb7 hb67 k0 k1
 obtain ⟨-,-,⟨x2,-⟩,-⟩:=(H.out.below HB7.out).cells
 rw [← HC0.out] at x2
 by_cases hcc:cols = c0
 case' pos =>
  have hcb:((cols:Int) != (c0:Int)) = false:=by simp [hcc]
  have hcb2:((cols:Int) == (c0:Int)) = true:=by simp [hcc]
  have HAL:Hid (rsAll g cols = g.hist ++ g.scr):=Hd (by unfold rsAll;rw [if_pos (by rw [hcc,HC0.out])])
  have HPP:Hid (rsP1 g cols (at1,at2) l = ((y0:Int),(x0:Int)) :: l):=Hd (by unfold rsP1;rw [if_pos (by rw [hcc,HC0.out]),HPL.out])
  have HWD:Hid (∀ r ∈ g.hist ++ g.scr,r.cs.length = cols):=Hd (by rw [hcc,HC0.out];exact HNN.out.2.2)
  have HM8:=Hd HM6.out
  have HGB:Hid (w.heap.size + 2 ≤ g6):=Hd (by have h1:=(HR7.out.1.lt g6 rfl).1;have h2:=lt_of_heap HZ5.out;omega)
  have HR8:=Hd HR7.out
  have HOP8:=Hd (owns_weaken HOP.out HS5.out)
  have HS8:=Hd HS5.out
  have HLL:=Hd HLN.out
  have HZ8:Hid (L6.length ≤ 30000∧0 < L6.length):=Hd (by have h1:=HL6.out;have h2:=HNN.out.2.1;have h3:=HL0.out;omega)
  have HYB:Hid (y0 ≤ 30000):=Hd (by have h1:=HY0.out;have h2:=HNN.out.2.1;omega)
  clear hcc
  go_upto_region 9 with fail
  clear hcb hcb2 x2
  obtain ⟨AL,hal⟩:∃ AL,AL = g.hist ++ g.scr:=⟨_,rfl⟩
  obtain ⟨bs8,hbs⟩:∃ bs8,bs8 = W5.heap.size:=⟨_,rfl⟩
  obtain ⟨rest,hrs⟩:∃ rest,rest = l:=⟨_,rfl⟩
  obtain ⟨y1,hy1⟩:∃ y1,y1 = y0:=⟨_,rfl⟩
  obtain ⟨x1,hx1⟩:∃ x1,x1 = x0:=⟨_,rfl⟩
  rw [← hal] at HAL HM8 HWD
  rw [← hbs] at HR8
  have HPP:Hid (rsP1 g cols (at1,at2) l = ((y1:Int),(x1:Int)) :: rest):=Hd (by rw [hrs,hy1,hx1];exact HPP.out)
  rw [← hrs,← hy1,← hx1] at HOP8
  rw [← hrs] at HLL
  rw [← hy1] at HYB
  obtain ⟨w8,hw8⟩:∃ w8,w8 = w7:=⟨_,rfl⟩
  subst hw8
  obtain ⟨g8,hg8⟩:∃ g8,g8 = g6:=⟨_,rfl⟩
  subst hg8
  obtain ⟨L8,hL8⟩:∃ L8,L8 = L6:=⟨_,rfl⟩
  subst hL8
  obtain ⟨c8,hc8⟩:∃ c8,c8 = c6:=⟨_,rfl⟩
  subst hc8
  obtain ⟨gq,hgq⟩:∃ gq,gq = gp:=⟨_,rfl⟩
  subst hgq
  obtain ⟨cq,hcq⟩:∃ cq,cq = cp:=⟨_,rfl⟩
  subst hcq
  have HB8:=HB7
  have HA8:=HA7
  have HZ88:=HZ7
  clear hal hbs hrs hy1 hx1
 case' neg =>
  have hcI:¬ (cols:Int) = (c0:Int):=by omega
  have hcb:((cols:Int) != (c0:Int)) = true:=by simp;omega
  have HAL:Hid (rsAll g cols = reflowL cols (g.hist ++ g.scr)):=Hd (by unfold rsAll;rw [if_neg (by rw [← HC0.out];exact hcc)])
  have HPP:Hid (rsP1 g cols (at1,at2) l = (rsP g (at1,at2) l).map (rfP cols (g.hist ++ g.scr))):=Hd (by unfold rsP1;rw [if_neg (by rw [← HC0.out];exact hcc)])
  have HWD:Hid (∀ r ∈ reflowL cols (g.hist ++ g.scr),r.cs.length = cols):=Hd (reflowL_wide HRW.out.2.2.1 _)
  have HOK2:Hid (Ok2 (((y0:Int),(x0:Int)) :: l)):=Hd (fun p hp => by
   rcases List.mem_cons.1 hp with rfl | hp
   · have h1:=HY0.out;have h2:=HNN.out.2.1;have h3:=HX0.out;have h4:=HC0.out
     simp only;omega
   · exact HLOK.out p hp)
  have HRF:=Hd (freflow_any (some ⟨g6,0,none⟩) L6 c6 cols (some ⟨gp,0,none⟩) (((y0:Int),(x0:Int)) :: l) cp w7 (gr_own encRh_len HR7.out.1) (fun r hr => (HR7.out.2 r hr).1) (by rw [HL6.out];exact HL0.out) (by rw [HL6.out];exact HNN.out.2.1) (by rcases HR7.out.1.2 with ⟨e,-⟩ | ⟨g',c',cur,e,_,_,hcp,_⟩ <;> simp at e <;> omega) (by rw [HM6.out];exact HNN.out.1)
   (gr_own encP_len (n:=n + 1) (c:=cp) (e:=57) (by rw [List.length_cons,HLN.out];exact HOP.out)) (by simp) (by rw [List.length_cons,HLN.out];omega) HOK2.out HRW.out.2.2.1 HRW.out.2.2.2)
  rw [HM6.out,List.length_cons,HLN.out,← HPL.out] at HRF
  clear hcc
  go_upto_region 9 with (go_at_call 53;(with_reducible refine HRF.out.mono ?_);rintro e w8 ⟨v8,L8,gq,cq,rfl,hr8,hm8,hp8,hb8⟩;have HR8:=Hd hr8;have HM8:=Hd hm8;have HOQ:=Hd hp8;have HB8:=Hd (below_tail HB7.out hb8);have HA8:=Hd ((hb8.block _ (lt_of_heap HA7.out)).trans HA7.out);have HZ88:=Hd ((hb8.block _ (lt_of_heap HZ7.out)).trans HZ7.out);have HS8:=Hd (show w.heap.size + 2 ≤ w7.heap.size from by have:=lt_of_heap HZ7.out;omega);clear hr8 hm8 hp8 hb8 x2)
  have hlr:=outN_le HRW.out.2.2.1 (groupsL (g.hist ++ g.scr))
  rw [groupsL_flat] at hlr
  have hl8:L8.length = (reflowL cols (g.hist ++ g.scr)).length:=by rw [← HM8.out,List.length_map]
  have hgl:=groupsL_len_le (g.hist ++ g.scr)
  have hrp:0 < (reflowL cols (g.hist ++ g.scr)).length:=by
   unfold reflowL
   cases hG:groupsL (g.hist ++ g.scr) with
   | nil => have h1:=(groupsL_nil_iff _).1 hG;have h2:=HL0.out;rw [h1] at h2;simp at h2
   | cons a G => rw [List.flatMap_cons,List.length_append];have:=madeG_pos cols a;omega
  have HZ8:Hid (L8.length ≤ 30000∧0 < L8.length):=Hd (by
   have h2:=HNN.out
   have hl8':L8.length = ((groupsL (g.hist ++ g.scr)).flatMap (madeG cols)).length:=hl8
   have hrp':0 < ((groupsL (g.hist ++ g.scr)).flatMap (madeG cols)).length:=hrp
   omega)
  obtain ⟨g8,c8,rfl⟩:=own_form HR8.out.1 HZ8.out.2
  have HGB:Hid (w.heap.size + 2 ≤ g8):=Hd (by have h1:=(HR8.out.1.lt g8 rfl).1;have h2:=HS8.out;omega)
  obtain ⟨rest,hrest⟩:∃ rest,rest = l.map (rfP cols (g.hist ++ g.scr)):=⟨_,rfl⟩
  obtain ⟨y1,hy1⟩:∃ y1:Nat,y1 = (reflowP cols (g.hist ++ g.scr) ((y0:Int),(x0:Int))).1:=⟨_,rfl⟩
  obtain ⟨x1,hx1⟩:∃ x1:Nat,x1 = (reflowP cols (g.hist ++ g.scr) ((y0:Int),(x0:Int))).2:=⟨_,rfl⟩
  have hpp:(rsP g (at1,at2) l).map (rfP cols (g.hist ++ g.scr)) = ((y1:Int),(x1:Int)) :: rest:=by rw [HPL.out,List.map_cons,hrest,hy1,hx1];rfl
  have HYB:Hid (y1 ≤ 30000):=Hd (by have h1:=reflowP_le cols (g.hist ++ g.scr) ((y0:Int),(x0:Int));have h2:=HZ8.out;rw [← hy1] at h1;omega)
  have HLL:Hid (rest.length = n):=Hd (by rw [hrest,List.length_map,HLN.out])
  rw [hpp] at HPP HOQ
  have hpl:((rsP g (at1,at2) l).map (rfP cols (g.hist ++ g.scr))).length = n + 1:=by rw [hpp,List.length_cons,HLL.out]
  rw [hpp] at hpl
  have HOP8:Hid (w8.ownsRow (w.heap.size + 2) 57 2 (.slice (some ⟨gq,0,none⟩) (n + 1) cq) (n + 1) (flat encP (((y1:Int),(x1:Int)) :: rest))):=Hd (owns_weaken (by have:=HOQ.out;rw [hpl] at this;exact this) HS8.out)
  simp only [List.length_map,HPL.out,List.length_cons,HLN.out]
  clear hlr hl8 hgl hrp hrest hy1 hx1 hpp hpl
  obtain ⟨AL,hal⟩:∃ AL,AL = reflowL cols (g.hist ++ g.scr):=⟨_,rfl⟩
  obtain ⟨bs8,hbs⟩:∃ bs8,bs8 = w7.heap.size:=⟨_,rfl⟩
  rw [← hal] at HAL HM8 HWD
  rw [← hbs] at HR8
  clear hal hbs
 all_goals
  obtain ⟨m8,hm8⟩:∃ m8,L8.length = m8:=⟨_,rfl⟩
  have HML:=Hd hm8
  rw [hm8] at HR8 HZ8 ⊢
  clear hm8
  have hq0:=(owns_pos HOP8.out (i:=0) rfl)
  have hpp0:=hq0.1.1
  have hpp1:=hq0.2.1
  obtain ⟨m0,m0f⟩:=at_ HA8.out 0 _ rfl
  obtain ⟨m1,m1f⟩:=at_ HA8.out 1 _ rfl
  simp only [Nat.zero_mul,Nat.zero_add] at hpp0 hpp1
  go_upto_region 10 with fail
  have HA9:=Hd (whole_set (whole_set HA8.out 0 (.int .i64 (y1:Int)) (cs':=[.int .i64 (y1:Int),.int .i64 (x0:Int)]) rfl) 1 (.int .i64 (x1:Int)) (cs':=[.int .i64 (y1:Int),.int .i64 (x1:Int)]) rfl)
  have HZ9:=Hd ((heap_other (i:=1) (v:=.int .i64 (x1:Int)) (show w.heap.size + 1 ≠ w.heap.size by omega)).trans ((heap_other (i:=0) (v:=.int .i64 (y1:Int)) (show w.heap.size + 1 ≠ w.heap.size by omega)).trans HZ88.out))
  have HB9:=Hd (below_set (below_set HB8.out (Nat.le_refl _) (o:=0) (.int .i64 (y1:Int))) (Nat.le_refl _) (o:=1) (.int .i64 (x1:Int)))
  have hM9:=mod_set2 (X:=[w.heap.size]) (w:=w8) (b:=w.heap.size) (o:=0) (u:=.int .i64 (y1:Int)) (v:=.int .i64 (x1:Int)) (Mod.refl _ _) (.inl (by simp))
  have HOP9:=Hd (owns_mod HOP8.out hM9 (fun x hx => by simp [Value.ownBlock] at hx;have:=(HOP8.out.lt gq rfl).1;simp;omega))
  have HR9:=Hd (HR8.out.mod hM9 (fun b hb cs f he => by
   rw [List.mem_singleton.1 hb,HA8.out] at he
   injection he with he
   injection he with _ ht
   exact absurd ht (by decide)) (fun x hx => by
   obtain ⟨cur,hc⟩:=own_block HR8.out.1 hx
   rw [List.mem_singleton]
   exact block_ne hc HA8.out (by decide)))
  clear m0 m0f m1 m1f hq0 hpp0 hpp1 hM9
  generalize World.setCell _ _ _ = W9 at HA9 HZ9 HB9 HOP9 HR9 ⊢
  have HTR:=Hd (ptrim_any (some ⟨g8,0,none⟩) L8 c8 y1 W9 (gr_own encRh_len (n:=m8) (c:=c8) (e:=50) HR9.out.1) (fun r hr => (HR9.out.2 r hr).1) (by have:=HZ8.out;rw [HML.out];omega) (by rcases HR9.out.1.2 with ⟨e,-⟩ | ⟨g',c',cur,e,_,_,hcp,_⟩ <;> simp at e <;> rw [HML.out] <;> omega) (by have:=HYB.out;omega))
  rw [HM8.out,HML.out] at HTR
  obtain ⟨k,hk⟩:∃ k,trimN (AL) y1 m8 = k:=⟨_,rfl⟩
  rw [hk] at HTR
  have HK:=Hd hk
  have hkm:k ≤ m8:=by rw [← hk];exact trimN_le _ _ _
  have hk0:0 < k:=by rw [← hk];exact trimN_pos _ _ _ (by have:=HZ8.out;omega)
  obtain ⟨st,hst⟩:∃ st,min (k - rows) y1 = st:=⟨_,rfl⟩
  have HST:Hid (tailS (AL) y1 rows = st):=Hd (by unfold tailS;rw [← HM8.out,List.length_map,HML.out,HM8.out,hk];exact hst)
  obtain ⟨kr,hkr⟩:∃ kr:Int,(k:Int) - (rows:Int) = kr:=⟨_,rfl⟩
  have hrw:=HRW.out
  have hz8:=HZ8.out
  have hyb:=HYB.out
  have hwkr:IntKind.i64.wrap kr = kr:=IntWalk.i64_in _ (by omega)
  have hsI:max (0:Int) (min kr (y1:Int)) = (st:Int):=by omega
  obtain ⟨sr,hsr⟩:∃ sr,st + rows = sr:=⟨_,rfl⟩
  have hsrI:(st:Int) + (rows:Int) = (sr:Int):=by omega
  have hwsr:IntKind.i64.wrap (sr:Int) = (sr:Int):=IntWalk.i64_in _ (by omega)
  obtain ⟨e2,he2⟩:∃ e2,min k sr = e2:=⟨_,rfl⟩
  have heI:min (k:Int) (sr:Int) = (e2:Int):=by omega
  have hc8:m8 ≤ c8:=by rcases HR9.out.1.2 with ⟨e,-⟩ | ⟨g',c',cur,e,_,_,hcp,_⟩ <;> simp at e <;> have h1:=HML.out <;> omega
  have hst2:st < e2:=by omega
  have hse:st ≤ e2:=by omega
  have hec:e2 ≤ c8:=by omega
  have hcs:¬ c8 = st:=by omega
  have hcs2:st < c8:=by omega
  have hstc:st ≤ c8:=by omega
  obtain ⟨d2,hd2⟩:∃ d2,e2 - st = d2:=⟨_,rfl⟩
  have HDD:Hid (0 < d2∧d2 ≤ rows∧st + d2 ≤ m8∧st + d2 = min k (st + rows)∧st ≤ m8∧st ≤ k∧st ≤ y1):=Hd (by omega)
  have HSR:=Hd hsr
  clear hk hst hrw hz8 hyb hsr he2 hc8 hkm
  have k9:=(at_ HA9.out 0 _ rfl).1
  go_upto_region 11 with (go_at_call 54;(with_reducible refine HTR.out.mono ?_);rintro e w10 ⟨rfl,hb10⟩;have HB10:=Hd (below_tail HB9.out hb10);have HA10:=Hd ((hb10.block _ (lt_of_heap HA9.out)).trans HA9.out);have HZ10:=Hd ((hb10.block _ (lt_of_heap HZ9.out)).trans HZ9.out);have HR10:=Hd (HR9.out.below hb10);have HOP10:=Hd (owns_mod HOP9.out (Mod.of_below (X:=[]) hb10) (fun _ _ h => by cases h));clear hb10 k9)
  have k0:=(at_ HA10.out 0 _ rfl).1
  go_upto_region 12 with fail
  clear k0 hkr hwkr hsI
  have HO10:=Hd (H.out.below HB10.out)
  obtain ⟨-,-,⟨p2,p2f⟩,p3,p3f⟩:=HO10.out.cells
  go_upto_region 13 with fail
  have HK12:=Hd (whole_set (whole_set (cs:=[.pointer (some ⟨q.R,0,none⟩),q.vs,.int .i64 g.cols,q.vt]) HO10.out.blk 2 (.int .i64 (cols:Int)) (cs':=[.pointer (some ⟨q.R,0,none⟩),q.vs,.int .i64 (cols:Int),q.vt]) rfl) 3 (.slice none 0 0) (cs':=[.pointer (some ⟨q.R,0,none⟩),q.vs,.int .i64 (cols:Int),.slice none 0 0]) rfl)
  have HM12:=Hd (((Mod.refl [q.P] w10).setCell (a:=⟨q.P,2,none⟩) (.inl (by simp)) (.int .i64 (cols:Int))).setCell (a:=⟨q.P,3,none⟩) (.inl (by simp)) (.slice none 0 0))
  have HNP:Hid (NoCel w10 [q.P]):=Hd (fun b hb => HO10.out.nocel b (by rw [List.mem_singleton.1 hb];simp [pgX]))
  have HPW:=Hd (H.out.lt q.P (by simp [pgX])).2
  clear p2 p2f p3 p3f
  generalize World.setCell _ _ _ = W12 at HK12 HM12 ⊢
  have HR12:=Hd (HR10.out.mod HM12.out HNP.out (fun x hx => by simp [Value.ownBlock] at hx;have h1:=HGB.out;have h2:=HPW.out;simp;omega))
  have hsub:=(gr_own encRh_len HR12.out.1).sub st d2
  rw [Nat.zero_add] at hsub
  have hS'l:((L8.drop st).take d2).length = d2:=by have h1:=HDD.out;have h2:=HML.out;rw [List.length_take,List.length_drop];omega
  have HNEWS:=Hd (hsub.news encRh_len)
  have HSL:=Hd hS'l
  have HDR:=Hd (show d2 ≤ 1000 from by have h1:=HDD.out;have h2:=HRW.out;omega)
  refine wp_region_lit ?_
  refine wpList_valG (.pointer (some ⟨q.P,0,none⟩)) (by rfl) (by rfl) ?_
  simp only [Act.put,List.setIfInBounds_toArray,List.set_cons_zero,List.set_cons_succ]
  refine wpList_valG (.slice (some ⟨g8,0,none⟩) k c8) (by rfl) (by rfl) ?_
  simp only [Act.put,List.setIfInBounds_toArray,List.set_cons_zero,List.set_cons_succ]
  refine wpList_valG (.int .i64 (st:Int)) (by rfl) (by rfl) ?_
  simp only [Act.put,List.setIfInBounds_toArray,List.set_cons_zero,List.set_cons_succ]
  refine wpList_valG (.slice (some ⟨g8,0,none⟩) k c8) (by rfl) (by rfl) ?_
  simp only [Act.put,List.setIfInBounds_toArray,List.set_cons_zero,List.set_cons_succ]
  refine wpList_valG (.int .i64 (k:Int)) (by rfl) (by go_simp) ?_
  simp only [Act.put,List.setIfInBounds_toArray,List.set_cons_zero,List.set_cons_succ]
  refine wpList_valG (.int .i64 (st:Int)) (by rfl) (by rfl) ?_
  simp only [Act.put,List.setIfInBounds_toArray,List.set_cons_zero,List.set_cons_succ]
  refine wpList_valG (.int .i64 (rows:Int)) (by rfl) (by rfl) ?_
  simp only [Act.put,List.setIfInBounds_toArray,List.set_cons_zero,List.set_cons_succ]
  refine wpList_valG (.int .i64 (sr:Int)) (by rfl) (by go_simp) ?_
  simp only [Act.put,List.setIfInBounds_toArray,List.set_cons_zero,List.set_cons_succ]
  refine wpList_valG (.int .i64 (e2:Int)) (by rfl) (by go_simp) ?_
  simp only [Act.put,List.setIfInBounds_toArray,List.set_cons_zero,List.set_cons_succ]
  refine wpList_valG (.slice (some ⟨g8,st * 2,none⟩) d2 (c8 - st)) (by rfl) (by go_simp) ?_
  simp only [Act.put,List.setIfInBounds_toArray,List.set_cons_zero,List.set_cons_succ]
  refine wpList_append_g (o:=⟨some 100,_,_,_,_,_⟩) rfl (.const (.slice none 0 0)) (.tmp 99) 42 rfl w10.heap.size 50 jr _ 2 32 Tryz.underlying42 hjr gr0 gr1 gr2 rfl (by decide) (.slice none 0 0) 0 [] rfl (World.ownsRow_nil _ _ _ _) ⟨g8,st * 2,none⟩ d2 (c8 - st) (flat encRh ((L8.drop st).take d2)) rfl (by rw [flat_len encRh_len,HSL.out]) HNEWS.out (flat_one encRh_one _) (by simp only [maxLen];have:=HDR.out;omega) (by have:=HDR.out;omega) HM12.out.size ?_
  intro vS w13 hoS hgS hvS
  rw [Nat.zero_add,List.nil_append] at hoS
  obtain ⟨gS,cS,rfl⟩:=own_form hoS HDD.out.1
  have HOS:=Hd hoS
  have HB13:=Hd (show Below W12.heap.size W12 w13 from (Below.refl _ _).grown hgS (Nat.le_refl _) (fun k hk => by cases hk))
  have HVS:Hid (w10.heap.size ≤ gS):=Hd (hoS.lt gS rfl).1
  simp only [Act.put,List.setIfInBounds_toArray,List.set_cons_zero,List.set_cons_succ]
  have HK13:=Hd ((HB13.out.block _ (lt_of_heap HK12.out)).trans HK12.out)
  obtain ⟨p1,p1f⟩:=at_ HK13.out 1 _ rfl
  clear hoS hgS hvS hsub hS'l
  go_upto_region 14 with fail
  have HK14:=Hd (whole_set (cs:=[.pointer (some ⟨q.R,0,none⟩),q.vs,.int .i64 (cols:Int),.slice none 0 0]) HK13.out 1 (.slice (some ⟨gS,0,none⟩) d2 cS) (cs':=[.pointer (some ⟨q.R,0,none⟩),.slice (some ⟨gS,0,none⟩) d2 cS,.int .i64 (cols:Int),.slice none 0 0]) rfl)
  have hm13:=((Mod.refl [q.P] w13).setCell (a:=⟨q.P,1,none⟩) (.inl (by simp)) (.slice (some ⟨gS,0,none⟩) d2 cS))
  have HM14:=Hd (((HM12.out.then_below HB13.out).setCell (a:=⟨q.P,1,none⟩) (.inl (by simp)) (.slice (some ⟨gS,0,none⟩) d2 cS)))
  have hPw10:q.P < w10.heap.size:=by have h1:=HPW.out;have h2:=HB10.out.size;omega
  have HOS14:=Hd (owns_mod HOS.out hm13 (fun x hx => by simp [Value.ownBlock] at hx;have h1:=HVS.out;simp;omega))
  have HR14:=Hd ((HR12.out.below HB13.out).mod hm13 (fun b hb cs f he => by
   rw [List.mem_singleton.1 hb] at he
   exact block_ne HK13.out he (by decide) rfl) (fun x hx => by simp [Value.ownBlock] at hx;have h1:=HGB.out;have h2:=HPW.out;simp;omega))
  clear p1 p1f hm13 hPw10
  generalize World.setCell _ _ _ = W14 at HK14 HM14 HOS14 HR14 ⊢
  have HB1014:Hid (base ≤ w10.heap.size):=Hd (by have h1:=HBW.out;have h2:=HB10.out.size;omega)
  obtain ⟨gG,hgG⟩:∃ gG:Pg,gG = { g with scr:=((L8.drop st).take d2).map roOf,cols:=cols,told:=[] }:=⟨_,rfl⟩
  have HRS:Hid (PgRes base w10 q gG W14):=Hd (by
   rw [hgG]
   exact HO10.out.rescreen HK14.out (by rw [HSL.out];exact owns_weaken HOS14.out HB1014.out) HM14.out (fun b hb => by simp [Value.ownBlock] at hb;have:=HVS.out;omega) (fun r hr => ⟨(HR14.out.2 r (List.mem_of_mem_drop (List.mem_of_mem_take hr))).1,HWD.out (roOf r) (by rw [← HM8.out];exact List.mem_map_of_mem (List.mem_of_mem_drop (List.mem_of_mem_take hr)))⟩) HRW.out.2.2.1 HRW.out.2.2.2 (by rw [HSL.out];exact HDR.out))
  have HGG:=Hd hgG
  have HFL:=Hd (pg_then HRS.out (f:=55) (args:=#[.pointer (some ⟨q.P,0,none⟩),.int .i64 rows]) (g2:={ gG with scr:=gG.scr ++ List.replicate (rows - gG.scr.length) (blankR gG.cols zeroCol) }) (fun q1 e hq => by rw [← e];exact pfill_any hq rows HRW.out.2.1))
  obtain ⟨gF,hgF⟩:∃ gF:Pg,gF = { gG with scr:=gG.scr ++ List.replicate (rows - gG.scr.length) (blankR gG.cols zeroCol) }:=⟨_,rfl⟩
  rw [← hgF] at HFL
  have HGF:=Hd hgF
  clear hgG hgF
  go_upto_region 15 with (go_at_call 55;(with_reducible refine HFL.out.mono ?_);rintro e w15 ⟨rfl,hs15⟩;have HS15:=Hd hs15;clear hs15)
  have HR15:Hid (RowsO bs8 w15 (.slice (some ⟨g8,0,none⟩) m8 c8) L8):=Hd (by
   obtain ⟨q5,e1,e2,hO5,hm5,hx5⟩:=HS15.out
   exact HR10.out.mod hm5 HO10.out.nocel (fun x hx hX => by simp [Value.ownBlock] at hx;have h1:=HGB.out;have h2:=(H.out.lt x hX).2;omega))
  have HP15:Hid (w15.cell? ⟨q.P,0,none⟩ = some (.pointer (some ⟨q.R,0,none⟩))):=Hd (by
   obtain ⟨q5,e1,e2,hO5,hm5,hx5⟩:=HS15.out
   have:=hO5.cells.1.1
   rw [e1,e2] at this
   exact this)
  have p0:=HP15.out
  refine wp_region_u 7 (fun w' => Below w15.heap.size w15 w'∧w'.cell? ⟨q.P,0,none⟩ = some (.pointer (some ⟨q.R,0,none⟩))) (by kernel_rfl) (by kernel_rfl) ?_ ?_
  · exact ⟨(Below.refl _ _).drew,p0⟩
  simp only [List.take_succ_cons,List.take_zero,List.drop_succ_cons,List.drop_zero]
  repeat (
   (first
    | refine seqU_skip (by rfl) ?_
    | (refine seqU_val ?_ (by rfl) ?_ ?_;rotate_left;(focus (intro w' hS;obtain ⟨_,_⟩:=hS;go_simp;first | done | with_reducible rfl))))
   simp only [Act.put,List.setIfInBounds_toArray,List.set_cons_zero,List.set_cons_succ])
  refine seqU_nil (fun w' hS => ?_)
  have HW16:=Hd hS.1
  clear hS p0
  obtain ⟨gn,hgn⟩:∃ gn,st - g.room = gn:=⟨_,rfl⟩
  obtain ⟨gH,hgH⟩:∃ gH:Pg,gH = { gF with hist:=fillH ((AL).take st) g.room st,gone:=g.gone + (gn:Int) }:=⟨_,rfl⟩
  have HGH:=Hd hgH
  have HGN:=Hd hgn
  have HFILL:Hid (Calls Tryz.prog 56 #[.pointer (some ⟨q.R,0,none⟩),.slice (some ⟨g8,0,none⟩) st c8] w' (fun e w'' => e = .returned (.int .i64 (gn:Int))∧PgRes base w10 q gH w'')):=Hd (by
   obtain ⟨q5,e1,e2,hO5,hm5,hx5⟩:=HS15.out
   have hO6:=hO5.below HW16.out
   have hX:=HR15.out.below HW16.out
   have hXl:(L8.take st).length = st:=by have h1:=HDD.out;have h2:=HML.out;rw [List.length_take];omega
   have hgg:gF.gone = g.gone∧gF.room = g.room:=by rw [HGF.out,HGG.out];exact ⟨rfl,rfl⟩
   have hf:=rfill_any hO6.ring (Int.emod_nonneg _ (by decide)) (Int.emod_lt_of_pos _ (by decide)) (by have h1:=HB1014.out;have h2:=hm5.size;have h3:=HW16.out.size;omega) (some ⟨g8,0,none⟩) (L8.take st) c8 (GrAt.firsts0 (gr_own encRh_len hX.1) st) (fun r hr => hX.2 r (List.mem_of_mem_take hr)) (by rw [hXl];have h1:=HDD.out;have h2:=HZ8.out;omega) (fun b o he => by
    simp only [Option.some.injEq,Addr.mk.injEq,and_true] at he
    have h1:=HGB.out
    have h2:=(H.out.lt q.R (by simp [pgX,ringX])).2
    rw [e2];omega)
   rw [hXl,e2,List.map_take,HM8.out,hgg.2,hgn,hgg.1] at hf
   refine hf.mono ?_
   rintro e w'' ⟨rfl,hp⟩
   refine ⟨rfl,?_⟩
   have e3:(g.gone % 18446744073709551616 + (gn:Int)) % 18446744073709551616 = (g.gone + gn) % 18446744073709551616:=by omega
   rw [e3,← hgg.2,← e2] at hp
   have hg0:=hO6.gone0
   have hr:=hO6.ringed hp (by rw [hgg.1] at hg0;omega)
   rw [hgH,← hgg.2]
   exact PgRes.trans ⟨e1,e2,hm5,hx5⟩ (PgRes.pre HW16.out hr))
  clear hgn hgH
  have hoff:∃ off,(if cq = 1 then (some ⟨gq,0,none⟩:Option Addr) else some ⟨gq,2,none⟩) = some ⟨gq,off,none⟩∧(1 < cq→off = 2):=by
   by_cases h:cq = 1
   · exact ⟨0,if_pos h,fun h2 => by omega⟩
   · exact ⟨2,if_neg h,fun _ => rfl⟩
  obtain ⟨off,hoff,hoff2⟩:=hoff
  have HOFF:=Hd hoff2
  have hcp1:n + 1 ≤ cq:=by rcases HOP10.out.2 with ⟨e,-⟩ | ⟨g',c',cur,e,_,_,hcp,_⟩ <;> simp at e <;> omega
  have hcp2:1 ≤ cq:=by omega
  have HCP:=Hd hcp1
  have HTL:Hid (tailG g rows cols (AL) y1 = { gH with told:=if 0 < gn then [⟨2,0,(gn:Int)⟩] else [] }):=Hd (by
   have h1:=HDD.out
   have h2:=HSL.out
   unfold tailG
   simp only [HST.out]
   rw [show trimN (AL) y1 (AL).length = k by rw [← HM8.out,List.length_map,HML.out,HM8.out,HK.out]]
   rw [HGH.out,HGF.out,HGG.out,HGN.out]
   have e1:((L8.drop st).take d2).map roOf = (((AL).take k).drop st).take rows:=by
    rw [List.map_take,List.map_drop,HM8.out,List.drop_take,List.take_take]
    congr 1
    omega
   have e2:((AL).take k).take st = (AL).take st:=by rw [List.take_take,Nat.min_eq_left (by omega)]
   simp only [e1,e2])
  clear hoff2 hcp1
  by_cases hg0:0 < gn
  case' pos =>
   have hgI:0 < (gn:Int):=by omega
   have HG0:=Hd hg0
   clear hg0
   go_upto_region 18 with (first
    | (go_at_call 56;(with_reducible refine HFILL.out.mono ?_);rintro e w17 ⟨rfl,hs17⟩;have HT17:=Hd (tell_then hs17 2 0 (gn:Int) (by rw [HGH.out,HGF.out,HGG.out];simp));clear hs17)
    | (go_at_call 57;(with_reducible refine HT17.out.mono ?_);rintro e w18 ⟨rfl,hs18⟩;have HS18:=Hd hs18;clear hs18))
   have HRS18:Hid (PgRes base w10 q (tailG g rows cols (AL) y1) w18):=Hd (by
    have hto:gH.told = []:=by rw [HGH.out,HGF.out,HGG.out]
    rw [HTL.out,if_pos HG0.out]
    have h1:PgRes base w10 q _ w18:=HS18.out
    unfold tellP at h1
    rw [hto,List.nil_append] at h1
    exact h1)
  case' neg =>
   have hgI:¬ 0 < (gn:Int):=by omega
   have HG0:=Hd hg0
   clear hg0
   go_upto_region 18 with (go_at_call 56;(with_reducible refine HFILL.out.mono ?_);rintro e w18 ⟨rfl,hs18⟩;have HS18:=Hd hs18;clear hs18)
   have HRS18:Hid (PgRes base w10 q (tailG g rows cols (AL) y1) w18):=Hd (by
    have hto:gH.told = []:=by rw [HGH.out,HGF.out,HGG.out]
    rw [HTL.out,if_neg HG0.out]
    have h1:PgRes base w10 q _ w18:=HS18.out
    have h2:({ gH with told:=[] }:Pg) = gH:=by rw [← hto]
    rw [h2]
    exact h1)
  all_goals
   have HOP18:Hid (w18.ownsRow (w.heap.size + 2) 57 2 (.slice (some ⟨gq,0,none⟩) (n + 1) cq) (n + 1) (flat encP (((y1:Int),(x1:Int)) :: rest))):=Hd (by
    obtain ⟨q5,e1,e2,hO5,hm5,hx5⟩:=HS18.out
    exact owns_mod HOP10.out hm5 (fun x hx hX => by simp [Value.ownBlock] at hx;have h1:=(HOP10.out.lt gq rfl).1;have h2:=(H.out.lt x hX).2;omega))
   have HAZ18:Hid (w18.heap[w.heap.size]? = some (.cells #[.int .i64 (y1:Int),.int .i64 (x1:Int)] 57 (0,0))∧w18.heap[w.heap.size + 1]? = some (.cells #[.int .i64 0,.int .i64 0] 57 (0,0))):=Hd (by
    obtain ⟨q5,e1,e2,hO5,hm5,hx5⟩:=HS18.out
    exact ⟨(hm5.block _ (lt_of_heap HA10.out) (fun hX => by have:=(H.out.lt _ hX).2;omega)).trans HA10.out,(hm5.block _ (lt_of_heap HZ10.out) (fun hX => by have:=(H.out.lt _ hX).2;omega)).trans HZ10.out⟩)
   have HSZ18:Hid (w.heap.size + 2 ≤ w18.heap.size):=Hd (by have h1:=lt_of_heap HAZ18.out.2;omega)
   have HGP:Hid (w.heap.size + 2 ≤ gq∧∃ cur:Array Value,w18.heap[gq]? = some (.cells cur 57 (0,0))):=Hd ⟨(HOP18.out.lt gq rfl).1,own_block HOP18.out rfl⟩
   go_upto_region 19 with fail
   have HSRI:=Hd hsrI
   go_wp2_with fail
   go_loopw [123] (fun s123 wr => ∃ i:Nat,s123 = .int .i64 i∧i ≤ n∧wr.ownsRow (w.heap.size + 2) 57 2 (.slice (some ⟨gq,0,none⟩) (n + 1) cq) (n + 1) (flat encP (((y1:Int),(x1:Int)) :: mixI id (tailQ rows st) rest i))∧Mod [gq] w18 wr) (fun s123 _ => n - (intOf s123).toNat)
   case atStart => exact ⟨0,rfl,Nat.zero_le _,by rw [mixI_zero,List.map_id];exact HOP18.out,Mod.refl _ _⟩
   case round =>
    obtain ⟨i,rfl,hi,hO,hM⟩:=hrel
    have HOi:=Hd hO
    have HMi:=Hd hM
    by_cases hlt:i < n
    rotate_left
    · have hge:¬ (i:Int) < (n:Int):=by omega
      have hie:i = n:=by omega
      rw [hie,← HLL.out,mixI_full] at hO
      rw [HLL.out] at hO
      have HOf:=Hd hO
      have hA:=(hM.block _ (lt_of_heap HAZ18.out.1) (fun hX => by have h1:=HGP.out.1;rw [List.mem_singleton.1 hX] at *;omega)).trans HAZ18.out.1
      have hZ:=(hM.block _ (lt_of_heap HAZ18.out.2) (fun hX => by have h1:=HGP.out.1;have h2:=List.mem_singleton.1 hX;omega)).trans HAZ18.out.2
      have HRSF:Hid (PgRes base w q (tailG g rows cols (AL) y1) wr):=Hd (by
       obtain ⟨cur,hcur⟩:=HGP.out.2
       exact (PgRes.pre HB10.out HRS18.out).fresh hM (by have:=HGP.out.1;omega) hcur)
      have HAf:=Hd hA
      have HZf:=Hd hZ
      obtain ⟨yd,hyd⟩:∃ yd,y1 - st = yd:=⟨_,rfl⟩
      have hydI:(y1:Int) - (st:Int) = (yd:Int):=by have:=HDD.out;omega
      have hwyd:IntKind.i64.wrap (yd:Int) = (yd:Int):=IntWalk.i64_in _ (by have:=HYB.out;omega)
      obtain ⟨xm,hxm⟩:∃ xm:Nat,min (x1:Int) (cols:Int) = (xm:Int):=⟨min x1 cols,by omega⟩
      have HRES:Hid (resizeAt g rows cols (at1,at2) l = ((yd:Int),(xm:Int))∧resizeL g rows cols (at1,at2) l = (rest).map (tailQ rows st)∧resizeG g rows cols (at1,at2) l = tailG g rows cols (AL) y1):=Hd (by
       have hr:rsRow g cols (at1,at2) l = y1:=by unfold rsRow;rw [HPP.out];simp
       have hcl:rsCol g cols (at1,at2) l = x1:=by unfold rsCol;rw [HPP.out];simp
       refine ⟨?_,?_,?_⟩
       · unfold resizeAt;rw [hr,hcl,HAL.out,HST.out,hydI,hxm]
       · unfold resizeL;rw [hr,HAL.out,HST.out,HPP.out,List.tail_cons]
       · unfold resizeG;rw [hr,HAL.out])
      have k0:=(at_ HAf.out 0 _ rfl).1
      have k1:=(at_ HAf.out 1 _ rfl).1
      obtain ⟨z0,z0f⟩:=at_ HZf.out 0 _ rfl
      obtain ⟨z1,z1f⟩:=at_ HZf.out 1 _ rfl
      clear hO hM hie hA hZ hyd
      go_wp2
      have hset:=set_two (u':=.int .i64 (yd:Int)) (v':=.int .i64 (xm:Int)) ⟨z0,z0f⟩ ⟨z1,z1f⟩
      have hM2:=mod_set2 (X:=[w.heap.size + 1]) (w:=wr) (b:=w.heap.size + 1) (o:=0) (u:=.int .i64 (yd:Int)) (v:=.int .i64 (xm:Int)) (Mod.refl _ _) (.inl (by simp))
      refine bodyPost_ret (ret_pos3 rfl _ _ (w.heap.size + 1) _ _ _ _ rfl rfl rfl hset.1.1 hset.2.1) rfl ⟨some ⟨gq,off,none⟩,cq - 1,?_,?_,(fun b o he => by simp only [Option.some.injEq,Addr.mk.injEq] at he;have:=HGP.out.1;omega),?_⟩
      · rw [HRES.out.1,HRES.out.2.1,List.length_map,HLL.out];rfl
      · rw [HRES.out.2.1]
        intro hpos
        rw [List.length_map,HLL.out] at hpos
        have ho2:off = 2:=HOFF.out (by have:=HCP.out;omega)
        rw [ho2]
        have hof:=owns_mod HOf.out hM2 (fun x hx => by simp [Value.ownBlock] at hx;have:=HGP.out.1;simp;omega)
        have hgr:=(gr_own encP_len (n:=n + 1) (c:=cq) (X:=((y1:Int),(x1:Int)) :: (rest).map (tailQ rows st)) (by rw [List.length_cons,List.length_map,HLL.out];exact hof)).sub 1 n
        rw [List.drop_one,List.tail_cons,List.take_of_length_le (by rw [List.length_map,HLL.out];exact Nat.le_refl _)] at hgr
        exact hgr (by rw [List.length_map,HLL.out];exact hpos)
      · rw [HRES.out.2.2]
        exact HRSF.out.fresh hM2 (by omega) HZf.out
    · have hltI:(i:Int) < (n:Int):=by omega
      have hwi:IntKind.i64.wrap ((i:Int) + 1) = (i:Int) + 1:=IntWalk.i64_in _ (by omega)
      have ho2:off = 2:=HOFF.out (by have:=HCP.out;omega)
      subst ho2
      have hil:i < (rest).length:=by rw [HLL.out];exact hlt
      obtain ⟨p,hp⟩:∃ p,(rest)[i]? = some p:=⟨_,List.getElem?_eq_getElem hil⟩
      have HPS:=Hd (mixI_succ (f:=id) (f':=tailQ rows st) hp)
      have HPE:=Hd (mixI_same (f:=id) (f':=tailQ rows st) hp)
      have hxi:(((y1:Int),(x1:Int)) :: mixI id (tailQ rows st) (rest) i)[i + 1]? = some p:=by rw [List.getElem?_cons_succ,mixI_at hp];rfl
      have HXI:=Hd hxi
      obtain ⟨p1,p2⟩:=p
      obtain ⟨q0,q1⟩:=owns_pos hO hxi
      rw [show (i + 1) * 2 = 2 + i * 2 by omega] at q0 q1
      obtain ⟨q0,-⟩:=q0
      obtain ⟨q1,-⟩:=q1
      have lq0:=lt_of_cell q0
      have lq1:=lt_of_cell q1
      have hb9:=below_allocs (Below.refl wr.heap.size wr) (.cells #[.int .i64 p1,.int .i64 p2] 57)
      have HN:=hp_new (W:=wr) (b:=wr.heap.size) (o:=.cells #[.int .i64 p1,.int .i64 p2] 57) rfl
      have q1':wr.cell? ⟨gq,2 + i * 2 + 1,none⟩ = some (.int .i64 p2):=q1
      clear hO hM hil hp hxi q1
      go_upto_region 22 with fail
      generalize World.alloc _ _ = W at HN hb9 ⊢
      have HB9i:=Hd hb9
      have n0:=(at_ HN 0 _ rfl).1
      have HO9i:=Hd (owns_mod HOi.out (Mod.of_below (X:=[]) HB9i.out) (fun _ _ h => by cases h))
      clear q0 q1' lq0 lq1 hb9 HN
      by_cases hbig:(sr:Int) ≤ p1
      · obtain ⟨zz0,zz1⟩:=owns_pos HO9i.out HXI.out
        rw [show (i + 1) * 2 = 2 + i * 2 by omega] at zz0 zz1
        obtain ⟨y0c,y0f⟩:=zz0
        obtain ⟨y1c,y1f⟩:=zz1
        have HS:=Hd (owns_setPos HO9i.out (i:=i + 1) (by rw [List.length_cons,mixI_len,HLL.out];omega) ((sr:Int),(0:Int)))
        rw [show (i + 1) * 2 = 2 + i * 2 by omega,List.set_cons_succ] at HS
        have HMf:=Hd (((HMi.out.then_below HB9i.out).setCell (a:=⟨gq,2 + i * 2,none⟩) (.inl (by simp)) (.int .i64 (sr:Int))).setCell (a:=⟨gq,2 + i * 2 + 1,none⟩) (.inl (by simp)) (.int .i64 0))
        have HTQ:Hid (tailQ rows st (p1,p2) = ((sr:Int),0)):=Hd (by unfold tailQ;rw [HSR.out,if_pos (by simp only;exact hbig)])
        go_wp2
        go_roundw
        case rel => exact ⟨i + 1,by go_num,by omega,by rw [HPS.out,HTQ.out];exact HS.out,HMf.out⟩
        case measure => simp [intOf];omega
      · have HTQ:Hid (tailQ rows st (p1,p2) = id (p1,p2)):=Hd (by unfold tailQ;rw [HSR.out,if_neg (by simp only;exact hbig)];rfl)
        have HMf:=Hd (HMi.out.then_below HB9i.out)
        go_wp2
        go_roundw
        case rel => exact ⟨i + 1,by go_num,by omega,by rw [HPE.out HTQ.out];exact HO9i.out,HMf.out⟩
        case measure => simp [intOf];omega
end
end Go.Proofs.YtffdblmdelgkaaaGreat
