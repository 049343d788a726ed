/- Joined by a tool of this claim out of smaller texts. Conditions: as stated. -/
import Derived.Test.YtffdblmdelgkaaaGreatRt34
import Derived.Test.YtffdblmdelgkaaaGreatRt36
import Derived.Test.YtffdblmdelgkaaaGreatRt37
set_option linter.unusedVariables false
set_option linter.unusedSimpArgs false
set_option maxRecDepth 100000
open Go.Lib renaming hid → Hd
namespace Go.Proofs.YtffdblmdelgkaaaGreat
open Go.RowKit
theorem results_cell_t1 {P:Program} {fn:Func} {p u:Tmp} {ty:TypeId} (h:fn.results = #[.cell p ty,.tmp u]) (tmps:Array Value) (w:World) :
 (results fn tmps).run P w = ((asAddr (tmps.getD p undef)).run P w).andThen fun a w₁ => ((loadVar ty a).run P w₁).andThen fun v w₂ => .ok (.tuple #[v,tmps.getD u undef]) w₂:=by
 simp only [results,h]
 simp [Sem.run_bind,Result.andThen]
theorem ret_pos2 {fn:Func} {p u:Tmp} (hr:fn.results = #[.cell p 57,.tmp u]) (tmps:Array Value) (w:World) (b:Nat) (x y s:Value) (hp:tmps.getD p undef = .pointer (some ⟨b,0,none⟩)) (hu:tmps.getD u undef = s) (h0:w.cell? ⟨b,0,none⟩ = some x) (h1:w.cell? ⟨b,1,none⟩ = some y) :
 (results fn tmps).run Tryz.prog w = .ok (.tuple #[.agg #[x,y],s]) w:=by
 have hl:=run_loadVar_mid (P:=Tryz.prog) w b 0 57 [x,y] _ (fun j v hj => by
  rw [Nat.zero_add]
  match j,hj with
  | 0,hj => simp at hj;subst hj;exact h0
  | 1,hj => simp at hj;subst hj;exact h1) Tryz.underlying57 rfl info_posz
 rw [results_cell_t1 hr,hp,hu]
 simp only [asAddr,Sem.run_pure,Result.andThen_ok,hl]
def RdPost (base:Nat) (w:World) (q:Dv) (g:Pg) (rows cols:Nat) (at_:P2) (l:List P2) (e:Ending) (w':World):Prop :=
 ∃ A' c',e = .returned (.tuple #[.agg #[.int .i64 (resizeAt g rows cols at_ l).1,.int .i64 (resizeAt g rows cols at_ l).2],.slice A' (resizeL g rows cols at_ l).length c'])∧GrAt encP 2 w' A' (resizeL g rows cols at_ l)∧DcRes base w q (dcOf (resizeG g rows cols at_ l)) w'
structure RsMid (kk:Nat) (W:World) (AL:List Ro) (PL:List P2) (ma np:Nat) (s14 s15:Value) (w':World):Prop where
 rw:∃ L g c,s14 = .slice (some ⟨g,0,none⟩) ma c∧RowsO kk w' s14 L∧L.map roOf = AL
 pl:∃ g c,s15 = .slice (some ⟨g,0,none⟩) np c∧w'.ownsRow kk 57 2 s15 np (flat encP PL)
 below:Below W.heap.size W w'
section
variable {base:Nat} {w:World} {q:Dv} {g:Pg}
set_option maxHeartbeats 12800000 in
theorem rdResize_pre (HREF:ReflowSays) (h:DcO base w q (dcOf g)) (hbw:base ≤ w.heap.size) (h0:0 < g.scr.length) (rows cols:Nat) (hr1:1 ≤ rows) (hr2:rows ≤ 1000) (hc:2 ≤ cols) (hc2:cols ≤ 1000) (at1 at2:Int) (B:Option Addr) (l:List P2) (cb:Nat) (hb:GrAt encP 2 w B l) (hlz:l.length ≤ 1000) (hlok:Ok2 l)
 (hN:cntL (g.hist ++ g.scr) ≤ 10000) (hL:(g.hist ++ g.scr).length ≤ 10000) (hwd:∀ r ∈ g.hist ++ g.scr,r.cs.length = g.cols) :
 Calls Tryz.prog 21 #[.pointer (some ⟨q.D,0,none⟩),.int .i64 rows,.int .i64 cols,.agg #[.int .i64 at1,.int .i64 at2],.slice B l.length cb] w (RdPost base w q g rows cols (at1,at2) l):=by
 obtain ⟨jp,hjp,gp0,gp1,gp2⟩:=info_parts info_poszz
 obtain ⟨jr,hjr,gr0,gr1,gr2⟩:=info_parts info_rowz
 have H:=Hd h
 have HRW:=Hd (And.intro hr1 (And.intro hr2 (And.intro hc hc2)))
 have HBW:=Hd hbw
 have HLB:=Hd hb
 have HLOK:=Hd hlok
 have HNN:=Hd (And.intro hN (And.intro hL (And.intro hwd h0)))
 have hg2:2 ≤ g.cols:=h.cols2
 have hg3:g.cols ≤ 1000:=h.cols1000
 have hlen:q.S.length = (g.hist ++ g.scr).length:=h.len
 obtain ⟨n,hn⟩:∃ n,l.length = n:=⟨_,rfl⟩
 have HLN:=Hd hn
 rw [hn] at hlz ⊢
 have HLZ:=Hd hlz
 obtain ⟨hl,hhl⟩:∃ hl,hl = g.hist.length:=⟨_,rfl⟩
 obtain ⟨sl,hsl⟩:∃ sl,sl = g.scr.length:=⟨_,rfl⟩
 obtain ⟨ml,hml⟩:∃ ml,ml = (g.hist ++ g.scr).length:=⟨_,rfl⟩
 obtain ⟨c0,hc0⟩:∃ c0,c0 = g.cols:=⟨_,rfl⟩
 have hmls:ml = hl + sl:=by rw [hml,List.length_append,← hhl,← hsl]
 have HROWS:Hid (∀ w',Below w.heap.size w w'→Calls Tryz.prog 48 #[.pointer (some ⟨q.D,0,none⟩)] w' fun e w'' => e = .returned (.int .i64 (sl:Int))∧Below w'.heap.size w' w''):=Hd (fun w' hb => by
  have:=rdRows_any (h.below hb) (show (g.hist ++ g.scr).length ≤ 1000000 by omega) (show g.hist.length ≤ (g.hist ++ g.scr).length by rw [List.length_append];omega)
  rw [show dcRows (dcOf g) = (sl:Int) from by unfold dcRows dcOf;simp only [List.length_append];omega] at this
  exact this)
 have hsl0:0 < sl:=by omega
 have hslz:sl ≤ 10000:=by omega
 have hmlz:ml ≤ 10000:=by omega
 obtain ⟨s1,hs1⟩:∃ s1,s1 + 1 = sl:=⟨sl - 1,by omega⟩
 have hs1I:(sl:Int) - 1 = (s1:Int):=by omega
 have hws1:IntKind.i64.wrap (s1:Int) = (s1:Int):=IntWalk.i64_in _ (by omega)
 obtain ⟨gl,cl,hvl⟩:=own_form h.own (by rw [hlen,← hml];omega)
 have HVL:=Hd hvl
 have HQS:=Hd (hlen.trans hml.symm)
 obtain ⟨ya,hya⟩:∃ ya:Int,max 0 at1 = ya:=⟨_,rfl⟩
 obtain ⟨y,hy⟩:∃ y:Nat,min ya (s1:Int) = (y:Int):=⟨(min ya (s1:Int)).toNat,by omega⟩
 obtain ⟨xa,hxa⟩:∃ xa:Int,max 0 at2 = xa:=⟨_,rfl⟩
 obtain ⟨x0,hx0⟩:∃ x0:Nat,min xa (c0:Int) = (x0:Int):=⟨(min xa (c0:Int)).toNat,by omega⟩
 obtain ⟨y0,hy0⟩:∃ y0,hl + y = y0:=⟨_,rfl⟩
 have hyI:(hl:Int) + (y:Int) = (y0:Int):=by omega
 have hwy:IntKind.i64.wrap (y0:Int) = (y0:Int):=IntWalk.i64_in _ (by omega)
 have HYX:Hid (rsY g at1 = y0∧rsX g at2 = x0):=Hd (by unfold rsY rsX;rw [← hsl,← hc0,← hhl];omega)
 have HYN:=Hd (And.intro hya (And.intro hy (And.intro hxa hx0)))
 have HC0:=Hd hc0
 have HBS:Hid (hl = g.hist.length∧ml = (g.hist ++ g.scr).length):=Hd ⟨hhl,hml⟩
 have HY0:Hid (y0 < ml∧x0 ≤ c0∧ml ≤ 10000∧0 < ml∧c0 ≤ 1000):=Hd (by omega)
 have HB0:=Hd (below_allocs (below_allocs (Below.refl w.heap.size w) (.cells #[.int .i64 at1,.int .i64 at2] 57)) (.cells #[.int .i64 0,.int .i64 0] 57))
 have HA:=Hd (hp_old (o:=.cells #[.int .i64 0,.int .i64 0] 57) (hp_new (W:=w) (b:=w.heap.size) (o:=.cells #[.int .i64 at1,.int .i64 at2] 57) rfl))
 have HZ:=Hd (hp_new (W:=w.alloc (.cells #[.int .i64 at1,.int .i64 at2] 57)) (b:=w.heap.size + 1) (o:=.cells #[.int .i64 0,.int .i64 0] 57) (by simp))
 have HREF0:=Hd HREF
 clear HREF h hb hlok hN hL hwd hlen hn hhl hsl hml hmls hc0 hs1 hbw h0 hvl hya hy hxa hx0 hy0 hr1 hr2 hc hc2 hlz hg2 hg3
 go_enter Tryz.func21,Tryz.ntmps21
 go_upto_region 1 with fail
 generalize World.alloc _ _ = W at HB0 HA HZ ⊢
 have k0:=(at_ HA.out 0 _ rfl).1
 have k1:=(at_ HA.out 1 _ rfl).1
 refine wp_region_u 5 (fun w' => Below W.heap.size W w'∧w'.cell? ⟨w.heap.size,0,none⟩ = some (.int .i64 at1)∧w'.cell? ⟨w.heap.size,1,none⟩ = some (.int .i64 at2)) (by kernel_rfl) (by kernel_rfl) ?_ ?_
 · exact ⟨(Below.refl _ _).drew,k0,k1⟩
 simp only [List.take_succ_cons,List.take_zero,List.drop_succ_cons,List.drop_zero]
 repeat (
  (first
   | refine seqU_skip (by rfl) ?_
   | (refine seqU_val ?_ (by rfl) ?_ ?_;rotate_left;(focus (intro w' hS;obtain ⟨_,_,_⟩:=hS;go_simp;first | done | with_reducible rfl))))
  simp only [Act.put,List.setIfInBounds_toArray,List.set_cons_zero,List.set_cons_succ])
 refine seqU_nil (fun w' hS => ?_)
 have HB1:=Hd hS.1
 clear hS k0 k1
 obtain ⟨W1,hW1⟩:∃ W1,W1 = w':=⟨_,rfl⟩
 subst hW1
 go_upto_if 27 with fail
 go_cut [12] (fun s12 wx => s12 = .int .i64 ya∧W1 = wx)
 case first =>
  as_aux_lemma =>
  by_cases hn:at1 < 0
  · go_wp2
    go_meet
    exact ⟨by rw [← HYN.out.1];rw [Int.max_eq_left (by omega)],rfl⟩
  · go_wp2
    go_meet
    exact ⟨by rw [← HYN.out.1];rw [Int.max_eq_right (by omega)],rfl⟩
 obtain ⟨rfl,rfl⟩:=hcut
 go_upto_if 31 with (go_at_call 48;(with_reducible refine (HROWS.out _ (below_tail HB0.out HB1.out)).mono ?_);rintro e w2 ⟨rfl,hb2⟩;have HB2:=Hd (below_tail HB1.out hb2);clear hb2)
 go_cut [12] (fun s12 wx => s12 = .int .i64 (y:Int)∧Below W.heap.size W wx)
 case first =>
  as_aux_lemma =>
  by_cases hge:(sl:Int) ≤ ya
  · go_wp2_with (go_at_call 48;(with_reducible refine (HROWS.out _ (below_tail HB0.out HB2.out)).mono ?_);rintro e w3 ⟨rfl,hb3⟩;have HB3:=Hd (below_tail HB2.out hb3);clear hb3)
    go_meet
    exact ⟨by rw [← HYN.out.2.1,Int.min_eq_right (by omega)],HB3.out⟩
  · go_wp2
    go_meet
    exact ⟨by rw [← HYN.out.2.1,Int.min_eq_left (by omega)],HB2.out⟩
 obtain ⟨rfl,hb3⟩:=hcut
 obtain ⟨W3,hW3⟩:∃ W3,W3 = wc:=⟨_,rfl⟩
 subst hW3
 have HB3:=Hd hb3
 clear hb3 hs1I hws1
 go_upto_if 36 with fail
 go_cut [13] (fun s13 wx => s13 = .int .i64 xa∧W3 = wx)
 case first =>
  as_aux_lemma =>
  by_cases hn:at2 < 0
  · go_wp2
    go_meet
    exact ⟨by rw [← HYN.out.2.2.1];rw [Int.max_eq_left (by omega)],rfl⟩
  · go_wp2
    go_meet
    exact ⟨by rw [← HYN.out.2.2.1];rw [Int.max_eq_right (by omega)],rfl⟩
 obtain ⟨rfl,rfl⟩:=hcut
 have x2:=(H.out.below (below_tail HB0.out HB3.out)).cells.2.2.1.1
 rw [show (dcOf g).cols = c0 from HC0.out.symm] at x2
 go_upto_if 42 with fail
 go_cut [13] (fun s13 wx => s13 = .int .i64 (x0:Int)∧W3 = wx)
 case first =>
  as_aux_lemma =>
  by_cases hn:(c0:Int) < xa
  · go_wp2
    go_meet
    exact ⟨by rw [← HYN.out.2.2.2,Int.min_eq_right (by omega)],rfl⟩
  · go_wp2
    go_meet
    exact ⟨by rw [← HYN.out.2.2.2,Int.min_eq_left (by omega)],rfl⟩
 obtain ⟨rfl,rfl⟩:=hcut
 clear x2
 go_upto_region 10 with fail
 have hX3:=below_tail HB0.out HB3.out
 obtain ⟨z0,-⟩:=(H.out.below hX3).cells.1
 rw [HVL.out,HQS.out] at z0
 have HX3:=Hd hX3
 clear hX3
 refine wp_region_lit ?_
 have hb4:=below_allocs (Below.refl W3.heap.size W3) (.cells #[] 50)
 have h4:(W3.alloc (.cells #[] 50)).heap[W3.heap.size]? = some (.cells #[] 50 (0,0)):=hp_new rfl
 refine wpList_actG (.slice (some ⟨W3.heap.size,0,none⟩) 0 0) (W3.alloc (.cells #[] 50)) (by rfl) (by go_simp) ?_
 simp only [Act.put,List.setIfInBounds_toArray,List.set_cons_zero,List.set_cons_succ]
 generalize W3.alloc _ = W4 at hb4 h4 ⊢
 have z0:=holda hb4 z0
 refine wpList_valG (.pointer (some ⟨q.D,0,none⟩)) (by rfl) (by rfl) ?_
 simp only [Act.put,List.setIfInBounds_toArray,List.set_cons_zero,List.set_cons_succ]
 refine wpList_valG (.pointer (some ⟨q.D,0,none⟩)) (by rfl) (by go_simp) ?_
 simp only [Act.put,List.setIfInBounds_toArray,List.set_cons_zero,List.set_cons_succ]
 refine wpList_valG (.pointer (some ⟨q.D,0,none⟩)) (by rfl) (by go_simp) ?_
 simp only [Act.put,List.setIfInBounds_toArray,List.set_cons_zero,List.set_cons_succ]
 refine wpList_valG (.slice (some ⟨gl,0,none⟩) ml cl) (by rfl) (by go_simp) ?_
 simp only [Act.put,List.setIfInBounds_toArray,List.set_cons_zero,List.set_cons_succ]
 refine wpList_rows (o:=⟨some 52,_,_,_,_,_⟩) rfl (.tmp 47) (.tmp 51) rfl W3.heap.size (.slice (some ⟨W3.heap.size,0,none⟩) 0 0) [] rfl ⟨rfl,.inr ⟨W3.heap.size,0,_,rfl,Nat.le_refl _,h4,Nat.le_refl _,by simp [maxLen],rfl,rfl⟩⟩ ⟨gl,0,none⟩ ml cl q.S rfl HQS.out (fun j u hj => by
  rw [add_lit',Nat.zero_add]
  have ho:=((H.out.below HX3.out).below hb4).own
  rw [HVL.out] at ho
  exact (owns_hold ho hj).1) (by have:=HY0.out;have:=HQS.out;simp;omega) ml (by have:=HQS.out;simp;omega) hb4.size ?_
 rintro A6 c6 w6 ho6 hm6 -
 rw [List.nil_append] at ho6
 obtain ⟨g6,c6',hv6⟩:=own_form ho6 (by rw [HQS.out];exact HY0.out.2.2.2.1)
 simp only [Value.slice.injEq] at hv6
 obtain ⟨rfl,-,rfl⟩:=hv6
 simp only [Act.put,List.setIfInBounds_toArray,List.set_cons_zero,List.set_cons_succ]
 have hb36:Below W3.heap.size W3 w6:=hb4.trans (hm6.below (fun g hg => by simp [Value.ownBlock] at hg;omega) hb4.size)
 have HB6:=Hd (below_tail HB3.out hb36)
 have HR6:Hid (RowsO W3.heap.size w6 (.slice (some ⟨g6,0,none⟩) ml c6) q.S):=Hd ⟨ho6,fun r hr => ⟨((H.out.rows r hr).1.below HX3.out).below hb36,by rw [(H.out.rows r hr).2];have:=H.out.cols2;omega⟩⟩
 have HS3:Hid (w.heap.size + 2 ≤ W3.heap.size):=Hd (by have h1:=HB3.out.size;have h2:=lt_of_heap HZ.out;omega)
 have HX6:=Hd (below_tail HX3.out hb36)
 clear ho6 hm6 hb36 z0 hb4 h4
 go_upto_region 11 with fail
 obtain ⟨z1,-⟩:=(H.out.below HX6.out).cells.2.1
 rw [show (dcOf g).base = hl from HBS.out.1.symm] at z1
 refine wp_region_lit ?_
 refine wpList_valG (.pointer (some ⟨q.D,0,none⟩)) (by rfl) (by rfl) ?_
 simp only [Act.put,List.setIfInBounds_toArray,List.set_cons_zero,List.set_cons_succ]
 refine wpList_valG (.pointer (some ⟨q.D,0,none⟩)) (by rfl) (by go_simp) ?_
 simp only [Act.put,List.setIfInBounds_toArray,List.set_cons_zero,List.set_cons_succ]
 refine wpList_valG (.pointer (some ⟨q.D,1,none⟩)) (by rfl) (by go_simp) ?_
 simp only [Act.put,List.setIfInBounds_toArray,List.set_cons_zero,List.set_cons_succ]
 refine wpList_valG (.int .i64 (hl:Int)) (by rfl) (by go_simp) ?_
 simp only [Act.put,List.setIfInBounds_toArray,List.set_cons_zero,List.set_cons_succ]
 refine wpList_valG (.int .i64 (y:Int)) (by rfl) (by rfl) ?_
 simp only [Act.put,List.setIfInBounds_toArray,List.set_cons_zero,List.set_cons_succ]
 refine wpList_valG (.int .i64 (y0:Int)) (by rfl) (by go_simp) ?_
 simp only [Act.put,List.setIfInBounds_toArray,List.set_cons_zero,List.set_cons_succ]
 refine wpList_valG (.int .i64 (x0:Int)) (by rfl) (by rfl) ?_
 simp only [Act.put,List.setIfInBounds_toArray,List.set_cons_zero,List.set_cons_succ]
 refine wpList_valG (.agg #[.int .i64 (y0:Int),.int .i64 (x0:Int)]) (by rfl) (by go_simp) ?_
 simp only [Act.put,List.setIfInBounds_toArray,List.set_cons_zero,List.set_cons_succ]
 have hb7:=below_allocs (Below.refl w6.heap.size w6) (.cells #[.int .i64 (y0:Int),.int .i64 (x0:Int)] 57)
 refine wpList_actG (.slice (some ⟨w6.heap.size,0,none⟩) 1 1) (w6.alloc (.cells #[.int .i64 (y0:Int),.int .i64 (x0:Int)] 57)) (by rfl) (by go_simp) ?_
 simp only [Act.put,List.setIfInBounds_toArray,List.set_cons_zero,List.set_cons_succ]
 refine wpList_valG (.slice B n cb) (by rfl) (by rfl) ?_
 simp only [Act.put,List.setIfInBounds_toArray,List.set_cons_zero,List.set_cons_succ]
 obtain ⟨gp,cp,w7,hap,hop,hbp⟩:=append_pos (w6.alloc (.cells #[.int .i64 (y0:Int),.int .i64 (x0:Int)] 57)) w6.heap.size w6.heap.size ((y0:Int),(x0:Int)) (hp_new rfl) (Nat.le_refl _) B l cb (HLB.out.below (below_tail HX6.out hb7)) (by rw [HLN.out];have:=HLZ.out;omega) hb7.size
 rw [HLN.out] at hap hop
 refine wpList_actG (.slice (some ⟨gp,0,none⟩) (n + 1) cp) w7 (by rfl) (exec_append _ _ _ rfl _ _ _ rfl rfl hap) ?_
 simp only [Act.put,List.setIfInBounds_toArray,List.set_cons_zero,List.set_cons_succ]
 have HOP:=Hd hop
 have hb67:Below w6.heap.size w6 w7:=hb7.trans hbp
 have HB7:=Hd (below_tail HB6.out hb67)
 have HX7:=Hd (below_tail HX6.out hb67)
 have HR7:=Hd (HR6.out.below hb67)
 have HS6:Hid (w.heap.size + 2 ≤ w6.heap.size):=Hd (by have h1:=HB6.out.size;have h2:=lt_of_heap HZ.out;omega)
 have HPL:Hid (rsP g (at1,at2) l = ((y0:Int),(x0:Int)) :: l):=Hd (by unfold rsP;rw [HYX.out.1,HYX.out.2])
 clear hap hop hbp hb7 hb67 z1 hyI hwy
 obtain ⟨z2,-⟩:=(H.out.below HX7.out).cells.2.2.1
 rw [show (dcOf g).cols = c0 from HC0.out.symm] at z2
 obtain ⟨AL,hAL⟩:∃ AL,rsAll g cols = AL:=⟨_,rfl⟩
 obtain ⟨PL,hPL⟩:∃ PL,rsP1 g cols (at1,at2) l = PL:=⟨_,rfl⟩
 obtain ⟨ma,hma⟩:∃ ma,AL.length = ma:=⟨_,rfl⟩
 have HAL:=Hd hAL
 have HPP:=Hd hPL
 have HMA:=Hd hma
 obtain ⟨np,hnp⟩:∃ np,n + 1 = np:=⟨_,rfl⟩
 have HNP1:=Hd hnp
 clear hAL hPL hma hnp
 go_upto_if 69 with fail
 go_cut [14,15] (fun s14 s15 wx => RsMid (w.heap.size + 2) w7 AL PL ma np s14 s15 wx)
 case first =>
  as_aux_lemma =>
  by_cases hcc:cols = c0
  · have hcb:((cols:Int) != (c0:Int)) = false:=by simp [hcc]
    have hcb2:((cols:Int) == (c0:Int)) = true:=by simp [hcc]
    have e1:AL = g.hist ++ g.scr:=by rw [← HAL.out];unfold rsAll;rw [if_pos (by rw [hcc,HC0.out])]
    have e2:PL = ((y0:Int),(x0:Int)) :: l:=by rw [← HPP.out];unfold rsP1;rw [if_pos (by rw [hcc,HC0.out]),HPL.out]
    have e3:ml = ma:=by rw [← HMA.out,e1,HBS.out.2]
    have HEE:=Hd (And.intro e1 (And.intro e2 e3))
    clear e1 e2 e3 hcc
    go_wp2
    go_meet
    have h1:=HR7.out
    have h2:=HOP.out
    rw [← HEE.out.2.1] at h2
    exact ⟨⟨q.S,g6,c6,by rw [HEE.out.2.2],⟨owns_weaken h1.1 HS3.out,h1.2⟩,by rw [HEE.out.1];exact H.out.rl⟩,⟨gp,cp,by rw [HNP1.out],by rw [← HNP1.out];exact owns_weaken h2 HS6.out⟩,Below.refl _ _⟩
  · have hcI:¬ (cols:Int) = (c0:Int):=by omega
    have hcb:((cols:Int) != (c0:Int)) = true:=by simp;omega
    have e1:AL = reflowL cols (g.hist ++ g.scr):=by rw [← HAL.out];unfold rsAll;rw [if_neg (by rw [← HC0.out];exact hcc)]
    have e2:PL = (rsP g (at1,at2) l).map (rfP cols (g.hist ++ g.scr)):=by rw [← HPP.out];unfold rsP1;rw [if_neg (by rw [← HC0.out];exact hcc)]
    have HOK2:Hid (Ok2 (((y0:Int),(x0:Int)) :: l)):=Hd (fun p hp => by
     rcases List.mem_cons.1 hp with rfl | hp
     · have h1:=HY0.out
       simp only;omega
     · exact HLOK.out p hp)
    have hsm:q.S.map roOf = g.hist ++ g.scr:=H.out.rl
    have hcap:ml ≤ c6:=by have:=HR7.out.1;rw [HQS.out] at this;exact owns_cap2 this
    have HRF:=Hd (HREF0.out (some ⟨g6,0,none⟩) q.S c6 cols (some ⟨gp,0,none⟩) (((y0:Int),(x0:Int)) :: l) cp w7 (gr_own encRh_len HR7.out.1) (fun r hr => (HR7.out.2 r hr).1) (by rw [HQS.out];exact HY0.out.2.2.2.1) (by rw [HQS.out];exact HY0.out.2.2.1) (by rw [HQS.out];exact hcap) (by rw [hsm];exact HNN.out.1)
     (gr_own encP_len (n:=n + 1) (c:=cp) (e:=57) (by rw [List.length_cons,HLN.out];exact HOP.out)) (by simp) (by rw [List.length_cons,HLN.out];have:=HLZ.out;omega) HOK2.out HRW.out.2.2.1 HRW.out.2.2.2)
    rw [hsm,List.length_cons,HLN.out,HQS.out,← HPL.out,← e1,← e2] at HRF
    have hpl:PL.length = n + 1:=by rw [e2,List.length_map,HPL.out,List.length_cons,HLN.out]
    have HPN:=Hd hpl
    clear e1 e2 hcc hsm hcap hpl
    go_wp2_with (go_at_call 60;(with_reducible refine HRF.out.mono ?_);rintro e w8 ⟨v8,L8,gq,cq,rfl,hr8,hm8,hp8,hb8⟩;have hv8:=own_form hr8.1 (by have:=congrArg List.length hm8;rw [List.length_map] at this;rw [this,HMA.out,← HMA.out,← HAL.out];exact (rsAll_len HRW.out.2.2.1 HNN.out.1 HNN.out.2.1 (by rw [← HBS.out.2];exact HY0.out.2.2.2.1)).1);obtain ⟨g8,c8,rfl⟩:=hv8;have HR8:=Hd hr8;have HM8:=Hd hm8;have HOQ:=Hd hp8;have HB8:=Hd hb8;clear hr8 hm8 hp8 hb8)
    go_meet
    have hl8:L8.length = ma:=by have:=congrArg List.length HM8.out;rw [List.length_map] at this;rw [this,HMA.out]
    have h1:=HR8.out
    have h2:=HOQ.out
    have hs:w.heap.size + 2 ≤ w7.heap.size:=by have h1:=HB7.out.size;have h2:=lt_of_heap HZ.out;omega
    rw [HPN.out] at h2
    exact ⟨⟨L8,g8,c8,by rw [hl8],⟨owns_weaken h1.1 hs,h1.2⟩,HM8.out⟩,⟨gq,cq,by rw [HPN.out,HNP1.out],by rw [← HNP1.out,HPN.out];exact owns_weaken h2 hs⟩,HB8.out⟩
 as_aux_lemma =>
 obtain ⟨⟨L8,g8,c8,rfl,hr8,hm8⟩,⟨gq,cq,rfl,hop8⟩,hb8⟩:=hcut
 have HB8:=Hd (below_tail HB7.out hb8)
 have HR8:=Hd hr8
 have HM8:=Hd hm8
 obtain ⟨W8,hW8⟩:∃ W8,W8 = wc:=⟨_,rfl⟩
 subst hW8
 obtain ⟨rest,hrl,hpl⟩:=rsP1_cons g cols (at1,at2) l
 have hyb:=rsRow_le (cols:=cols) HRW.out.2.2.1 HNN.out.1 HNN.out.2.1 HNN.out.2.2.2 (at1,at2) l
 have hal:=rsAll_len (cols:=cols) HRW.out.2.2.1 HNN.out.1 HNN.out.2.1 (by rw [← HBS.out.2];exact HY0.out.2.2.2.1)
 have HWD:Hid (∀ r ∈ AL,r.cs.length = cols):=Hd (by rw [← HAL.out];exact rsAll_wide HRW.out.2.2.1 HNN.out.2.2.1)
 rw [HAL.out,HMA.out] at hal
 obtain ⟨y1,hy1⟩:∃ y1,rsRow g cols (at1,at2) l = y1:=⟨_,rfl⟩
 obtain ⟨x1,hx1⟩:∃ x1,rsCol g cols (at1,at2) l = x1:=⟨_,rfl⟩
 rw [hy1] at hyb
 rw [hy1,hx1,HPP.out] at hpl
 rw [hpl] at hop8
 rw [HLN.out] at hrl
 have HYX1:=Hd (And.intro hy1 hx1)
 have HPR:=Hd hpl
 have HRL:=Hd hrl
 have HZ8:=Hd (And.intro hal hyb)
 have HOP8:=Hd hop8
 have HML:Hid (L8.length = ma):=Hd (by rw [← HMA.out,← hm8,List.length_map])
 have HA8:Hid (W8.heap[w.heap.size]? = some (.cells #[.int .i64 at1,.int .i64 at2] 57 (0,0))):=Hd ((HB8.out.block _ (lt_of_heap HA.out)).trans HA.out)
 have HZ88:Hid (W8.heap[w.heap.size + 1]? = some (.cells #[.int .i64 0,.int .i64 0] 57 (0,0))):=Hd ((HB8.out.block _ (lt_of_heap HZ.out)).trans HZ.out)
 have hpp0:=(owns_pos HOP8.out (i:=0) rfl).1.1
 have hpp1:=(owns_pos HOP8.out (i:=0) rfl).2.1
 obtain ⟨m0,m0f⟩:=at_ HA8.out 0 _ rfl
 obtain ⟨m1,m1f⟩:=at_ HA8.out 1 _ rfl
 simp only [Nat.zero_mul,Nat.zero_add] at hpp0 hpp1
 clear hr8 hm8 hop8 hb8 hrl hpl hyb hal hy1 hx1 z2
 have hnp0:0 < np:=by have:=HNP1.out;omega
 have hnp0I:(0:Int) < (np:Int):=by omega
 go_upto_region 14 with fail
 go_upto_block 0 with fail
 clear hnp0 hnp0I
 have HA9:=Hd (whole_set (whole_set HA8.out 0 (.int .i64 (y1:Int)) (cs':=[.int .i64 (y1:Int),.int .i64 at2]) rfl) 1 (.int .i64 (x1:Int)) (cs':=[.int .i64 (y1:Int),.int .i64 (x1:Int)]) rfl)
 have HZ9:=Hd ((heap_other (i:=1) (v:=.int .i64 (x1:Int)) (show w.heap.size + 1 ≠ w.heap.size by omega)).trans ((heap_other (i:=0) (v:=.int .i64 (y1:Int)) (show w.heap.size + 1 ≠ w.heap.size by omega)).trans HZ88.out))
 have HX8:=Hd (below_tail HB0.out HB8.out)
 have HX9:=Hd (below_set (below_set HX8.out (Nat.le_refl _) (o:=0) (.int .i64 (y1:Int))) (Nat.le_refl _) (o:=1) (.int .i64 (x1:Int)))
 have hM9:=mod_set2 (X:=[w.heap.size]) (w:=W8) (b:=w.heap.size) (o:=0) (u:=.int .i64 (y1:Int)) (v:=.int .i64 (x1:Int)) (Mod.refl _ _) (.inl (by simp))
 have HOP9:=Hd (owns_mod HOP8.out hM9 (fun x hx => by simp [Value.ownBlock] at hx;have:=(HOP8.out.lt gq rfl).1;simp;omega))
 have HR9:=Hd (HR8.out.mod hM9 (fun b hb cs f he => by
  rw [List.mem_singleton.1 hb,HA8.out] at he
  injection he with he
  injection he with _ ht
  exact absurd ht (by decide)) (fun x hx => by
  have:=(HR8.out.1.lt g8 rfl).1
  simp [Value.ownBlock] at hx
  simp;omega))
 clear m0 m0f m1 m1f hpp0 hpp1 hM9
 generalize World.setCell _ _ _ = W9 at HA9 HZ9 HX9 HOP9 HR9 ⊢
 have HU:=Hd (fun (A:Option Addr) (l:List Cl) (ca:Nat) (w:World) (hl:GrAt encCl 8 w A l) (hz:l.length ≤ 100000000) => rUsed_any A l ca w hl hz)
 have hma0:=HZ8.out.1.1
 have hmaz:=HZ8.out.1.2
 have hyz:=HZ8.out.2
 have hmc:ma ≤ c8:=by have:=HR9.out.1;rw [HML.out] at this;exact owns_cap2 this
 go_cut [14] (fun s14 wx => ∃ k:Nat,s14 = .slice (some ⟨g8,0,none⟩) k c8∧trimN AL y1 ma = k∧k ≤ ma∧Below W9.heap.size W9 wx)
 case first =>
  as_aux_lemma =>
  go_wp2_with fail
  go_loopw [14] (fun s14 wr => ∃ k:Nat,s14 = .slice (some ⟨g8,0,none⟩) k c8∧k ≤ ma∧trimN AL y1 k = trimN AL y1 ma∧Below W9.heap.size W9 wr) (fun s14 _ => lnV s14)
  case atStart => exact ⟨ma,rfl,Nat.le_refl _,rfl,Below.refl _ _⟩
  case round =>
   obtain ⟨k,rfl,hk,ht,hb⟩:=hrel
   have HB:=Hd hb
   have HT:=Hd ht
   obtain ⟨le1,hle1⟩:∃ le1,le1 = y1 + 1:=⟨_,rfl⟩
   have hleI:(y1:Int) + 1 = (le1:Int):=by omega
   have hwle:IntKind.i64.wrap (le1:Int) = (le1:Int):=IntWalk.i64_in _ (by omega)
   have k0:=(at_ ((hb.block _ (lt_of_heap HA9.out)).trans HA9.out) 0 _ rfl).1
   by_cases hc:le1 < k
   · have hcI:(le1:Int) < (k:Int):=by omega
     obtain ⟨z,hz1⟩:∃ z,k = z + 1:=⟨k - 1,by omega⟩
     have hzI:(k:Int) - 1 = (z:Int):=by omega
     have hwz:IntKind.i64.wrap (z:Int) = (z:Int):=IntWalk.i64_in _ (by omega)
     have hzk:(z:Int) < (k:Int):=by omega
     have hzca:z ≤ c8:=by omega
     have hzl:z < L8.length:=by rw [HML.out];omega
     obtain ⟨b,off,r,e,hx,hcell⟩:=((gr_own encRh_len (n:=ma) (c:=c8) (e:=50) HR9.out.1).below hb).at_ hzl
     simp only [Option.some.injEq,Addr.mk.injEq,and_true] at e
     obtain ⟨rfl,rfl⟩:=e
     have hrc:=((HR9.out.2 r (List.mem_of_getElem? hx)).1).below hb
     have HUZ:=Hd (HU.out r.A r.cs r.cap wr hrc.2.2.1 (by have:=hrc.1;omega))
     have hgd:AL.getD z ⟨[],false⟩ = roOf r:=by rw [← HM8.out,List.getD_eq_getElem?_getD,List.getElem?_map,hx];rfl
     have hstep:trimN AL y1 k = if usedL r.cs = 0 then trimN AL y1 z else k:=by
      rw [hz1,trimN,hgd]
      by_cases hu:usedL r.cs = 0
      · rw [if_pos ⟨by omega,hu⟩,if_pos hu]
      · rw [if_neg (fun h => hu h.2),if_neg hu]
     have HST:=Hd hstep
     have c0':=hcell 0 _ rfl
     simp only [Nat.add_zero,Nat.zero_add] at c0'
     obtain ⟨u,hu⟩:∃ u,u = usedL r.cs:=⟨_,rfl⟩
     have HUE:=Hd hu
     rw [← hu] at HUZ
     have HZ1:=Hd hz1
     clear ht hb hc hle1 hx hcell hrc hgd hstep hu hz1 hzl
     by_cases hu0:u = 0
     · have hub:((u:Int) == 0) = true:=by simp [hu0]
       have HU0:=Hd hu0
       clear hu0
       go_wp2_with (go_at_call 61;(with_reducible refine HUZ.out.mono ?_);rintro e w5 ⟨rfl,hb5⟩;have HB5:=Hd (below_tail HB.out hb5);clear hb5)
       go_roundw
       case rel => exact ⟨z,rfl,by omega,by rw [← HT.out,HST.out,if_pos (by rw [← HUE.out];exact HU0.out)],HB5.out⟩
       case measure => show z < k;omega
     · have hub:((u:Int) == 0) = false:=beq_eq_false_iff_ne.2 (by omega)
       have hun:¬ (u:Int) = 0:=by omega
       have HU0:=Hd hu0
       have HKF:Hid (trimN AL y1 ma = k):=Hd (by rw [← HT.out,HST.out,if_neg (by rw [← HUE.out];exact HU0.out)])
       clear hu0
       go_wp2_with (go_at_call 61;(with_reducible refine HUZ.out.mono ?_);rintro e w5 ⟨rfl,hb5⟩;have HB5:=Hd (below_tail HB.out hb5);clear hb5)
       go_meet
       exact ⟨k,rfl,HKF.out,hk,HB5.out⟩
   · have hcI:¬ (le1:Int) < (k:Int):=by omega
     have HKF:Hid (trimN AL y1 ma = k):=Hd (by
      rw [← ht]
      cases k with
      | zero => rfl
      | succ k => rw [trimN,if_neg (by omega)])
     have HB5:=Hd hb
     clear ht hb hc hle1
     go_wp2
     go_meet
     exact ⟨k,rfl,HKF.out,hk,HB5.out⟩
 as_aux_lemma =>
 obtain ⟨k,rfl,hk,hkm,hb10⟩:=hcut
 obtain ⟨W10,hW10⟩:∃ W10,W10 = wc:=⟨_,rfl⟩
 subst hW10
 have hk0:0 < k:=by rw [← hk];exact trimN_pos _ _ _ hma0
 have HK:=Hd hk
 obtain ⟨st,hst⟩:∃ st,min (k - rows) y1 = st:=⟨_,rfl⟩
 have HST:Hid (tailS AL y1 rows = st):=Hd (by unfold tailS;rw [HMA.out,hk];exact hst)
 obtain ⟨kr,hkr⟩:∃ kr:Int,(k:Int) - (rows:Int) = kr:=⟨_,rfl⟩
 obtain ⟨ks,hks⟩:∃ ks:Int,min kr (y1:Int) = ks:=⟨_,rfl⟩
 have hrw:=HRW.out
 have hwkr:IntKind.i64.wrap kr = kr:=IntWalk.i64_in _ (by omega)
 have HKS:Hid (min kr (y1:Int) = ks∧max 0 ks = (st:Int)):=Hd ⟨hks,by omega⟩
 obtain ⟨sr,hsr⟩:∃ sr,st + rows = sr:=⟨_,rfl⟩
 have hsrI:(st:Int) + (rows:Int) = (sr:Int):=by omega
 have hwsr:IntKind.i64.wrap (sr:Int) = (sr:Int):=IntWalk.i64_in _ (by omega)
 obtain ⟨e2,he2⟩:∃ e2,min k sr = e2:=⟨_,rfl⟩
 have HE2:Hid (min k sr = e2∧e2 ≤ sr∧e2 ≤ k∧st ≤ sr∧st + rows = sr∧st ≤ k∧st ≤ y1):=Hd (by omega)
 have hsrz:sr ≤ 21000:=by omega
 have HKM:=Hd (And.intro hkm (And.intro hk0 hmc))
 have HX10:=Hd (below_tail HX9.out hb10)
 have HA10:=Hd ((hb10.block _ (lt_of_heap HA9.out)).trans HA9.out)
 have HZ10:=Hd ((hb10.block _ (lt_of_heap HZ9.out)).trans HZ9.out)
 have HR10:=Hd (HR9.out.below hb10)
 have HOP10:=Hd (owns_mod HOP9.out (Mod.of_below (X:=[]) hb10) (fun _ _ h => by cases h))
 have k0:=(at_ HA10.out 0 _ rfl).1
 clear hk hst hks hsr he2 hrw hb10 HU hk0
 go_upto_if 109 with fail
 clear hkr hwkr
 go_cut [16] (fun s16 wx => s16 = .int .i64 ks∧W10 = wx)
 case first =>
  as_aux_lemma =>
  by_cases hn:(y1:Int) < kr
  · go_wp2
    go_meet
    exact ⟨by rw [← HKS.out.1,Int.min_eq_right (by omega)],rfl⟩
  · go_wp2
    go_meet
    exact ⟨by rw [← HKS.out.1,Int.min_eq_left (by omega)],rfl⟩
 obtain ⟨rfl,rfl⟩:=hcut
 clear k0
 go_upto_if 113 with fail
 go_cut [16] (fun s16 wx => s16 = .int .i64 (st:Int)∧W10 = wx)
 case first =>
  as_aux_lemma =>
  by_cases hn:ks < 0
  · go_wp2
    go_meet
    exact ⟨by rw [← HKS.out.2,Int.max_eq_left (by omega)],rfl⟩
  · go_wp2
    go_meet
    exact ⟨by rw [← HKS.out.2,Int.max_eq_right (by omega)],rfl⟩
 obtain ⟨rfl,rfl⟩:=hcut
 obtain ⟨G0,hG0⟩:∃ G0:Int,G0 = g.gone % 18446744073709551616:=⟨_,rfl⟩
 obtain ⟨rm,hrm⟩:∃ rm,rm = g.room:=⟨_,rfl⟩
 obtain ⟨⟨x2,x2f⟩⟩:=And.intro (H.out.below HX10.out).cells.2.2.1 trivial
 have HGR:=Hd (And.intro hG0 hrm)
 have hblk:W10.heap[q.D]? = some (.cells #[q.vl,.int .i64 hl,.int .i64 c0,.int .i64 rm,.int .u64 G0,q.vt] 45 (0,0)):=by
  have:=(H.out.below HX10.out).blk
  rw [HBS.out.1,HC0.out,hrm,hG0]
  exact this
 have HBLK:=Hd hblk
 clear hG0 hrm hblk
 go_upto_region 23 with fail
 have HK12:=Hd (whole_set (cs:=[q.vl,.int .i64 hl,.int .i64 c0,.int .i64 rm,.int .u64 G0,q.vt]) HBLK.out 2 (.int .i64 (cols:Int)) (cs':=[q.vl,.int .i64 hl,.int .i64 (cols:Int),.int .i64 rm,.int .u64 G0,q.vt]) rfl)
 have HM12:=Hd ((Mod.refl [q.D] W10).setCell (a:=⟨q.D,2,none⟩) (.inl (by simp)) (.int .i64 (cols:Int)))
 clear x2 x2f
 generalize World.setCell _ _ _ = W12 at HK12 HM12 ⊢
 have HDW:=Hd (H.out.lt q.D (by simp [dcX])).2
 have HA12:=Hd ((HM12.out.block _ (lt_of_heap HA10.out) (fun hX => by have h1:=HDW.out;have h2:=List.mem_singleton.1 hX;omega)).trans HA10.out)
 have HZ12:=Hd ((HM12.out.block _ (lt_of_heap HZ10.out) (fun hX => by have h1:=HDW.out;have h2:=List.mem_singleton.1 hX;omega)).trans HZ10.out)
 have HNP:Hid (NoCel W10 [q.D]):=Hd (fun b hb => (H.out.below HX10.out).nocel b (by rw [List.mem_singleton.1 hb];simp [dcX]))
 have HR12:=Hd (HR10.out.mod HM12.out HNP.out (fun x hx hX => by simp [Value.ownBlock] at hx;have h1:=HDW.out;have h2:=(HR10.out.1.lt g8 rfl).1;have h3:=List.mem_singleton.1 hX;omega))
 have HOP12:=Hd (owns_mod HOP10.out HM12.out (fun x hx hX => by simp [Value.ownBlock] at hx;have h1:=HDW.out;have h2:=(HOP10.out.lt gq rfl).1;have h3:=List.mem_singleton.1 hX;omega))
 go_upto_if 123 with fail
 go_cut [14] (fun s14 wx => s14 = .slice (some ⟨g8,0,none⟩) e2 c8∧W12 = wx)
 case first =>
  as_aux_lemma =>
  by_cases hn:(sr:Int) < (k:Int)
  · have hsc:sr ≤ c8:=by have:=HKM.out;omega
    go_wp2
    go_meet
    exact ⟨by rw [show e2 = sr from by have:=HE2.out;omega],rfl⟩
  · go_wp2
    go_meet
    exact ⟨by rw [show e2 = k from by have:=HE2.out;omega],rfl⟩
 obtain ⟨rfl,rfl⟩:=hcut
 have HR13:Hid (RowsO (w.heap.size + 2) W12 (.slice (some ⟨g8,0,none⟩) e2 c8) (L8.take e2)):=Hd (HR12.out.head HML.out (by have h1:=HE2.out;have h2:=HKM.out;omega))
 have HE8:Hid ((L8.take e2).map roOf = AL.take e2∧(L8.take e2).length = e2):=Hd ⟨by rw [List.map_take,HM8.out],by have h1:=HE2.out;have h2:=HKM.out;rw [List.length_take,HML.out];omega⟩
 clear hkm
 go_upto_block 2 with fail
 go_cut [14] (fun s14 wx => ∃ (L:List Rh) (g' c':Nat),s14 = .slice (some ⟨g',0,none⟩) sr c'∧RowsO (w.heap.size + 2) wx s14 L∧L.map roOf = docL AL k sr cols∧Mod [g8] W12 wx∧(g' = g8 ∨ W12.heap.size ≤ g'))
 case first =>
  as_aux_lemma =>
  go_wp2_with fail
  go_loopw [14] (fun s14 wr => ∃ (e t:Nat) (L:List Rh) (g' c':Nat),s14 = .slice (some ⟨g',0,none⟩) e c'∧e = e2 + t∧e ≤ sr∧RowsO (w.heap.size + 2) wr s14 L∧L.map roOf = AL.take e2 ++ List.replicate t (blankR cols zeroCol)∧L.length = e∧Mod [g8] W12 wr∧(g' = g8 ∨ W12.heap.size ≤ g')) (fun s14 _ => sr - lnV s14)
  case atStart => exact ⟨e2,0,L8.take e2,g8,c8,rfl,rfl,HE2.out.2.1,HR13.out,by rw [HE8.out.1];simp,HE8.out.2,Mod.refl _ _,.inl rfl⟩
  case round =>
   obtain ⟨e,t,L,g',c',rfl,het,hes,hrL,hmL,hlL,hM,hgg⟩:=hrel
   have HRL':=Hd hrL
   have HML':=Hd hmL
   have HLL':=Hd hlL
   have HMo:=Hd hM
   have HGG:=Hd hgg
   have HET:=Hd het
   clear hrL hmL hlL hM hgg het
   by_cases hlt:e < sr
   rotate_left
   · have hge:¬ (e:Int) < (sr:Int):=by omega
     have HES:Hid (e = sr):=Hd (by omega)
     clear hlt hes
     go_wp2
     go_meet
     refine ⟨L,g',c',by rw [HES.out],HRL'.out,?_,HMo.out,HGG.out⟩
     rw [HML'.out]
     unfold docL
     rw [HE2.out.1,show t = sr - e2 by have h1:=HET.out;have h2:=HES.out;omega]
   · have hltI:(e:Int) < (sr:Int):=by omega
     have hDg:q.D ∉ [g8]:=fun hX => by have h1:=HDW.out;have h2:=(HR12.out.1.lt g8 rfl).1;have h3:=List.mem_singleton.1 hX;omega
     have x2:=(at_ ((HMo.out.block _ (lt_of_heap HK12.out) hDg).trans HK12.out) 2 _ rfl).1
     go_upto_region 26 with fail
     refine wp_region_lit ?_
     refine wpList_valG (.slice (some ⟨g',0,none⟩) e c') (by rfl) (by rfl) ?_
     simp only [Act.put,List.setIfInBounds_toArray,List.set_cons_zero,List.set_cons_succ]
     refine wpList_valG (.pointer (some ⟨q.D,0,none⟩)) (by rfl) (by rfl) ?_
     simp only [Act.put,List.setIfInBounds_toArray,List.set_cons_zero,List.set_cons_succ]
     refine wpList_valG (.agg #[.int .i64 0,.int .i64 0]) (by rfl) (by go_simp) ?_
     simp only [Act.put,List.setIfInBounds_toArray,List.set_cons_zero,List.set_cons_succ]
     refine wpList_callE rfl 62 #[.pointer (some ⟨q.D,0,none⟩),.agg #[.int .i64 0,.int .i64 0]] (by go_simp) (rdblank_at q.D cols zeroCol wr x2 HRW.out.2.2.1 HRW.out.2.2.2) (fun e w' ⟨_,_,he,_⟩ => ⟨_,he⟩) ?_
     rintro v w3 ⟨g1,cap1,hv,hrc,hb3⟩
     injection hv with hv
     subst hv
     simp only [Act.put,List.setIfInBounds_toArray,List.set_cons_zero,List.set_cons_succ]
     have hb4:=below_allocs (Below.refl w3.heap.size w3) (.cells #[.slice (some ⟨g1,0,none⟩) cols cap1,.bool false] 50)
     have hb34:=below_tail hb3 hb4
     refine wpList_actG (.slice (some ⟨w3.heap.size,0,none⟩) 1 1) (w3.alloc (.cells #[.slice (some ⟨g1,0,none⟩) cols cap1,.bool false] 50)) (by rfl) (by go_simp) ?_
     simp only [Act.put,List.setIfInBounds_toArray,List.set_cons_zero,List.set_cons_succ]
     have HRW4:=Hd (HRL'.out.below hb34)
     have HRC4:=Hd (hrc.below hb4)
     have hbw4:w.heap.size + 2 ≤ (w3.alloc (.cells #[.slice (some ⟨g1,0,none⟩) cols cap1,.bool false] 50)).heap.size:=by have h1:=hb34.size;have h2:=HMo.out.size;have h3:=lt_of_heap HZ12.out;omega
     refine wpList_append_g (o:=⟨some 140,_,_,_,_,_⟩) rfl (.tmp 135) (.tmp 139) 42 rfl (w.heap.size + 2) 50 jr _ 2 32 Tryz.underlying42 hjr gr0 gr1 gr2 rfl (by decide) (.slice (some ⟨g',0,none⟩) e c') e (flat encRh L) rfl (by have:=HRW4.out.1;rw [HLL'.out] at this;exact this) ⟨w3.heap.size,0,none⟩ 1 1 (encRh ⟨some ⟨g1,0,none⟩,List.replicate cols (blankC zeroCol),cap1,false⟩) rfl rfl (fun j u hj => by rw [add_lit',Nat.zero_add];exact (at_ (hp_new rfl) j u (by simpa [encRh] using hj)).1) (encRh_one _) (by simp only [maxLen];omega) (by omega) hbw4 ?_
     intro v' w5 ho hg' hv'
     obtain ⟨g5,c5,rfl⟩:=own_form ho (by omega)
     have HP5:=Hd (HRW4.out.push (by rw [HLL'.out];exact ho) hg' HRC4.out (by simp;have:=HRW.out;omega))
     have HM5:Hid (Mod [g8] W12 w5):=Hd ((HMo.out.then_below hb34).trans (Mod.of_grown (X:=[g']) hg' (fun b hb => by simp [Value.ownBlock] at hb;simp [hb])) (fun x hx => by rw [List.mem_singleton.1 hx];rcases HGG.out with h | h;exact .inl (by simp [h]);exact .inr h))
     have HG5:Hid (g5 = g8 ∨ W12.heap.size ≤ g5):=Hd (by
      rcases hv' g5 rfl with h | h
      · simp [Value.ownBlock] at h
        rw [← h];exact HGG.out
      · exact .inr (by have h1:=hb34.size;have h2:=HMo.out.size;omega))
     simp only [Act.put,List.setIfInBounds_toArray,List.set_cons_zero,List.set_cons_succ]
     clear ho hg' hv' hb3 hb4 hb34 hrc hbw4 x2 hDg
     go_wp2
     go_roundw
     case rel => exact ⟨e + 1,t + 1,L ++ [_],g5,c5,rfl,by have:=HET.out;omega,by omega,HP5.out,by rw [List.map_append,HML'.out,List.replicate_succ',List.append_assoc];rfl,by rw [List.length_append,HLL'.out];rfl,HM5.out,HG5.out⟩
     case measure => simp [lnV];omega
 as_aux_lemma =>
 obtain ⟨L9,g9,c9,rfl,hr9,hm9,hM13,hg9⟩:=hcut
 obtain ⟨W13,hW13⟩:∃ W13,W13 = wc:=⟨_,rfl⟩
 subst hW13
 have HG8:Hid (w.heap.size + 2 ≤ g8):=Hd (HR12.out.1.lt g8 rfl).1
 have HR13:=Hd hr9
 have HM9:=Hd hm9
 have HMD13:=Hd hM13
 have HK13:Hid (W13.heap[q.D]? = some (.cells #[q.vl,.int .i64 hl,.int .i64 cols,.int .i64 rm,.int .u64 G0,q.vt] 45 (0,0))):=Hd ((hM13.block _ (lt_of_heap HK12.out) (fun hX => by have h1:=HDW.out;have h2:=HG8.out;have h3:=List.mem_singleton.1 hX;omega)).trans HK12.out)
 have HA13:Hid (W13.heap[w.heap.size]? = some (.cells #[.int .i64 (y1:Int),.int .i64 (x1:Int)] 57 (0,0))):=Hd ((hM13.block _ (lt_of_heap HA12.out) (fun hX => by have h2:=HG8.out;have h3:=List.mem_singleton.1 hX;omega)).trans HA12.out)
 have HZ13:Hid (W13.heap[w.heap.size + 1]? = some (.cells #[.int .i64 0,.int .i64 0] 57 (0,0))):=Hd ((hM13.block _ (lt_of_heap HZ12.out) (fun hX => by have h2:=HG8.out;have h3:=List.mem_singleton.1 hX;omega)).trans HZ12.out)
 have HOP13:=Hd (owns_mod HOP12.out hM13 (fun x hx hX => by
  obtain ⟨cur,hcur⟩:=own_block HOP12.out hx
  obtain ⟨cur2,hcur2⟩:=own_block (HR12.out.1) (g:=g8) rfl
  rw [List.mem_singleton.1 hX] at hcur
  exact block_ne hcur hcur2 (by decide) rfl))
 have HDW13:Hid (q.D < W13.heap.size):=Hd (lt_of_heap HK13.out)
 obtain ⟨gn,hgn⟩:∃ gn,st - rm = gn:=⟨_,rfl⟩
 obtain ⟨bs,hbs⟩:∃ bs,st - gn = bs:=⟨_,rfl⟩
 obtain ⟨N,hN⟩:∃ N,sr - gn = N:=⟨_,rfl⟩
 obtain ⟨G1,hG1⟩:∃ G1:Int,(g.gone + (gn:Int)) % 18446744073709551616 = G1:=⟨_,rfl⟩
 have hl9:L9.length = sr:=by have:=congrArg List.length hm9;rw [List.length_map] at this;rw [this];unfold docL;have h1:=HE2.out;have h2:=HKM.out;rw [List.length_append,List.length_replicate,List.length_take,HMA.out];omega
 have hrows:=HRW.out
 have he2:=HE2.out
 have hgs:gn ≤ sr:=by omega
 have hN0:0 < N:=by omega
 have hNz:N ≤ 21000:=by omega
 have hc9:sr ≤ c9:=by have:=HR13.out.1;rw [hl9] at this;exact owns_cap2 this
 have hcg:¬ c9 = gn:=by omega
 have hgc:gn ≤ c9:=by omega
 have hbI:(st:Int) - (gn:Int) = (bs:Int):=by omega
 have hwb:IntKind.i64.wrap (bs:Int) = (bs:Int):=IntWalk.i64_in _ (by omega)
 have hwgu:IntKind.u64.wrap (gn:Int) = (gn:Int):=by rw [IntKind.wrap_u64];omega
 have hwG1:IntKind.u64.wrap (G0 + (gn:Int)) = G1:=by rw [IntKind.wrap_u64,HGR.out.1,← hG1];omega
 have HLN9:Hid ((flat encRh (L9.drop gn)).length = N * 2):=Hd (by rw [flat_len encRh_len,List.length_drop,hl9,hN])
 have HNEWS:Hid (∀ w',Below W13.heap.size W13 w'→∀ j u,(flat encRh (L9.drop gn))[j]? = some u→w'.cell? ((⟨g9,gn * 2,none⟩:Addr).add j) = some u):=Hd (fun w' hb j u hj => by
  have h1:=(gr_own encRh_len (n:=sr) (c:=c9) (e:=50) (HR13.out.below hb).1).sub gn (sr - gn)
  rw [List.take_of_length_le (by rw [List.length_drop,hl9];exact Nat.le_refl _),Nat.zero_add] at h1
  exact h1.news encRh_len j u hj)
 have HNN2:Hid (st - rm = gn∧st - gn = bs∧sr - gn = N∧gn ≤ st∧(g.gone + (gn:Int)) % 18446744073709551616 = G1):=Hd ⟨hgn,hbs,hN,by omega,hG1⟩
 have HL9:=Hd hl9
 have x3:=(at_ HK13.out 3 _ rfl).1
 clear hr9 hm9 hM13 hg9 hl9 hbs hG1 hrows he2
 go_upto_if 146 with fail
 go_cut [17] (fun s17 wx => s17 = .int .i64 (gn:Int)∧W13 = wx)
 case first =>
  as_aux_lemma =>
  by_cases hn:(rm:Int) < (st:Int)
  · have hgI:(st:Int) - (rm:Int) = (gn:Int):=by omega
    have hwg:IntKind.i64.wrap (gn:Int) = (gn:Int):=IntWalk.i64_in _ (by omega)
    clear hgn
    go_wp2
    go_meet
    exact ⟨rfl,rfl⟩
  · have hgz:Hid (gn = 0):=Hd (by omega)
    clear hgn
    go_wp2
    go_meet
    exact ⟨by rw [hgz.out];rfl,rfl⟩
 obtain ⟨rfl,rfl⟩:=hcut
 clear x3 hgn
 go_upto_region 30 with fail
 go_cut [] (fun wx => ∃ gS cS,StD W13 q.D [.slice (some ⟨gS,0,none⟩) N cS,.int .i64 bs,.int .i64 cols,.int .i64 rm,.int .u64 G1,.slice none 0 0] (.slice (some ⟨gS,0,none⟩) N cS) N (L9.drop gn) wx)
 case first =>
  as_aux_lemma =>
  refine Go.RL.wp_region_l 28 (fun _ => True) (fun w' => Below W13.heap.size W13 w') (by as_aux_lemma => kernel_rfl) (by as_aux_lemma => kernel_rfl) trivial ((Below.refl _ _).drew) ?_
  refine Go.RL.AtL.go 0 ?_
  iterate 4 (refine Go.RL.AtK.take (o:=⟨_,_,_,_,_,_⟩) (v:=?_) (by as_aux_lemma => kernel_rfl) rfl (by simp) (by as_aux_lemma => kernel_rfl) (by as_aux_lemma => kernel_rfl) ?_ ?_;rotate_left;(focus (refine Go.RL.Pure.val (by rfl) ?_;intro w' hI;obtain _:=hI;go_simp;first | done | with_reducible rfl));simp only [Act.put,List.setIfInBounds_toArray,List.set_cons_zero,List.set_cons_succ])
  refine Go.RL.AtK.back ?_
  refine Go.RL.AtL.go 5 ?_
  iterate 3 (refine Go.RL.AtK.take (o:=⟨_,_,_,_,_,_⟩) (v:=?_) (by as_aux_lemma => kernel_rfl) rfl (by simp) (by as_aux_lemma => kernel_rfl) (by as_aux_lemma => kernel_rfl) ?_ ?_;rotate_left;(focus (refine Go.RL.Pure.val (by rfl) ?_;intro w' hI;obtain _:=hI;go_simp;first | done | with_reducible rfl));simp only [Act.put,List.setIfInBounds_toArray,List.set_cons_zero,List.set_cons_succ])
  refine Go.RL.AtK.back ?_
  refine Go.RL.AtL.go 9 ?_
  iterate 6 (refine Go.RL.AtK.take (o:=⟨_,_,_,_,_,_⟩) (v:=?_) (by as_aux_lemma => kernel_rfl) rfl (by simp) (by as_aux_lemma => kernel_rfl) (by as_aux_lemma => kernel_rfl) ?_ ?_;rotate_left;(focus (refine Go.RL.Pure.val (by rfl) ?_;intro w' hI;obtain _:=hI;go_simp;first | done | with_reducible rfl));simp only [Act.put,List.setIfInBounds_toArray,List.set_cons_zero,List.set_cons_succ])
  refine Go.RL.AtK.back ?_
  refine Go.RL.AtL.go 16 ?_
  iterate 2 (refine Go.RL.AtK.take (o:=⟨_,_,_,_,_,_⟩) (v:=?_) (by as_aux_lemma => kernel_rfl) rfl (by simp) (by as_aux_lemma => kernel_rfl) (by as_aux_lemma => kernel_rfl) ?_ ?_;rotate_left;(focus (refine Go.RL.Pure.val (by rfl) ?_;intro w' hI;obtain _:=hI;go_simp;first | done | with_reducible rfl));simp only [Act.put,List.setIfInBounds_toArray,List.set_cons_zero,List.set_cons_succ])
  refine Go.RL.AtK.back ?_
  refine Go.RL.AtL.two 4 15 (o:=⟨_,_,_,_,_,_⟩) (o':=⟨_,_,_,_,_,_⟩) (fun v => ∃ k4,v = .slice (some ⟨k4,0,none⟩) 0 0) (fun v => v = .int .u64 G0) (fun v w4 => ∃ k4,v = .slice (some ⟨k4,0,none⟩) 0 0∧W13.heap.size ≤ k4∧w4.heap[k4]? = some (.cells #[] 50 (0,0))∧Below W13.heap.size W13 w4) (fun v w15 => v = .int .u64 G0∧(Below W13.heap.size W13 w15)) (by simp) (by simp) (by as_aux_lemma => kernel_rfl) rfl rfl (Go.RL.StabL.op _ _ (by rfl) (fun w' hI hS => ?_)) (Go.RL.StabL.op _ _ (by rfl) (fun w' hI hS => ?_)) ?_ ?_
  · have hb4:=below_allocs (Below.refl w'.heap.size w') (.cells #[] 50)
    exact ⟨.slice (some ⟨w'.heap.size,0,none⟩) 0 0,w'.alloc (.cells #[] 50),by go_simp,⟨_,rfl⟩,trivial,_,rfl,hS.size,hp_new rfl,below_tail hS hb4⟩
  · obtain ⟨z4,-⟩:=at_ ((hS.block q.D HDW13.out).trans HK13.out) 4 _ rfl
    exact ⟨.int .u64 G0,w',by go_simp,rfl,trivial,rfl,hS⟩
  · rintro v ⟨k4,rfl⟩
    simp only [Act.put,List.setIfInBounds_toArray,List.set_cons_zero,List.set_cons_succ]
    refine Go.RL.AtL.two 8 15 (o:=⟨some 161,.call { callee:=.builtin .append,args:=#[.tmp 157,.tmp 160],argTypes:=#[42,42] },42,_,_,none⟩) (o':=⟨_,_,_,_,_,_⟩) (fun v => ∃ gS cS,v = .slice (some ⟨gS,0,none⟩) N cS) (fun v => v = .int .u64 G0) (fun v w8 => StD W13 q.D [q.vl,.int .i64 hl,.int .i64 cols,.int .i64 rm,.int .u64 G0,q.vt] v N (L9.drop gn) w8) (fun v w15 => v = .int .u64 G0∧(∃ k5,(Value.slice (some ⟨k4,0,none⟩) 0 0) = .slice (some ⟨k5,0,none⟩) 0 0∧W13.heap.size ≤ k5∧w15.heap[k5]? = some (.cells #[] 50 (0,0))∧Below W13.heap.size W13 w15)) (by simp) (by simp) (by as_aux_lemma => kernel_rfl) rfl rfl (Go.RL.StabL.op _ _ (by rfl) (fun w' hI hS => ?_)) (Go.RL.StabL.op _ _ (by rfl) (fun w' hI hS => ?_)) ?_ ?_
    · obtain ⟨k5,hv4,hk4,hh4,hb4⟩:=hS
      simp only [Value.slice.injEq,Option.some.injEq,Addr.mk.injEq,and_true] at hv4
      subst hv4
      obtain ⟨v',w3,hr3,ho3,hg3,-,hn3⟩:=run_append_own_at (P:=Tryz.prog) w' W13.heap.size 42 42 50 jr _ 2 32 Tryz.underlying42 hjr gr0 gr1 gr2 rfl (by decide) (.slice (some ⟨k4,0,none⟩) 0 0) 0 [] ⟨rfl,.inr ⟨k4,0,_,rfl,hk4,hh4,Nat.le_refl _,by simp [maxLen],rfl,rfl⟩⟩ ⟨g9,gn * 2,none⟩ N (c9 - gn) (flat encRh (L9.drop gn)) HLN9.out (HNEWS.out w' hb4) (flat_one encRh_one _) (by simp only [maxLen];omega) (by omega) hb4.size
      rw [Nat.zero_add,List.nil_append] at ho3
      obtain ⟨gS,cS,rfl⟩:=own_form ho3 hN0
      have hgr:Mod [k4] w' w3:=Mod.of_grown hg3 (fun b hb => by simp [Value.ownBlock] at hb;simp [hb])
      have hmd:Mod [q.D] W13 w3:=(Mod.of_below hb4).trans hgr (fun x hx => by rw [List.mem_singleton.1 hx];exact .inr hk4)
      have hdb:w3.heap[q.D]? = some (.cells #[q.vl,.int .i64 hl,.int .i64 cols,.int .i64 rm,.int .u64 G0,q.vt] 45 (0,0)):=(hgr.block q.D (by have h1:=hb4.size;have h2:=HDW13.out;omega) (fun hX => by have h3:=List.mem_singleton.1 hX;have h2:=HDW13.out;omega)).trans ((hb4.block q.D HDW13.out).trans HK13.out)
      exact ⟨_,w3,exec_append _ _ _ rfl _ _ _ rfl rfl hr3,⟨gS,cS,rfl⟩,trivial,hdb,ho3,hmd⟩
    · obtain ⟨z4,-⟩:=at_ ((hS.choose_spec.2.2.2.block q.D HDW13.out).trans HK13.out) 4 _ rfl
      exact ⟨.int .u64 G0,w',by go_simp,rfl,trivial,rfl,hS⟩
    · rintro v ⟨gS,cS,rfl⟩
      simp only [Act.put,List.setIfInBounds_toArray,List.set_cons_zero,List.set_cons_succ]
      refine Go.RL.AtL.one 15 (o:=⟨_,_,_,_,_,_⟩) (fun v => v = .int .u64 G0) (fun v w15 => v = .int .u64 G0∧(StD W13 q.D [q.vl,.int .i64 hl,.int .i64 cols,.int .i64 rm,.int .u64 G0,q.vt] (.slice (some ⟨gS,0,none⟩) N cS) N (L9.drop gn) w15)) (by simp) (by as_aux_lemma => kernel_rfl) rfl (Go.RL.StabL.op _ _ (by rfl) (fun w' hI hS => ?_)) ?_
      · obtain ⟨z4,-⟩:=at_ (hS.1) 4 _ rfl
        exact ⟨.int .u64 G0,w',by go_simp,rfl,trivial,rfl,hS⟩
      rintro v rfl
      simp only [Act.put,List.setIfInBounds_toArray,List.set_cons_zero,List.set_cons_succ]
      refine Go.RL.AtL.take 18 (o:=⟨_,_,_,_,_,_⟩) (v:=?_) (by as_aux_lemma => kernel_rfl) rfl (by simp) (by as_aux_lemma => kernel_rfl) (by as_aux_lemma => kernel_rfl) ?_ ?_;rotate_left
      · (refine Go.RL.Pure.val (by rfl) ?_;intro w' hI;obtain _:=hI;go_simp;first | done | with_reducible rfl)
      simp only [Act.put,List.setIfInBounds_toArray,List.set_cons_zero,List.set_cons_succ]
      as_aux_lemma =>
       refine Go.RL.AtL.go 19 ?_
       iterate 2 (refine Go.RL.AtK.take (o:=⟨_,_,_,_,_,_⟩) (v:=?_) (by as_aux_lemma => kernel_rfl) rfl (by simp) (by as_aux_lemma => kernel_rfl) (by as_aux_lemma => kernel_rfl) ?_ ?_;rotate_left;(focus (refine Go.RL.Pure.val (by rfl) ?_;intro w' hI;obtain _:=hI;go_simp;first | done | with_reducible rfl));simp only [Act.put,List.setIfInBounds_toArray,List.set_cons_zero,List.set_cons_succ])
       refine Go.RL.AtK.back ?_
       refine Go.RL.AtL.one 21 (o:=⟨_,_,_,_,_,_⟩) (fun _ => True) (fun _ w9 => StD W13 q.D [.slice (some ⟨gS,0,none⟩) N cS,.int .i64 hl,.int .i64 cols,.int .i64 rm,.int .u64 G0,q.vt] (.slice (some ⟨gS,0,none⟩) N cS) N (L9.drop gn) w9) (by simp) (by as_aux_lemma => kernel_rfl) rfl (Go.RL.StabL.unit _ _ (by rfl) (fun w' hI hS => ?_)) ?_
       · have hS':StD W13 q.D [q.vl,.int .i64 hl,.int .i64 cols,.int .i64 rm,.int .u64 G0,q.vt] (.slice (some ⟨gS,0,none⟩) N cS) N (L9.drop gn) w':=hS.2
         obtain ⟨y0,y0f⟩:=at_ hS'.1 0 _ rfl
         exact ⟨w'.setCell ⟨q.D,0,none⟩ (.slice (some ⟨gS,0,none⟩) N cS),by go_simp,trivial,trivial,hS'.set HDW13.out 0 (.slice (some ⟨gS,0,none⟩) N cS) rfl⟩
       rintro v9 -
       simp only [Act.put,List.setIfInBounds_toArray,List.set_cons_zero,List.set_cons_succ]
       refine Go.RL.AtL.go 22 ?_
       iterate 2 (refine Go.RL.AtK.take (o:=⟨_,_,_,_,_,_⟩) (v:=?_) (by as_aux_lemma => kernel_rfl) rfl (by simp) (by as_aux_lemma => kernel_rfl) (by as_aux_lemma => kernel_rfl) ?_ ?_;rotate_left;(focus (refine Go.RL.Pure.val (by rfl) ?_;intro w' hI;obtain _:=hI;go_simp;first | done | with_reducible rfl));simp only [Act.put,List.setIfInBounds_toArray,List.set_cons_zero,List.set_cons_succ])
       refine Go.RL.AtK.back ?_
       refine Go.RL.AtL.one 24 (o:=⟨_,_,_,_,_,_⟩) (fun _ => True) (fun _ w9 => StD W13 q.D [.slice (some ⟨gS,0,none⟩) N cS,.int .i64 bs,.int .i64 cols,.int .i64 rm,.int .u64 G0,q.vt] (.slice (some ⟨gS,0,none⟩) N cS) N (L9.drop gn) w9) (by simp) (by as_aux_lemma => kernel_rfl) rfl (Go.RL.StabL.unit _ _ (by rfl) (fun w' hI hS => ?_)) ?_
       · have hS':StD W13 q.D [.slice (some ⟨gS,0,none⟩) N cS,.int .i64 hl,.int .i64 cols,.int .i64 rm,.int .u64 G0,q.vt] (.slice (some ⟨gS,0,none⟩) N cS) N (L9.drop gn) w':=hS
         obtain ⟨y0,y0f⟩:=at_ hS'.1 1 _ rfl
         exact ⟨w'.setCell ⟨q.D,1,none⟩ (.int .i64 (bs:Int)),by go_simp,trivial,trivial,hS'.set HDW13.out 1 (.int .i64 (bs:Int)) rfl⟩
       rintro v9 -
       simp only [Act.put,List.setIfInBounds_toArray,List.set_cons_zero,List.set_cons_succ]
       refine Go.RL.AtL.go 25 ?_
       iterate 2 (refine Go.RL.AtK.take (o:=⟨_,_,_,_,_,_⟩) (v:=?_) (by as_aux_lemma => kernel_rfl) rfl (by simp) (by as_aux_lemma => kernel_rfl) (by as_aux_lemma => kernel_rfl) ?_ ?_;rotate_left;(focus (refine Go.RL.Pure.val (by rfl) ?_;intro w' hI;obtain _:=hI;go_simp;first | done | with_reducible rfl));simp only [Act.put,List.setIfInBounds_toArray,List.set_cons_zero,List.set_cons_succ])
       refine Go.RL.AtK.back ?_
       refine Go.RL.AtL.one 27 (o:=⟨_,_,_,_,_,_⟩) (fun _ => True) (fun _ w9 => StD W13 q.D [.slice (some ⟨gS,0,none⟩) N cS,.int .i64 bs,.int .i64 cols,.int .i64 rm,.int .u64 G1,q.vt] (.slice (some ⟨gS,0,none⟩) N cS) N (L9.drop gn) w9) (by simp) (by as_aux_lemma => kernel_rfl) rfl (Go.RL.StabL.unit _ _ (by rfl) (fun w' hI hS => ?_)) ?_
       · have hS':StD W13 q.D [.slice (some ⟨gS,0,none⟩) N cS,.int .i64 bs,.int .i64 cols,.int .i64 rm,.int .u64 G0,q.vt] (.slice (some ⟨gS,0,none⟩) N cS) N (L9.drop gn) w':=hS
         obtain ⟨y0,y0f⟩:=at_ hS'.1 4 _ rfl
         exact ⟨w'.setCell ⟨q.D,4,none⟩ (.int .u64 G1),by go_simp,trivial,trivial,hS'.set HDW13.out 4 (.int .u64 G1) rfl⟩
       rintro v9 -
       simp only [Act.put,List.setIfInBounds_toArray,List.set_cons_zero,List.set_cons_succ]
       refine Go.RL.AtL.done (by as_aux_lemma => kernel_rfl) (fun w9 hI hS => ?_)
       obtain ⟨y5,y5f⟩:=at_ hS.1 5 _ rfl
       have HSF:=Hd (hS.set HDW13.out 5 (.slice none 0 0) (cs':=[.slice (some ⟨gS,0,none⟩) N cS,.int .i64 bs,.int .i64 cols,.int .i64 rm,.int .u64 G1,.slice none 0 0]) rfl)
       clear hS
       simp only [List.drop_succ_cons,List.drop_zero]
       go_wp2
       go_meet
       exact ⟨gS,cS,HSF.out⟩
    · rintro v rfl
      simp only [Act.put,List.setIfInBounds_toArray,List.set_cons_zero,List.set_cons_succ]
      refine Go.RL.AtL.take 18 (o:=⟨_,_,_,_,_,_⟩) (v:=?_) (by as_aux_lemma => kernel_rfl) rfl (by simp) (by as_aux_lemma => kernel_rfl) (by as_aux_lemma => kernel_rfl) ?_ ?_;rotate_left
      · (refine Go.RL.Pure.val (by rfl) ?_;intro w' hI;obtain _:=hI;go_simp;first | done | with_reducible rfl)
      simp only [Act.put,List.setIfInBounds_toArray,List.set_cons_zero,List.set_cons_succ]
      refine Go.RL.AtL.one 8 (o:=⟨some 161,.call { callee:=.builtin .append,args:=#[.tmp 157,.tmp 160],argTypes:=#[42,42] },42,_,_,none⟩) (fun v => ∃ gS cS,v = .slice (some ⟨gS,0,none⟩) N cS) (fun v w8 => StD W13 q.D [q.vl,.int .i64 hl,.int .i64 cols,.int .i64 rm,.int .u64 G0,q.vt] v N (L9.drop gn) w8) (by simp) (by as_aux_lemma => kernel_rfl) rfl (Go.RL.StabL.op _ _ (by rfl) (fun w' hI hS => ?_)) ?_
      · obtain ⟨-,k5,hv4,hk4,hh4,hb4⟩:=hS
        simp only [Value.slice.injEq,Option.some.injEq,Addr.mk.injEq,and_true] at hv4
        subst hv4
        obtain ⟨v',w3,hr3,ho3,hg3,-,hn3⟩:=run_append_own_at (P:=Tryz.prog) w' W13.heap.size 42 42 50 jr _ 2 32 Tryz.underlying42 hjr gr0 gr1 gr2 rfl (by decide) (.slice (some ⟨k4,0,none⟩) 0 0) 0 [] ⟨rfl,.inr ⟨k4,0,_,rfl,hk4,hh4,Nat.le_refl _,by simp [maxLen],rfl,rfl⟩⟩ ⟨g9,gn * 2,none⟩ N (c9 - gn) (flat encRh (L9.drop gn)) HLN9.out (HNEWS.out w' hb4) (flat_one encRh_one _) (by simp only [maxLen];omega) (by omega) hb4.size
        rw [Nat.zero_add,List.nil_append] at ho3
        obtain ⟨gS,cS,rfl⟩:=own_form ho3 hN0
        have hgr:Mod [k4] w' w3:=Mod.of_grown hg3 (fun b hb => by simp [Value.ownBlock] at hb;simp [hb])
        have hmd:Mod [q.D] W13 w3:=(Mod.of_below hb4).trans hgr (fun x hx => by rw [List.mem_singleton.1 hx];exact .inr hk4)
        have hdb:w3.heap[q.D]? = some (.cells #[q.vl,.int .i64 hl,.int .i64 cols,.int .i64 rm,.int .u64 G0,q.vt] 45 (0,0)):=(hgr.block q.D (by have h1:=hb4.size;have h2:=HDW13.out;omega) (fun hX => by have h3:=List.mem_singleton.1 hX;have h2:=HDW13.out;omega)).trans ((hb4.block q.D HDW13.out).trans HK13.out)
        exact ⟨_,w3,exec_append _ _ _ rfl _ _ _ rfl rfl hr3,⟨gS,cS,rfl⟩,trivial,hdb,ho3,hmd⟩
      rintro v ⟨gS,cS,rfl⟩
      simp only [Act.put,List.setIfInBounds_toArray,List.set_cons_zero,List.set_cons_succ]
      as_aux_lemma =>
       refine Go.RL.AtL.go 19 ?_
       iterate 2 (refine Go.RL.AtK.take (o:=⟨_,_,_,_,_,_⟩) (v:=?_) (by as_aux_lemma => kernel_rfl) rfl (by simp) (by as_aux_lemma => kernel_rfl) (by as_aux_lemma => kernel_rfl) ?_ ?_;rotate_left;(focus (refine Go.RL.Pure.val (by rfl) ?_;intro w' hI;obtain _:=hI;go_simp;first | done | with_reducible rfl));simp only [Act.put,List.setIfInBounds_toArray,List.set_cons_zero,List.set_cons_succ])
       refine Go.RL.AtK.back ?_
       refine Go.RL.AtL.one 21 (o:=⟨_,_,_,_,_,_⟩) (fun _ => True) (fun _ w9 => StD W13 q.D [.slice (some ⟨gS,0,none⟩) N cS,.int .i64 hl,.int .i64 cols,.int .i64 rm,.int .u64 G0,q.vt] (.slice (some ⟨gS,0,none⟩) N cS) N (L9.drop gn) w9) (by simp) (by as_aux_lemma => kernel_rfl) rfl (Go.RL.StabL.unit _ _ (by rfl) (fun w' hI hS => ?_)) ?_
       · have hS':StD W13 q.D [q.vl,.int .i64 hl,.int .i64 cols,.int .i64 rm,.int .u64 G0,q.vt] (.slice (some ⟨gS,0,none⟩) N cS) N (L9.drop gn) w':=hS
         obtain ⟨y0,y0f⟩:=at_ hS'.1 0 _ rfl
         exact ⟨w'.setCell ⟨q.D,0,none⟩ (.slice (some ⟨gS,0,none⟩) N cS),by go_simp,trivial,trivial,hS'.set HDW13.out 0 (.slice (some ⟨gS,0,none⟩) N cS) rfl⟩
       rintro v9 -
       simp only [Act.put,List.setIfInBounds_toArray,List.set_cons_zero,List.set_cons_succ]
       refine Go.RL.AtL.go 22 ?_
       iterate 2 (refine Go.RL.AtK.take (o:=⟨_,_,_,_,_,_⟩) (v:=?_) (by as_aux_lemma => kernel_rfl) rfl (by simp) (by as_aux_lemma => kernel_rfl) (by as_aux_lemma => kernel_rfl) ?_ ?_;rotate_left;(focus (refine Go.RL.Pure.val (by rfl) ?_;intro w' hI;obtain _:=hI;go_simp;first | done | with_reducible rfl));simp only [Act.put,List.setIfInBounds_toArray,List.set_cons_zero,List.set_cons_succ])
       refine Go.RL.AtK.back ?_
       refine Go.RL.AtL.one 24 (o:=⟨_,_,_,_,_,_⟩) (fun _ => True) (fun _ w9 => StD W13 q.D [.slice (some ⟨gS,0,none⟩) N cS,.int .i64 bs,.int .i64 cols,.int .i64 rm,.int .u64 G0,q.vt] (.slice (some ⟨gS,0,none⟩) N cS) N (L9.drop gn) w9) (by simp) (by as_aux_lemma => kernel_rfl) rfl (Go.RL.StabL.unit _ _ (by rfl) (fun w' hI hS => ?_)) ?_
       · have hS':StD W13 q.D [.slice (some ⟨gS,0,none⟩) N cS,.int .i64 hl,.int .i64 cols,.int .i64 rm,.int .u64 G0,q.vt] (.slice (some ⟨gS,0,none⟩) N cS) N (L9.drop gn) w':=hS
         obtain ⟨y0,y0f⟩:=at_ hS'.1 1 _ rfl
         exact ⟨w'.setCell ⟨q.D,1,none⟩ (.int .i64 (bs:Int)),by go_simp,trivial,trivial,hS'.set HDW13.out 1 (.int .i64 (bs:Int)) rfl⟩
       rintro v9 -
       simp only [Act.put,List.setIfInBounds_toArray,List.set_cons_zero,List.set_cons_succ]
       refine Go.RL.AtL.go 25 ?_
       iterate 2 (refine Go.RL.AtK.take (o:=⟨_,_,_,_,_,_⟩) (v:=?_) (by as_aux_lemma => kernel_rfl) rfl (by simp) (by as_aux_lemma => kernel_rfl) (by as_aux_lemma => kernel_rfl) ?_ ?_;rotate_left;(focus (refine Go.RL.Pure.val (by rfl) ?_;intro w' hI;obtain _:=hI;go_simp;first | done | with_reducible rfl));simp only [Act.put,List.setIfInBounds_toArray,List.set_cons_zero,List.set_cons_succ])
       refine Go.RL.AtK.back ?_
       refine Go.RL.AtL.one 27 (o:=⟨_,_,_,_,_,_⟩) (fun _ => True) (fun _ w9 => StD W13 q.D [.slice (some ⟨gS,0,none⟩) N cS,.int .i64 bs,.int .i64 cols,.int .i64 rm,.int .u64 G1,q.vt] (.slice (some ⟨gS,0,none⟩) N cS) N (L9.drop gn) w9) (by simp) (by as_aux_lemma => kernel_rfl) rfl (Go.RL.StabL.unit _ _ (by rfl) (fun w' hI hS => ?_)) ?_
       · have hS':StD W13 q.D [.slice (some ⟨gS,0,none⟩) N cS,.int .i64 bs,.int .i64 cols,.int .i64 rm,.int .u64 G0,q.vt] (.slice (some ⟨gS,0,none⟩) N cS) N (L9.drop gn) w':=hS
         obtain ⟨y0,y0f⟩:=at_ hS'.1 4 _ rfl
         exact ⟨w'.setCell ⟨q.D,4,none⟩ (.int .u64 G1),by go_simp,trivial,trivial,hS'.set HDW13.out 4 (.int .u64 G1) rfl⟩
       rintro v9 -
       simp only [Act.put,List.setIfInBounds_toArray,List.set_cons_zero,List.set_cons_succ]
       refine Go.RL.AtL.done (by as_aux_lemma => kernel_rfl) (fun w9 hI hS => ?_)
       obtain ⟨y5,y5f⟩:=at_ hS.1 5 _ rfl
       have HSF:=Hd (hS.set HDW13.out 5 (.slice none 0 0) (cs':=[.slice (some ⟨gS,0,none⟩) N cS,.int .i64 bs,.int .i64 cols,.int .i64 rm,.int .u64 G1,.slice none 0 0]) rfl)
       clear hS
       simp only [List.drop_succ_cons,List.drop_zero]
       go_wp2
       go_meet
       exact ⟨gS,cS,HSF.out⟩
  · rintro v rfl
    simp only [Act.put,List.setIfInBounds_toArray,List.set_cons_zero,List.set_cons_succ]
    refine Go.RL.AtL.take 18 (o:=⟨_,_,_,_,_,_⟩) (v:=?_) (by as_aux_lemma => kernel_rfl) rfl (by simp) (by as_aux_lemma => kernel_rfl) (by as_aux_lemma => kernel_rfl) ?_ ?_;rotate_left
    · (refine Go.RL.Pure.val (by rfl) ?_;intro w' hI;obtain _:=hI;go_simp;first | done | with_reducible rfl)
    simp only [Act.put,List.setIfInBounds_toArray,List.set_cons_zero,List.set_cons_succ]
    refine Go.RL.AtL.one 4 (o:=⟨_,_,_,_,_,_⟩) (fun v => ∃ k4,v = .slice (some ⟨k4,0,none⟩) 0 0) (fun v w4 => ∃ k4,v = .slice (some ⟨k4,0,none⟩) 0 0∧W13.heap.size ≤ k4∧w4.heap[k4]? = some (.cells #[] 50 (0,0))∧Below W13.heap.size W13 w4) (by simp) (by as_aux_lemma => kernel_rfl) rfl (Go.RL.StabL.op _ _ (by rfl) (fun w' hI hS => ?_)) ?_
    · have hb4:=below_allocs (Below.refl w'.heap.size w') (.cells #[] 50)
      exact ⟨.slice (some ⟨w'.heap.size,0,none⟩) 0 0,w'.alloc (.cells #[] 50),by go_simp,⟨_,rfl⟩,trivial,_,rfl,hS.2.size,hp_new rfl,below_tail hS.2 hb4⟩
    rintro v ⟨k4,rfl⟩
    simp only [Act.put,List.setIfInBounds_toArray,List.set_cons_zero,List.set_cons_succ]
    refine Go.RL.AtL.one 8 (o:=⟨some 161,.call { callee:=.builtin .append,args:=#[.tmp 157,.tmp 160],argTypes:=#[42,42] },42,_,_,none⟩) (fun v => ∃ gS cS,v = .slice (some ⟨gS,0,none⟩) N cS) (fun v w8 => StD W13 q.D [q.vl,.int .i64 hl,.int .i64 cols,.int .i64 rm,.int .u64 G0,q.vt] v N (L9.drop gn) w8) (by simp) (by as_aux_lemma => kernel_rfl) rfl (Go.RL.StabL.op _ _ (by rfl) (fun w' hI hS => ?_)) ?_
    · obtain ⟨k5,hv4,hk4,hh4,hb4⟩:=hS
      simp only [Value.slice.injEq,Option.some.injEq,Addr.mk.injEq,and_true] at hv4
      subst hv4
      obtain ⟨v',w3,hr3,ho3,hg3,-,hn3⟩:=run_append_own_at (P:=Tryz.prog) w' W13.heap.size 42 42 50 jr _ 2 32 Tryz.underlying42 hjr gr0 gr1 gr2 rfl (by decide) (.slice (some ⟨k4,0,none⟩) 0 0) 0 [] ⟨rfl,.inr ⟨k4,0,_,rfl,hk4,hh4,Nat.le_refl _,by simp [maxLen],rfl,rfl⟩⟩ ⟨g9,gn * 2,none⟩ N (c9 - gn) (flat encRh (L9.drop gn)) HLN9.out (HNEWS.out w' hb4) (flat_one encRh_one _) (by simp only [maxLen];omega) (by omega) hb4.size
      rw [Nat.zero_add,List.nil_append] at ho3
      obtain ⟨gS,cS,rfl⟩:=own_form ho3 hN0
      have hgr:Mod [k4] w' w3:=Mod.of_grown hg3 (fun b hb => by simp [Value.ownBlock] at hb;simp [hb])
      have hmd:Mod [q.D] W13 w3:=(Mod.of_below hb4).trans hgr (fun x hx => by rw [List.mem_singleton.1 hx];exact .inr hk4)
      have hdb:w3.heap[q.D]? = some (.cells #[q.vl,.int .i64 hl,.int .i64 cols,.int .i64 rm,.int .u64 G0,q.vt] 45 (0,0)):=(hgr.block q.D (by have h1:=hb4.size;have h2:=HDW13.out;omega) (fun hX => by have h3:=List.mem_singleton.1 hX;have h2:=HDW13.out;omega)).trans ((hb4.block q.D HDW13.out).trans HK13.out)
      exact ⟨_,w3,exec_append _ _ _ rfl _ _ _ rfl rfl hr3,⟨gS,cS,rfl⟩,trivial,hdb,ho3,hmd⟩
    rintro v ⟨gS,cS,rfl⟩
    simp only [Act.put,List.setIfInBounds_toArray,List.set_cons_zero,List.set_cons_succ]
    as_aux_lemma =>
     refine Go.RL.AtL.go 19 ?_
     iterate 2 (refine Go.RL.AtK.take (o:=⟨_,_,_,_,_,_⟩) (v:=?_) (by as_aux_lemma => kernel_rfl) rfl (by simp) (by as_aux_lemma => kernel_rfl) (by as_aux_lemma => kernel_rfl) ?_ ?_;rotate_left;(focus (refine Go.RL.Pure.val (by rfl) ?_;intro w' hI;obtain _:=hI;go_simp;first | done | with_reducible rfl));simp only [Act.put,List.setIfInBounds_toArray,List.set_cons_zero,List.set_cons_succ])
     refine Go.RL.AtK.back ?_
     refine Go.RL.AtL.one 21 (o:=⟨_,_,_,_,_,_⟩) (fun _ => True) (fun _ w9 => StD W13 q.D [.slice (some ⟨gS,0,none⟩) N cS,.int .i64 hl,.int .i64 cols,.int .i64 rm,.int .u64 G0,q.vt] (.slice (some ⟨gS,0,none⟩) N cS) N (L9.drop gn) w9) (by simp) (by as_aux_lemma => kernel_rfl) rfl (Go.RL.StabL.unit _ _ (by rfl) (fun w' hI hS => ?_)) ?_
     · have hS':StD W13 q.D [q.vl,.int .i64 hl,.int .i64 cols,.int .i64 rm,.int .u64 G0,q.vt] (.slice (some ⟨gS,0,none⟩) N cS) N (L9.drop gn) w':=hS
       obtain ⟨y0,y0f⟩:=at_ hS'.1 0 _ rfl
       exact ⟨w'.setCell ⟨q.D,0,none⟩ (.slice (some ⟨gS,0,none⟩) N cS),by go_simp,trivial,trivial,hS'.set HDW13.out 0 (.slice (some ⟨gS,0,none⟩) N cS) rfl⟩
     rintro v9 -
     simp only [Act.put,List.setIfInBounds_toArray,List.set_cons_zero,List.set_cons_succ]
     refine Go.RL.AtL.go 22 ?_
     iterate 2 (refine Go.RL.AtK.take (o:=⟨_,_,_,_,_,_⟩) (v:=?_) (by as_aux_lemma => kernel_rfl) rfl (by simp) (by as_aux_lemma => kernel_rfl) (by as_aux_lemma => kernel_rfl) ?_ ?_;rotate_left;(focus (refine Go.RL.Pure.val (by rfl) ?_;intro w' hI;obtain _:=hI;go_simp;first | done | with_reducible rfl));simp only [Act.put,List.setIfInBounds_toArray,List.set_cons_zero,List.set_cons_succ])
     refine Go.RL.AtK.back ?_
     refine Go.RL.AtL.one 24 (o:=⟨_,_,_,_,_,_⟩) (fun _ => True) (fun _ w9 => StD W13 q.D [.slice (some ⟨gS,0,none⟩) N cS,.int .i64 bs,.int .i64 cols,.int .i64 rm,.int .u64 G0,q.vt] (.slice (some ⟨gS,0,none⟩) N cS) N (L9.drop gn) w9) (by simp) (by as_aux_lemma => kernel_rfl) rfl (Go.RL.StabL.unit _ _ (by rfl) (fun w' hI hS => ?_)) ?_
     · have hS':StD W13 q.D [.slice (some ⟨gS,0,none⟩) N cS,.int .i64 hl,.int .i64 cols,.int .i64 rm,.int .u64 G0,q.vt] (.slice (some ⟨gS,0,none⟩) N cS) N (L9.drop gn) w':=hS
       obtain ⟨y0,y0f⟩:=at_ hS'.1 1 _ rfl
       exact ⟨w'.setCell ⟨q.D,1,none⟩ (.int .i64 (bs:Int)),by go_simp,trivial,trivial,hS'.set HDW13.out 1 (.int .i64 (bs:Int)) rfl⟩
     rintro v9 -
     simp only [Act.put,List.setIfInBounds_toArray,List.set_cons_zero,List.set_cons_succ]
     refine Go.RL.AtL.go 25 ?_
     iterate 2 (refine Go.RL.AtK.take (o:=⟨_,_,_,_,_,_⟩) (v:=?_) (by as_aux_lemma => kernel_rfl) rfl (by simp) (by as_aux_lemma => kernel_rfl) (by as_aux_lemma => kernel_rfl) ?_ ?_;rotate_left;(focus (refine Go.RL.Pure.val (by rfl) ?_;intro w' hI;obtain _:=hI;go_simp;first | done | with_reducible rfl));simp only [Act.put,List.setIfInBounds_toArray,List.set_cons_zero,List.set_cons_succ])
     refine Go.RL.AtK.back ?_
     refine Go.RL.AtL.one 27 (o:=⟨_,_,_,_,_,_⟩) (fun _ => True) (fun _ w9 => StD W13 q.D [.slice (some ⟨gS,0,none⟩) N cS,.int .i64 bs,.int .i64 cols,.int .i64 rm,.int .u64 G1,q.vt] (.slice (some ⟨gS,0,none⟩) N cS) N (L9.drop gn) w9) (by simp) (by as_aux_lemma => kernel_rfl) rfl (Go.RL.StabL.unit _ _ (by rfl) (fun w' hI hS => ?_)) ?_
     · have hS':StD W13 q.D [.slice (some ⟨gS,0,none⟩) N cS,.int .i64 bs,.int .i64 cols,.int .i64 rm,.int .u64 G0,q.vt] (.slice (some ⟨gS,0,none⟩) N cS) N (L9.drop gn) w':=hS
       obtain ⟨y0,y0f⟩:=at_ hS'.1 4 _ rfl
       exact ⟨w'.setCell ⟨q.D,4,none⟩ (.int .u64 G1),by go_simp,trivial,trivial,hS'.set HDW13.out 4 (.int .u64 G1) rfl⟩
     rintro v9 -
     simp only [Act.put,List.setIfInBounds_toArray,List.set_cons_zero,List.set_cons_succ]
     refine Go.RL.AtL.done (by as_aux_lemma => kernel_rfl) (fun w9 hI hS => ?_)
     obtain ⟨y5,y5f⟩:=at_ hS.1 5 _ rfl
     have HSF:=Hd (hS.set HDW13.out 5 (.slice none 0 0) (cs':=[.slice (some ⟨gS,0,none⟩) N cS,.int .i64 bs,.int .i64 cols,.int .i64 rm,.int .u64 G1,.slice none 0 0]) rfl)
     clear hS
     simp only [List.drop_succ_cons,List.drop_zero]
     go_wp2
     go_meet
     exact ⟨gS,cS,HSF.out⟩
 as_aux_lemma =>
 obtain ⟨gS,cS,hsd⟩:=hcut
 obtain ⟨W14,hW14⟩:∃ W14,W14 = wc:=⟨_,rfl⟩
 subst hW14
 have HSD:=Hd hsd
 obtain ⟨d0,hd0⟩:∃ d0:Dc,d0 = ⟨(docL AL k sr cols).drop gn,bs,cols,g.room,g.gone + (gn:Int),[]⟩:=⟨_,rfl⟩
 obtain ⟨d1,hd1⟩:∃ d1:Dc,d1 = dcOf (tailG g rows cols AL y1):=⟨_,rfl⟩
 have HD1:Hid (d1 = { d0 with told:=if 0 < gn then [⟨2,0,(gn:Int)⟩] else [] }):=Hd (by
  have e:=tail_doc g rows cols AL y1 k st (by rw [HMA.out];exact HK.out) HST.out
  rw [HE2.out.2.2.2.2.1,← HGR.out.2,HNN2.out.1,HNN2.out.2.1,HGR.out.2] at e
  rw [hd1,hd0]
  exact e)
 have HD1D:=Hd hd1
 have HD00:Hid (d0 = { d0 with told:=[] }):=Hd (by rw [hd0])
 have hmC:Mod [q.D] w W14:=(((Mod.of_below HX10.out).trans HM12.out (fun b hb => .inl hb)).trans HMD13.out (fun x hx => .inr (by rw [List.mem_singleton.1 hx];have:=HG8.out;omega))).trans hsd.2.2 (fun b hb => .inl hb)
 have hwz:w.heap.size + 2 ≤ W13.heap.size:=by have:=lt_of_heap HZ13.out;omega
 have HRS0:Hid (DcRes base w q d0 W14):=Hd (by
  rw [hd0]
  have hb1:=hsd.1
  rw [HGR.out.2,← HNN2.out.2.2.2.2] at hb1
  refine H.out.resized (S':=L9.drop gn) hb1 (by rw [List.length_drop,HL9.out,HNN2.out.2.2.1];exact owns_weaken hsd.2.1 (by have:=HBW.out;omega)) hmC (fun b hb => by simp [Value.ownBlock] at hb;have:=(hsd.2.1.lt gS rfl).1;omega) (by rw [List.map_drop,HM9.out]) (fun r hr => ⟨((HR13.out.2 r (List.mem_of_mem_drop hr)).1).mod hsd.2.2 (fun b hb cs f he => ?_),?_⟩) HRW.out.2.2.1 HRW.out.2.2.2 (by have:=H.out.gone0;have e:(dcOf g).gone = g.gone:=rfl;rw [e] at this;show 0 ≤ g.gone + (gn:Int);omega) rfl
  · rw [List.mem_singleton.1 hb] at he
    exact block_ne HK13.out he (by decide) rfl
  · have h1:roOf r ∈ docL AL k sr cols:=by rw [← HM9.out];exact List.mem_map_of_mem (List.mem_of_mem_drop hr)
    unfold docL at h1
    rcases List.mem_append.1 h1 with h | h
    · exact HWD.out _ (List.mem_of_mem_take h)
    · have h2:=(List.mem_replicate.1 h).2
      show (roOf r).cs.length = cols
      rw [h2];simp [blankR])
 have HA14:Hid (W14.heap[w.heap.size]? = some (.cells #[.int .i64 (y1:Int),.int .i64 (x1:Int)] 57 (0,0))):=Hd ((hsd.2.2.block _ (lt_of_heap HA13.out) (fun hX => by have h1:=HDW.out;have h2:=List.mem_singleton.1 hX;omega)).trans HA13.out)
 have HZ14:Hid (W14.heap[w.heap.size + 1]? = some (.cells #[.int .i64 0,.int .i64 0] 57 (0,0))):=Hd ((hsd.2.2.block _ (lt_of_heap HZ13.out) (fun hX => by have h1:=HDW.out;have h2:=List.mem_singleton.1 hX;omega)).trans HZ13.out)
 have HOP14:=Hd (owns_mod HOP13.out hsd.2.2 (fun x hx hX => by have h1:=HDW.out;have h2:=(HOP13.out.lt x hx).1;have h3:=List.mem_singleton.1 hX;omega))
 clear hsd hd0 hd1 hmC hwz
 go_upto_if 181 with fail
 go_cut [] (fun wx => DcRes base w q d1 wx∧Mod [q.D] W14 wx)
 case first =>
  as_aux_lemma =>
  by_cases hg0:0 < gn
  · have hgI:(0:Int) < (gn:Int):=by omega
    have HG0:=Hd hg0
    clear hg0
    go_upto_region 32 with fail
    obtain ⟨⟨y5,y5f⟩⟩:=And.intro (at_ HSD.out.1 5 _ rfl) trivial
    refine wp_region_lit ?_
    refine wpList_valG (.pointer (some ⟨q.D,0,none⟩)) (by rfl) (by rfl) ?_
    simp only [Act.put,List.setIfInBounds_toArray,List.set_cons_zero,List.set_cons_succ]
    refine wpList_valG (.pointer (some ⟨q.D,0,none⟩)) (by rfl) (by rfl) ?_
    simp only [Act.put,List.setIfInBounds_toArray,List.set_cons_zero,List.set_cons_succ]
    refine wpList_valG (.pointer (some ⟨q.D,0,none⟩)) (by rfl) (by go_simp) ?_
    simp only [Act.put,List.setIfInBounds_toArray,List.set_cons_zero,List.set_cons_succ]
    refine wpList_valG (.pointer (some ⟨q.D,5,none⟩)) (by rfl) (by go_simp) ?_
    simp only [Act.put,List.setIfInBounds_toArray,List.set_cons_zero,List.set_cons_succ]
    refine wpList_valG (.slice none 0 0) (by rfl) (by go_simp) ?_
    simp only [Act.put,List.setIfInBounds_toArray,List.set_cons_zero,List.set_cons_succ]
    refine wpList_valG (.int .i64 (gn:Int)) (by rfl) (by rfl) ?_
    simp only [Act.put,List.setIfInBounds_toArray,List.set_cons_zero,List.set_cons_succ]
    refine wpList_valG (.agg #[.int .i64 2,.int .i64 0,.int .i64 (gn:Int)]) (by rfl) (by go_simp) ?_
    simp only [Act.put,List.setIfInBounds_toArray,List.set_cons_zero,List.set_cons_succ]
    refine wpList_actG (.slice (some ⟨W14.heap.size,0,none⟩) 1 1) (W14.alloc (.cells #[.int .i64 2,.int .i64 0,.int .i64 (gn:Int)] 88)) (by rfl) (by go_simp) ?_
    simp only [Act.put,List.setIfInBounds_toArray,List.set_cons_zero,List.set_cons_succ]
    have hba:=below_allocs (Below.refl W14.heap.size W14) (.cells #[.int .i64 2,.int .i64 0,.int .i64 (gn:Int)] 88)
    refine wpList_told (o:=⟨some 190,_,_,_,_,_⟩) rfl (.tmp 186) (.tmp 189) rfl base (.slice none 0 0) [] rfl (World.ownsRow_nil _ _ _ _) W14.heap.size 1 ⟨2,0,gn⟩ rfl (hp_new rfl) (by simp) (by have h1:=hba.size;have h2:=HBW.out;have h3:=lt_of_heap HZ14.out;omega) ?_
    intro A6 c6 w6 ho6 hm6 hv6
    have hb6:Below W14.heap.size W14 w6:=hba.trans (hm6.below (fun g hg => by cases hg) hba.size)
    have HB6':=Hd hb6
    have HFIN:Hid (DcRes base w q d1 (w6.setCell ⟨q.D,5,none⟩ (.slice A6 1 c6))):=Hd (by
     obtain ⟨q1,e1,h1,hm1,hx1⟩:=HRS0.out
     have hvt:q1.vt = .slice none 0 0:=by
      have h2:=h1.blk
      rw [e1,HSD.out.1] at h2
      simp only [Option.some.injEq,Obj.cells.injEq,Array.mk.injEq,List.cons.injEq,and_true] at h2
      exact h2.2.2.2.2.2.symm
     have h3:=h1.retold (t':=[⟨2,0,(gn:Int)⟩]) (vt':=.slice A6 1 c6) ho6 (Mod.of_below hb6) (fun b hb => by
      rcases hv6 b hb with h | h
      · simp [Value.ownBlock] at h
      · exact .inr (by have:=hba.size;omega))
     rw [e1] at h3
     have h4:=DcRes.trans ⟨e1,hm1,hx1⟩ h3
     rw [HD1.out,if_pos HG0.out]
     exact h4)
    have HM6:Hid (Mod [q.D] W14 (w6.setCell ⟨q.D,5,none⟩ (.slice A6 1 c6))):=Hd ((Mod.of_below hb6).setCell (a:=⟨q.D,5,none⟩) (.inl (by simp)) _)
    have hdl:q.D < W14.heap.size:=lt_of_heap HSD.out.1
    obtain ⟨z5,z5f⟩:=hold hb6 ⟨y5,y5f⟩
    simp only [Act.put,List.setIfInBounds_toArray,List.set_cons_zero,List.set_cons_succ]
    clear y5 y5f hba ho6 hm6 hv6 hb6 hdl
    go_wp2
    go_meet
    exact ⟨HFIN.out,HM6.out⟩
  · have hgI:¬ (0:Int) < (gn:Int):=by omega
    have HG0:=Hd hg0
    clear hg0
    go_wp2
    go_meet
    exact ⟨by have:=HRS0.out;rw [HD1.out,if_neg HG0.out];rw [← HD00.out];exact this,Mod.refl _ _⟩
 as_aux_lemma =>
 obtain ⟨hrs,hm15⟩:=hcut
 obtain ⟨W15,hW15⟩:∃ W15,W15 = wc:=⟨_,rfl⟩
 subst hW15
 rw [HD1D.out] at hrs
 have HRS:=Hd hrs
 have HA15:Hid (W15.heap[w.heap.size]? = some (.cells #[.int .i64 (y1:Int),.int .i64 (x1:Int)] 57 (0,0))):=Hd ((hm15.block _ (lt_of_heap HA14.out) (fun hX => by have h1:=HDW.out;have h2:=List.mem_singleton.1 hX;omega)).trans HA14.out)
 have HZ15:Hid (W15.heap[w.heap.size + 1]? = some (.cells #[.int .i64 0,.int .i64 0] 57 (0,0))):=Hd ((hm15.block _ (lt_of_heap HZ14.out) (fun hX => by have h1:=HDW.out;have h2:=List.mem_singleton.1 hX;omega)).trans HZ14.out)
 have HOP15:=Hd (owns_mod HOP14.out hm15 (fun x hx hX => by have h1:=HDW.out;have h2:=(HOP14.out.lt x hx).1;have h3:=List.mem_singleton.1 hX;omega))
 have HSZ15:Hid (w.heap.size + 2 ≤ W15.heap.size):=Hd (by have:=lt_of_heap HZ15.out;omega)
 have hnpz:np ≤ 1001:=by have h1:=HNP1.out;have h2:=HLZ.out;omega
 clear hrs hm15
 go_wp2_with fail
 go_loopw [18,19] (fun s18 s19 wr => ∃ i j:Nat,s19 = .int .i64 j∧j = i + 1∧j ≤ np∧wr.ownsRow W15.heap.size 57 2 s18 i (flat encP ((rest.take i).map (tailQ rows st)))∧Below W15.heap.size W15 wr) (fun _ s19 _ => np - (intOf s19).toNat)
 case atStart => exact ⟨0,1,rfl,rfl,by have:=HNP1.out;omega,World.ownsRow_nil _ _ _ _,Below.refl _ _⟩
 case round =>
  obtain ⟨i,j,rfl,hij,hjn,hP,hB⟩:=hrel
  obtain ⟨A18,c18,hv18⟩:=row_form hP
  subst hv18
  have HIJ:=Hd hij
  have HPf:=Hd hP
  have HBf:=Hd hB
  clear hij hP
  by_cases hlt:j < np
  rotate_left
  · have hge:¬ (j:Int) < (np:Int):=by omega
    have HIN:Hid (i = n):=Hd (by have h1:=HIJ.out;have h2:=HNP1.out;omega)
    have HAf:=Hd ((hB.block _ (lt_of_heap HA15.out)).trans HA15.out)
    have HZf:=Hd ((hB.block _ (lt_of_heap HZ15.out)).trans HZ15.out)
    obtain ⟨yd,hyd⟩:∃ yd,y1 - st = yd:=⟨_,rfl⟩
    have hydI:(y1:Int) - (st:Int) = (yd:Int):=by have:=HE2.out;omega
    have hwyd:IntKind.i64.wrap (yd:Int) = (yd:Int):=IntWalk.i64_in _ (by have:=HZ8.out.2;omega)
    have HYD:=Hd hydI
    have k0:=(at_ HAf.out 0 _ rfl).1
    have k1:=(at_ HAf.out 1 _ rfl).1
    obtain ⟨z0,z0f⟩:=at_ HZf.out 0 _ rfl
    obtain ⟨z1,z1f⟩:=at_ HZf.out 1 _ rfl
    clear hlt hjn hB hyd
    by_cases hxc:(cols:Int) < (x1:Int)
    · have hxI:(cols:Int) < (x1:Int):=hxc
      have HRES:Hid (resizeAt g rows cols (at1,at2) l = ((yd:Int),(cols:Int))∧resizeL g rows cols (at1,at2) l = rest.map (tailQ rows st)∧resizeG g rows cols (at1,at2) l = tailG g rows cols AL y1):=Hd (by
       refine ⟨?_,?_,?_⟩
       · unfold resizeAt;rw [HYX1.out.1,HYX1.out.2,HAL.out,HST.out,HYD.out,Int.min_eq_right (by omega)]
       · unfold resizeL;rw [HYX1.out.1,HAL.out,HST.out,HPP.out,HPR.out,List.tail_cons]
       · unfold resizeG;rw [HYX1.out.1,HAL.out])
      go_wp2
      have hset:=set_two (u':=.int .i64 (yd:Int)) (v':=.int .i64 (cols:Int)) ⟨z0,z0f⟩ ⟨z1,z1f⟩
      have hM2:=mod_set2 (X:=[w.heap.size + 1]) (w:=wr) (b:=w.heap.size + 1) (o:=0) (u:=.int .i64 (yd:Int)) (v:=.int .i64 (cols:Int)) (Mod.refl _ _) (.inl (by simp))
      refine bodyPost_ret (ret_pos2 rfl _ _ (w.heap.size + 1) _ _ _ rfl rfl hset.1.1 hset.2.1) rfl ⟨A18,c18,?_,?_,?_⟩
      · rw [HRES.out.1,HRES.out.2.1,List.length_map,HRL.out,← HIN.out];rfl
      · rw [HRES.out.2.1]
        have hof:=owns_mod HPf.out hM2 (fun x hx => by have h1:=(HPf.out.lt x hx).1;have h2:=HSZ15.out;simp;omega)
        rw [HIN.out,← HRL.out,List.take_of_length_le (Nat.le_refl _)] at hof
        exact gr_of_own encP_len (by rw [List.length_map];exact hof)
      · rw [HRES.out.2.2]
        exact (HRS.out.post HBf.out).fresh hM2 (by omega) HZf.out
    · have hxI:¬ (cols:Int) < (x1:Int):=hxc
      have HRES:Hid (resizeAt g rows cols (at1,at2) l = ((yd:Int),(x1:Int))∧resizeL g rows cols (at1,at2) l = rest.map (tailQ rows st)∧resizeG g rows cols (at1,at2) l = tailG g rows cols AL y1):=Hd (by
       refine ⟨?_,?_,?_⟩
       · unfold resizeAt;rw [HYX1.out.1,HYX1.out.2,HAL.out,HST.out,HYD.out,Int.min_eq_left (by omega)]
       · unfold resizeL;rw [HYX1.out.1,HAL.out,HST.out,HPP.out,HPR.out,List.tail_cons]
       · unfold resizeG;rw [HYX1.out.1,HAL.out])
      go_wp2
      have hset:=set_two (u':=.int .i64 (yd:Int)) (v':=.int .i64 (x1:Int)) ⟨z0,z0f⟩ ⟨z1,z1f⟩
      have hM2:=mod_set2 (X:=[w.heap.size + 1]) (w:=wr) (b:=w.heap.size + 1) (o:=0) (u:=.int .i64 (yd:Int)) (v:=.int .i64 (x1:Int)) (Mod.refl _ _) (.inl (by simp))
      refine bodyPost_ret (ret_pos2 rfl _ _ (w.heap.size + 1) _ _ _ rfl rfl hset.1.1 hset.2.1) rfl ⟨A18,c18,?_,?_,?_⟩
      · rw [HRES.out.1,HRES.out.2.1,List.length_map,HRL.out,← HIN.out];rfl
      · rw [HRES.out.2.1]
        have hof:=owns_mod HPf.out hM2 (fun x hx => by have h1:=(HPf.out.lt x hx).1;have h2:=HSZ15.out;simp;omega)
        rw [HIN.out,← HRL.out,List.take_of_length_le (Nat.le_refl _)] at hof
        exact gr_of_own encP_len (by rw [List.length_map];exact hof)
      · rw [HRES.out.2.2]
        exact (HRS.out.post HBf.out).fresh hM2 (by omega) HZf.out
  · have hltI:(j:Int) < (np:Int):=by omega
    have hwj:IntKind.i64.wrap ((j:Int) + 1) = (j:Int) + 1:=IntWalk.i64_in _ (by omega)
    have hil:i < rest.length:=by rw [HRL.out];have h1:=HIJ.out;have h2:=HNP1.out;omega
    obtain ⟨p,hp⟩:∃ p,rest[i]? = some p:=⟨_,List.getElem?_eq_getElem hil⟩
    have hpx:(((y1:Int),(x1:Int)) :: rest)[j]? = some p:=by rw [HIJ.out,List.getElem?_cons_succ];exact hp
    obtain ⟨p1,p2⟩:=p
    have HOPr:=owns_mod HOP15.out (Mod.of_below (X:=[]) hB) (fun _ _ h => by cases h)
    have q0:=(owns_pos HOPr hpx).1.1
    have q1:=(owns_pos HOPr hpx).2.1
    have lq0:=lt_of_cell q0
    have lq1:=lt_of_cell q1
    obtain ⟨⟨u1,u2⟩,hu⟩:∃ u,tailQ rows st (p1,p2) = u:=⟨_,rfl⟩
    have HMT:Hid ((rest.take (i + 1)).map (tailQ rows st) = (rest.take i).map (tailQ rows st) ++ [(u1,u2)]):=Hd (by rw [map_take_succ _ hp,hu])
    have HUU:=Hd hu
    have hb9:=below_allocs (Below.refl wr.heap.size wr) (.cells #[.int .i64 p1,.int .i64 p2] 57)
    have HN9:=hp_new (W:=wr) (b:=wr.heap.size) (o:=.cells #[.int .i64 p1,.int .i64 p2] 57) rfl
    clear hil hp hpx HOPr hu
    go_upto_region 38 with fail
    generalize World.alloc _ _ = Wq at HN9 hb9 ⊢
    have HB9:=Hd hb9
    have HN9':=Hd HN9
    obtain ⟨n0,n0f⟩:=at_ HN9 0 _ rfl
    obtain ⟨n1,n1f⟩:=at_ HN9 1 _ rfl
    clear q0 q1 lq0 lq1 hb9 HN9
    go_upto_if 208 with fail
    go_cut [] (fun wx => wx.heap[wr.heap.size]? = some (.cells #[.int .i64 u1,.int .i64 u2] 57 (0,0))∧Below wr.heap.size wr wx)
    case first =>
     as_aux_lemma =>
     by_cases hbig:(sr:Int) ≤ p1
     · have HE:Hid ((u1,u2) = ((sr:Int),(0:Int))):=Hd (by rw [← HUU.out];unfold tailQ;rw [HE2.out.2.2.2.2.1,if_pos (by simp only;exact hbig)])
       have HNS:=Hd (whole_set (whole_set (cs:=[.int .i64 p1,.int .i64 p2]) HN9'.out 0 (.int .i64 (sr:Int)) (cs':=[.int .i64 (sr:Int),.int .i64 p2]) rfl) 1 (.int .i64 0) (cs':=[.int .i64 (sr:Int),.int .i64 0]) rfl)
       have HBS9:=Hd (below_set (below_set HB9.out (Nat.le_refl _) (o:=0) (.int .i64 (sr:Int))) (Nat.le_refl _) (o:=1) (.int .i64 0))
       go_wp2
       go_meet
       have h1:=HE.out
       simp only [Prod.mk.injEq] at h1
       rw [h1.1,h1.2]
       exact ⟨HNS.out,HBS9.out⟩
     · have HE:Hid ((u1,u2) = (p1,p2)):=Hd (by rw [← HUU.out];unfold tailQ;rw [HE2.out.2.2.2.2.1,if_neg (by simp only;exact hbig)])
       go_wp2
       go_meet
       have h1:=HE.out
       simp only [Prod.mk.injEq] at h1
       rw [h1.1,h1.2]
       exact ⟨HN9'.out,HB9.out⟩
    obtain ⟨hn10,hb10⟩:=hcut
    obtain ⟨W16,hW16⟩:∃ W16,W16 = wc:=⟨_,rfl⟩
    subst hW16
    have HB16:=Hd (below_tail HBf.out hb10)
    have n0':=(at_ hn10 0 _ rfl).1
    have n1':=(at_ hn10 1 _ rfl).1
    have HP16:=Hd (owns_mod HPf.out (Mod.of_below (X:=[]) hb10) (fun _ _ h => by cases h))
    clear hb10 n0 n0f n1 n1f
    go_upto_region 40 with fail
    refine wp_region_lit ?_
    refine wpList_valG (.slice A18 i c18) (by rfl) (by rfl) ?_
    simp only [Act.put,List.setIfInBounds_toArray,List.set_cons_zero,List.set_cons_succ]
    refine wpList_valG (.agg #[.int .i64 u1,.int .i64 u2]) (by rfl) (by go_simp) ?_
    simp only [Act.put,List.setIfInBounds_toArray,List.set_cons_zero,List.set_cons_succ]
    have hbx:=below_allocs (Below.refl W16.heap.size W16) (.cells #[.int .i64 u1,.int .i64 u2] 57)
    have HPX:=Hd (owns_mod HP16.out (Mod.of_below (X:=[]) hbx) (fun _ _ h => by cases h))
    have HBX:=Hd (below_tail HB16.out hbx)
    refine wpList_actG (.slice (some ⟨W16.heap.size,0,none⟩) 1 1) (W16.alloc (.cells #[.int .i64 u1,.int .i64 u2] 57)) (by rfl) (by go_simp) ?_
    simp only [Act.put,List.setIfInBounds_toArray,List.set_cons_zero,List.set_cons_succ]
    refine wpList_append_g (o:=⟨some 216,_,_,_,_,_⟩) rfl (.tmp 213) (.tmp 215) 58 rfl W15.heap.size 57 jp _ 2 16 Tryz.underlying58 hjp gp0 gp1 gp2 rfl (by decide) (.slice A18 i c18) i (flat encP ((rest.take i).map (tailQ rows st))) rfl HPX.out ⟨W16.heap.size,0,none⟩ 1 1 (encP (u1,u2)) rfl rfl (fun j u hj => by rw [add_lit',Nat.zero_add];exact (at_ (hp_new rfl) j u (by simpa [encP] using hj)).1) (encP_one _) (by have h1:=HIJ.out;simp only [maxLen];omega) (by have h1:=HIJ.out;omega) HBX.out.size ?_
    intro v' w7 ho hg' hv'
    have HP7:Hid (w7.ownsRow W15.heap.size 57 2 v' (i + 1) (flat encP ((rest.take (i + 1)).map (tailQ rows st)))):=Hd (by
     rw [HMT.out,flat_append]
     have e:flat encP [(u1,u2)] = encP (u1,u2):=by simp [flat]
     rw [e];exact ho)
    have HB7:=Hd (HBX.out.grown hg' HBX.out.size (fun x hx => (HPX.out.lt x hx).1))
    simp only [Act.put,List.setIfInBounds_toArray,List.set_cons_zero,List.set_cons_succ]
    clear ho hg' hv' hbx n0' n1' hn10
    go_wp2
    go_roundw
    case rel => exact ⟨i + 1,j + 1,by go_num,by have:=HIJ.out;omega,by omega,HP7.out,HB7.out⟩
    case measure => simp [intOf];omega
end
end Go.Proofs.YtffdblmdelgkaaaGreat
