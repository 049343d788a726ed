/- Joined by a tool of this claim out of smaller texts. Conditions: as stated. -/
import Derived.Test.YtaefcahblmopfaaGreatDoorDp19
import Derived.Lib.Bytealg
import Derived.Shelf.RegionOpenPlain
set_option linter.unusedVariables false
set_option linter.unusedSimpArgs false
set_option maxRecDepth 100000
open Go.Lib renaming hid → Hd
namespace Go.Proofs.YtaefcahblmopfaaGreatDoor
open Go.RowKit
def WhPost (w:World) (ev:Ev) (e:Ending) (w':World):Prop:=∃ x:Ex,e = .returned (.agg #[.int .i64 x.e.kind,.int .i32 x.e.r,.int .u8 x.e.byte,.int .u8 x.e.pre,.slice x.A x.H.length x.ca,.string (strOfNums x.e.inter),.string (strOfNums x.e.text),.bool x.e.cut])∧x.e = ev∧ExOk w' w.heap.size x∧Below w.heap.size w w'
def WholeSays:Prop:=∀ (base:Nat) (w:World) (v:Zv) (p:Pz) (k c:Int),PzO base w v p→PzOk p→Calls Tryz.prog 116 #[.pointer (some ⟨v.P,0,none⟩),.int .i64 k,.int .u8 c] w (WhPost w (wholeP p k c))
section
variable {base:Nat} {w:World} {v:Zv} {p:Pz}
theorem EvPost.trans {w1 w2:World} {v1:Zv} {x:Pz × List Ev} {e:Ending} (h1:v1.P = v.P∧Mod (zvX v) w w1∧∀ b ∈ zvX v1,b ∈ zvX v ∨ w.heap.size ≤ b) (h:EvPost base w1 v1 x e w2):EvPost base w v x e w2:=by
 obtain ⟨u,L,he,hx,hr⟩:=h
 exact ⟨u,L,he,hx.weaken h1.2.1.size,PzRes.trans h1 hr⟩
theorem PzRes.at_ {p':Pz} {w':World} (h:PzRes base w v p' w'):∃ v1,PzO base w' v1 p'∧v1.P = v.P∧Mod (zvX v) w w'∧∀ b ∈ zvX v1,b ∈ zvX v ∨ w.heap.size ≤ b:=by
 obtain ⟨v1,e,h1,h2,h3⟩:=h
 exact ⟨v1,h1,e,h2,h3⟩
def EnPost (w:World) (evs:List Ev) (e:Ending) (w':World):Prop:=∃ u L,e = .returned u∧ExsO w' w.heap.size u L evs∧Below w.heap.size w w'
set_option maxHeartbeats 1600000 in
theorem zends_any (HW:WholeSays) (h:PzO base w v p) (hok:PzOk p):Calls Tryz.prog 68 #[.pointer (some ⟨v.P,0,none⟩)] w (EnPost w (endsP p)):=by
 obtain ⟨A2,cap2,hv2⟩:=row_form (h.row 2 (by omega))
 obtain ⟨-,-,-,⟨c3,-⟩,⟨c4,-⟩,⟨c5,-⟩,⟨c6,-⟩,-,⟨c8,-⟩⟩:=h.blk.facts
 have HCV:Hid (∀ w',Below w.heap.size w w'→(convert 23 9 (.slice A2 (p.r 2).length cap2)).run Tryz.prog w' = .ok (.string (strOfNums p.text)) w'):=Hd (fun w' hb => by rw [← hv2];exact conv_own ((h.below hb).row 2 (by omega)))
 rw [hv2] at c3
 have HO:=Hd h
 have HWH:=Hd (HW base w v p 5 p.last h hok)
 generalize hN:(p.r 2).length = n at c3 HCV
 clear h hv2 hok hN
 unfold endsP
 by_cases h4:p.state = 4
 · rw [if_pos h4]
   rw [h4] at c8
   clear h4 HWH c4 c5
   go_enter Tryz.func68,Tryz.ntmps68
   go_upto_region 2 with fail
   refine wp_region_u 11 (fun w' => Below w.heap.size w w'∧w'.cell? ⟨v.P,3,none⟩ = some (.slice A2 n cap2)∧w'.cell? ⟨v.P,6,none⟩ = some (.bool p.cut)∧(convert 23 9 (.slice A2 n cap2)).run Tryz.prog w' = .ok (.string (strOfNums p.text)) w') (by kernel_rfl) (by kernel_rfl) ?_ ?_
   · exact ⟨(Below.refl _ _).drew,c3,c6,HCV.out _ ((Below.refl _ _).drew)⟩
   simp only [List.take_succ_cons,List.take_zero,List.drop_succ_cons,List.drop_zero]
   repeat (
    (first
     | refine seqU_skip (by rfl) ?_
     | (refine seqU_val ?_ (by rfl) ?_ ?_;rotate_left;(focus (intro w' hS;obtain ⟨_,_,_,_⟩:=hS;go_simp;first | done | with_reducible rfl))))
    simp only [Act.put,List.setIfInBounds_toArray,List.set_cons_zero,List.set_cons_succ])
   refine seqU_nil (fun w' hS => ?_)
   have HX:=Hd (ExsO.lit (w:=w') (lo:=w.heap.size) hS.1.size (ex0_ok w' w.heap.size (e:={ evE with kind:=4,text:=p.text,cut:=p.cut }) rfl))
   have HB:=Hd hS.1
   go_wp2
   go_ret
   exact ⟨_,_,rfl,HX.out,below_allocs HB.out _⟩
 rw [if_neg h4]
 by_cases h3:p.state = 3∧p.last ≠ 0∧p.wrong = false
 · rw [if_pos h3]
   obtain ⟨a1,a2,a3⟩:=h3
   rw [a1] at c8
   rw [a3] at c5
   clear a1 h4 a3
   go_enter Tryz.func68,Tryz.ntmps68
   go_upto_region 4 with fail
   refine wp_region_lit ?_
   refine wpList_valG (.pointer (some ⟨v.P,0,none⟩)) (by rfl) (by rfl) ?_
   simp only [Act.put,List.setIfInBounds_toArray,List.set_cons_zero,List.set_cons_succ]
   refine wpList_valG (.pointer (some ⟨v.P,0,none⟩)) (by rfl) (by rfl) ?_
   simp only [Act.put,List.setIfInBounds_toArray,List.set_cons_zero,List.set_cons_succ]
   refine wpList_valG (.pointer (some ⟨v.P,0,none⟩)) (by rfl) (by go_simp) ?_
   simp only [Act.put,List.setIfInBounds_toArray,List.set_cons_zero,List.set_cons_succ]
   refine wpList_valG (.pointer (some ⟨v.P,0,none⟩)) (by rfl) (by go_simp) ?_
   simp only [Act.put,List.setIfInBounds_toArray,List.set_cons_zero,List.set_cons_succ]
   refine wpList_valG (.pointer (some ⟨v.P,4,none⟩)) (by rfl) (by go_simp) ?_
   simp only [Act.put,List.setIfInBounds_toArray,List.set_cons_zero,List.set_cons_succ]
   refine wpList_valG (.int .u8 p.last) (by rfl) (by go_simp) ?_
   simp only [Act.put,List.setIfInBounds_toArray,List.set_cons_zero,List.set_cons_succ]
   refine wpList_callZ rfl 116 #[.pointer (some ⟨v.P,0,none⟩),.int .i64 5,.int .u8 p.last] (by go_simp) (R:=fun u w' => ∃ x:Ex,u = .agg #[.int .i64 x.e.kind,.int .i32 x.e.r,.int .u8 x.e.byte,.int .u8 x.e.pre,.slice x.A x.H.length x.ca,.string (strOfNums x.e.inter),.string (strOfNums x.e.text),.bool x.e.cut]∧x.e = wholeP p 5 p.last∧ExOk w' w.heap.size x∧Below w.heap.size w w') (HWH.out.mono (fun e w' ⟨x,he,h1⟩ => ⟨_,he,x,rfl,h1⟩)) ?_
   rintro u w1 ⟨x,rfl,hx1,hx2,hb⟩
   have HX:=Hd (ExsO.lit (w:=w1) (lo:=w.heap.size) hb.size hx2)
   have HB:=Hd hb
   have HE:=Hd hx1
   clear hx1 hx2 hb
   simp only [Act.put,List.setIfInBounds_toArray,List.set_cons_zero,List.set_cons_succ]
   refine wpList_actG (.slice (some ⟨w1.heap.size,0,none⟩) 1 1) (w1.alloc (.cells (encEx x).toArray 83)) (by rfl) (by go_simp;rfl) ?_
   simp only [Act.put,List.setIfInBounds_toArray,List.set_cons_zero,List.set_cons_succ]
   go_wp2
   go_ret
   have h2:=HX.out
   rw [HE.out] at h2
   exact ⟨_,_,rfl,h2,below_allocs HB.out _⟩
 · rw [if_neg h3]
   have h3I:p.state = 3∧p.last = 0 ∨ p.state = 3∧p.wrong = true ∨ ¬ p.state = 3:=by
    by_cases a1:p.state = 3
    · by_cases a2:p.last = 0
      · exact .inl ⟨a1,a2⟩
      · exact .inr (.inl ⟨a1,by cases hq:p.wrong with | false => exact absurd ⟨a1,a2,hq⟩ h3 | true => rfl⟩)
    · exact .inr (.inr a1)
   clear h3 HWH
   rcases h3I with ⟨a1,a2⟩ | ⟨a1,a2⟩ | a1
   · rw [a1] at c8
     rw [a2] at c4
     clear a1 a2 h4
     go_enter Tryz.func68,Tryz.ntmps68
     go_wp2
     all_goals (go_ret;exact ⟨_,[],rfl,ExsO.nil _ _,Below.refl _ _⟩)
   · rw [a1] at c8
     rw [a2] at c5
     clear a1 a2 h4
     go_enter Tryz.func68,Tryz.ntmps68
     go_wp2
     all_goals (go_ret;exact ⟨_,[],rfl,ExsO.nil _ _,Below.refl _ _⟩)
   · go_enter Tryz.func68,Tryz.ntmps68
     go_wp2
     all_goals (go_ret;exact ⟨_,[],rfl,ExsO.nil _ _,Below.refl _ _⟩)
set_option maxHeartbeats 1600000 in
theorem zescape_any (h:PzO base w v p) (hok:PzOk p) (c:Int):Calls Tryz.prog 119 #[.pointer (some ⟨v.P,0,none⟩),.int .u8 c] w (EvPost base w v (inEscapeP p c)):=by
 have HB:=Hd (zbetween_any h hok.inter.1 c)
 have HF:=Hd (zfinal_any h c)
 have hP:=h.blk.lt
 clear h hok
 unfold inEscapeP
 by_cases h1:c < 48
 · rw [if_pos h1]
   clear HF
   go_enter Tryz.func119,Tryz.ntmps119
   go_wp2_with (go_at_call 178;(with_reducible refine HB.out.mono ?_);rintro e w1 ⟨rfl,hr⟩;have HR:=Hd hr;clear hr)
   go_ret
   exact PzPost.ev HR.out
 · rw [if_neg h1]
   have h1':48 ≤ c:=by omega
   clear HB
   go_enter Tryz.func119,Tryz.ntmps119
   go_wp2_with (go_at_call 115;(with_reducible refine HF.out.mono ?_);rintro e w1 ⟨u,L,rfl,h2,h3⟩;have HX:=Hd h2;have HR:=Hd h3;clear h2 h3)
   go_ret
   exact ⟨u,L,rfl,HX.out,HR.out⟩
set_option maxHeartbeats 1600000 in
theorem zsequence_any (HW:WholeSays) (h:PzO base w v p) (hok:PzOk p) (c:Int):Calls Tryz.prog 120 #[.pointer (some ⟨v.P,0,none⟩),.int .u8 c] w (EvPost base w v (inSeqP p c)):=by
 have HB:=Hd (zbetween_any h hok.inter.1 c)
 have HN:=Hd (znumber_any h hok.head.1 c)
 have HWH:=Hd (HW base w v p 3 c h hok)
 have HE:Hid (∀ W,Below w.heap.size w W→∀ s:Int,Calls Tryz.prog 67 #[.pointer (some ⟨v.P,0,none⟩),.int .i64 s] W (PzPost base W v (enterP p s))):=Hd (fun W hb s => zenter_any (h.below hb) s)
 obtain ⟨-,-,-,-,⟨c4,f4⟩,⟨c5,-⟩,-,-,⟨c8,-⟩⟩:=h.blk.facts
 have HO:=Hd h
 have hP:=h.blk.lt
 clear h hok
 unfold inSeqP
 by_cases h1:c < 48
 · rw [if_pos h1]
   clear HN HWH HE
   go_enter Tryz.func120,Tryz.ntmps120
   go_wp2_with (go_at_call 178;(with_reducible refine HB.out.mono ?_);rintro e w1 ⟨rfl,hr⟩;have HR:=Hd hr;clear hr)
   go_ret
   exact PzPost.ev HR.out
 rw [if_neg h1]
 have h1':48 ≤ c:=by omega
 by_cases h2:c < 64
 · rw [if_pos h2]
   clear HB HWH HE
   go_enter Tryz.func120,Tryz.ntmps120
   go_wp2_with (go_at_call 179;(with_reducible refine HN.out.mono ?_);rintro e w1 ⟨rfl,hr⟩;have HR:=Hd hr;clear hr)
   go_ret
   exact PzPost.ev HR.out
 rw [if_neg h2]
 have h2':64 ≤ c:=by omega
 by_cases h3:p.state = 3
 · rw [if_pos h3]
   rw [h3] at c8
   clear HB HN HWH HE h3
   go_enter Tryz.func120,Tryz.ntmps120
   go_wp2
   go_ret
   exact PzPost.ev (HO.out.one 4 (.int .u8 c) rfl (fun k hk => by match k,hk with | 0,_ => rfl | 1,_ => rfl | 2,_ => rfl))
 rw [if_neg h3]
 unfold csiE
 clear HB HN
 by_cases hw:p.wrong = true
 · rw [if_pos hw]
   rw [hw] at c5
   have HB0:Hid (Below w.heap.size w w):=Hd (Below.refl _ _)
   clear HWH hw
   go_enter Tryz.func120,Tryz.ntmps120
   go_wp2_with (go_at_call 67;(with_reducible refine (HE.out _ HB0.out _).mono ?_);rintro e w1 ⟨rfl,hr⟩;have HR:=Hd hr;clear hr)
   go_ret
   exact PzPost.ev HR.out
 · rw [if_neg hw]
   rw [show p.wrong = false by cases hq:p.wrong <;> simp_all] at c5
   clear hw
   go_enter Tryz.func120,Tryz.ntmps120
   go_upto_region 12 with fail
   refine wp_region_lit ?_
   refine wpList_valG (.pointer (some ⟨v.P,0,none⟩)) (by rfl) (by rfl) ?_
   simp only [Act.put,List.setIfInBounds_toArray,List.set_cons_zero,List.set_cons_succ]
   refine wpList_valG (.int .u8 c) (by rfl) (by rfl) ?_
   simp only [Act.put,List.setIfInBounds_toArray,List.set_cons_zero,List.set_cons_succ]
   refine wpList_callZ rfl 116 #[.pointer (some ⟨v.P,0,none⟩),.int .i64 3,.int .u8 c] (by go_simp) (R:=fun u w' => ∃ x:Ex,u = .agg #[.int .i64 x.e.kind,.int .i32 x.e.r,.int .u8 x.e.byte,.int .u8 x.e.pre,.slice x.A x.H.length x.ca,.string (strOfNums x.e.inter),.string (strOfNums x.e.text),.bool x.e.cut]∧x.e = wholeP p 3 c∧ExOk w' w.heap.size x∧Below w.heap.size w w') (HWH.out.mono (fun e w' ⟨x,he,h1⟩ => ⟨_,he,x,rfl,h1⟩)) ?_
   rintro u w1 ⟨x,rfl,hx1,hx2,hb⟩
   have HX:=Hd (ExsO.lit (w:=w1) (lo:=w.heap.size) hb.size hx2)
   have HB:=Hd (below_allocs hb (.cells (encEx x).toArray 83))
   have HX1:=Hd hx1
   clear hx1 hx2 hb
   simp only [Act.put,List.setIfInBounds_toArray,List.set_cons_zero,List.set_cons_succ]
   refine wpList_actG (.slice (some ⟨w1.heap.size,0,none⟩) 1 1) (w1.alloc (.cells (encEx x).toArray 83)) (by rfl) (by go_simp;rfl) ?_
   simp only [Act.put,List.setIfInBounds_toArray,List.set_cons_zero,List.set_cons_succ]
   go_wp2_with (go_at_call 67;(with_reducible refine (HE.out _ HB.out _).mono ?_);rintro e w2 ⟨rfl,hr⟩;have HR:=Hd hr;clear hr)
   go_ret
   have:=EvPost.mk HO.out HB.out HX.out HR.out
   rw [HX1.out] at this
   exact this
end
theorem beginD_in {d:Dk} {c:Int} (hc:0 ≤ c∧c ≤ 255):(beginD d c).1.length ≤ 1∧∀ r ∈ (beginD d c).1,0 ≤ r∧r < 2147483648:=by
 unfold beginD
 split
 · exact ⟨by simp,fun r h => by rw [List.mem_singleton.1 h];omega⟩
 split
 · exact ⟨by simp,fun r h => by rw [List.mem_singleton.1 h];omega⟩
 · exact ⟨by simp,fun r h => by simp at h⟩
theorem stepDk_in {d:Dk} {c:Int} (hd:DkOk d) (hc:0 ≤ c∧c ≤ 255):(stepDk d c).1.length ≤ 1000∧∀ r ∈ (stepDk d c).1,0 ≤ r∧r < 2147483648:=by
 unfold stepDk
 split
 · exact ⟨by have:=(beginD_in (d:=d) hc).1;omega,(beginD_in hc).2⟩
 split
 · refine ⟨by have:=(beginD_in (d:=wipeD d) hc).1;simp;omega,fun r h => ?_⟩
   rcases List.mem_cons.1 h with rfl | h
   · omega
   · exact (beginD_in hc).2 r h
 split
 · next h0 _ h1 =>
   refine ⟨by simp,fun r h => ?_⟩
   rw [List.mem_singleton.1 h]
   rcases hd.n with h2 | ⟨h2,h3,-⟩
   · exact absurd h2 h0
   · have:=h3 h1;omega
 · exact ⟨by simp,fun r h => by simp at h⟩
theorem endD_in (d:Dk):(endD d).1.length ≤ 1000∧∀ r ∈ (endD d).1,0 ≤ r∧r < 2147483648:=by
 unfold endD
 split
 · exact ⟨by simp,fun r h => by simp at h⟩
 · exact ⟨by simp,fun r h => by rw [List.mem_singleton.1 h];omega⟩
section
variable {base:Nat} {w:World} {v:Zv} {p:Pz}
theorem PzO.decd {d:Dk} {w':World} (h:PzO base w v p) (hp:ParB w' v { p with dec:=d }) (hg:w.grownBy w' (some v.P)):PzO base w' v { p with dec:=d }∧Mod (zvX v) w w':=by
 have hm:Mod [v.P] w w':=Mod.of_grown (X:=[v.P]) hg (fun g hg => by injection hg with hg;simp [hg])
 exact ⟨⟨hp,h.hb,fun k hk => owns_mod (h.row k hk) hm (fun g hg hx => h.np ⟨k,hk,by rw [← List.mem_singleton.1 hx];exact hg⟩),h.nd⟩,hm.mono (fun b hb => mem_zvX.2 (.inl (List.mem_singleton.1 hb)))⟩
theorem zdec_prints (h:PzO base w v p) {x:List Int × Dk} {u:Value} {w':World} (hx:x.1.length ≤ 1000∧∀ r ∈ x.1,0 ≤ r∧r < 2147483648) (hr:RsAt w' w.heap.size u x.1) (hp:ParB w' v { p with dec:=x.2 }) (hg:w.grownBy w' (some v.P)) :
 Calls Tryz.prog 65 #[.pointer (some ⟨v.P,0,none⟩),u] w' (EvPost base w v (printsP { p with dec:=x.2 } x.1)):=by
 obtain ⟨hO,hm⟩:=h.decd hp hg
 exact (zprints_any hO hr (fun b hb => (h.lt b hb).2) hx.1 hx.2).mono (fun e w2 hq => hq.trans ⟨rfl,hm,fun _ hb => .inl hb⟩)
set_option maxHeartbeats 1600000 in
theorem zstring_any (HW:WholeSays) (h:PzO base w v p) (hok:PzOk p) (c:Int):Calls Tryz.prog 70 #[.pointer (some ⟨v.P,0,none⟩),.int .u8 c] w (EvPost base w v (inStringP p c)):=by
 have HPt:=Hd (zput_any h (by have:=hok.text.1;have:=hok.most;omega) c)
 have HEn:=Hd (zends_any HW h hok)
 have HE:Hid (∀ W v' (q:Pz),PzO base W v' q→v'.P = v.P→∀ s:Int,Calls Tryz.prog 67 #[.pointer (some ⟨v.P,0,none⟩),.int .i64 s] W (PzPost base W v' (enterP q s))):=Hd (fun W v' q ho e s => by rw [← e];exact zenter_any ho s)
 obtain ⟨-,-,-,-,-,⟨c5,-⟩,-,-,⟨c8,-⟩⟩:=h.blk.facts
 have HO:=Hd h
 clear h hok
 unfold inStringP
 by_cases h1:p.state = 3∧p.wrong = false
 · rw [if_pos h1]
   rw [h1.1] at c8
   rw [h1.2] at c5
   clear HEn HE h1
   go_enter Tryz.func70,Tryz.ntmps70
   go_wp2_with (go_at_call 118;(with_reducible refine HPt.out.mono ?_);rintro e w1 ⟨rfl,hr⟩;have HR:=Hd hr;clear hr)
   go_ret
   exact PzPost.ev HR.out
 rw [if_neg h1]
 by_cases h2:p.state = 4
 rotate_left
 · rw [if_pos h2]
   have h1I:¬ p.state = 3 ∨ p.state = 3∧p.wrong = true:=by
    by_cases a1:p.state = 3
    · exact .inr ⟨a1,by cases hq:p.wrong with | false => exact absurd ⟨a1,hq⟩ h1 | true => rfl⟩
    · exact .inl a1
   clear HEn HE HPt h1
   rcases h1I with a1 | ⟨a1,a2⟩
   · go_enter Tryz.func70,Tryz.ntmps70
     go_wp2
     all_goals (go_ret;exact PzPost.ev HO.out.res)
   · rw [a1] at c8
     rw [a2] at c5
     clear a1 a2 h2
     go_enter Tryz.func70,Tryz.ntmps70
     go_wp2
     all_goals (go_ret;exact PzPost.ev HO.out.res)
 rw [if_neg (by rw [h2];decide)]
 rw [h2] at c8
 clear h1 h2
 by_cases h3:c = 7
 · subst h3
   rw [if_pos rfl]
   clear HPt
   go_enter Tryz.func70,Tryz.ntmps70
   go_wp2_with (first
    | (go_at_call 68;(with_reducible refine HEn.out.mono ?_);rintro e w1 ⟨u,L,rfl,h2,h3⟩;have HX:=Hd h2;have HB1:=Hd h3;have HO1:=Hd (HO.out.below h3);clear h2 h3)
    | (go_at_call 67;(with_reducible refine (HE.out _ _ _ HO1.out rfl _).mono ?_);rintro e w2 ⟨rfl,hr⟩;have HR:=Hd hr;clear hr))
   go_ret
   exact EvPost.mk HO.out HB1.out HX.out HR.out
 rw [if_neg h3]
 by_cases h4:32 ≤ c∧c ≠ 127
 · rw [if_pos h4]
   obtain ⟨h5,h6⟩:=h4
   have h5':¬ c < 32:=by omega
   clear HEn HE
   go_enter Tryz.func70,Tryz.ntmps70
   go_wp2_with (go_at_call 118;(with_reducible refine HPt.out.mono ?_);rintro e w1 ⟨rfl,hr⟩;have HR:=Hd hr;clear hr)
   go_ret
   exact PzPost.ev HR.out
 · rw [if_neg h4]
   have h4I:c < 32 ∨ 32 ≤ c∧c = 127:=by omega
   clear HEn HE HPt h4
   rcases h4I with a1 | ⟨a1,rfl⟩
   · go_enter Tryz.func70,Tryz.ntmps70
     go_wp2
     all_goals (go_ret;exact PzPost.ev HO.out.res)
   · go_enter Tryz.func70,Tryz.ntmps70
     go_wp2
     all_goals (go_ret;exact PzPost.ev HO.out.res)
set_option maxHeartbeats 1600000 in
theorem zhead_any (HW:WholeSays) (h:PzO base w v p) (hok:PzOk p) (c:Int) (hc:0 ≤ c∧c ≤ 255):Calls Tryz.prog 71 #[.pointer (some ⟨v.P,0,none⟩),.int .u8 c] w (EvPost base w v (inHeadP p c)):=by
 have HE:=Hd (zenter_any h 0)
 have HS:Hid (∀ W v' (q:Pz),PzO base W v' q→v'.P = v.P→DkOk q.dec→Calls Tryz.prog 69 #[.pointer (some ⟨v.P,9,none⟩),.int .u8 c] W (DecPost v' q (stepDk q.dec c) W)):=Hd (fun W v' q ho e hd => by rw [← e];exact zdstep_any ho.blk hd c hc)
 have HPr:Hid (∀ (W W':World) (v':Zv) (q:Pz) (u:Value),PzO base W v' q→v'.P = v.P→DkOk q.dec→RsAt W' W.heap.size u (stepDk q.dec c).1→ParB W' v' { q with dec:=(stepDk q.dec c).2 }→W.grownBy W' (some v'.P)→Calls Tryz.prog 65 #[.pointer (some ⟨v.P,0,none⟩),u] W' (EvPost base W v' (decP q c))):=Hd (fun W W' v' q u ho e hd h1 h2 h3 => by rw [← e];exact zdec_prints ho (stepDk_in hd hc) h1 h2 h3)
 have HEs:=Hd (zescape_any h hok c)
 have HSq:=Hd (zsequence_any HW h hok c)
 obtain ⟨-,-,-,-,-,-,-,-,⟨c8,-⟩⟩:=h.blk.facts
 have HO:=Hd h
 have HD:Hid (DkOk (enterP p 0).dec):=Hd hok.dec
 clear h hok
 unfold inHeadP
 by_cases h1:128 ≤ c
 · rw [if_pos h1]
   clear HEs HSq
   go_enter Tryz.func71,Tryz.ntmps71
   go_wp2_with (first
    | (go_at_call 67;(with_reducible refine HE.out.mono ?_);rintro e w1 ⟨rfl,hr⟩;obtain ⟨v1,hO1,e1,hm1,hx1⟩:=hr.at_;have HO1:=Hd hO1;have HE1:=Hd e1;have HM1:=Hd hm1;have HX1:=Hd hx1;clear hr hO1 e1 hm1 hx1)
    | (go_at_call 69;(with_reducible refine (HS.out _ _ _ HO1.out HE1.out HD.out).mono ?_);rintro e w2 ⟨u,rfl,h1,h2,h3⟩;have H1:=Hd h1;have H2:=Hd h2;have H3:=Hd h3;clear h1 h2 h3)
    | (go_at_call 65;(with_reducible refine (HPr.out _ _ _ _ _ HO1.out HE1.out HD.out H1.out H2.out H3.out).mono ?_);rintro e w3 ⟨u3,L,rfl,h2,h3⟩;have HX:=Hd h2;have HR:=Hd h3;clear h2 h3))
   go_ret
   exact EvPost.trans ⟨HE1.out,HM1.out,HX1.out⟩ ⟨u3,L,rfl,HX.out,HR.out⟩
 rw [if_neg h1]
 clear HE HS HPr
 have h1':c < 128:=by omega
 by_cases h2:c = 127 ∨ (c < 32∧p.state = 3)
 · rw [if_pos h2]
   clear HEs HSq
   rcases h2 with rfl | ⟨a1,a2⟩
   · go_enter Tryz.func71,Tryz.ntmps71
     go_wp2
     all_goals (go_ret;exact PzPost.ev HO.out.res)
   · rw [a2] at c8
     have a3:¬ c = 127:=by omega
     clear a2
     go_enter Tryz.func71,Tryz.ntmps71
     go_wp2
     all_goals (go_ret;exact PzPost.ev HO.out.res)
 rw [if_neg h2]
 have a3:¬ c = 127:=fun e => h2 (.inl e)
 by_cases h3:c < 32
 · rw [if_pos h3]
   have a4:¬ p.state = 3:=fun e => h2 (.inr ⟨h3,e⟩)
   have a5:(p.state == 3) = false:=by simpa using a4
   have a6:(c == 127) = false:=by simpa using a3
   have HX:=Hd (ExsO.lit (w:=w) (Nat.le_refl _) (ex0_ok w w.heap.size (e:=execE c) rfl))
   clear HEs HSq h2
   go_enter Tryz.func71,Tryz.ntmps71
   go_wp2
   go_ret
   exact ⟨_,_,rfl,HX.out,HO.out.res_below (below_allocs (Below.refl _ _) _)⟩
 rw [if_neg h3]
 have h3':32 ≤ c:=by omega
 clear h2
 by_cases h4:p.state = 1
 · rw [if_pos h4]
   rw [h4] at c8
   clear HSq h4
   go_enter Tryz.func71,Tryz.ntmps71
   go_wp2_with (go_at_call 119;(with_reducible refine HEs.out.mono ?_);rintro e w1 ⟨u,L,rfl,h2,h3⟩;have HX:=Hd h2;have HR:=Hd h3;clear h2 h3)
   go_ret
   exact ⟨u,L,rfl,HX.out,HR.out⟩
 · rw [if_neg h4]
   clear HEs
   go_enter Tryz.func71,Tryz.ntmps71
   go_wp2_with (go_at_call 120;(with_reducible refine HSq.out.mono ?_);rintro e w1 ⟨u,L,rfl,h2,h3⟩;have HX:=Hd h2;have HR:=Hd h3;clear h2 h3)
   go_ret
   exact ⟨u,L,rfl,HX.out,HR.out⟩
end
theorem ExsO.apart {base lo:Nat} {w:World} {u:Value} {L:List Ex} {evs:List Ev} {v:Zv} {p:Pz} (h:ExsO w lo u L evs) (hO:PzO base w v p):∀ b,u.ownBlock = some b→b ∉ zvX v:=fun b hb hx => by
 obtain ⟨cur,hc⟩:=own_block h.own hb
 obtain ⟨cur2,ty,h1,h2⟩:=hO.types b hx
 rw [hc,Option.some.injEq,Obj.cells.injEq] at h1
 obtain ⟨-,e,-⟩:=h1
 rcases h2 with h2 | h2 <;> exact absurd (e.trans h2) (by decide)
section
variable {base:Nat} {w:World} {v:Zv} {p:Pz}
theorem EvPost.app {w4 w5 w6:World} {v2:Zv} {q:Pz} {u u':Value} {L L':List Ex} {evs evs':List Ev} (hP:v2.P = v.P) (hO:PzO base w4 v2 q) (hM:Mod (zvX v) w w4) (hX:∀ b ∈ zvX v2,b ∈ zvX v ∨ w.heap.size ≤ b) (hx:ExsO w4 w.heap.size u L evs) (hb:Below w4.heap.size w4 w5) (hg:w5.grownBy w6 u.ownBlock) (hx6:ExsO w6 w.heap.size u' L' evs'):EvPost base w v (q,evs') (.returned u') w6:=by
 have hm:Mod u.ownBlock.toList w4 w6:=(Mod.of_below hb).trans (Mod.of_grown (X:=u.ownBlock.toList) hg (fun g hg => by simp [hg])) (fun g hg => .inl hg)
 exact ⟨u',L',rfl,hx6,v2,hP,hO.mod hm (fun b hb hx2 => hx.apart hO b (Option.mem_toList.1 hx2) hb),hM.trans hm (fun g hg => .inr (hx.own.lt g (Option.mem_toList.1 hg)).1),hX⟩
set_option maxHeartbeats 3200000 in
theorem zstep_any (HW:WholeSays) (h:PzO base w v p) (hok:PzOk p) (c:Int) (hc:0 ≤ c∧c ≤ 255):Calls Tryz.prog 37 #[.pointer (some ⟨v.P,0,none⟩),.int .u8 c] w (EvPost base w v (stepPz p c)):=by
 have HS:=Hd (zdstep_any h.blk hok.dec c hc)
 have HPr:Hid (∀ (W':World) (u:Value),RsAt W' w.heap.size u (stepDk p.dec c).1→ParB W' v { p with dec:=(stepDk p.dec c).2 }→w.grownBy W' (some v.P)→Calls Tryz.prog 65 #[.pointer (some ⟨v.P,0,none⟩),u] W' (EvPost base w v (decP p c))):=Hd (fun W' u h1 h2 h3 => zdec_prints h (stepDk_in hok.dec hc) h1 h2 h3)
 have HEd:=Hd (zdend_any h.blk)
 have HPe:Hid (∀ (W':World) (u:Value),RsAt W' w.heap.size u (endD p.dec).1→ParB W' v { p with dec:=(endD p.dec).2 }→w.grownBy W' (some v.P)→Calls Tryz.prog 65 #[.pointer (some ⟨v.P,0,none⟩),u] W' (EvPost base w v (doneP p))):=Hd (fun W' u h1 h2 h3 => zdec_prints h (endD_in p.dec) h1 h2 h3)
 have HE:Hid (∀ W v' (q:Pz),PzO base W v' q→v'.P = v.P→∀ s:Int,Calls Tryz.prog 67 #[.pointer (some ⟨v.P,0,none⟩),.int .i64 s] W (PzPost base W v' (enterP q s))):=Hd (fun W v' q ho e s => by rw [← e];exact zenter_any ho s)
 have HEn:Hid (∀ W v' (q:Pz),PzO base W v' q→v'.P = v.P→PzOk q→Calls Tryz.prog 68 #[.pointer (some ⟨v.P,0,none⟩)] W (EnPost W (endsP q))):=Hd (fun W v' q ho e hq => by rw [← e];exact zends_any HW ho hq)
 have HSt:=Hd (zstring_any HW h hok c)
 have HHd:=Hd (zhead_any HW h hok c hc)
 obtain ⟨-,-,-,-,⟨c4,-⟩,-,-,-,⟨c8,-⟩⟩:=h.blk.facts
 have HO:=Hd h
 have hP:=h.blk.lt
 have HDn:=Hd hok.done
 have hdn:(∀ e ∈ (doneP p).2,e.nums = [])∧(doneP p).2.length ≤ 1000:=⟨(prints_nums _ _).1,Nat.le_trans (prints_nums _ _).2 (endD_in _).1⟩
 have HN:=Hd hdn
 clear h hok hdn
 unfold stepPz
 by_cases h1:c = 24 ∨ c = 26
 · rw [if_pos h1]
   clear HS HPr HEn HSt HHd
   have h1I:c = 24 ∨ ¬ c = 24∧c = 26:=by omega
   rcases h1I with rfl | ⟨h2,rfl⟩
   · clear h1
     go_enter Tryz.func37,Tryz.ntmps37
     go_upto_region 8 with (first
      | (go_at_call 66;(with_reducible refine HEd.out.mono ?_);rintro e w2 ⟨u,rfl,h1,h2,h3⟩;have H1:=Hd h1;have H2:=Hd h2;have H3:=Hd h3;clear h1 h2 h3)
      | (go_at_call 65;(with_reducible refine (HPe.out _ _ H1.out H2.out H3.out).mono ?_);rintro e w3 ⟨u3,L,rfl,h2,h3⟩;obtain ⟨v1,hO1,e1,hm1,hx1⟩:=h3.at_;have HX:=Hd h2;have HO1:=Hd hO1;have HE1:=Hd e1;have HM1:=Hd hm1;have HX1:=Hd hx1;clear h2 h3 hO1 e1 hm1 hx1)
      | (go_at_call 67;(with_reducible refine (HE.out _ _ _ HO1.out HE1.out _).mono ?_);rintro e w4 ⟨rfl,hr⟩;obtain ⟨v2,hO2,e2,hm2,hx2⟩:=hr.at_;have HR:=Hd hr;have HO2:=Hd hO2;have HE2:=Hd e2;have HM2:=Hd hm2;have HX2:=Hd hx2;clear hr hO2 e2 hm2 hx2))
     refine wp_region_lit ?_
     refine wpList_valG (u3) (by rfl) (by rfl) ?_
     simp only [Act.put,List.setIfInBounds_toArray,List.set_cons_zero,List.set_cons_succ]
     refine wpList_valG (.int .u8 24) (by rfl) (by rfl) ?_
     simp only [Act.put,List.setIfInBounds_toArray,List.set_cons_zero,List.set_cons_succ]
     refine wpList_valG (.agg #[.int .i64 1,.int .i32 0,.int .u8 24,.int .u8 0,.slice none 0 0,.string ⟨#[]⟩,.string ⟨#[]⟩,.bool false]) (by rfl) (by go_simp) ?_
     simp only [Act.put,List.setIfInBounds_toArray,List.set_cons_zero,List.set_cons_succ]
     have hX4:=HX.out.keepB HN.out.1 HM2.out (HX.out.apart HO1.out)
     have hB5:=below_allocs (Below.refl w4.heap.size w4) (.cells (encEx (ex0 (execE 24))).toArray 83)
     have hs4:w.heap.size ≤ w4.heap.size:=Nat.le_trans HM1.out.size HM2.out.size
     have hL:=ExsO.lit (w:=w4) (lo:=w.heap.size) hs4 (ex0_ok w4 w.heap.size (e:=execE 24) rfl)
     refine wpList_actG (.slice (some ⟨w4.heap.size,0,none⟩) 1 1) (w4.alloc (.cells #[.int .i64 1,.int .i32 0,.int .u8 24,.int .u8 0,.slice none 0 0,.string ⟨#[]⟩,.string ⟨#[]⟩,.bool false] 83)) (by rfl) (by go_simp) ?_
     simp only [Act.put,List.setIfInBounds_toArray,List.set_cons_zero,List.set_cons_succ]
     refine wpList_evs rfl (.tmp 21) (.tmp 24) rfl (hX4.below hB5) hL (Nat.le_refl _) HN.out.1 (.inl (fun e he => by rw [List.mem_singleton.1 he];rfl)) (by have:=HN.out.2;have:=hX4.len;simp;omega) (Nat.le_trans hs4 hB5.size) rfl rfl ?_
     intro u' w6 hx hg hu _
     have HF:=Hd (EvPost.app (HE2.out.trans HE1.out) HO2.out (HM1.out.trans HM2.out HX1.out) (fun b hb => (HX2.out b hb).elim (HX1.out b) (fun h => .inr (Nat.le_trans HM1.out.size h))) hX4 hB5 hg hx)
     clear hX4 hB5 hs4 hL hx hg hu
     simp only [Act.put,List.setIfInBounds_toArray,List.set_cons_zero,List.set_cons_succ]
     go_wp2
     go_ret
     exact HF.out
   · clear h1
     go_enter Tryz.func37,Tryz.ntmps37
     go_upto_region 8 with (first
      | (go_at_call 66;(with_reducible refine HEd.out.mono ?_);rintro e w2 ⟨u,rfl,h1,h2,h3⟩;have H1:=Hd h1;have H2:=Hd h2;have H3:=Hd h3;clear h1 h2 h3)
      | (go_at_call 65;(with_reducible refine (HPe.out _ _ H1.out H2.out H3.out).mono ?_);rintro e w3 ⟨u3,L,rfl,h2,h3⟩;obtain ⟨v1,hO1,e1,hm1,hx1⟩:=h3.at_;have HX:=Hd h2;have HO1:=Hd hO1;have HE1:=Hd e1;have HM1:=Hd hm1;have HX1:=Hd hx1;clear h2 h3 hO1 e1 hm1 hx1)
      | (go_at_call 67;(with_reducible refine (HE.out _ _ _ HO1.out HE1.out _).mono ?_);rintro e w4 ⟨rfl,hr⟩;obtain ⟨v2,hO2,e2,hm2,hx2⟩:=hr.at_;have HR:=Hd hr;have HO2:=Hd hO2;have HE2:=Hd e2;have HM2:=Hd hm2;have HX2:=Hd hx2;clear hr hO2 e2 hm2 hx2))
     refine wp_region_lit ?_
     refine wpList_valG (u3) (by rfl) (by rfl) ?_
     simp only [Act.put,List.setIfInBounds_toArray,List.set_cons_zero,List.set_cons_succ]
     refine wpList_valG (.int .u8 26) (by rfl) (by rfl) ?_
     simp only [Act.put,List.setIfInBounds_toArray,List.set_cons_zero,List.set_cons_succ]
     refine wpList_valG (.agg #[.int .i64 1,.int .i32 0,.int .u8 26,.int .u8 0,.slice none 0 0,.string ⟨#[]⟩,.string ⟨#[]⟩,.bool false]) (by rfl) (by go_simp) ?_
     simp only [Act.put,List.setIfInBounds_toArray,List.set_cons_zero,List.set_cons_succ]
     have hX4:=HX.out.keepB HN.out.1 HM2.out (HX.out.apart HO1.out)
     have hB5:=below_allocs (Below.refl w4.heap.size w4) (.cells (encEx (ex0 (execE 26))).toArray 83)
     have hs4:w.heap.size ≤ w4.heap.size:=Nat.le_trans HM1.out.size HM2.out.size
     have hL:=ExsO.lit (w:=w4) (lo:=w.heap.size) hs4 (ex0_ok w4 w.heap.size (e:=execE 26) rfl)
     refine wpList_actG (.slice (some ⟨w4.heap.size,0,none⟩) 1 1) (w4.alloc (.cells #[.int .i64 1,.int .i32 0,.int .u8 26,.int .u8 0,.slice none 0 0,.string ⟨#[]⟩,.string ⟨#[]⟩,.bool false] 83)) (by rfl) (by go_simp) ?_
     simp only [Act.put,List.setIfInBounds_toArray,List.set_cons_zero,List.set_cons_succ]
     refine wpList_evs rfl (.tmp 21) (.tmp 24) rfl (hX4.below hB5) hL (Nat.le_refl _) HN.out.1 (.inl (fun e he => by rw [List.mem_singleton.1 he];rfl)) (by have:=HN.out.2;have:=hX4.len;simp;omega) (Nat.le_trans hs4 hB5.size) rfl rfl ?_
     intro u' w6 hx hg hu _
     have HF:=Hd (EvPost.app (HE2.out.trans HE1.out) HO2.out (HM1.out.trans HM2.out HX1.out) (fun b hb => (HX2.out b hb).elim (HX1.out b) (fun h => .inr (Nat.le_trans HM1.out.size h))) hX4 hB5 hg hx)
     clear hX4 hB5 hs4 hL hx hg hu
     simp only [Act.put,List.setIfInBounds_toArray,List.set_cons_zero,List.set_cons_succ]
     go_wp2
     go_ret
     exact HF.out
 rw [if_neg h1]
 have n1:¬ c = 24:=fun e => h1 (.inl e)
 have n2:¬ c = 26:=fun e => h1 (.inr e)
 clear h1
 by_cases h2:c = 27
 · subst h2
   rw [if_pos rfl]
   clear HS HPr HSt HHd n1 n2
   go_enter Tryz.func37,Tryz.ntmps37
   go_upto_region 10 with fail
   refine wp_region_lit ?_
   refine wpList_valG (.pointer (some ⟨v.P,0,none⟩)) (by rfl) (by rfl) ?_
   simp only [Act.put,List.setIfInBounds_toArray,List.set_cons_zero,List.set_cons_succ]
   refine wpList_valG (.pointer (some ⟨v.P,0,none⟩)) (by rfl) (by rfl) ?_
   simp only [Act.put,List.setIfInBounds_toArray,List.set_cons_zero,List.set_cons_succ]
   refine wpList_valG (.pointer (some ⟨v.P,0,none⟩)) (by rfl) (by go_simp) ?_
   simp only [Act.put,List.setIfInBounds_toArray,List.set_cons_zero,List.set_cons_succ]
   refine wpList_valG (.pointer (some ⟨v.P,9,none⟩)) (by rfl) (by go_simp) ?_
   simp only [Act.put,List.setIfInBounds_toArray,List.set_cons_zero,List.set_cons_succ]
   refine wpList_callZ rfl 66 #[.pointer (some ⟨v.P,9,none⟩)] (by go_simp) HEd.out ?_
   rintro u w2 ⟨h1,h2,h3⟩
   simp only [Act.put,List.setIfInBounds_toArray,List.set_cons_zero,List.set_cons_succ]
   refine wpList_callZ rfl 65 #[.pointer (some ⟨v.P,0,none⟩),u] (by go_simp) (R:=fun u w' => ∃ L,ExsO w' w.heap.size u L (doneP p).2∧PzRes base w v (doneP p).1 w') ((HPe.out w2 u h1 h2 h3).mono (fun e w' ⟨u,L,he,h1,h2⟩ => ⟨u,he,L,h1,h2⟩)) ?_
   rintro u3 w3 ⟨L,hX,hR⟩
   obtain ⟨v1,hO1,e1,hm1,hx1⟩:=hR.at_
   have HX:=Hd hX
   have HO1:=Hd hO1
   have HE1:=Hd e1
   have HM1:=Hd hm1
   have HX1:=Hd hx1
   clear h1 h2 h3 hX hR hO1 e1 hm1 hx1
   simp only [Act.put,List.setIfInBounds_toArray,List.set_cons_zero,List.set_cons_succ]
   refine wpList_valG (.pointer (some ⟨v.P,0,none⟩)) (by rfl) (by rfl) ?_
   simp only [Act.put,List.setIfInBounds_toArray,List.set_cons_zero,List.set_cons_succ]
   refine wpList_callZ rfl 68 #[.pointer (some ⟨v.P,0,none⟩)] (by go_simp) (R:=fun u w' => ∃ L,ExsO w' w3.heap.size u L (endsP (doneP p).1)∧Below w3.heap.size w3 w') ((HEn.out w3 v1 _ HO1.out HE1.out HDn.out).mono (fun e w' ⟨u,L,he,h1,h2⟩ => ⟨u,he,L,h1,h2⟩)) ?_
   rintro u4 w4 ⟨L4,hX4,hb4⟩
   simp only [Act.put,List.setIfInBounds_toArray,List.set_cons_zero,List.set_cons_succ]
   have hlen:L4.length ≤ 1:=by
    rw [hX4.len]
    unfold endsP
    split
    · simp
    split <;> simp
   refine wpList_evs rfl (.tmp 33) (.tmp 35) rfl (HX.out.below hb4) hX4 HM1.out.size HN.out.1 (.inr (fun g hg => (HX.out.own.lt g hg).2)) (by have:=HN.out.2;have:=HX.out.len;omega) (Nat.le_trans HM1.out.size hb4.size) rfl rfl ?_
   intro u' w5 hx hg hu h6
   have hm5:Mod u3.ownBlock.toList w3 w5:=(Mod.of_below hb4).trans (Mod.of_grown (X:=u3.ownBlock.toList) hg (fun g hg => by simp [hg])) (fun g hg => .inl hg)
   have HO5:=Hd (HO1.out.mod hm5 (fun b hb hx2 => HX.out.apart HO1.out b (Option.mem_toList.1 hx2) hb))
   have HM5:=Hd (HM1.out.trans hm5 (fun g hg => .inr (HX.out.own.lt g (Option.mem_toList.1 hg)).1))
   have HX5:=Hd hx
   have H65:=Hd h6
   have HX3:=Hd (HX.out.bare HN.out.1)
   have HLt:=Hd (show ∀ b ∈ zvX v1,b < w3.heap.size from fun b hb => (HO1.out.lt b hb).2)
   have HOk:=Hd HX.out.ok
   clear hX4 hb4 hlen hx hg hu h6 hm5 HX
   simp only [Act.put,List.setIfInBounds_toArray,List.set_cons_zero,List.set_cons_succ]
   go_wp2_with (go_at_call 67;(with_reducible refine (HE.out _ _ _ HO5.out HE1.out _).mono ?_);rintro e w6 ⟨rfl,hr⟩;have HR:=Hd hr;clear hr)
   go_ret
   obtain ⟨v2,e2,hO2,hm2,hx2⟩:=HR.out
   refine ⟨u',_,rfl,⟨owns_mod HX5.out.own hm2 (HX5.out.apart HO5.out),HX5.out.es,fun x hx => ?_⟩,PzRes.trans ⟨HE1.out,HM5.out,HX1.out⟩ HR.out⟩
   rcases List.mem_append.1 hx with hx | hx
   · exact (HOk.out x hx).bare (HX3.out x hx)
   · exact ((H65.out x hx).mod hm2 (fun b hb => .inl (HLt.out b hb))).weaken HM1.out.size
 rw [if_neg h2]
 clear HEd HPe HE HEn
 by_cases h3:p.state = 0
 · rw [if_pos h3]
   rw [h3] at c8
   clear HSt HHd h3
   go_enter Tryz.func37,Tryz.ntmps37
   go_wp2_with (first
    | (go_at_call 69;(with_reducible refine HS.out.mono ?_);rintro e w2 ⟨u,rfl,h1,h2,h3⟩;have H1:=Hd h1;have H2:=Hd h2;have H3:=Hd h3;clear h1 h2 h3)
    | (go_at_call 65;(with_reducible refine (HPr.out _ _ H1.out H2.out H3.out).mono ?_);rintro e w3 ⟨u3,L,rfl,h2,h3⟩;have HX:=Hd h2;have HR:=Hd h3;clear h2 h3))
   go_ret
   exact ⟨u3,L,rfl,HX.out,HR.out⟩
 rw [if_neg h3]
 clear HS HPr
 by_cases h4:p.state = 4 ∨ p.state = 5 ∨ (p.state = 3∧p.last ≠ 0)
 · rw [if_pos h4]
   clear HHd
   have h4I:p.state = 4 ∨ p.state = 5 ∨ p.state = 3∧(p.last == 0) = false:=by
    rcases h4 with h | h | ⟨h,h'⟩
    · exact .inl h
    · exact .inr (.inl h)
    · exact .inr (.inr ⟨h,by simpa using h'⟩)
   clear h4 h3
   rcases h4I with h4 | h4 | ⟨h4,h5⟩
   all_goals
    rw [h4] at c8
    clear h4
    go_enter Tryz.func37,Tryz.ntmps37
    go_wp2_with (go_at_call 70;(with_reducible refine HSt.out.mono ?_);rintro e w3 ⟨u3,L,rfl,h2,h3⟩;have HX:=Hd h2;have HR:=Hd h3;clear h2 h3)
    all_goals (go_ret;exact ⟨u3,L,rfl,HX.out,HR.out⟩)
 · rw [if_neg h4]
   clear HSt
   have h4I:p.state = 3∧p.last = 0 ∨ ¬ p.state = 3∧¬ p.state = 4∧¬ p.state = 5:=by omega
   clear h4
   rcases h4I with ⟨h4,h5⟩ | ⟨h4,h5,h6⟩
   · rw [h4] at c8
     rw [h5] at c4
     clear h4 h5 h3
     go_enter Tryz.func37,Tryz.ntmps37
     go_wp2_with (go_at_call 71;(with_reducible refine HHd.out.mono ?_);rintro e w3 ⟨u3,L,rfl,h2,h3⟩;have HX:=Hd h2;have HR:=Hd h3;clear h2 h3)
     all_goals (go_ret;exact ⟨u3,L,rfl,HX.out,HR.out⟩)
   · have g3:(p.state == 3) = false:=by simpa using h4
     have g4:(p.state == 4) = false:=by simpa using h5
     have g5:(p.state == 5) = false:=by simpa using h6
     go_enter Tryz.func37,Tryz.ntmps37
     go_wp2_with (go_at_call 71;(with_reducible refine HHd.out.mono ?_);rintro e w3 ⟨u3,L,rfl,h2,h3⟩;have HX:=Hd h2;have HR:=Hd h3;clear h2 h3)
     all_goals (go_ret;exact ⟨u3,L,rfl,HX.out,HR.out⟩)
end
def BysI (xs:List Int):Prop:=∀ x ∈ xs,0 ≤ x∧x < 256
def cutI (c:Int) (xs:List Int):List Int × List Int × Bool:=if c ∈ xs then (xs.takeWhile (· ≠ c),(xs.dropWhile (· ≠ c)).drop 1,true) else (xs,[],false)
def idxI (c:Int) (xs:List Int):Int:=if c ∈ xs then (xs.takeWhile (· ≠ c)).length else -1
theorem str_data (xs:List Int):(strOfNums xs).data.toList = xs.map fun n => UInt8.ofNat n.toNat:=rfl
theorem str_size (xs:List Int):(strOfNums xs).size = xs.length:=by show (List.map _ xs).toArray.size = _;simp
theorem u8_eq {x:Int} (h:0 ≤ x∧x < 256) (c:UInt8):(UInt8.ofNat x.toNat == c) = decide (x = (c.toNat:Int)):=by
 by_cases e:x = (c.toNat:Int)
 · rw [decide_eq_true e,e]
   simp
 · rw [decide_eq_false e,beq_eq_false_iff_ne]
   intro h2
   apply e
   rw [← h2,UInt8.toNat_ofNat']
   omega
theorem indexByte_I (c:UInt8):∀ (xs:List Int),BysI xs→Lib.indexByte (strOfNums xs).data.toList c = idxI c.toNat xs
 | [],_ => rfl
 | x :: xs,h => by
   have hx:=h x (List.mem_cons_self ..)
   have ih:=indexByte_I c xs (fun y hy => h y (List.mem_cons_of_mem _ hy))
   rw [str_data] at ih ⊢
   rw [List.map_cons]
   unfold Lib.indexByte
   by_cases e:x = (c.toNat:Int)
   · rw [u8_eq hx,decide_eq_true e,if_pos rfl]
     unfold idxI
     subst e
     rw [if_pos (List.mem_cons_self ..),List.takeWhile_cons_of_neg (by simp)]
     rfl
   · rw [u8_eq hx,decide_eq_false e,if_neg (by decide),ih]
     have e2:¬ (c.toNat:Int) = x:=fun h => e h.symm
     unfold idxI
     by_cases hm:(c.toNat:Int) ∈ xs
     · rw [if_pos hm,if_pos (List.mem_cons_of_mem _ hm),List.takeWhile_cons_of_pos (by simpa using e)]
       have h1:(((xs.takeWhile (· ≠ (c.toNat:Int))).length:Int) == -1) = false:=by rw [beq_eq_false_iff_ne];omega
       rw [h1,if_neg (by decide)]
       rfl
     · rw [if_neg hm,if_neg (fun h => (List.mem_cons.1 h).elim e2 hm)]
       rfl
theorem idxByte_any (s:ByteArray) (c:Int) (w:World):Calls Tryz.prog 371 #[.string s,.int .u8 c] w fun e w' => e = .returned (.int .i64 (Lib.indexByte s.data.toList c.toNat.toUInt8))∧w = w':=by
 go_enter Tryz.func371,Tryz.ntmps371
 go_wp2
 rw [run_callFunc_extern Tryz.func396 (by kernel_rfl) (by kernel_rfl) (by kernel_rfl) (e:=Extern.BytealgIndexByte.indexByte) (by kernel_rfl),Lib.run_indexByteString]
 simp only [Result.andThen]
 rw [Oper.upon_value]
 go_wp2
 go_ret
 exact ⟨rfl,rfl⟩
set_option maxHeartbeats 1600000 in
theorem index1_any (s:ByteArray) (c:UInt8) (w:World):Calls Tryz.prog 388 #[.string s,.string ⟨#[c]⟩] w fun e w' => e = .returned (.int .i64 (Lib.indexByte s.data.toList c))∧w = w':=by
 have HI:=Hd (fun (s:ByteArray) c w => idxByte_any s c w)
 go_enter Tryz.func388,Tryz.ntmps388
 go_wp2_with (go_at_call 371;refine (HI.out _ _ _).mono ?_;rintro e w' ⟨rfl,rfl⟩)
 · have h:([c] == s.toList) = true:=by assumption
   go_ret
   refine ⟨?_,rfl⟩
   have e:s.data.toList = [c]:=by rw [← Lib.toList_data];exact (beq_iff_eq.1 h).symm
   rw [e]
   simp [Lib.indexByte]
 · go_ret
   exact ⟨rfl,rfl⟩
theorem extract_str (xs:List Int) (a b:Nat):(strOfNums xs).extract a b = strOfNums ((xs.drop a).take (b - a)):=by
 apply ByteArray.ext
 rw [ByteArray.data_extract]
 apply Array.ext'
 show ((List.map _ xs).toArray.extract a b).toList = List.map _ _
 rw [List.extract_toArray,List.extract_eq_take_drop]
 simp [List.map_take,List.map_drop]
theorem cut_split {c:Int}:∀ {xs:List Int},c ∈ xs→xs.take (xs.takeWhile (· ≠ c)).length = xs.takeWhile (· ≠ c)∧xs.drop ((xs.takeWhile (· ≠ c)).length + 1) = (xs.dropWhile (· ≠ c)).drop 1∧(xs.takeWhile (· ≠ c)).length < xs.length
 | x :: xs,h => by
   by_cases e:x = c
   · subst e;simp
   · have hm:c ∈ xs:=by rcases List.mem_cons.1 h with h | h;exact absurd h.symm e;exact h
     obtain ⟨i1,i2,i3⟩:=cut_split hm
     rw [List.takeWhile_cons_of_pos (by simpa using e),List.dropWhile_cons_of_pos (by simpa using e)]
     refine ⟨?_,?_,?_⟩
     · show List.take ((xs.takeWhile (· ≠ c)).length + 1) (x :: xs) = _
       rw [List.take_succ_cons,i1]
     · show List.drop ((xs.takeWhile (· ≠ c)).length + 1 + 1) (x :: xs) = _
       rw [List.drop_succ_cons,i2]
     · show (xs.takeWhile (· ≠ c)).length + 1 < xs.length + 1
       omega
def CutPost (c:Int) (xs:List Int) (w:World) (e:Ending) (w':World):Prop:=e = .returned (.tuple #[.string (strOfNums (cutI c xs).1),.string (strOfNums (cutI c xs).2.1),.bool (cutI c xs).2.2])∧Below w.heap.size w w'
set_option maxHeartbeats 1600000 in
theorem cutL_any (c:UInt8) (xs:List Int) (hx:BysI xs) (hz:xs.length ≤ 1000000) (w:World):Calls Tryz.prog 363 #[.string (strOfNums xs),.string ⟨#[c]⟩] w (CutPost c.toNat xs w):=by
 have HI:Hid (∀ w,Calls Tryz.prog 388 #[.string (strOfNums xs),.string ⟨#[c]⟩] w fun e w' => e = .returned (.int .i64 (idxI c.toNat xs))∧w = w'):=Hd (fun w => by rw [← indexByte_I c xs hx];exact index1_any _ c w)
 have hs:(strOfNums xs).size = xs.length:=str_size xs
 unfold CutPost cutI
 unfold idxI at HI
 by_cases hm:(c.toNat:Int) ∈ xs
 · rw [if_pos hm] at HI ⊢
   obtain ⟨e1,e2,e3⟩:=cut_split hm
   have HE1:=Hd e1
   have HE2:=Hd e2
   generalize (xs.takeWhile (· ≠ (c.toNat:Int))).length = k at HI HE1 HE2 e3
   have w1:IntKind.i64.wrap ((k:Int) + 1) = (k:Int) + 1:=IntWalk.i64_in _ (by omega)
   have c1:(0:Int) ≤ (k:Int):=by omega
   have c2:(k:Int) ≤ ((strOfNums xs).size:Int):=by omega
   have c3:(0:Int) ≤ (k:Int) + 1:=by omega
   have c4:(k:Int) + 1 ≤ ((strOfNums xs).size:Int):=by omega
   have mixed:Tryz.prog.follows .mixedOrders = true:=by kernel_rfl
   clear hm e1 e2 hs e3
   go_enter Tryz.func363,Tryz.ntmps363
   go_wp2_with (go_at_call 388;(with_reducible refine (HI.out _).mono ?_);rintro e w' ⟨rfl,rfl⟩)
   go_region_o
   all_goals
    go_wp2
    go_ret3
    refine ⟨?_,(Below.refl _ _).drew⟩
    have h1:strOfNums (xs.takeWhile (· ≠ (c.toNat:Int))) = (strOfNums xs).extract 0 k:=by rw [extract_str,List.drop_zero,Nat.sub_zero,HE1.out]
    have h2:strOfNums ((xs.dropWhile (· ≠ (c.toNat:Int))).drop 1) = (strOfNums xs).extract (k + 1) (strOfNums xs).size:=by rw [extract_str,HE2.out,str_size,List.take_of_length_le];rw [← HE2.out,List.length_drop];omega
    show _ = Ending.returned (Value.tuple #[.string (strOfNums (xs.takeWhile (· ≠ (c.toNat:Int)))),.string (strOfNums ((xs.dropWhile (· ≠ (c.toNat:Int))).drop 1)),.bool true])
    rw [h1,h2]
    rfl
 · rw [if_neg hm] at HI ⊢
   clear hm
   go_enter Tryz.func363,Tryz.ntmps363
   go_wp2_with (go_at_call 388;(with_reducible refine (HI.out _).mono ?_);rintro e w' ⟨rfl,rfl⟩)
   go_ret3
   exact ⟨rfl,Below.refl _ _⟩
theorem cut_any (c:UInt8) (xs:List Int) (hx:BysI xs) (hz:xs.length ≤ 1000000) (w:World):Calls Tryz.prog 307 #[.string (strOfNums xs),.string ⟨#[c]⟩] w (CutPost c.toNat xs w):=by
 have HC:=Hd (cutL_any c xs hx hz w)
 unfold CutPost at HC ⊢
 generalize cutI c.toNat xs = q at HC ⊢
 obtain ⟨q1,q2,q3⟩:=q
 go_enter Tryz.func307,Tryz.ntmps307
 go_wp2_with (go_at_call 363;(with_reducible refine HC.out.mono ?_);rintro e w' ⟨rfl,hb⟩)
 go_ret3
 exact ⟨rfl,hb⟩
end Go.Proofs.YtaefcahblmopfaaGreatDoor
