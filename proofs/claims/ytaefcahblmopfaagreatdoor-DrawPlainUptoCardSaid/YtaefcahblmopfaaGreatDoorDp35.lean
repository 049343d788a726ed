/- Joined by a tool of this claim out of smaller texts. Conditions: as stated. -/
import Derived.Test.YtaefcahblmopfaaGreatDoorDp26
set_option linter.unusedVariables false
set_option linter.unusedSimpArgs false
set_option maxRecDepth 100000
open Go.Lib renaming hid → Hd
namespace Go.Proofs.YtaefcahblmopfaaGreatDoor
open Go.RowKit
section
variable {w:World} {A:Option Addr} {H:List Gh}
set_option maxHeartbeats 1600000 in
theorem pget0_any (hG:GsAt w A H) (ca:Nat) (hca:H.length ≤ ca) (hz:H.length ≤ 1000000) (hzg:∀ h ∈ H,h.g.length ≤ 1000000) (usual:Int) :
 Calls Tryz.prog 132 #[.slice A H.length ca,.int .i64 0,.int .i64 usual] w fun e w' => e = .returned (.int .i64 (getG (gsOf H) 0 usual))∧Below w.heap.size w w':=by
 have HC:=Hd (pClean_any hG ca hca hz hzg)
 have hok:=cleanL_ok (gsOf H)
 have hlen:=cleanL_len (gsOf H)
 unfold getG
 generalize cleanL (gsOf H) = X at HC hok hlen ⊢
 have HOK:=Hd hok
 have HL:=Hd hlen
 obtain ⟨rv,hrv⟩:∃ rv,(if 0 < X.length then (if (X.getD 0 []).headD 0 = -1 then usual else (X.getD 0 []).headD 0) else usual) = rv:=⟨_,rfl⟩
 rw [hrv]
 have HRV:=Hd hrv
 clear hG hok hz hzg hca hlen hrv
 go_enter Tryz.func132,Tryz.ntmps132
 go_upto_region 2 with (go_at_call 200;(with_reducible refine HC.out.mono ?_);rintro e w1 ⟨A1,H1,c1,rfl,hG1,hX,hb⟩;have HB:=Hd hb;have HG:=Hd hG1;have HX:=Hd hX;clear hb hG1 hX)
 have hlX:H1.length = X.length:=by rw [← HX.out];unfold gsOf;simp
 have hn3:=HL.out
 by_cases hi2:0 < H1.length
 · obtain ⟨x,gb,off,hx,rfl,hc,⟨hg,-⟩,e⟩:=HG.out.get hi2
   rw [HX.out] at e
   have h0:0 < x.g.length:=by
    rw [← e,List.getD_eq_getElem?_getD,List.getElem?_eq_getElem (by omega)]
    exact (HOK.out _ (List.getElem_mem _)).1
   obtain ⟨b,off2,hA,hc2⟩:=gr_num hg h0
   rw [hA] at hc
   try rw [Nat.add_zero] at hc
   have hrv:=HRV.out
   rw [if_pos (by omega),e,headD_getD] at hrv
   rw [Nat.add_zero] at hc2
   obtain ⟨n,hn⟩:∃ n,x.g.getD 0 0 = n:=⟨_,rfl⟩
   obtain ⟨K,hK⟩:∃ K,x.g.length = K:=⟨_,rfl⟩
   obtain ⟨L,hL⟩:∃ L,H1.length = L:=⟨_,rfl⟩
   rw [hn] at hc2 hrv
   rw [hK] at h0 hc
   rw [hL] at hi2 hlX ⊢
   have HRV2:=Hd hrv
   clear hrv HRV
   have hL2:L ≤ 32:=by omega
   have h0J:(0:Int) < (K:Int):=by omega
   have hiI:(0:Int) < (L:Int):=by omega
   have hiJ:¬ (L:Int) ≤ (0:Int):=by omega
   clear hg hA hK hn e hx hL hlX hn3 HL
   by_cases hn1:n = -1
   · subst hn1
     go_wp2
     go_ret
     exact ⟨by rw [← HRV2.out];rfl,HB.out⟩
   · have hn2:(n == -1) = false:=beq_eq_false_iff_ne.2 hn1
     go_wp2
     go_ret
     exact ⟨by rw [← HRV2.out,if_neg hn1];rfl,HB.out⟩
 · have hrv:=HRV.out
   rw [if_neg (by omega)] at hrv
   have HRV2:=Hd hrv
   clear hrv HRV
   obtain ⟨L,hL⟩:∃ L,H1.length = L:=⟨_,rfl⟩
   rw [hL] at hi2 hlX ⊢
   have hiI:¬ (0:Int) < (L:Int):=by omega
   have hiJ:(L:Int) ≤ (0:Int):=by omega
   clear hL hlX hn3 HL
   go_wp2
   go_ret
   exact ⟨by rw [← HRV2.out];rfl,HB.out⟩
set_option maxHeartbeats 1600000 in
theorem pcount0_any (hG:GsAt w A H) (ca:Nat) (hca:H.length ≤ ca) (hz:H.length ≤ 1000000) (hzg:∀ h ∈ H,h.g.length ≤ 1000000) :
 Calls Tryz.prog 211 #[.slice A H.length ca,.int .i64 0] w fun e w' => e = .returned (.int .i64 (countG (gsOf H) 0))∧Below w.heap.size w w':=by
 have HG:=Hd (pget0_any hG ca hca hz hzg 1)
 unfold countG
 generalize getG (gsOf H) 0 1 = k at HG ⊢
 clear hG hca hz hzg
 go_enter Tryz.func211,Tryz.ntmps211
 go_wp2_with (go_at_call 132;(with_reducible refine HG.out.mono ?_);rintro e w1 ⟨rfl,hb⟩;have HB:=Hd hb;clear hb)
 all_goals
  go_ret
  refine ⟨?_,HB.out⟩
  show Ending.returned (Value.int .i64 _) = _
  congr 2
  omega
set_option maxHeartbeats 1600000 in
theorem pget1_any (hG:GsAt w A H) (ca:Nat) (hca:H.length ≤ ca) (hz:H.length ≤ 1000000) (hzg:∀ h ∈ H,h.g.length ≤ 1000000) (usual:Int) :
 Calls Tryz.prog 132 #[.slice A H.length ca,.int .i64 1,.int .i64 usual] w fun e w' => e = .returned (.int .i64 (getG (gsOf H) 1 usual))∧Below w.heap.size w w':=by
 have HC:=Hd (pClean_any hG ca hca hz hzg)
 have hok:=cleanL_ok (gsOf H)
 have hlen:=cleanL_len (gsOf H)
 unfold getG
 generalize cleanL (gsOf H) = X at HC hok hlen ⊢
 have HOK:=Hd hok
 have HL:=Hd hlen
 obtain ⟨rv,hrv⟩:∃ rv,(if 1 < X.length then (if (X.getD 1 []).headD 0 = -1 then usual else (X.getD 1 []).headD 0) else usual) = rv:=⟨_,rfl⟩
 rw [hrv]
 have HRV:=Hd hrv
 clear hG hok hz hzg hca hlen hrv
 go_enter Tryz.func132,Tryz.ntmps132
 go_upto_region 2 with (go_at_call 200;(with_reducible refine HC.out.mono ?_);rintro e w1 ⟨A1,H1,c1,rfl,hG1,hX,hb⟩;have HB:=Hd hb;have HG:=Hd hG1;have HX:=Hd hX;clear hb hG1 hX)
 have hlX:H1.length = X.length:=by rw [← HX.out];unfold gsOf;simp
 have hn3:=HL.out
 by_cases hi2:1 < H1.length
 · obtain ⟨x,gb,off,hx,rfl,hc,⟨hg,-⟩,e⟩:=HG.out.get hi2
   rw [HX.out] at e
   have h0:0 < x.g.length:=by
    rw [← e,List.getD_eq_getElem?_getD,List.getElem?_eq_getElem (by omega)]
    exact (HOK.out _ (List.getElem_mem _)).1
   obtain ⟨b,off2,hA,hc2⟩:=gr_num hg h0
   rw [hA] at hc
   try rw [Nat.add_zero] at hc
   have hrv:=HRV.out
   rw [if_pos (by omega),e,headD_getD] at hrv
   rw [Nat.add_zero] at hc2
   obtain ⟨n,hn⟩:∃ n,x.g.getD 0 0 = n:=⟨_,rfl⟩
   obtain ⟨K,hK⟩:∃ K,x.g.length = K:=⟨_,rfl⟩
   obtain ⟨L,hL⟩:∃ L,H1.length = L:=⟨_,rfl⟩
   rw [hn] at hc2 hrv
   rw [hK] at h0 hc
   rw [hL] at hi2 hlX ⊢
   have HRV2:=Hd hrv
   clear hrv HRV
   have hL2:L ≤ 32:=by omega
   have h0J:(0:Int) < (K:Int):=by omega
   have hiI:(1:Int) < (L:Int):=by omega
   have hiJ:¬ (L:Int) ≤ (1:Int):=by omega
   clear hg hA hK hn e hx hL hlX hn3 HL
   by_cases hn1:n = -1
   · subst hn1
     go_wp2
     go_ret
     exact ⟨by rw [← HRV2.out];rfl,HB.out⟩
   · have hn2:(n == -1) = false:=beq_eq_false_iff_ne.2 hn1
     go_wp2
     go_ret
     exact ⟨by rw [← HRV2.out,if_neg hn1];rfl,HB.out⟩
 · have hrv:=HRV.out
   rw [if_neg (by omega)] at hrv
   have HRV2:=Hd hrv
   clear hrv HRV
   obtain ⟨L,hL⟩:∃ L,H1.length = L:=⟨_,rfl⟩
   rw [hL] at hi2 hlX ⊢
   have hiI:¬ (1:Int) < (L:Int):=by omega
   have hiJ:(L:Int) ≤ (1:Int):=by omega
   clear hL hlX hn3 HL
   go_wp2
   go_ret
   exact ⟨by rw [← HRV2.out];rfl,HB.out⟩
set_option maxHeartbeats 1600000 in
theorem pcount1_any (hG:GsAt w A H) (ca:Nat) (hca:H.length ≤ ca) (hz:H.length ≤ 1000000) (hzg:∀ h ∈ H,h.g.length ≤ 1000000) :
 Calls Tryz.prog 211 #[.slice A H.length ca,.int .i64 1] w fun e w' => e = .returned (.int .i64 (countG (gsOf H) 1))∧Below w.heap.size w w':=by
 have HG:=Hd (pget1_any hG ca hca hz hzg 1)
 unfold countG
 generalize getG (gsOf H) 1 1 = k at HG ⊢
 clear hG hca hz hzg
 go_enter Tryz.func211,Tryz.ntmps211
 go_wp2_with (go_at_call 132;(with_reducible refine HG.out.mono ?_);rintro e w1 ⟨rfl,hb⟩;have HB:=Hd hb;clear hb)
 all_goals
  go_ret
  refine ⟨?_,HB.out⟩
  show Ending.returned (Value.int .i64 _) = _
  congr 2
  omega
end
def MvPost (base:Nat) (w:World) (v:Tv) (t':Tm) (b:Bool) (e:Ending) (w':World):Prop:=e = .returned (.bool b)∧TmRes base w v t' w'
theorem countG_in (l:List (List Int)) (i:Nat):1 ≤ countG l i∧countG l i ≤ 65535:=by
 unfold countG getG
 have hok:=cleanL_ok l
 split
 · next hi =>
   have hh:=hok _ (by rw [List.getD_eq_getElem?_getD,List.getElem?_eq_getElem hi];exact List.getElem_mem hi:(cleanL l).getD i [] ∈ cleanL l)
   have h1:(cleanL l |>.getD i []).headD 0 ≤ 65535:=by
    cases hc:(cleanL l).getD i [] with
    | nil => show (0:Int) ≤ 65535;decide
    | cons a g => rw [hc] at hh;exact (hh.2.2 a (List.mem_cons_self ..)).2
   split <;> omega
 · omega
section
variable {base:Nat} {w:World} {v:Tv} {t:Tm} {A:Option Addr} {H:List Gh}
set_option maxHeartbeats 3200000 in
theorem tmovesH_any (h:TmO base w v t) (hi:ScI (curT t)) (k r p:Int) (hG:GsAt w A H) (ca:Nat) (hca:H.length ≤ ca) (hz:H.length ≤ 1000000) (hzg:∀ h ∈ H,h.g.length ≤ 1000000) (s1 s2:ByteArray) (ct:Bool) :
 Calls Tryz.prog 140 #[.pointer (some ⟨v.M,0,none⟩),.agg #[.int .i64 k,.int .i32 r,.int .u8 72,.int .u8 p,.slice A H.length ca,.string s1,.string s2,.bool ct]] w (MvPost base w v (doT t (fun s => moveS s (countG (gsOf H) 0 - 1) (countG (gsOf H) 1 - 1))) true):=by
 obtain ⟨W,hW⟩:∃ W,w.alloc (.cells #[.int .i64 k,.int .i32 r,.int .u8 72,.int .u8 p,.slice A H.length ca,.string s1,.string s2,.bool ct] 83) = W:=⟨_,rfl⟩
 have hb0:Below w.heap.size w W:=by rw [← hW];exact below_allocs (Below.refl _ _) _
 have hn0:W.heap[w.heap.size]? = some (.cells #[.int .i64 k,.int .i32 r,.int .u8 72,.int .u8 p,.slice A H.length ca,.string s1,.string s2,.bool ct] 83 (0,0)):=by rw [← hW];exact hp_new rfl
 have HS:Hid (∀ w',Below W.heap.size W w'→Calls Tryz.prog 11 #[.pointer (some ⟨v.M,0,none⟩)] w' fun e w2 => e = .returned (.pointer (some ⟨(curV v t).S,0,none⟩))∧Below w'.heap.size w' w2):=Hd (fun w' hb => tScreen_any (h.below (below_tail hb0 hb)))
 have HC0:Hid (∀ w',Below W.heap.size W w'→Calls Tryz.prog 211 #[.slice A H.length ca,.int .i64 0] w' fun e w2 => e = .returned (.int .i64 (countG (gsOf H) 0))∧Below w'.heap.size w' w2):=Hd (fun w' hb => pcount0_any (hG.below (below_tail hb0 hb)) ca hca hz hzg)
 have HC1:Hid (∀ w',Below W.heap.size W w'→Calls Tryz.prog 211 #[.slice A H.length ca,.int .i64 1] w' fun e w2 => e = .returned (.int .i64 (countG (gsOf H) 1))∧Below w'.heap.size w' w2):=Hd (fun w' hb => pcount1_any (hG.below (below_tail hb0 hb)) ca hca hz hzg)
 have hc0:=countG_in (gsOf H) 0
 have hc1:=countG_in (gsOf H) 1
 generalize countG (gsOf H) 0 = n0 at HC0 hc0 ⊢
 generalize countG (gsOf H) 1 = n1 at HC1 hc1 ⊢
 have HM:Hid (∀ w',Below W.heap.size W w'→Calls Tryz.prog 213 #[.pointer (some ⟨(curV v t).S,0,none⟩),.int .i64 (n0 - 1),.int .i64 (n1 - 1)] w' (ScPost base w' (curV v t) (moveS (curT t) (n0 - 1) (n1 - 1)))):=Hd (fun w' hb => sMove_any ((h.below (below_tail hb0 hb)).cur) hi.t0 hi.tb hi.b1 _ _)
 have HNX:Hid (w.heap.size ∉ scX (curV v t)):=Hd (fun hx => by have:=(h.cur.lt _ hx).2;omega)
 have hw0:IntKind.i64.wrap (n0 - 1) = n0 - 1:=IntWalk.i64_in _ (by omega)
 have hw1:IntKind.i64.wrap (n1 - 1) = n1 - 1:=IntWalk.i64_in _ (by omega)
 have HO:=Hd h
 have HB0:=Hd hb0
 have d2:W.cell? ⟨w.heap.size,2,none⟩ = some (.int .u8 72):=(at_ hn0 2 _ rfl).1
 have d4:W.cell? ⟨w.heap.size,4,none⟩ = some (.slice A H.length ca):=(at_ hn0 4 _ rfl).1
 generalize hN:H.length = N at HC0 HC1 d4 hW
 clear h hi hb0 hn0 hG hca hz hzg hc0 hc1 hN
 go_enter Tryz.func140,Tryz.ntmps140
 go_upto_region 2 with (go_at_call 11;(with_reducible refine (HS.out _ (Below.refl _ _)).mono ?_);rintro e w1 ⟨rfl,hb⟩;have d2:=holda hb d2;have d4:=holda hb d4;have HB1:=Hd hb;clear hb)
 refine wp_region_u 6 (fun w' => Below W.heap.size W w'∧w'.cell? ⟨w.heap.size,4,none⟩ = some (.slice A N ca)∧w'.cell? ⟨w.heap.size,2,none⟩ = some (.int .u8 72)) (by kernel_rfl) (by kernel_rfl) ?_ ?_
 · exact ⟨HB1.out.drew,d4,d2⟩
 simp only [List.take_succ_cons,List.take_zero,List.drop_succ_cons,List.drop_zero]
 repeat (
  (first
   | refine seqU_skip (by rfl) ?_
   | ((refine seqU_call 211 #[.slice A N ca,.int .i64 0] (.int .i64 n0) (by rfl) ?_ (fun w' hS => (HC0.out w' hS.1).mono fun e w2 ⟨he,hb⟩ => ⟨he,below_tail hS.1 hb,holda hb hS.2.1,holda hb hS.2.2⟩) ?_;(focus (intro w2;go_simp;done))))
   | ((refine seqU_call 211 #[.slice A N ca,.int .i64 1] (.int .i64 n1) (by rfl) ?_ (fun w' hS => (HC1.out w' hS.1).mono fun e w2 ⟨he,hb⟩ => ⟨he,below_tail hS.1 hb,holda hb hS.2.1,holda hb hS.2.2⟩) ?_;(focus (intro w2;go_simp;done))))
   | (refine seqU_val ?_ (by rfl) ?_ ?_;rotate_left;(focus (intro w' hS;obtain ⟨hS0,hS1,hS2⟩:=hS;go_simp;first | done | with_reducible rfl))))
  simp only [Act.put,List.setIfInBounds_toArray,List.set_cons_zero,List.set_cons_succ])
 refine seqU_nil (fun w' hS => ?_)
 obtain ⟨hb2,-,e2⟩:=hS
 have HB2:=Hd hb2
 clear hb2 d2 d4
 go_wp2_with (go_at_call 213;(with_reducible refine (HM.out _ HB2.out).mono ?_);rintro e w2 ⟨rfl,hr⟩;have HR:=Hd (HO.out.does (below_tail HB0.out HB2.out) hr);have d2:=(show Mod (scX (curV v t)) w' w2 from by obtain ⟨-,-,-,-,-,hm,-⟩:=hr;exact hm).cell HNX.out e2;clear hr)
 go_ret
 exact ⟨rfl,HR.out⟩
set_option maxHeartbeats 3200000 in
theorem tmovesNo_any (h:TmO base w v t) (k r b p:Int) (hb:b = 109 ∨ b = 88) (hG:GsAt w A H) (ca:Nat) (hca:H.length ≤ ca) (hz:H.length ≤ 1000000) (hzg:∀ h ∈ H,h.g.length ≤ 1000000) (s1 s2:ByteArray) (ct:Bool) :
 Calls Tryz.prog 140 #[.pointer (some ⟨v.M,0,none⟩),.agg #[.int .i64 k,.int .i32 r,.int .u8 b,.int .u8 p,.slice A H.length ca,.string s1,.string s2,.bool ct]] w fun e w' => e = .returned (.bool false)∧Below w.heap.size w w':=by
 obtain ⟨W,hW⟩:∃ W,w.alloc (.cells #[.int .i64 k,.int .i32 r,.int .u8 b,.int .u8 p,.slice A H.length ca,.string s1,.string s2,.bool ct] 83) = W:=⟨_,rfl⟩
 have hb0:Below w.heap.size w W:=by rw [← hW];exact below_allocs (Below.refl _ _) _
 have hn0:W.heap[w.heap.size]? = some (.cells #[.int .i64 k,.int .i32 r,.int .u8 b,.int .u8 p,.slice A H.length ca,.string s1,.string s2,.bool ct] 83 (0,0)):=by rw [← hW];exact hp_new rfl
 have HS:Hid (∀ w',Below W.heap.size W w'→Calls Tryz.prog 11 #[.pointer (some ⟨v.M,0,none⟩)] w' fun e w2 => e = .returned (.pointer (some ⟨(curV v t).S,0,none⟩))∧Below w'.heap.size w' w2):=Hd (fun w' hb => tScreen_any (h.below (below_tail hb0 hb)))
 have HC0:Hid (∀ w',Below W.heap.size W w'→Calls Tryz.prog 211 #[.slice A H.length ca,.int .i64 0] w' fun e w2 => e = .returned (.int .i64 (countG (gsOf H) 0))∧Below w'.heap.size w' w2):=Hd (fun w' hb => pcount0_any (hG.below (below_tail hb0 hb)) ca hca hz hzg)
 have HC1:Hid (∀ w',Below W.heap.size W w'→Calls Tryz.prog 211 #[.slice A H.length ca,.int .i64 1] w' fun e w2 => e = .returned (.int .i64 (countG (gsOf H) 1))∧Below w'.heap.size w' w2):=Hd (fun w' hb => pcount1_any (hG.below (below_tail hb0 hb)) ca hca hz hzg)
 generalize countG (gsOf H) 0 = n0 at HC0
 generalize countG (gsOf H) 1 = n1 at HC1
 have HB0:=Hd hb0
 have d2:W.cell? ⟨w.heap.size,2,none⟩ = some (.int .u8 b):=(at_ hn0 2 _ rfl).1
 have d4:W.cell? ⟨w.heap.size,4,none⟩ = some (.slice A H.length ca):=(at_ hn0 4 _ rfl).1
 generalize hN:H.length = N at HC0 HC1 d4 hW
 clear h hb0 hn0 hG hca hz hzg hN
 go_enter Tryz.func140,Tryz.ntmps140
 go_upto_region 2 with (go_at_call 11;(with_reducible refine (HS.out _ (Below.refl _ _)).mono ?_);rintro e w1 ⟨rfl,hb⟩;have d2:=holda hb d2;have d4:=holda hb d4;have HB1:=Hd hb;clear hb)
 refine wp_region_u 6 (fun w' => Below W.heap.size W w'∧w'.cell? ⟨w.heap.size,4,none⟩ = some (.slice A N ca)∧w'.cell? ⟨w.heap.size,2,none⟩ = some (.int .u8 b)) (by kernel_rfl) (by kernel_rfl) ?_ ?_
 · exact ⟨HB1.out.drew,d4,d2⟩
 simp only [List.take_succ_cons,List.take_zero,List.drop_succ_cons,List.drop_zero]
 repeat (
  (first
   | refine seqU_skip (by rfl) ?_
   | ((refine seqU_call 211 #[.slice A N ca,.int .i64 0] (.int .i64 n0) (by rfl) ?_ (fun w' hS => (HC0.out w' hS.1).mono fun e w2 ⟨he,hb⟩ => ⟨he,below_tail hS.1 hb,holda hb hS.2.1,holda hb hS.2.2⟩) ?_;(focus (intro w2;go_simp;done))))
   | ((refine seqU_call 211 #[.slice A N ca,.int .i64 1] (.int .i64 n1) (by rfl) ?_ (fun w' hS => (HC1.out w' hS.1).mono fun e w2 ⟨he,hb⟩ => ⟨he,below_tail hS.1 hb,holda hb hS.2.1,holda hb hS.2.2⟩) ?_;(focus (intro w2;go_simp;done))))
   | (refine seqU_val ?_ (by rfl) ?_ ?_;rotate_left;(focus (intro w' hS;obtain ⟨hS0,hS1,hS2⟩:=hS;go_simp;first | done | with_reducible rfl))))
  simp only [Act.put,List.setIfInBounds_toArray,List.set_cons_zero,List.set_cons_succ])
 refine seqU_nil (fun w' hS => ?_)
 obtain ⟨hb2,-,e2⟩:=hS
 have HB2:=Hd hb2
 clear hb2 d2 d4
 rcases hb with rfl | rfl
 all_goals
  go_wp2_with fail
  go_ret
  exact ⟨rfl,below_tail HB0.out HB2.out⟩
set_option maxHeartbeats 3200000 in
theorem teditsX_any (h:TmO base w v t) (hi:ScI (curT t)) (k r p:Int) (hG:GsAt w A H) (ca:Nat) (hca:H.length ≤ ca) (hz:H.length ≤ 1000000) (hzg:∀ h ∈ H,h.g.length ≤ 1000000) (s1 s2:ByteArray) (ct:Bool) :
 Calls Tryz.prog 141 #[.pointer (some ⟨v.M,0,none⟩),.agg #[.int .i64 k,.int .i32 r,.int .u8 88,.int .u8 p,.slice A H.length ca,.string s1,.string s2,.bool ct]] w (MvPost base w v (doT t (fun s => eraseCharsS s (countG (gsOf H) 0))) true):=by
 obtain ⟨W,hW⟩:∃ W,w.alloc (.cells #[.int .i64 k,.int .i32 r,.int .u8 88,.int .u8 p,.slice A H.length ca,.string s1,.string s2,.bool ct] 83) = W:=⟨_,rfl⟩
 have hb0:Below w.heap.size w W:=by rw [← hW];exact below_allocs (Below.refl _ _) _
 have hn0:W.heap[w.heap.size]? = some (.cells #[.int .i64 k,.int .i32 r,.int .u8 88,.int .u8 p,.slice A H.length ca,.string s1,.string s2,.bool ct] 83 (0,0)):=by rw [← hW];exact hp_new rfl
 have HS:Hid (∀ w',Below W.heap.size W w'→Calls Tryz.prog 11 #[.pointer (some ⟨v.M,0,none⟩)] w' fun e w2 => e = .returned (.pointer (some ⟨(curV v t).S,0,none⟩))∧Below w'.heap.size w' w2):=Hd (fun w' hb => tScreen_any (h.below (below_tail hb0 hb)))
 have HC0:Hid (∀ w',Below W.heap.size W w'→Calls Tryz.prog 211 #[.slice A H.length ca,.int .i64 0] w' fun e w2 => e = .returned (.int .i64 (countG (gsOf H) 0))∧Below w'.heap.size w' w2):=Hd (fun w' hb => pcount0_any (hG.below (below_tail hb0 hb)) ca hca hz hzg)
 generalize countG (gsOf H) 0 = n0 at HC0 ⊢
 have HM:Hid (∀ w',Below W.heap.size W w'→Calls Tryz.prog 219 #[.pointer (some ⟨(curV v t).S,0,none⟩),.int .i64 n0] w' (ScPost base w' (curV v t) (eraseCharsS (curT t) n0))):=Hd (fun w' hb => sEraseChars_any ((h.below (below_tail hb0 hb)).cur) hi _)
 have HO:=Hd h
 have HB0:=Hd hb0
 have d2:W.cell? ⟨w.heap.size,2,none⟩ = some (.int .u8 88):=(at_ hn0 2 _ rfl).1
 have d4:W.cell? ⟨w.heap.size,4,none⟩ = some (.slice A H.length ca):=(at_ hn0 4 _ rfl).1
 generalize hN:H.length = N at HC0 d4 hW
 clear h hb0 hn0 hG hca hz hzg hi
 go_enter Tryz.func141,Tryz.ntmps141
 go_wp2_with (first
  | (go_at_call 11;(with_reducible refine (HS.out _ (Below.refl _ _)).mono ?_);rintro e w1 ⟨rfl,hb⟩;have d2:=holda hb d2;have d4:=holda hb d4;have HB1:=Hd hb;clear hb)
  | (go_at_call 211;(with_reducible refine (HC0.out _ HB1.out).mono ?_);rintro e w2 ⟨rfl,hb⟩;have d2:=holda hb d2;have d4:=holda hb d4;have HB2:=Hd (below_tail HB1.out hb);clear hb)
  | (go_at_call 219;(with_reducible refine (HM.out _ HB2.out).mono ?_);rintro e w3 ⟨rfl,hr⟩;have HR:=Hd (HO.out.does (below_tail HB0.out HB2.out) hr);clear hr))
 go_ret
 exact ⟨rfl,HR.out⟩
set_option maxHeartbeats 3200000 in
theorem teditsM_any (h:TmO base w v t) (hf:FlOk (curT t).pen.at_.fl) (k r p:Int) (hG:GsAt w A H) (ca:Nat) (hca:H.length ≤ ca) (hz:H.length ≤ 1000000) (hzg:∀ h ∈ H,h.g.length ≤ 1000000) (s1 s2:ByteArray) (ct:Bool) :
 Calls Tryz.prog 141 #[.pointer (some ⟨v.M,0,none⟩),.agg #[.int .i64 k,.int .i32 r,.int .u8 109,.int .u8 p,.slice A H.length ca,.string s1,.string s2,.bool ct]] w (MvPost base w v (doT t (fun s => turnSc s (gsOf H))) true):=by
 obtain ⟨W,hW⟩:∃ W,w.alloc (.cells #[.int .i64 k,.int .i32 r,.int .u8 109,.int .u8 p,.slice A H.length ca,.string s1,.string s2,.bool ct] 83) = W:=⟨_,rfl⟩
 have hb0:Below w.heap.size w W:=by rw [← hW];exact below_allocs (Below.refl _ _) _
 have hn0:W.heap[w.heap.size]? = some (.cells #[.int .i64 k,.int .i32 r,.int .u8 109,.int .u8 p,.slice A H.length ca,.string s1,.string s2,.bool ct] 83 (0,0)):=by rw [← hW];exact hp_new rfl
 have HS:Hid (∀ w',Below W.heap.size W w'→Calls Tryz.prog 11 #[.pointer (some ⟨v.M,0,none⟩)] w' fun e w2 => e = .returned (.pointer (some ⟨(curV v t).S,0,none⟩))∧Below w'.heap.size w' w2):=Hd (fun w' hb => tScreen_any (h.below (below_tail hb0 hb)))
 have HC0:Hid (∀ w',Below W.heap.size W w'→Calls Tryz.prog 211 #[.slice A H.length ca,.int .i64 0] w' fun e w2 => e = .returned (.int .i64 (countG (gsOf H) 0))∧Below w'.heap.size w' w2):=Hd (fun w' hb => pcount0_any (hG.below (below_tail hb0 hb)) ca hca hz hzg)
 generalize countG (gsOf H) 0 = n0 at HC0
 have HM:Hid (∀ w',Below W.heap.size W w'→Calls Tryz.prog 221 #[.pointer (some ⟨(curV v t).S,0,none⟩),.slice A H.length ca] w' (ScPost base w' (curV v t) (turnSc (curT t) (gsOf H)))):=Hd (fun w' hb => sTurn_any ((h.below (below_tail hb0 hb)).cur) hf (hG.below (below_tail hb0 hb)) ca hca hz hzg)
 have HO:=Hd h
 have HB0:=Hd hb0
 have d2:W.cell? ⟨w.heap.size,2,none⟩ = some (.int .u8 109):=(at_ hn0 2 _ rfl).1
 have d4:W.cell? ⟨w.heap.size,4,none⟩ = some (.slice A H.length ca):=(at_ hn0 4 _ rfl).1
 generalize hN:H.length = N at HC0 HM d4 hW
 clear h hb0 hn0 hG hca hz hzg hf
 go_enter Tryz.func141,Tryz.ntmps141
 go_wp2_with (first
  | (go_at_call 11;(with_reducible refine (HS.out _ (Below.refl _ _)).mono ?_);rintro e w1 ⟨rfl,hb⟩;have d2:=holda hb d2;have d4:=holda hb d4;have HB1:=Hd hb;clear hb)
  | (go_at_call 211;(with_reducible refine (HC0.out _ HB1.out).mono ?_);rintro e w2 ⟨rfl,hb⟩;have d2:=holda hb d2;have d4:=holda hb d4;have HB2:=Hd (below_tail HB1.out hb);clear hb)
  | (go_at_call 221;(with_reducible refine (HM.out _ HB2.out).mono ?_);rintro e w3 ⟨rfl,hr⟩;have HR:=Hd (HO.out.does (below_tail HB0.out HB2.out) hr);clear hr))
 go_ret
 exact ⟨rfl,HR.out⟩
end
theorem conv_one (w:World) (g:Nat) (c:Int) (h:w.cell? ⟨g,0,none⟩ = some (.int .u8 c)):(convert 23 9 (.slice (some ⟨g,0,none⟩) 1 1)).run Tryz.prog w = .ok (.string (strOfNums [c])) w:=by
 refine run_convert_bytes_arg w 23 5 Tryz.underlying23 Tryz.underlying5 g 0 1 1 [c] rfl (fun i hi => ?_) 9 Tryz.underlying9
 have hi0:i = 0:=by simp at hi;omega
 subst hi0
 exact h
section
variable {base:Nat} {w:World} {v:Tv} {t:Tm} {A:Option Addr} {H:List Gh}
set_option maxHeartbeats 3200000 in
theorem tsequenceH_any (h:TmO base w v t) (hi:ScI (curT t)) (k r:Int) (hG:GsAt w A H) (ca:Nat) (hca:H.length ≤ ca) (hz:H.length ≤ 1000000) (hzg:∀ h ∈ H,h.g.length ≤ 1000000) (s2:ByteArray) (ct:Bool) :
 Calls Tryz.prog 75 #[.pointer (some ⟨v.M,0,none⟩),.agg #[.int .i64 k,.int .i32 r,.int .u8 72,.int .u8 0,.slice A H.length ca,.string ⟨#[]⟩,.string s2,.bool ct]] w (TmPost base w v (doT t (fun s => moveS s (countG (gsOf H) 0 - 1) (countG (gsOf H) 1 - 1)))):=by
 obtain ⟨W,hW⟩:∃ W,w.alloc (.cells #[.int .i64 k,.int .i32 r,.int .u8 72,.int .u8 0,.slice A H.length ca,.string ⟨#[]⟩,.string s2,.bool ct] 83) = W:=⟨_,rfl⟩
 have hb0:Below w.heap.size w W:=by rw [← hW];exact below_allocs (Below.refl _ _) _
 have hn0:W.heap[w.heap.size]? = some (.cells #[.int .i64 k,.int .i32 r,.int .u8 72,.int .u8 0,.slice A H.length ca,.string ⟨#[]⟩,.string s2,.bool ct] 83 (0,0)):=by rw [← hW];exact hp_new rfl
 have HG0:Hid (∀ w',Below W.heap.size W w'→Calls Tryz.prog 132 #[.slice A H.length ca,.int .i64 0,.int .i64 0] w' fun e w2 => e = .returned (.int .i64 (getG (gsOf H) 0 0))∧Below w'.heap.size w' w2):=Hd (fun w' hb => pget0_any (hG.below (below_tail hb0 hb)) ca hca hz hzg 0)
 have HM:Hid (∀ w',Below W.heap.size W w'→Calls Tryz.prog 140 #[.pointer (some ⟨v.M,0,none⟩),.agg #[.int .i64 k,.int .i32 r,.int .u8 72,.int .u8 0,.slice A H.length ca,.string ⟨#[]⟩,.string s2,.bool ct]] w' (MvPost base w' v (doT t (fun s => moveS s (countG (gsOf H) 0 - 1) (countG (gsOf H) 1 - 1))) true)):=Hd (fun w' hb => tmovesH_any (h.below (below_tail hb0 hb)) hi k r 0 (hG.below (below_tail hb0 hb)) ca hca hz hzg ⟨#[]⟩ s2 ct)
 generalize getG (gsOf H) 0 0 = n0 at HG0
 have HB0:=Hd hb0
 have HN0:=Hd hn0
 generalize hN:H.length = N at HG0 HM hW HN0
 clear h hi hb0 hn0 hG hca hz hzg hN
 have d2:W.cell? ⟨w.heap.size,2,none⟩ = some (.int .u8 72):=(at_ HN0.out 2 _ rfl).1
 have d3:W.cell? ⟨w.heap.size,3,none⟩ = some (.int .u8 0):=(at_ HN0.out 3 _ rfl).1
 have d4:W.cell? ⟨w.heap.size,4,none⟩ = some (.slice A N ca):=(at_ HN0.out 4 _ rfl).1
 have d5:W.cell? ⟨w.heap.size,5,none⟩ = some (.string ⟨#[]⟩):=(at_ HN0.out 5 _ rfl).1
 go_enter Tryz.func75,Tryz.ntmps75
 go_upto_region 2 with (go_at_call 132;(with_reducible refine (HG0.out _ (Below.refl _ _)).mono ?_);rintro e w1 ⟨rfl,hb⟩;have d2:=holda hb d2;have d3:=holda hb d3;have d5:=holda hb d5;have HB1:=Hd hb;clear hb)
 refine wp_region_lit ?_
 refine wpList_valG (.pointer (some ⟨w.heap.size,3,none⟩)) (by rfl) (by rfl) ?_
 simp only [Act.put,List.setIfInBounds_toArray,List.set_cons_zero,List.set_cons_succ]
 refine wpList_valG (.int .u8 0) (by rfl) (by go_simp) ?_
 simp only [Act.put,List.setIfInBounds_toArray,List.set_cons_zero,List.set_cons_succ]
 refine wpList_actG (.slice (some ⟨w1.heap.size,0,none⟩) 1 1) (w1.alloc (.cells #[.int .u8 0] 5)) (by rfl) (by go_simp) ?_
 simp only [Act.put,List.setIfInBounds_toArray,List.set_cons_zero,List.set_cons_succ]
 have hba:=below_allocs (Below.refl w1.heap.size w1) (.cells #[.int .u8 0] 5)
 have hna:=hp_new (W:=w1) (o:=.cells #[.int .u8 0] 5) rfl
 have hcv:(convert 23 9 (.slice (some ⟨w1.heap.size,0,none⟩) 1 1)).run Tryz.prog (w1.alloc (.cells #[.int .u8 0] 5)) = .ok (.string ⟨#[0]⟩) (w1.alloc (.cells #[.int .u8 0] 5)):=conv_one _ w1.heap.size 0 (at_ hna 0 _ rfl).1
 have d2:=holda hba d2
 have d5:=holda hba d5
 have HB2:=Hd (below_tail HB1.out hba)
 generalize w1.alloc (.cells #[.int .u8 0] 5) = w2 at hcv d2 d5 HB2 ⊢
 clear hba hna
 refine wpList_valG (.string ⟨#[0]⟩) (by rfl) (by go_simp) ?_
 simp only [Act.put,List.setIfInBounds_toArray,List.set_cons_zero,List.set_cons_succ]
 clear hcv
 refine wpList_valG (.pointer (some ⟨w.heap.size,5,none⟩)) (by rfl) (by rfl) ?_
 simp only [Act.put,List.setIfInBounds_toArray,List.set_cons_zero,List.set_cons_succ]
 refine wpList_valG (.string ⟨#[]⟩) (by rfl) (by go_simp) ?_
 simp only [Act.put,List.setIfInBounds_toArray,List.set_cons_zero,List.set_cons_succ]
 refine wpList_valG (.string ⟨#[0]⟩) (by rfl) (by rfl) ?_
 simp only [Act.put,List.setIfInBounds_toArray,List.set_cons_zero,List.set_cons_succ]
 refine wpList_valG (.pointer (some ⟨w.heap.size,2,none⟩)) (by rfl) (by rfl) ?_
 simp only [Act.put,List.setIfInBounds_toArray,List.set_cons_zero,List.set_cons_succ]
 refine wpList_valG (.int .u8 72) (by rfl) (by go_simp) ?_
 simp only [Act.put,List.setIfInBounds_toArray,List.set_cons_zero,List.set_cons_succ]
 refine wpList_actG (.slice (some ⟨w2.heap.size,0,none⟩) 1 1) (w2.alloc (.cells #[.int .u8 72] 5)) (by rfl) (by go_simp) ?_
 simp only [Act.put,List.setIfInBounds_toArray,List.set_cons_zero,List.set_cons_succ]
 have hba:=below_allocs (Below.refl w2.heap.size w2) (.cells #[.int .u8 72] 5)
 have hna:=hp_new (W:=w2) (o:=.cells #[.int .u8 72] 5) rfl
 have hcv:(convert 23 9 (.slice (some ⟨w2.heap.size,0,none⟩) 1 1)).run Tryz.prog (w2.alloc (.cells #[.int .u8 72] 5)) = .ok (.string ⟨#[72]⟩) (w2.alloc (.cells #[.int .u8 72] 5)):=conv_one _ w2.heap.size 72 (at_ hna 0 _ rfl).1
 have HB3:=Hd (below_tail HB2.out hba)
 generalize w2.alloc (.cells #[.int .u8 72] 5) = w3 at hcv HB3 ⊢
 clear hba hna d2 d5
 refine wpList_valG (.string ⟨#[72]⟩) (by rfl) (by go_simp) ?_
 simp only [Act.put,List.setIfInBounds_toArray,List.set_cons_zero,List.set_cons_succ]
 clear hcv
 refine wpList_valG (.string ⟨#[0,72]⟩) (by rfl) (by rfl) ?_
 simp only [Act.put,List.setIfInBounds_toArray,List.set_cons_zero,List.set_cons_succ]
 have hn3:=(HB3.out.block _ (lt_of_heap HN0.out)).trans HN0.out
 have d3:w3.cell? ⟨w.heap.size,3,none⟩ = some (.int .u8 0):=(at_ hn3 3 _ rfl).1
 have d5:w3.cell? ⟨w.heap.size,5,none⟩ = some (.string ⟨#[]⟩):=(at_ hn3 5 _ rfl).1
 have d0:w3.cell? ⟨w.heap.size,0,none⟩ = some (.int .i64 k):=(at_ hn3 0 _ rfl).1
 have d1:w3.cell? ⟨w.heap.size,1,none⟩ = some (.int .i32 r):=(at_ hn3 1 _ rfl).1
 have d2:w3.cell? ⟨w.heap.size,2,none⟩ = some (.int .u8 72):=(at_ hn3 2 _ rfl).1
 have d4:w3.cell? ⟨w.heap.size,4,none⟩ = some (.slice A N ca):=(at_ hn3 4 _ rfl).1
 have d6:w3.cell? ⟨w.heap.size,6,none⟩ = some (.string s2):=(at_ hn3 6 _ rfl).1
 have d7:w3.cell? ⟨w.heap.size,7,none⟩ = some (.bool ct):=(at_ hn3 7 _ rfl).1
 clear hn3
 go_upto_region 21 with fail
 go_wp2_with (go_at_call 140;(with_reducible refine (HM.out _ HB3.out).mono ?_);rintro e w4 ⟨rfl,hr⟩;have HR:=Hd (TmRes.pre (below_tail HB0.out HB3.out) hr);clear hr)
 go_end0
 exact ⟨rfl,HR.out⟩
set_option maxHeartbeats 3200000 in
theorem tsequenceX_any (h:TmO base w v t) (hi:ScI (curT t)) (k r:Int) (hG:GsAt w A H) (ca:Nat) (hca:H.length ≤ ca) (hz:H.length ≤ 1000000) (hzg:∀ h ∈ H,h.g.length ≤ 1000000) (s2:ByteArray) (ct:Bool) :
 Calls Tryz.prog 75 #[.pointer (some ⟨v.M,0,none⟩),.agg #[.int .i64 k,.int .i32 r,.int .u8 88,.int .u8 0,.slice A H.length ca,.string ⟨#[]⟩,.string s2,.bool ct]] w (TmPost base w v (doT t (fun s => eraseCharsS s (countG (gsOf H) 0)))):=by
 obtain ⟨W,hW⟩:∃ W,w.alloc (.cells #[.int .i64 k,.int .i32 r,.int .u8 88,.int .u8 0,.slice A H.length ca,.string ⟨#[]⟩,.string s2,.bool ct] 83) = W:=⟨_,rfl⟩
 have hb0:Below w.heap.size w W:=by rw [← hW];exact below_allocs (Below.refl _ _) _
 have hn0:W.heap[w.heap.size]? = some (.cells #[.int .i64 k,.int .i32 r,.int .u8 88,.int .u8 0,.slice A H.length ca,.string ⟨#[]⟩,.string s2,.bool ct] 83 (0,0)):=by rw [← hW];exact hp_new rfl
 have HG0:Hid (∀ w',Below W.heap.size W w'→Calls Tryz.prog 132 #[.slice A H.length ca,.int .i64 0,.int .i64 0] w' fun e w2 => e = .returned (.int .i64 (getG (gsOf H) 0 0))∧Below w'.heap.size w' w2):=Hd (fun w' hb => pget0_any (hG.below (below_tail hb0 hb)) ca hca hz hzg 0)
 have HM:Hid (∀ w',Below W.heap.size W w'→Calls Tryz.prog 140 #[.pointer (some ⟨v.M,0,none⟩),.agg #[.int .i64 k,.int .i32 r,.int .u8 88,.int .u8 0,.slice A H.length ca,.string ⟨#[]⟩,.string s2,.bool ct]] w' fun e w2 => e = .returned (.bool false)∧Below w'.heap.size w' w2):=Hd (fun w' hb => tmovesNo_any (h.below (below_tail hb0 hb)) k r 88 0 (by decide) (hG.below (below_tail hb0 hb)) ca hca hz hzg ⟨#[]⟩ s2 ct)
 have HE:Hid (∀ w',Below W.heap.size W w'→Calls Tryz.prog 141 #[.pointer (some ⟨v.M,0,none⟩),.agg #[.int .i64 k,.int .i32 r,.int .u8 88,.int .u8 0,.slice A H.length ca,.string ⟨#[]⟩,.string s2,.bool ct]] w' (MvPost base w' v (doT t (fun s => eraseCharsS s (countG (gsOf H) 0))) true)):=Hd (fun w' hb => teditsX_any (h.below (below_tail hb0 hb)) hi k r 0 (hG.below (below_tail hb0 hb)) ca hca hz hzg ⟨#[]⟩ s2 ct)
 generalize getG (gsOf H) 0 0 = n0 at HG0
 have HB0:=Hd hb0
 have HN0:=Hd hn0
 generalize hN:H.length = N at HG0 HM hW HN0 HE
 clear h hi hb0 hn0 hG hca hz hzg hN
 have d2:W.cell? ⟨w.heap.size,2,none⟩ = some (.int .u8 88):=(at_ HN0.out 2 _ rfl).1
 have d3:W.cell? ⟨w.heap.size,3,none⟩ = some (.int .u8 0):=(at_ HN0.out 3 _ rfl).1
 have d4:W.cell? ⟨w.heap.size,4,none⟩ = some (.slice A N ca):=(at_ HN0.out 4 _ rfl).1
 have d5:W.cell? ⟨w.heap.size,5,none⟩ = some (.string ⟨#[]⟩):=(at_ HN0.out 5 _ rfl).1
 go_enter Tryz.func75,Tryz.ntmps75
 go_upto_region 2 with (go_at_call 132;(with_reducible refine (HG0.out _ (Below.refl _ _)).mono ?_);rintro e w1 ⟨rfl,hb⟩;have d2:=holda hb d2;have d3:=holda hb d3;have d5:=holda hb d5;have HB1:=Hd hb;clear hb)
 refine wp_region_lit ?_
 refine wpList_valG (.pointer (some ⟨w.heap.size,3,none⟩)) (by rfl) (by rfl) ?_
 simp only [Act.put,List.setIfInBounds_toArray,List.set_cons_zero,List.set_cons_succ]
 refine wpList_valG (.int .u8 0) (by rfl) (by go_simp) ?_
 simp only [Act.put,List.setIfInBounds_toArray,List.set_cons_zero,List.set_cons_succ]
 refine wpList_actG (.slice (some ⟨w1.heap.size,0,none⟩) 1 1) (w1.alloc (.cells #[.int .u8 0] 5)) (by rfl) (by go_simp) ?_
 simp only [Act.put,List.setIfInBounds_toArray,List.set_cons_zero,List.set_cons_succ]
 have hba:=below_allocs (Below.refl w1.heap.size w1) (.cells #[.int .u8 0] 5)
 have hna:=hp_new (W:=w1) (o:=.cells #[.int .u8 0] 5) rfl
 have hcv:(convert 23 9 (.slice (some ⟨w1.heap.size,0,none⟩) 1 1)).run Tryz.prog (w1.alloc (.cells #[.int .u8 0] 5)) = .ok (.string ⟨#[0]⟩) (w1.alloc (.cells #[.int .u8 0] 5)):=conv_one _ w1.heap.size 0 (at_ hna 0 _ rfl).1
 have d2:=holda hba d2
 have d5:=holda hba d5
 have HB2:=Hd (below_tail HB1.out hba)
 generalize w1.alloc (.cells #[.int .u8 0] 5) = w2 at hcv d2 d5 HB2 ⊢
 clear hba hna
 refine wpList_valG (.string ⟨#[0]⟩) (by rfl) (by go_simp) ?_
 simp only [Act.put,List.setIfInBounds_toArray,List.set_cons_zero,List.set_cons_succ]
 clear hcv
 refine wpList_valG (.pointer (some ⟨w.heap.size,5,none⟩)) (by rfl) (by rfl) ?_
 simp only [Act.put,List.setIfInBounds_toArray,List.set_cons_zero,List.set_cons_succ]
 refine wpList_valG (.string ⟨#[]⟩) (by rfl) (by go_simp) ?_
 simp only [Act.put,List.setIfInBounds_toArray,List.set_cons_zero,List.set_cons_succ]
 refine wpList_valG (.string ⟨#[0]⟩) (by rfl) (by rfl) ?_
 simp only [Act.put,List.setIfInBounds_toArray,List.set_cons_zero,List.set_cons_succ]
 refine wpList_valG (.pointer (some ⟨w.heap.size,2,none⟩)) (by rfl) (by rfl) ?_
 simp only [Act.put,List.setIfInBounds_toArray,List.set_cons_zero,List.set_cons_succ]
 refine wpList_valG (.int .u8 88) (by rfl) (by go_simp) ?_
 simp only [Act.put,List.setIfInBounds_toArray,List.set_cons_zero,List.set_cons_succ]
 refine wpList_actG (.slice (some ⟨w2.heap.size,0,none⟩) 1 1) (w2.alloc (.cells #[.int .u8 88] 5)) (by rfl) (by go_simp) ?_
 simp only [Act.put,List.setIfInBounds_toArray,List.set_cons_zero,List.set_cons_succ]
 have hba:=below_allocs (Below.refl w2.heap.size w2) (.cells #[.int .u8 88] 5)
 have hna:=hp_new (W:=w2) (o:=.cells #[.int .u8 88] 5) rfl
 have hcv:(convert 23 9 (.slice (some ⟨w2.heap.size,0,none⟩) 1 1)).run Tryz.prog (w2.alloc (.cells #[.int .u8 88] 5)) = .ok (.string ⟨#[88]⟩) (w2.alloc (.cells #[.int .u8 88] 5)):=conv_one _ w2.heap.size 88 (at_ hna 0 _ rfl).1
 have HB3:=Hd (below_tail HB2.out hba)
 generalize w2.alloc (.cells #[.int .u8 88] 5) = w3 at hcv HB3 ⊢
 clear hba hna d2 d5
 refine wpList_valG (.string ⟨#[88]⟩) (by rfl) (by go_simp) ?_
 simp only [Act.put,List.setIfInBounds_toArray,List.set_cons_zero,List.set_cons_succ]
 clear hcv
 refine wpList_valG (.string ⟨#[0,88]⟩) (by rfl) (by rfl) ?_
 simp only [Act.put,List.setIfInBounds_toArray,List.set_cons_zero,List.set_cons_succ]
 have hn3:=(HB3.out.block _ (lt_of_heap HN0.out)).trans HN0.out
 have d3:w3.cell? ⟨w.heap.size,3,none⟩ = some (.int .u8 0):=(at_ hn3 3 _ rfl).1
 have d5:w3.cell? ⟨w.heap.size,5,none⟩ = some (.string ⟨#[]⟩):=(at_ hn3 5 _ rfl).1
 have d0:w3.cell? ⟨w.heap.size,0,none⟩ = some (.int .i64 k):=(at_ hn3 0 _ rfl).1
 have d1:w3.cell? ⟨w.heap.size,1,none⟩ = some (.int .i32 r):=(at_ hn3 1 _ rfl).1
 have d2:w3.cell? ⟨w.heap.size,2,none⟩ = some (.int .u8 88):=(at_ hn3 2 _ rfl).1
 have d4:w3.cell? ⟨w.heap.size,4,none⟩ = some (.slice A N ca):=(at_ hn3 4 _ rfl).1
 have d6:w3.cell? ⟨w.heap.size,6,none⟩ = some (.string s2):=(at_ hn3 6 _ rfl).1
 have d7:w3.cell? ⟨w.heap.size,7,none⟩ = some (.bool ct):=(at_ hn3 7 _ rfl).1
 clear hn3
 go_upto_region 21 with fail
 go_wp2_with (first
  | (go_at_call 140;(with_reducible refine (HM.out _ HB3.out).mono ?_);rintro e w4 ⟨rfl,hb⟩;have d0:=holda hb d0;have d1:=holda hb d1;have d2:=holda hb d2;have d3:=holda hb d3;have d4:=holda hb d4;have d5:=holda hb d5;have d6:=holda hb d6;have d7:=holda hb d7;have HB4:=Hd (below_tail HB3.out hb);clear hb)
  | (go_at_call 141;(with_reducible refine (HE.out _ HB4.out).mono ?_);rintro e w5 ⟨rfl,hr⟩;have HR:=Hd (TmRes.pre (below_tail HB0.out HB4.out) hr);clear hr))
 go_end0
 exact ⟨rfl,HR.out⟩
set_option maxHeartbeats 3200000 in
theorem tsequenceM_any (h:TmO base w v t) (hf:FlOk (curT t).pen.at_.fl) (k r:Int) (hG:GsAt w A H) (ca:Nat) (hca:H.length ≤ ca) (hz:H.length ≤ 1000000) (hzg:∀ h ∈ H,h.g.length ≤ 1000000) (s2:ByteArray) (ct:Bool) :
 Calls Tryz.prog 75 #[.pointer (some ⟨v.M,0,none⟩),.agg #[.int .i64 k,.int .i32 r,.int .u8 109,.int .u8 0,.slice A H.length ca,.string ⟨#[]⟩,.string s2,.bool ct]] w (TmPost base w v (doT t (fun s => turnSc s (gsOf H)))):=by
 obtain ⟨W,hW⟩:∃ W,w.alloc (.cells #[.int .i64 k,.int .i32 r,.int .u8 109,.int .u8 0,.slice A H.length ca,.string ⟨#[]⟩,.string s2,.bool ct] 83) = W:=⟨_,rfl⟩
 have hb0:Below w.heap.size w W:=by rw [← hW];exact below_allocs (Below.refl _ _) _
 have hn0:W.heap[w.heap.size]? = some (.cells #[.int .i64 k,.int .i32 r,.int .u8 109,.int .u8 0,.slice A H.length ca,.string ⟨#[]⟩,.string s2,.bool ct] 83 (0,0)):=by rw [← hW];exact hp_new rfl
 have HG0:Hid (∀ w',Below W.heap.size W w'→Calls Tryz.prog 132 #[.slice A H.length ca,.int .i64 0,.int .i64 0] w' fun e w2 => e = .returned (.int .i64 (getG (gsOf H) 0 0))∧Below w'.heap.size w' w2):=Hd (fun w' hb => pget0_any (hG.below (below_tail hb0 hb)) ca hca hz hzg 0)
 have HM:Hid (∀ w',Below W.heap.size W w'→Calls Tryz.prog 140 #[.pointer (some ⟨v.M,0,none⟩),.agg #[.int .i64 k,.int .i32 r,.int .u8 109,.int .u8 0,.slice A H.length ca,.string ⟨#[]⟩,.string s2,.bool ct]] w' fun e w2 => e = .returned (.bool false)∧Below w'.heap.size w' w2):=Hd (fun w' hb => tmovesNo_any (h.below (below_tail hb0 hb)) k r 109 0 (by decide) (hG.below (below_tail hb0 hb)) ca hca hz hzg ⟨#[]⟩ s2 ct)
 have HE:Hid (∀ w',Below W.heap.size W w'→Calls Tryz.prog 141 #[.pointer (some ⟨v.M,0,none⟩),.agg #[.int .i64 k,.int .i32 r,.int .u8 109,.int .u8 0,.slice A H.length ca,.string ⟨#[]⟩,.string s2,.bool ct]] w' (MvPost base w' v (doT t (fun s => turnSc s (gsOf H))) true)):=Hd (fun w' hb => teditsM_any (h.below (below_tail hb0 hb)) hf k r 0 (hG.below (below_tail hb0 hb)) ca hca hz hzg ⟨#[]⟩ s2 ct)
 generalize getG (gsOf H) 0 0 = n0 at HG0
 have HB0:=Hd hb0
 have HN0:=Hd hn0
 generalize hN:H.length = N at HG0 HM hW HN0 HE
 clear h hf hb0 hn0 hG hca hz hzg hN
 have d2:W.cell? ⟨w.heap.size,2,none⟩ = some (.int .u8 109):=(at_ HN0.out 2 _ rfl).1
 have d3:W.cell? ⟨w.heap.size,3,none⟩ = some (.int .u8 0):=(at_ HN0.out 3 _ rfl).1
 have d4:W.cell? ⟨w.heap.size,4,none⟩ = some (.slice A N ca):=(at_ HN0.out 4 _ rfl).1
 have d5:W.cell? ⟨w.heap.size,5,none⟩ = some (.string ⟨#[]⟩):=(at_ HN0.out 5 _ rfl).1
 go_enter Tryz.func75,Tryz.ntmps75
 go_upto_region 2 with (go_at_call 132;(with_reducible refine (HG0.out _ (Below.refl _ _)).mono ?_);rintro e w1 ⟨rfl,hb⟩;have d2:=holda hb d2;have d3:=holda hb d3;have d5:=holda hb d5;have HB1:=Hd hb;clear hb)
 refine wp_region_lit ?_
 refine wpList_valG (.pointer (some ⟨w.heap.size,3,none⟩)) (by rfl) (by rfl) ?_
 simp only [Act.put,List.setIfInBounds_toArray,List.set_cons_zero,List.set_cons_succ]
 refine wpList_valG (.int .u8 0) (by rfl) (by go_simp) ?_
 simp only [Act.put,List.setIfInBounds_toArray,List.set_cons_zero,List.set_cons_succ]
 refine wpList_actG (.slice (some ⟨w1.heap.size,0,none⟩) 1 1) (w1.alloc (.cells #[.int .u8 0] 5)) (by rfl) (by go_simp) ?_
 simp only [Act.put,List.setIfInBounds_toArray,List.set_cons_zero,List.set_cons_succ]
 have hba:=below_allocs (Below.refl w1.heap.size w1) (.cells #[.int .u8 0] 5)
 have hna:=hp_new (W:=w1) (o:=.cells #[.int .u8 0] 5) rfl
 have hcv:(convert 23 9 (.slice (some ⟨w1.heap.size,0,none⟩) 1 1)).run Tryz.prog (w1.alloc (.cells #[.int .u8 0] 5)) = .ok (.string ⟨#[0]⟩) (w1.alloc (.cells #[.int .u8 0] 5)):=conv_one _ w1.heap.size 0 (at_ hna 0 _ rfl).1
 have d2:=holda hba d2
 have d5:=holda hba d5
 have HB2:=Hd (below_tail HB1.out hba)
 generalize w1.alloc (.cells #[.int .u8 0] 5) = w2 at hcv d2 d5 HB2 ⊢
 clear hba hna
 refine wpList_valG (.string ⟨#[0]⟩) (by rfl) (by go_simp) ?_
 simp only [Act.put,List.setIfInBounds_toArray,List.set_cons_zero,List.set_cons_succ]
 clear hcv
 refine wpList_valG (.pointer (some ⟨w.heap.size,5,none⟩)) (by rfl) (by rfl) ?_
 simp only [Act.put,List.setIfInBounds_toArray,List.set_cons_zero,List.set_cons_succ]
 refine wpList_valG (.string ⟨#[]⟩) (by rfl) (by go_simp) ?_
 simp only [Act.put,List.setIfInBounds_toArray,List.set_cons_zero,List.set_cons_succ]
 refine wpList_valG (.string ⟨#[0]⟩) (by rfl) (by rfl) ?_
 simp only [Act.put,List.setIfInBounds_toArray,List.set_cons_zero,List.set_cons_succ]
 refine wpList_valG (.pointer (some ⟨w.heap.size,2,none⟩)) (by rfl) (by rfl) ?_
 simp only [Act.put,List.setIfInBounds_toArray,List.set_cons_zero,List.set_cons_succ]
 refine wpList_valG (.int .u8 109) (by rfl) (by go_simp) ?_
 simp only [Act.put,List.setIfInBounds_toArray,List.set_cons_zero,List.set_cons_succ]
 refine wpList_actG (.slice (some ⟨w2.heap.size,0,none⟩) 1 1) (w2.alloc (.cells #[.int .u8 109] 5)) (by rfl) (by go_simp) ?_
 simp only [Act.put,List.setIfInBounds_toArray,List.set_cons_zero,List.set_cons_succ]
 have hba:=below_allocs (Below.refl w2.heap.size w2) (.cells #[.int .u8 109] 5)
 have hna:=hp_new (W:=w2) (o:=.cells #[.int .u8 109] 5) rfl
 have hcv:(convert 23 9 (.slice (some ⟨w2.heap.size,0,none⟩) 1 1)).run Tryz.prog (w2.alloc (.cells #[.int .u8 109] 5)) = .ok (.string ⟨#[109]⟩) (w2.alloc (.cells #[.int .u8 109] 5)):=conv_one _ w2.heap.size 109 (at_ hna 0 _ rfl).1
 have HB3:=Hd (below_tail HB2.out hba)
 generalize w2.alloc (.cells #[.int .u8 109] 5) = w3 at hcv HB3 ⊢
 clear hba hna d2 d5
 refine wpList_valG (.string ⟨#[109]⟩) (by rfl) (by go_simp) ?_
 simp only [Act.put,List.setIfInBounds_toArray,List.set_cons_zero,List.set_cons_succ]
 clear hcv
 refine wpList_valG (.string ⟨#[0,109]⟩) (by rfl) (by rfl) ?_
 simp only [Act.put,List.setIfInBounds_toArray,List.set_cons_zero,List.set_cons_succ]
 have hn3:=(HB3.out.block _ (lt_of_heap HN0.out)).trans HN0.out
 have d3:w3.cell? ⟨w.heap.size,3,none⟩ = some (.int .u8 0):=(at_ hn3 3 _ rfl).1
 have d5:w3.cell? ⟨w.heap.size,5,none⟩ = some (.string ⟨#[]⟩):=(at_ hn3 5 _ rfl).1
 have d0:w3.cell? ⟨w.heap.size,0,none⟩ = some (.int .i64 k):=(at_ hn3 0 _ rfl).1
 have d1:w3.cell? ⟨w.heap.size,1,none⟩ = some (.int .i32 r):=(at_ hn3 1 _ rfl).1
 have d2:w3.cell? ⟨w.heap.size,2,none⟩ = some (.int .u8 109):=(at_ hn3 2 _ rfl).1
 have d4:w3.cell? ⟨w.heap.size,4,none⟩ = some (.slice A N ca):=(at_ hn3 4 _ rfl).1
 have d6:w3.cell? ⟨w.heap.size,6,none⟩ = some (.string s2):=(at_ hn3 6 _ rfl).1
 have d7:w3.cell? ⟨w.heap.size,7,none⟩ = some (.bool ct):=(at_ hn3 7 _ rfl).1
 clear hn3
 go_upto_region 21 with fail
 go_wp2_with (first
  | (go_at_call 140;(with_reducible refine (HM.out _ HB3.out).mono ?_);rintro e w4 ⟨rfl,hb⟩;have d0:=holda hb d0;have d1:=holda hb d1;have d2:=holda hb d2;have d3:=holda hb d3;have d4:=holda hb d4;have d5:=holda hb d5;have d6:=holda hb d6;have d7:=holda hb d7;have HB4:=Hd (below_tail HB3.out hb);clear hb)
  | (go_at_call 141;(with_reducible refine (HE.out _ HB4.out).mono ?_);rintro e w5 ⟨rfl,hr⟩;have HR:=Hd (TmRes.pre (below_tail HB0.out HB4.out) hr);clear hr))
 go_end0
 exact ⟨rfl,HR.out⟩
end
theorem doD (base:Nat):DoSays base evD OkD:=fun W lo v t x hO hx hok => by
 obtain ⟨hk,hi,ht,hf⟩:=hok
 have hG:=hx.n.2.1
 have hzg:∀ h ∈ x.H,h.g.length ≤ 1000000:=fun h hh => by have:=hx.z.2 h hh;omega
 have hz:=hx.z.1
 unfold evD evS
 rcases hk with h0 | ⟨h1,h2,h3,h4⟩
 · simp only [if_pos h0]
   unfold kindF
   rw [if_pos h0]
   exact tprint_any hO hi ht _ _ _ _ _ _ _ _ _ _
 · have e0:¬ x.e.kind = 0:=by omega
   simp only [if_neg e0]
   unfold kindF
   rw [if_neg e0,if_neg (by omega),if_neg (by omega),if_pos h1,h2,h3]
   have hg:=hx.g
   rcases h4 with h4 | h4 | h4
   · simp only [if_pos h4]
     rw [h4,← hg]
     exact tsequenceH_any hO hi _ _ hG _ hx.c (by omega) hzg _ _
   · simp only [if_neg (show ¬ x.e.byte = 72 by omega),if_pos h4]
     rw [h4,← hg]
     exact tsequenceM_any hO hf _ _ hG _ hx.c (by omega) hzg _ _
   · simp only [if_neg (show ¬ x.e.byte = 72 by omega),if_neg (show ¬ x.e.byte = 109 by omega),if_pos h4]
     rw [h4,← hg]
     exact tsequenceX_any hO hi _ _ hG _ hx.c (by omega) hzg _ _
end Go.Proofs.YtaefcahblmopfaaGreatDoor
