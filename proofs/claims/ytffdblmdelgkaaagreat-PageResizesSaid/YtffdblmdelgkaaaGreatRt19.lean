/- Joined by a tool of this claim out of smaller texts. Conditions: as stated. -/
import Derived.Test.YtffdblmdelgkaaaGreatRt16
import Derived.Test.YtffdblmdelgkaaaGreatRt17
import Derived.RegionTactic
import Derived.Shelf.SlSorted.Search
import Derived.Ground.SlsoProg
import Derived.Test.YtffdblmdelgkaaaGreatProg
set_option linter.unusedVariables false
set_option linter.unusedSimpArgs false
set_option maxRecDepth 100000
open Go.Lib renaming hid → Hd
namespace Go.Proofs.YtffdblmdelgkaaaGreat
open Go.RowKit
theorem groupsL_ext (r:Ro) (hr:r.cont = true):∀ pre:List Ro,pre ≠ []→∃ G g,groupsL pre = G ++ [g]∧groupsL (pre ++ [r]) = G ++ [g ++ [r]]
 | [],h => absurd rfl h
 | [x],_ => ⟨[],[x],by simp [groupsL],by simp [groupsL,hr]⟩
 | x :: y :: l,_ => by
   obtain ⟨G,g,h1,h2⟩:=groupsL_ext r hr (y :: l) (by simp)
   rw [groupsL,h1,List.cons_append,groupsL,h2]
   cases G with
   | nil =>
     by_cases hy:y.cont = true
     · exact ⟨[],x :: g,by simp [hy],by simp [hy]⟩
     · exact ⟨[[x]],g,by simp [hy],by simp [hy]⟩
   | cons h G =>
     by_cases hy:y.cont = true
     · exact ⟨(x :: h) :: G,g,by simp [hy],by simp [hy]⟩
     · exact ⟨[x] :: h :: G,g,by simp [hy],by simp [hy]⟩
def linesI (L:List Ro) (i:Nat):List (Nat × Nat):=ivs 0 (groupsL (L.take i))
theorem groups_len (l:List Ro):(groupsL l).flatten.length = l.length:=by rw [groupsL_flat]
theorem linesI_push {L:List Ro} {i:Nat} {r:Ro} (h:L[i]? = some r) (hc:r.cont = false ∨ i = 0):linesI L (i + 1) = linesI L i ++ [(i,i + 1)]:=by
 have hi:=(List.getElem?_eq_some_iff.1 h).1
 unfold linesI
 rw [List.take_add_one,h]
 have e:groupsL (L.take i ++ [r]) = groupsL (L.take i) ++ [[r]]:=by
  rcases hc with hc | hc
  · have:=groupsL_cut (L.take i) [r] (fun x hx => by simp at hx;rw [← hx];exact hc)
    rw [this];rfl
  · rw [hc];rfl
 show ivs 0 (groupsL (L.take i ++ [r])) = _
 rw [e,ivs_append,groups_len,List.length_take,Nat.min_eq_left (by omega)]
 simp [ivs]
theorem linesI_ext {L:List Ro} {i:Nat} {r:Ro} (h:L[i]? = some r) (hc:r.cont = true) (h0:0 < i):∃ V a,linesI L i = V ++ [(a,i)]∧linesI L (i + 1) = V ++ [(a,i + 1)]:=by
 have hi:=(List.getElem?_eq_some_iff.1 h).1
 unfold linesI
 obtain ⟨G,g,h1,h2⟩:=groupsL_ext r hc (L.take i) (by intro e;have:=congrArg List.length e;rw [List.length_take,List.length_nil] at this;omega)
 have hl:=groups_len (L.take i)
 rw [h1,List.flatten_append,List.length_append,List.length_take,Nat.min_eq_left (by omega)] at hl
 rw [List.take_add_one,h]
 refine ⟨ivs 0 G,0 + G.flatten.length,?_,?_⟩
 · rw [h1,ivs_append,ivs,ivs]
   simp at hl ⊢;omega
 · show ivs 0 (groupsL (L.take i ++ [r])) = _
   rw [h2,ivs_append,ivs,ivs]
   simp at hl ⊢;omega
theorem ivs_len:∀ (a:Nat) (G:List (List Ro)),(ivs a G).length = G.length
 | _,[] => rfl
 | a,g :: G => by rw [ivs,List.length_cons,ivs_len,List.length_cons]
theorem groupsL_len_le:∀ l:List Ro,(groupsL l).length ≤ l.length
 | [] => Nat.le_refl _
 | r :: l => by
   have:=groupsL_len_le l
   rw [groupsL]
   split
   · simp
   · next g gs h =>
     rw [h] at this
     split <;> simp at * <;> omega
theorem linesI_len (L:List Ro) (i:Nat):(linesI L i).length ≤ i:=by
 unfold linesI
 rw [ivs_len]
 have:=groupsL_len_le (L.take i)
 rw [List.length_take] at this
 omega
theorem linesI_pos {L:List Ro} {i:Nat} (h0:0 < i) (hi:i ≤ L.length):0 < (linesI L i).length:=by
 unfold linesI
 rw [ivs_len,List.length_pos_iff]
 intro e
 have:=(groupsL_nil_iff _).1 e
 have:=congrArg List.length this
 rw [List.length_take,List.length_nil] at this;omega
def encIv (p:Nat × Nat):List Value:=[.int .i64 p.1,.int .i64 p.2]
theorem encIv_len:∀ p,(encIv p).length = 2:=fun _ => rfl
theorem encIv_one:∀ p,∀ v ∈ encIv p,v.oneCell' = true:=fun p v hv => by
 simp only [encIv,List.mem_cons,List.not_mem_nil,or_false] at hv
 rcases hv with rfl | rfl <;> rfl
theorem info_ivz:(Tryz.prog.info? 119).map (fun i => (i.zero,i.size,i.bytes)) = some (some (.agg #[.int .i64 0,.int .i64 0]),2,16):=by kernel_rfl
def IvPost (V:List (Nat × Nat)) (w:World) (e:Ending) (w':World):Prop:=∃ v,e = .returned v∧w'.ownsRow w.heap.size 119 2 v V.length (flat encIv V)∧Below w.heap.size w w'
set_option maxHeartbeats 6400000 in
theorem flines_any (A:Option Addr) (L:List Rh) (ca:Nat) (w:World) (hl:GrAt encRh 2 w A L) (hz:L.length ≤ 1000000) :
 Calls Tryz.prog 98 #[.slice A L.length ca] w (IvPost (ivs 0 (groupsL (L.map roOf))) w):=by
 obtain ⟨j0,hj,gz0,gz1,gz2⟩:=info_parts info_ivz
 have HL:=Hd hl
 obtain ⟨M,hM⟩:∃ M,L.map roOf = M:=⟨_,rfl⟩
 have HMM:=Hd hM
 rw [hM]
 obtain ⟨m,hm⟩:∃ m,L.length = m:=⟨_,rfl⟩
 have HLM:=Hd hm
 have HML:Hid (M.length = m):=Hd (by rw [← hM,List.length_map,hm])
 rw [hm] at hz ⊢
 clear hl hm hM
 go_enter Tryz.func98,Tryz.ntmps98
 go_wp2_with fail
 go_loopw [3,9] (fun s3 s9 wr => ∃ i:Nat,s9 = .int .i64 i∧i ≤ m∧wr.ownsRow w.heap.size 119 2 s3 (linesI M i).length (flat encIv (linesI M i))∧Below w.heap.size w wr) (fun _ s9 _ => m - (intOf s9).toNat)
 case atStart => exact ⟨0,rfl,Nat.zero_le _,World.ownsRow_nil _ _ _ _,Below.refl _ _⟩
 case round =>
  obtain ⟨i,rfl,hi,hO,hB⟩:=hrel
  have HO:=Hd hO
  have HB:=Hd hB
  obtain ⟨A3,c3,hv3⟩:=row_form hO
  subst hv3
  by_cases hlt:i < m
  rotate_left
  · have hge:¬ (i:Int) < (m:Int):=by omega
    have hie:linesI M i = ivs 0 (groupsL M):=by unfold linesI;rw [List.take_of_length_le (by rw [HML.out];omega)]
    have HIE:=Hd hie
    clear hO hB hie
    go_wp2
    go_ret
    exact ⟨_,rfl,by rw [← HIE.out];exact HO.out,HB.out⟩
  · have hltI:(i:Int) < (m:Int):=by omega
    have hil:i < L.length:=by rw [HLM.out];exact hlt
    obtain ⟨b,off,r,rfl,hx,hcell⟩:=(HL.out.below hB).at_ hil
    have hxm:M[i]? = some (roOf r):=by rw [← HMM.out,List.getElem?_map,hx];rfl
    have c0:=hcell 0 _ rfl
    have c1:=hcell 1 _ rfl
    simp only [Nat.add_zero] at c0
    obtain ⟨k,hk⟩:∃ k,(linesI M i).length = k:=⟨_,rfl⟩
    have HK:=Hd hk
    have hki:k ≤ i:=by rw [← hk];exact linesI_len M i
    rw [hk] at hO HO ⊢
    obtain ⟨W,hW⟩:∃ W,wr.alloc (.cells #[.slice r.A r.cs.length r.cap,.bool r.cont] 50) = W:=⟨_,rfl⟩
    have hbW:Below wr.heap.size wr W:=by rw [← hW];exact below_allocs (Below.refl _ _) _
    have HBW:=Hd (below_tail hB hbW)
    have HOW:=Hd (owns_mod hO (Mod.of_below (X:=[]) hbW) (fun _ _ h => by cases h))
    have HNW:=Hd (show W.heap[wr.heap.size]? = some (.cells #[.slice r.A r.cs.length r.cap,.bool r.cont] 50 (0,0)) from by rw [← hW];exact hp_new rfl)
    have HWW:=Hd hW
    have hwi:IntKind.i64.wrap ((i:Int) + 1) = (i:Int) + 1:=IntWalk.i64_in _ (by omega)
    have HXM:=Hd hxm
    by_cases hcc:r.cont = true∧0 < i
    · obtain ⟨V,a,hV1,hV2⟩:=linesI_ext hxm (show (roOf r).cont = true from hcc.1) hcc.2
      have hk1:k = V.length + 1:=by rw [← hk,hV1];simp
      obtain ⟨z,hz1⟩:∃ z,z = V.length:=⟨_,rfl⟩
      have hkz:(k:Int) - 1 = (z:Int):=by omega
      have hwz:IntKind.i64.wrap (z:Int) = (z:Int):=IntWalk.i64_in _ (by omega)
      have hzk:(z:Int) < (k:Int):=by omega
      have hk0:0 < (k:Int):=by omega
      have hcont:r.cont = true:=hcc.1
      obtain ⟨g,hA3⟩:∃ g,A3 = some ⟨g,0,none⟩:=by
       obtain ⟨g,cap,hv⟩:=Go.Joins.ownsRow_form hO (by omega)
       simp only [Value.slice.injEq] at hv
       exact ⟨g,hv.1⟩
      subst hA3
      have hXi:(flat encIv (linesI M i))[z * 2 + 1]? = some (.int .i64 i):=by
       rw [flat_at2 encIv_len (linesI M i) z (a,i) 1 (by rw [hV1,hz1];simp) (by decide)];rfl
      have hHO:=owns_hold HOW.out hXi
      obtain ⟨y1,y1f⟩:=hHO
      have HO7:Hid ((W.setCell ⟨g,z * 2 + 1,none⟩ (.int .i64 ((i:Int) + 1))).ownsRow w.heap.size 119 2 (.slice (some ⟨g,0,none⟩) k c3) (linesI M (i + 1)).length (flat encIv (linesI M (i + 1)))):=Hd (by
       have h1:=owns_set1 HOW.out (z * 2 + 1) (.int .i64 ((i:Int) + 1))
       rw [flat_set1 encIv_len (linesI M i) z (a,i) (a,i + 1) 1 _ (by rw [hV1,hz1];simp) (by decide) (by simp [encIv])] at h1
       have e:(linesI M i).set z (a,i + 1) = linesI M (i + 1):=by
        rw [hV1,hV2,hz1,List.set_append_right _ _ (Nat.le_refl _),Nat.sub_self,List.set_cons_zero]
       rw [e] at h1
       rw [show (linesI M (i + 1)).length = k by rw [hV2,hk1];simp]
       exact h1)
      have hgb:=(HOW.out.lt g rfl).1
      have HB7:=Hd (below_set HBW.out hgb (o:=z * 2 + 1) (.int .i64 ((i:Int) + 1)))
      have hgne:g ≠ wr.heap.size:=by have:=(hO.lt g rfl).2;omega
      have hz2:z * 2 + 1 = z * 2 + 1:=rfl
      clear hO hB hx hxm hcell hil hk hbW hW hV1 hV2 hk1 hz1 hcc hXi
      rw [hcont] at HWW HNW
      go_upto_region 6 with fail
      rw [HWW.out]
      have n0:=(at_ HNW.out 0 _ rfl).1
      have n1:=(at_ HNW.out 1 _ rfl).1
      clear c0 c1
      go_wp2
      go_roundw
      case rel => exact ⟨i + 1,by go_num,by omega,HO7.out,HB7.out⟩
      case measure => simp [intOf];omega
    · by_cases h0:i = 0
      · have hcd:r.cont = false ∨ i = 0:=.inr h0
        have hk0:¬ 0 < (k:Int):=by omega
        have hkn:¬ 0 < k:=by omega
        clear h0
        have hLP:=linesI_push hxm hcd
        have HLP:=Hd hLP
        clear hO hB hx hxm hcell hil hk hbW hW hcc hLP hcd
        go_upto_region 6 with fail
        rw [HWW.out]
        have n0:=(at_ HNW.out 0 _ rfl).1
        have n1:=(at_ HNW.out 1 _ rfl).1
        clear c0 c1
        go_upto_region 8 with fail
        clear n0 n1
        refine wp_region_lit ?_
        refine wpList_valG (.slice A3 k c3) (by rfl) (by rfl) ?_
        simp only [Act.put,List.setIfInBounds_toArray,List.set_cons_zero,List.set_cons_succ]
        refine wpList_valG (.int .i64 (i:Int)) (by rfl) (by rfl) ?_
        simp only [Act.put,List.setIfInBounds_toArray,List.set_cons_zero,List.set_cons_succ]
        refine wpList_valG (.int .i64 (i:Int)) (by rfl) (by rfl) ?_
        simp only [Act.put,List.setIfInBounds_toArray,List.set_cons_zero,List.set_cons_succ]
        refine wpList_valG (.int .i64 ((i:Int) + 1)) (by rfl) (by go_simp) ?_
        simp only [Act.put,List.setIfInBounds_toArray,List.set_cons_zero,List.set_cons_succ]
        refine wpList_valG (.agg #[.int .i64 (i:Int),.int .i64 ((i:Int) + 1)]) (by rfl) (by go_simp) ?_
        simp only [Act.put,List.setIfInBounds_toArray,List.set_cons_zero,List.set_cons_succ]
        have hbx:=below_allocs (Below.refl W.heap.size W) (.cells #[.int .i64 (i:Int),.int .i64 ((i:Int) + 1)] 119)
        have HBX:=Hd (below_tail HBW.out hbx)
        have HOX:=Hd (owns_mod HOW.out (Mod.of_below (X:=[]) hbx) (fun _ _ h => by cases h))
        refine wpList_actG (.slice (some ⟨W.heap.size,0,none⟩) 1 1) (W.alloc (.cells #[.int .i64 (i:Int),.int .i64 ((i:Int) + 1)] 119)) (by rfl) (by go_simp) ?_
        simp only [Act.put,List.setIfInBounds_toArray,List.set_cons_zero,List.set_cons_succ]
        refine wpList_append_g (o:=⟨some 35,_,_,_,_,_⟩) rfl (.tmp 29) (.tmp 34) 117 rfl w.heap.size 119 j0 _ 2 16 Tryz.underlying117 hj gz0 gz1 gz2 rfl (by decide) (.slice A3 k c3) k (flat encIv (linesI M i)) rfl HOX.out ⟨W.heap.size,0,none⟩ 1 1 (encIv (i,i + 1)) rfl rfl (fun j u hj => by rw [add_lit',Nat.zero_add];exact (at_ (hp_new rfl) j u (by simpa [encIv] using hj)).1) (encIv_one _) (by simp only [maxLen];omega) (by omega) HBX.out.size ?_
        intro v' w7 ho hg hv'
        have HB7:=Hd (HBX.out.grown hg HBX.out.size (fun x hx => (HOX.out.lt x hx).1))
        have HO7:Hid (w7.ownsRow w.heap.size 119 2 v' (linesI M (i + 1)).length (flat encIv (linesI M (i + 1)))):=Hd (by
         rw [HLP.out,List.length_append,flat_append,HK.out]
         exact ho)
        simp only [Act.put,List.setIfInBounds_toArray,List.set_cons_zero,List.set_cons_succ]
        clear ho hg hv' hbx
        go_wp2
        go_roundw
        case rel => exact ⟨i + 1,by go_num,by omega,HO7.out,HB7.out⟩
        case measure => simp [intOf];omega
      · have hcf:r.cont = false:=by
         cases hq:r.cont with
         | false => rfl
         | true => exact absurd ⟨hq,by omega⟩ hcc
        have hcd:r.cont = false ∨ i = 0:=.inl hcf
        have hkp:=linesI_pos (L:=M) (i:=i) (by omega) (by rw [HML.out];omega)
        rw [hk] at hkp
        have hk0:0 < (k:Int):=by omega
        rw [hcf] at HWW HNW
        clear h0
        have hLP:=linesI_push hxm hcd
        have HLP:=Hd hLP
        clear hO hB hx hxm hcell hil hk hbW hW hcc hLP hcd
        go_upto_region 6 with fail
        rw [HWW.out]
        have n0:=(at_ HNW.out 0 _ rfl).1
        have n1:=(at_ HNW.out 1 _ rfl).1
        clear c0 c1
        go_upto_region 8 with fail
        clear n0 n1
        refine wp_region_lit ?_
        refine wpList_valG (.slice A3 k c3) (by rfl) (by rfl) ?_
        simp only [Act.put,List.setIfInBounds_toArray,List.set_cons_zero,List.set_cons_succ]
        refine wpList_valG (.int .i64 (i:Int)) (by rfl) (by rfl) ?_
        simp only [Act.put,List.setIfInBounds_toArray,List.set_cons_zero,List.set_cons_succ]
        refine wpList_valG (.int .i64 (i:Int)) (by rfl) (by rfl) ?_
        simp only [Act.put,List.setIfInBounds_toArray,List.set_cons_zero,List.set_cons_succ]
        refine wpList_valG (.int .i64 ((i:Int) + 1)) (by rfl) (by go_simp) ?_
        simp only [Act.put,List.setIfInBounds_toArray,List.set_cons_zero,List.set_cons_succ]
        refine wpList_valG (.agg #[.int .i64 (i:Int),.int .i64 ((i:Int) + 1)]) (by rfl) (by go_simp) ?_
        simp only [Act.put,List.setIfInBounds_toArray,List.set_cons_zero,List.set_cons_succ]
        have hbx:=below_allocs (Below.refl W.heap.size W) (.cells #[.int .i64 (i:Int),.int .i64 ((i:Int) + 1)] 119)
        have HBX:=Hd (below_tail HBW.out hbx)
        have HOX:=Hd (owns_mod HOW.out (Mod.of_below (X:=[]) hbx) (fun _ _ h => by cases h))
        refine wpList_actG (.slice (some ⟨W.heap.size,0,none⟩) 1 1) (W.alloc (.cells #[.int .i64 (i:Int),.int .i64 ((i:Int) + 1)] 119)) (by rfl) (by go_simp) ?_
        simp only [Act.put,List.setIfInBounds_toArray,List.set_cons_zero,List.set_cons_succ]
        refine wpList_append_g (o:=⟨some 35,_,_,_,_,_⟩) rfl (.tmp 29) (.tmp 34) 117 rfl w.heap.size 119 j0 _ 2 16 Tryz.underlying117 hj gz0 gz1 gz2 rfl (by decide) (.slice A3 k c3) k (flat encIv (linesI M i)) rfl HOX.out ⟨W.heap.size,0,none⟩ 1 1 (encIv (i,i + 1)) rfl rfl (fun j u hj => by rw [add_lit',Nat.zero_add];exact (at_ (hp_new rfl) j u (by simpa [encIv] using hj)).1) (encIv_one _) (by simp only [maxLen];omega) (by omega) HBX.out.size ?_
        intro v' w7 ho hg hv'
        have HB7:=Hd (HBX.out.grown hg HBX.out.size (fun x hx => (HOX.out.lt x hx).1))
        have HO7:Hid (w7.ownsRow w.heap.size 119 2 v' (linesI M (i + 1)).length (flat encIv (linesI M (i + 1)))):=Hd (by
         rw [HLP.out,List.length_append,flat_append,HK.out]
         exact ho)
        simp only [Act.put,List.setIfInBounds_toArray,List.set_cons_zero,List.set_cons_succ]
        clear ho hg hv' hbx
        go_wp2
        go_roundw
        case rel => exact ⟨i + 1,by go_num,by omega,HO7.out,HB7.out⟩
        case measure => simp [intOf];omega
theorem contP_gone (g:Pg) (y:Int) (b:Bool):(contP g y b).hist.length = g.hist.length∧(contP g y b).gone = g.gone:=by
 obtain ⟨h1,h2,-⟩:=contP_hist g y b
 exact ⟨by rw [h1],h2⟩
theorem up_one (g:Pg) (bo:Nat) (b:Col) (hr:g.room = 1) (hh:g.hist.length ≤ 1):(upP g 0 bo b).hist.length = 1∧(upP g 0 bo b).gone = (if g.hist.length = 1 then g.gone + 1 else g.gone):=by
 unfold upP
 rw [if_neg (by omega)]
 simp only []
 obtain ⟨a1,a2⟩:=contP_gone { (if (pushP (tellP g 0 ((g.hist.length:Int) + bo + 1) 1) (g.scr.getD 0 ⟨[],false⟩)).2 = true then tellP (pushP (tellP g 0 ((g.hist.length:Int) + bo + 1) 1) (g.scr.getD 0 ⟨[],false⟩)).1 2 0 1 else (pushP (tellP g 0 ((g.hist.length:Int) + bo + 1) 1) (g.scr.getD 0 ⟨[],false⟩)).1) with scr:=slideUp g.scr 0 bo (blankR g.cols b) } ((bo:Int) + 1) false
 rw [a1,a2,pushP_eq _ _ (show (tellP g 0 ((g.hist.length:Int) + bo + 1) 1).hist.length ≤ _ from by show g.hist.length ≤ g.room;omega)]
 simp only []
 show (if decide (g.hist.length = g.room) = true then _ else _:Pg).hist.length = 1∧(if decide (g.hist.length = g.room) = true then _ else _:Pg).gone = _
 by_cases h:g.hist.length = 1
 · rw [if_pos (decide_eq_true (show g.hist.length = g.room by omega)),if_pos h]
   refine ⟨?_,?_⟩
   · show (pushH g.room g.hist _).length = 1
     unfold pushH
     rw [if_neg (by omega),if_pos (by omega),List.length_append,List.length_drop,List.length_singleton]
     omega
   · show pushG g.room g.hist g.gone = _
     unfold pushG
     rw [if_pos (by omega)]
 · rw [if_neg (show ¬ decide (g.hist.length = g.room) = true from by rw [decide_eq_false (show ¬ g.hist.length = g.room by omega)];decide),if_neg h]
   refine ⟨?_,?_⟩
   · show (pushH g.room g.hist _).length = 1
     unfold pushH
     rw [if_neg (by omega),if_neg (by omega),List.length_append,List.length_singleton]
     omega
   · show pushG g.room g.hist g.gone = _
     unfold pushG
     rw [if_neg (by omega)]
def aw1:Pg:=rowP (newP 2 2 1) 0 (fun l => putL l 0 97 ⟨0,0,0,0,0⟩)
def aw2:Pg:=timesP aw1 0 1 2 (fun t bo g => upP g t bo zeroCol)
def aw3:Pg:=timesP aw2 0 1 1 (fun t bo g => upP g t bo zeroCol)
theorem aw1_ok:aw1.scr.length = 2∧aw1.hist.length = 0∧aw1.gone = 0∧aw1.room = 1∧aw1.told.length = 0:=by
 unfold aw1
 refine ⟨?_,?_,?_,?_,?_⟩
 · rw [(rowP_len _ _).1];rfl
 all_goals (unfold rowP;split <;> rfl)
theorem aw2_eq:aw2 = upP (upP aw1 0 1 zeroCol) 0 1 zeroCol:=by
 unfold aw2 timesP
 have h:=aw1_ok
 rw [if_pos (by unfold inP;rw [h.1];rfl)]
 rfl
theorem aw2_ok:aw2.scr.length = 2∧aw2.hist.length = 1∧aw2.gone = 1∧aw2.room = 1∧aw2.told.length ≤ 10:=by
 rw [aw2_eq]
 obtain ⟨h1,h2,h3,h4,h5⟩:=aw1_ok
 have c1:=calm_up zeroCol 0 1 aw1 (by omega) (by omega)
 have u1:=up_one aw1 1 zeroCol h4 (by omega)
 simp only at c1
 have c2:=calm_up zeroCol 0 1 (upP aw1 0 1 zeroCol) (by omega) (by omega)
 have u2:=up_one (upP aw1 0 1 zeroCol) 1 zeroCol (by omega) (by omega)
 simp only at c2
 rw [if_neg (by omega)] at u1
 rw [if_pos u1.1] at u2
 refine ⟨by omega,u2.1,by rw [u2.2,u1.2,h3];rfl,by omega,by omega⟩
theorem aw3_eq:aw3 = upP aw2 0 1 zeroCol:=by
 unfold aw3 timesP
 have h:=aw2_ok
 rw [if_pos (by unfold inP;rw [h.1];rfl)]
 rfl
theorem aw3_ok:aw3.scr.length = 2∧aw3.hist.length = 1∧aw3.gone = 2:=by
 rw [aw3_eq]
 obtain ⟨h1,h2,h3,h4,h5⟩:=aw2_ok
 have c1:=calm_up zeroCol 0 1 aw2 (by omega) (by omega)
 have u1:=up_one aw2 1 zeroCol h4 (by omega)
 simp only at c1
 rw [if_pos h2] at u1
 exact ⟨by omega,u1.1,by rw [u1.2,h3];rfl⟩
set_option maxHeartbeats 3200000 in
theorem awake13 (w:World):Calls Tryz.prog 7 #[] w (TruePost w):=by
 have HN:=Hd (pnew_ok 2 2 1 w (by omega) (by omega) (by omega) (by omega) (by omega))
 go_enter Tryz.func7,Tryz.ntmps7
 go_upto_region 4 with (go_at_call 23;refine HN.out.mono ?_;rintro e w1 ⟨q,rfl,hq,hb⟩;have HQ:=Hd hq;have HB:=Hd hb;clear hq hb)
 have H1:=Hd (pPut_any HQ.out 0 0 97 ⟨0,0,0,0,0⟩)
 have H2:Hid (∀ w2,PgRes w.heap.size w1 q aw1 w2→Calls Tryz.prog 25 #[.pointer (some ⟨q.P,0,none⟩),.int .i64 0,.int .i64 1,.int .i64 2,.agg #[.int .i64 0,.int .i64 0]] w2 (PgPost w.heap.size w1 q aw2)):=Hd (fun w2 hs => pg_then hs (fun q1 e h => by rw [← e];exact pUp_any h 0 1 2 zeroCol (by have:=aw1_ok;omega) (by omega) (by omega)))
 have H3:Hid (∀ w2,PgRes w.heap.size w1 q aw2 w2→Calls Tryz.prog 25 #[.pointer (some ⟨q.P,0,none⟩),.int .i64 0,.int .i64 1,.int .i64 1,.agg #[.int .i64 0,.int .i64 0]] w2 (PgPost w.heap.size w1 q aw3)):=Hd (fun w2 hs => pg_then hs (fun q1 e h => by rw [← e];exact pUp_any h 0 1 1 zeroCol (by have:=aw2_ok;omega) (by omega) (by omega)))
 have H4:Hid (∀ w2,PgRes w.heap.size w1 q aw3 w2→Calls Tryz.prog 17 #[.pointer (some ⟨q.P,0,none⟩)] w2 fun e w3 => e = .returned (.int .i64 1)∧w2 = w3):=Hd (fun w2 hs => by have:=base_then hs;rw [aw3_ok.2.1] at this;exact this)
 have H5:Hid (∀ w2,PgRes w.heap.size w1 q aw3 w2→Calls Tryz.prog 26 #[.pointer (some ⟨q.P,0,none⟩)] w2 fun e w3 => e = .returned (.int .u64 2)∧w2 = w3):=Hd (fun w2 hs => by
  obtain ⟨q1,e1,-,h1,-⟩:=hs
  have:=pGone_any h1
  rw [e1,aw3_ok.2.2] at this
  exact this)
 have H6:Hid (∀ w2,PgRes w.heap.size w1 q aw3 w2→Calls Tryz.prog 16 #[.pointer (some ⟨q.P,0,none⟩)] w2 fun e w3 => (∃ A c,e = .returned (.slice A 3 c))∧Below w2.heap.size w2 w3):=Hd (fun w2 hs => by
  obtain ⟨q1,e1,-,h1,-⟩:=hs
  have:=pAll_any h1
  rw [e1] at this
  refine this.mono ?_
  rintro e w3 ⟨v,L,rfl,hro,hmp,hb⟩
  obtain ⟨A,c,rfl⟩:=row_form hro.1
  have hl:L.length = 3:=by have:=congrArg List.length hmp;have:=aw3_ok;simp at *;omega
  exact ⟨⟨A,c,by rw [hl]⟩,hb⟩)
 have HLT:=Hd HQ.out.lt
 go_wp2_with (first
  | (go_at_call 24;(with_reducible refine H1.out.mono ?_);rintro e w2 ⟨rfl,hs⟩;have HS1:Hid (PgRes w.heap.size w1 q aw1 w2):=Hd hs;clear hs)
  | (go_at_call 25;first
      | (have hpv:=HS2.out;clear hpv;(with_reducible refine (H3.out _ HS2.out).mono ?_);rintro e w4 ⟨rfl,hs⟩;have HS3:=Hd hs;clear hs)
      | ((with_reducible refine (H2.out _ HS1.out).mono ?_);rintro e w3 ⟨rfl,hs⟩;have HS2:=Hd hs;clear hs))
  | (go_at_call 17;(with_reducible refine (H4.out _ HS3.out).mono ?_);rintro e w9 ⟨rfl,rfl⟩)
  | (go_at_call 26;(with_reducible refine (H5.out _ HS3.out).mono ?_);rintro e w9 ⟨rfl,rfl⟩)
  | (go_at_call 16;(with_reducible refine (H6.out _ HS3.out).mono ?_);rintro e w5 ⟨⟨A5,c5,rfl⟩,hb⟩;have HB5:=Hd hb;clear hb))
 go_ret
 refine ⟨rfl,?_⟩
 obtain ⟨q',-,-,-,hm,-⟩:=HS3.out
 exact (HB.out.trans (hm.below (B:=w.heap.size) (fun b hb => (HLT.out b hb).1) HB.out.size)).trans (HB5.out.mono (Nat.le_trans HB.out.size hm.size))
end Go.Proofs.YtffdblmdelgkaaaGreat
