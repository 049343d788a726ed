/- Joined by a tool of this claim out of smaller texts. Conditions: as stated. -/
import Derived.Test.YtffdblmdelgkaaaGreatRt30
import Derived.Test.YtffdblmdelgkaaaGreatRt36
set_option linter.unusedVariables false
set_option linter.unusedSimpArgs false
set_option maxRecDepth 100000
open Go.Lib renaming hid → Hd
namespace Go.Proofs.YtffdblmdelgkaaaGreat
open Go.RowKit
theorem rep_succ (t x:Nat) (l:List Nat):l ++ List.replicate (t + 1) x = (l ++ List.replicate t x) ++ [x]:=by rw [List.replicate_succ',List.append_assoc]
theorem getD_roOf {L:List Rh} {y:Nat} {r:Rh} (h:L[y]? = some r):(L.map roOf).getD y ⟨[],false⟩ = roOf r:=by rw [List.getD_eq_getElem?_getD,List.getElem?_map,h];rfl
theorem owns_int {w:World} {base g c n:Nat} {X:List Nat} (h:w.ownsRow base 3 1 (.slice (some ⟨g,0,none⟩) n c) n (flat encN X)) {y v:Nat} (hy:X[y]? = some v):w.cell? ⟨g,y,none⟩ = some (.int .i64 v):=by
 have:=(owns_hold h (i:=y * 1 + 0) (by rw [flat_at2 encN_len X y v 0 hy (by decide)];rfl)).1
 simpa using this
theorem owns_cap {w:World} {base g c n s:Nat} {e:TypeId} {X:List Value} {m:Nat} (h:w.ownsRow base e s (.slice (some ⟨g,0,none⟩) n c) m X):n ≤ c:=by
 rcases h.2 with ⟨e1,-⟩ | ⟨g',c',cur,e1,-,-,h4,-⟩
 · cases e1
 · simp only [Value.slice.injEq,Option.some.injEq,Addr.mk.injEq,and_true] at e1
   obtain ⟨rfl,rfl,rfl⟩:=e1
   exact h4
theorem map_take_snoc {α β:Type} (f:α→β) {l:List α} {i:Nat} {c:α} (h:l[i]? = some c):(l.take (i + 1)).map f = (l.take i).map f ++ [f c]:=map_take_succ f h
set_option maxHeartbeats 12800000 in
theorem rReflow_any (A:Option Addr) (L:List Rh) (ca cols:Nat) (B:Option Addr) (l:List P2) (cb:Nat) (w:World) (hl:GrAt encRh 2 w A L) (hr:∀ r ∈ L,RcAt w r) (h0:0 < L.length) (hz:L.length ≤ 10000) (hcap:L.length ≤ ca) (hN:cntL (L.map roOf) ≤ 10000)
 (hb:GrAt encP 2 w B l) (hl0:0 < l.length) (hlz:l.length ≤ 100000) (hlok:Ok2 l) (hc:2 ≤ cols) (hc2:cols ≤ 1000) :
 Calls Tryz.prog 60 #[.slice A L.length ca,.int .i64 cols,.slice B l.length cb] w (ReflowPost (reflowL cols (L.map roOf)) (l.map (rfP cols (L.map roOf))) w):=by
 obtain ⟨jp,hjp,gp0,gp1,gp2⟩:=info_parts info_poszz
 obtain ⟨jr,hjr,gr0,gr1,gr2⟩:=info_parts info_rowz
 obtain ⟨jn,hjn,gn0,gn1,gn2⟩:=info_parts info_intz
 obtain ⟨bR,oR,rfl,-⟩:=hl h0
 obtain ⟨bB,oB,rfl,-⟩:=hb hl0
 obtain ⟨M,hM⟩:∃ M,L.map roOf = M:=⟨_,rfl⟩
 have hML:M.length = L.length:=by rw [← hM,List.length_map]
 have HB0:=Hd hb
 have HOK:=Hd hlok
 have HFI:=Hd (fun w => rfits_any cols w hc hc2)
 have HLINE:Hid (∀ y w',y < L.length→Below w.heap.size w w'→Calls Tryz.prog 108 #[.slice (some ⟨bR,oR,none⟩) L.length ca,.int .i64 y] w' (fun e w'' => e = .returned (.int .i64 (lineL M y))∧w' = w'')):=Hd (fun y w' hy hb' => by
  have:=rline_any (some ⟨bR,oR,none⟩) L ca y w' (hl.below hb') hy (by omega)
  rw [hM] at this
  exact this)
 have hrow:∀ {a n:Nat} {g:List Ro} {w':World},Below w.heap.size w w'→(M.drop a).take n = g→a + n ≤ L.length→GrAt encRh 2 w' (some ⟨bR,oR + a * 2,none⟩) ((L.drop a).take n)∧(∀ r ∈ (L.drop a).take n,RcAt w' r)∧((L.drop a).take n).length = n∧((L.drop a).take n).map roOf = g:=fun {a n g w'} hbw hg han =>
  ⟨(hl.below hbw).sub a n,fun r hx => (hr r (List.mem_of_mem_drop (List.mem_of_mem_take hx))).below hbw,by rw [List.length_take,List.length_drop];omega,by rw [List.map_take,List.map_drop,hM];exact hg⟩
 have HFLOW:Hid (∀ a n c g w',Below w.heap.size w w'→(M.drop a).take n = g→a + n ≤ L.length→cntL g ≤ 10000→Calls Tryz.prog 110 #[.slice (some ⟨bR,oR + a * 2,none⟩) n c] w' (RcPost (flowL g) w')):=Hd (fun a n c g w' hbw hg han hcn => by
  obtain ⟨q1,q2,q3,q4⟩:=hrow hbw hg han
  have:=rFlow_any _ _ c w' q1 q2 (by omega) (by rw [q4];exact hcn)
  rw [q3,q4] at this
  exact this)
 have HOFF:Hid (∀ a n c g y x w',Below w.heap.size w w'→(M.drop a).take n = g→a + n ≤ L.length→0 < n→n ≤ c→(-9223372036854775808 ≤ x∧x ≤ 9223372036854775807)→Calls Tryz.prog 111 #[.slice (some ⟨bR,oR + a * 2,none⟩) n c,.agg #[.int .i64 y,.int .i64 x]] w' (fun e w'' => e = .returned (.int .i64 (offP g y x))∧Below w'.heap.size w' w'')):=Hd (fun a n c g y x w' hbw hg han hn hnc hx => by
  obtain ⟨q1,q2,q3,q4⟩:=hrow hbw hg han
  have:=roffset_any bR (oR + a * 2) _ c y x w' q1 q2 (by omega) (by omega) (by omega) hx
  rw [q3,q4] at this
  exact this)
 have HSPL:Hid (∀ A g c w',RcAt w' ⟨A,flowL g,c,false⟩→Calls Tryz.prog 109 #[.slice A (flowL g).length c,.int .i64 cols] w' (AllPost (madeG cols g) w')):=Hd (fun A g c w' h => rSplit_any A (flowL g) c cols w' h.2.2.1 h.1 h.2.1 hc hc2)
 have HCONT:Hid (∀ y w',y < L.length→Below w.heap.size w w'→w'.cell? ⟨bR,oR + y * 2 + 1,none⟩ = some (.bool (M.getD y ⟨[],false⟩).cont)):=Hd (fun y w' hy hb' => by
  obtain ⟨b',o',r,e,hx,hcell⟩:=(hl.below hb').at_ hy
  simp only [Option.some.injEq,Addr.mk.injEq,and_true] at e
  obtain ⟨rfl,rfl⟩:=e
  rw [← hM,getD_roOf hx]
  exact hcell 1 _ rfl)
 have HCG:Hid (∀ g ∈ groupsL M,cntL g ≤ 10000):=Hd (fun g hg => by
  have h1:=cnt_group hg
  rw [groupsL_flat] at h1
  rw [← hM] at h1
  omega)
 have HOL:Hid (∀ J,J ≤ (groupsL M).length→((groupsL M).take J).flatMap (madeG cols) = ((groupsL M).take J).flatMap (madeG cols)∧outN cols (groupsL M) J ≤ 20000):=Hd (fun J hJ => ⟨rfl,by
  have h1:=outN_le hc ((groupsL M).take J)
  have h2:cntL ((groupsL M).take J).flatten ≤ cntL (groupsL M).flatten:=by
   have e:(groupsL M).flatten = ((groupsL M).take J).flatten ++ ((groupsL M).drop J).flatten:=by rw [← List.flatten_append,List.take_append_drop]
   rw [e,cntL_append];omega
  rw [groupsL_flat] at h2
  have h3:=groupsL_len_le M
  rw [List.length_take] at h1
  unfold outN
  have hNM:cntL M ≤ 10000:=by rw [← hM];exact hN
  omega⟩)
 obtain ⟨m,hm⟩:∃ m,L.length = m:=⟨_,rfl⟩
 obtain ⟨n,hn⟩:∃ n,l.length = n:=⟨_,rfl⟩
 have HNL:=Hd hn
 have HMLm:Hid (M.length = m):=Hd (hML.trans hm)
 have HBN:Hid (∀ j g,(groupsL M)[j]? = some g→begN (groupsL M) j + g.length ≤ m):=Hd (fun j g hg => by
  have h1:=begN_succ hg
  have h2:=begN_le (groupsL M) (j + 1)
  rw [groupsL_flat,hML,hm] at h2
  omega)
 rw [hm] at hz hcap h0 HLINE HFLOW HOFF HCONT
 rw [hM,hm,hn]
 rw [hn] at hl0 hlz
 have HC:=Hd (And.intro hc hc2)
 clear hl hr hb hM hML hm hn hN hlok hrow
 go_enter Tryz.func60,Tryz.ntmps60
 go_wp2_with (go_at_call 107;(with_reducible refine (HFI.out _).mono ?_);rintro e w1 ⟨rfl,rfl⟩)
 go_loopw [8,9,10,11] (fun s8 s9 s10 s11 wr => ∃ (i J:Nat) (D:List Rh),s11 = .int .i64 i∧i ≤ m∧J ≤ (groupsL M).length∧i ≤ begN (groupsL M) J∧(∀ q,q < J→begN (groupsL M) q < i)∧RfO w.heap.size wr s8 s9 s10 D (spread (outN cols (groupsL M)) (groupsL M) J) (spread (fun q => outN cols (groupsL M) (q + 1)) (groupsL M) J)∧D.map roOf = ((groupsL M).take J).flatMap (madeG cols)∧Below w.heap.size w wr) (fun _ _ _ s11 _ => m - (intOf s11).toNat)
 case atStart => exact ⟨0,0,[],rfl,Nat.zero_le _,Nat.zero_le _,Nat.zero_le _,fun q hq => absurd hq (by omega),⟨⟨World.ownsRow_nil _ _ _ _,fun r hr => by cases hr⟩,World.ownsRow_nil _ _ _ _,World.ownsRow_nil _ _ _ _,fun b hb => by cases hb⟩,rfl,Below.refl _ _⟩
 case round =>
  obtain ⟨i,J,D,rfl,hi,hJ,hiJ,hqJ,hO,hDM,hB⟩:=hrel
  have HO:=Hd hO
  have HB:=Hd hB
  have HDM:=Hd hDM
  have HQJ:=Hd hqJ
  have HIJ:=Hd (And.intro hJ hiJ)
  obtain ⟨A8,c8,hv8⟩:=row_form hO.o8.1
  obtain ⟨A9,c9,hv9⟩:=row_form hO.o9
  obtain ⟨A10,c10,hv10⟩:=row_form hO.o10
  subst hv8 hv9 hv10
  have hDl:D.length = outN cols (groupsL M) J:=by have:=congrArg List.length hDM;rw [List.length_map] at this;exact this
  have hX9:=spread_len (f:=outN cols (groupsL M)) J hJ
  have hX10:=spread_len (f:=fun q => outN cols (groupsL M) (q + 1)) J hJ
  obtain ⟨d,hd⟩:∃ d,outN cols (groupsL M) J = d:=⟨_,rfl⟩
  have hdz:d ≤ 20000:=by rw [← hd];exact (HOL.out J hJ).2
  obtain ⟨e0,he0⟩:∃ e0,begN (groupsL M) J = e0:=⟨_,rfl⟩
  have HD:=Hd hd
  have HE0:=Hd he0
  rw [hX9,hX10,hDl,hd,he0]
  rw [hX9,hX10,hDl,hd,he0] at HO
  rw [hd] at hDl
  have HDL:=Hd hDl
  rw [he0] at hiJ
  clear hO hB hDM hqJ hDl hX9 hX10 hd he0
  by_cases hlt:i < m
  rotate_left
  · have hge:¬ (i:Int) < (m:Int):=by omega
    have hie:i = m:=by omega
    obtain rfl:J = (groupsL M).length:=by
     refine Nat.le_antisymm HIJ.out.1 (Nat.le_of_not_lt fun hlt2 => ?_)
     obtain ⟨g,hg⟩:∃ g,(groupsL M)[J]? = some g:=⟨_,List.getElem?_eq_getElem hlt2⟩
     have h1:=HBN.out J g hg
     have h2:0 < g.length:=List.length_pos_iff.2 (groupsL_ne M g (List.mem_of_getElem? hg))
     have:=HIJ.out.2
     omega
    have hRF:reflowL cols M = ((groupsL M).take (groupsL M).length).flatMap (madeG cols):=by rw [List.take_length];rfl
    have HRF:=Hd hRF
    have hdR:(reflowL cols M).length = d:=by rw [hRF,← HDM.out,List.length_map];exact HDL.out
    have HDR:=Hd hdR
    have hd0:0 < d:=by
     obtain ⟨j,g,hg,-,-⟩:=group_of (M:=M) (y:=0) (by rw [HMLm.out];exact h0)
     have h1:=outN_succ (cols:=cols) hg
     have h2:=madeG_pos cols g
     rw [← hdR,reflowL,← List.take_append_drop (j + 1) (groupsL M),List.flatMap_append,List.length_append,h1,List.length_append]
     omega
    have he0m:e0 = m:=by rw [← HE0.out,begN_full,groupsL_flat];exact HMLm.out
    obtain ⟨gD,cD,hvD⟩:=own_form HO.out.o8.1 (by rw [HDL.out];exact hd0)
    obtain ⟨g9,cc9,hv9⟩:=own_form HO.out.o9 (by rw [spread_len _ (Nat.le_refl _),HE0.out];omega)
    obtain ⟨g10,cc10,hv10⟩:=own_form HO.out.o10 (by rw [spread_len _ (Nat.le_refl _),HE0.out];omega)
    simp only [Value.slice.injEq] at hvD hv9 hv10
    obtain ⟨rfl,-,rfl⟩:=hvD
    obtain ⟨rfl,-,rfl⟩:=hv9
    obtain ⟨rfl,-,rfl⟩:=hv10
    have hdc:=owns_cap HO.out.o8.1
    rw [he0m] at HO ⊢
    obtain ⟨X,hX⟩:∃ X,X = spread (outN cols (groupsL M)) (groupsL M) (groupsL M).length:=⟨_,rfl⟩
    obtain ⟨Y,hY⟩:∃ Y,Y = spread (fun q => outN cols (groupsL M) (q + 1)) (groupsL M) (groupsL M).length:=⟨_,rfl⟩
    have HXA:Hid (∀ j g y,(groupsL M)[j]? = some g→begN (groupsL M) j ≤ y→y < begN (groupsL M) j + g.length→X[y]? = some (outN cols (groupsL M) j)∧Y[y]? = some (outN cols (groupsL M) (j + 1))):=Hd (fun j g y hg h1 h2 => by
     have hj:=(List.getElem?_eq_some_iff.1 hg).1
     rw [hX,hY]
     exact ⟨spread_at hg h1 h2 _ (Nat.le_refl _) hj,spread_at hg h1 h2 _ (Nat.le_refl _) hj⟩)
    have HXL:Hid (X.length = m∧Y.length = m):=Hd ⟨by rw [hX,spread_len _ (Nat.le_refl _),HE0.out,he0m],by rw [hY,spread_len _ (Nat.le_refl _),HE0.out,he0m]⟩
    rw [← hX,← hY] at HO
    have HDM2:Hid (D.map roOf = reflowL cols M):=Hd (by rw [HDM.out,hRF])
    have HDA:Hid (∀ j g,(groupsL M)[j]? = some g→((D.drop (outN cols (groupsL M) j)).take (madeG cols g).length).map roOf = madeG cols g∧outN cols (groupsL M) (j + 1) = outN cols (groupsL M) j + (madeG cols g).length∧outN cols (groupsL M) (j + 1) ≤ d):=Hd (fun j g hg => by
     have h1:=outN_succ (cols:=cols) hg
     have e1:outN cols (groupsL M) (j + 1) = outN cols (groupsL M) j + (madeG cols g).length:=by
      have e2:=congrArg List.length h1
      rw [List.length_append] at e2
      exact e2
     have e3:reflowL cols M = ((groupsL M).take j).flatMap (madeG cols) ++ (madeG cols g ++ ((groupsL M).drop (j + 1)).flatMap (madeG cols)):=by
      rw [← List.append_assoc,← h1,← List.flatMap_append,List.take_append_drop];rfl
     refine ⟨?_,e1,?_⟩
     · rw [List.map_take,List.map_drop,HDM2.out,e3]
       unfold outN
       rw [List.drop_left,List.take_left]
     · rw [e1,← HDR.out,e3,List.length_append,List.length_append]
       show _ ≤ outN cols (groupsL M) j + _
       omega)
    have HMM:=Hd (And.intro he0m hie)
    clear hRF hdR he0m hX hY hie hiJ hi hJ hlt
    go_wp2_with fail
    go_loopw [15,16] (fun s15 s16 wr => ∃ i:Nat,s16 = .int .i64 i∧i ≤ n∧RfO w.heap.size wr (.slice (some ⟨gD,0,none⟩) d c8) (.slice (some ⟨g9,0,none⟩) m c9) (.slice (some ⟨g10,0,none⟩) m c10) D X Y∧wr.ownsRow w.heap.size 57 2 s15 i (flat encP ((l.take i).map (rfP cols M)))∧Below w.heap.size w wr) (fun _ s16 _ => n - (intOf s16).toNat)
    case atStart => exact ⟨0,rfl,Nat.zero_le _,HO.out,World.ownsRow_nil _ _ _ _,HB.out⟩
    case round =>
     obtain ⟨i,rfl,hi,hO,hP,hB⟩:=hrel
     obtain ⟨A15,c15,hv15⟩:=row_form hP
     subst hv15
     have HO:=Hd hO
     have HP:=Hd hP
     have HB:=Hd hB
     clear hO hP
     by_cases hlt:i < n
     rotate_left
     · have hge:¬ (i:Int) < (n:Int):=by omega
       have hie:i = n:=by omega
       obtain ⟨g15,cc15,hv15⟩:=own_form HP.out (by omega)
       simp only [Value.slice.injEq] at hv15
       obtain ⟨rfl,-,rfl⟩:=hv15
       have HIE:=Hd hie
       clear hie hB
       go_wp2
       go_ret2
       have hOP:=HP.out
       rw [HIE.out,List.take_of_length_le (by rw [HNL.out];exact Nat.le_refl _)] at hOP
       refine ⟨_,D,g15,c15,?_,(by have:=HO.out.o8;exact this),HDM2.out,?_,HB.out⟩
       · rw [List.length_map,HNL.out,HIE.out];rfl
       · rw [List.length_map,HNL.out];exact hOP
     · have hltI:(i:Int) < (n:Int):=by omega
       have hwi:IntKind.i64.wrap ((i:Int) + 1) = (i:Int) + 1:=IntWalk.i64_in _ (by omega)
       have hil:i < l.length:=by rw [HNL.out];exact hlt
       obtain ⟨bB2,oB2,pp,hB2,hp2,hcell⟩:=(HB0.out.below hB).at_ hil
       simp only [Option.some.injEq,Addr.mk.injEq,and_true] at hB2
       obtain ⟨rfl,rfl⟩:=hB2
       have hpok:=HOK.out pp (List.mem_of_getElem? hp2)
       have HMT:=Hd (map_take_snoc (rfP cols M) hp2)
       obtain ⟨p1,p2⟩:=pp
       simp only at hpok
       have q0:=hcell 0 _ rfl
       have q1:=hcell 1 _ rfl
       simp only [Nat.add_zero] at q0 q1
       have lq0:=lt_of_cell q0
       have lq1:=lt_of_cell q1
       obtain ⟨y,hy⟩:∃ y:Nat,max 0 p1 = (y:Int):=⟨p1.toNat,by omega⟩
       have hy64:y ≤ 9223372036854775807:=by have:=hpok.1.2;omega
       have HRE:Hid ((m:Int) ≤ p1→rfP cols M (p1,p2) = ((d:Int),0)):=Hd (fun h => by
        rw [rfP_end (by rw [HMLm.out];exact h),HDR.out])
       have HRA:Hid (∀ j g,(groupsL M)[j]? = some g→begN (groupsL M) j ≤ y→y < begN (groupsL M) j + g.length→rfP cols M (p1,p2) = (((outN cols (groupsL M) j + (plP (madeG cols g) (offP g ((y - begN (groupsL M) j:Nat):Int) (if p1 < 0 then 0 else p2))).1:Nat):Int),((plP (madeG cols g) (offP g ((y - begN (groupsL M) j:Nat):Int) (if p1 < 0 then 0 else p2))).2:Int))):=Hd (fun j g hg h1 h2 => rfP_at hg hy h1 h2)
       clear hil hp2 hcell hB
       obtain ⟨vv,hvv⟩:∃ vv,rfP cols M (p1,p2) = vv:=⟨_,rfl⟩
       rw [hvv] at HMT HRE
       have HRA:=Hd (fun j g a b c => hvv.symm.trans (HRA.out j g a b c))
       clear hvv
       obtain ⟨kp,hkp⟩:∃ kp,wr.heap.size = kp:=⟨_,rfl⟩
       have HKP:=Hd hkp
       by_cases hneg:p1 < 0
       case' pos =>
        have hy0:y = 0:=by omega
        rw [if_pos hneg] at HRA
        obtain ⟨px,hpx⟩:∃ px:Int,px = 0:=⟨_,rfl⟩
        rw [← hpx] at HRA
        have HRE2:Hid (m ≤ y→vv = ((d:Int),0)):=Hd (fun h => by omega)
        have hpz:-9223372036854775808 ≤ px∧px ≤ 9223372036854775807:=by omega
        obtain ⟨W1,hW1⟩:∃ W1,wr.alloc (.cells #[.int .i64 p1,.int .i64 p2] 57) = W1:=⟨_,rfl⟩
        have hN:W1.heap[kp]? = some (.cells #[.int .i64 p1,.int .i64 p2] 57 (0,0)):=by rw [← hW1,← hkp];exact hp_new rfl
        have hb9:Below wr.heap.size wr W1:=by rw [← hW1];exact below_allocs (Below.refl _ _) _
        obtain ⟨W2,hW2⟩:∃ W2,(W1.setCell ⟨kp,0,none⟩ (.int .i64 0)).setCell ⟨kp,1,none⟩ (.int .i64 0) = W2:=⟨_,rfl⟩
        have HB2:Hid (Below wr.heap.size wr W2):=Hd (by rw [← hW2];exact below_set (below_set hb9 (by omega) (o:=0) _) (by omega) (o:=1) _)
        have HN2:Hid (W2.heap[kp]? = some (.cells #[.int .i64 (y:Int),.int .i64 px] 57 (0,0))):=Hd (by
         rw [← hW2,hy0,hpx]
         exact whole_set (cs:=[.int .i64 0,.int .i64 p2]) (whole_set (cs:=[.int .i64 p1,.int .i64 p2]) hN 0 (.int .i64 0) (cs':=[.int .i64 0,.int .i64 p2]) rfl) 1 (.int .i64 0) (cs':=[.int .i64 0,.int .i64 0]) rfl)
        have HWW1:=Hd hW1
        have HWW2:=Hd hW2
        have HN1:=Hd hN
        clear hW1 hW2 hN hb9 hkp hy hy0 hpx
        go_upto_region 25 with fail
        rw [HWW1.out,HKP.out]
        clear q0 q1 lq0 lq1
        obtain ⟨n0,n0f⟩:=at_ HN1.out 0 _ rfl
        obtain ⟨n1,n1f⟩:=at_ HN1.out 1 _ rfl
        go_upto_region 27 with fail
        rw [HWW2.out]
        clear n0 n0f n1 n1f
       case' neg =>
        have hpy:p1 = (y:Int):=by omega
        rw [if_neg hneg] at HRA
        have HRE2:Hid (m ≤ y→vv = ((d:Int),0)):=Hd (fun h => HRE.out (by omega))
        obtain ⟨px,hpx⟩:∃ px:Int,px = p2:=⟨_,rfl⟩
        rw [← hpx] at HRA
        have hpz:-9223372036854775808 ≤ px∧px ≤ 9223372036854775807:=by omega
        obtain ⟨W2,hW2⟩:∃ W2,wr.alloc (.cells #[.int .i64 p1,.int .i64 p2] 57) = W2:=⟨_,rfl⟩
        have HN2:Hid (W2.heap[kp]? = some (.cells #[.int .i64 (y:Int),.int .i64 px] 57 (0,0))):=Hd (by rw [← hW2,← hkp,← hpy,hpx];exact hp_new rfl)
        have HB2:Hid (Below wr.heap.size wr W2):=Hd (by rw [← hW2];exact below_allocs (Below.refl _ _) _)
        have HWW2:=Hd hW2
        have HN1:Hid (W2.heap[kp]? = some (.cells #[.int .i64 p1,.int .i64 p2] 57 (0,0))):=Hd (by rw [← hW2,← hkp];exact hp_new rfl)
        clear hW2 hkp hpx hy hpy
        go_upto_region 25 with fail
        rw [HWW2.out,HKP.out]
        clear q0 q1 lq0 lq1
        obtain ⟨n0,n0f⟩:=at_ HN1.out 0 _ rfl
        go_upto_region 27 with fail
        clear n0 n0f
       all_goals
        obtain ⟨n0,n0f⟩:=at_ HN2.out 0 _ rfl
        obtain ⟨n1,n1f⟩:=at_ HN2.out 1 _ rfl
        have HO2:=Hd (HO.out.below HB2.out)
        have HP2:=Hd (owns_mod HP.out (Mod.of_below (X:=[]) HB2.out) (fun _ _ h => by cases h))
        have HBW:=Hd (below_tail HB.out HB2.out)
        clear n0f n1f
        by_cases hym:m ≤ y
        · have hymI:(m:Int) ≤ (y:Int):=by omega
          have HYM:=Hd hym
          clear hym
          go_upto_region 28 with fail
          refine wp_region_lit ?_
          refine wpList_valG (.slice A15 i c15) (by rfl) (by rfl) ?_
          simp only [Act.put,List.setIfInBounds_toArray,List.set_cons_zero,List.set_cons_succ]
          refine wpList_valG (.slice (some ⟨gD,0,none⟩) d c8) (by rfl) (by rfl) ?_
          simp only [Act.put,List.setIfInBounds_toArray,List.set_cons_zero,List.set_cons_succ]
          refine wpList_valG (.int .i64 d) (by rfl) (by go_simp) ?_
          simp only [Act.put,List.setIfInBounds_toArray,List.set_cons_zero,List.set_cons_succ]
          refine wpList_valG (.agg #[.int .i64 d,.int .i64 0]) (by rfl) (by go_simp) ?_
          simp only [Act.put,List.setIfInBounds_toArray,List.set_cons_zero,List.set_cons_succ]
          have hbx:=below_allocs (Below.refl W2.heap.size W2) (.cells #[.int .i64 d,.int .i64 0] 57)
          have HOX:=Hd (HO2.out.below hbx)
          have HPX:=Hd (owns_mod HP2.out (Mod.of_below (X:=[]) hbx) (fun _ _ h => by cases h))
          have HBX:=Hd (below_tail HBW.out hbx)
          refine wpList_actG (.slice (some ⟨W2.heap.size,0,none⟩) 1 1) (W2.alloc (.cells #[.int .i64 d,.int .i64 0] 57)) (by rfl) (by go_simp) ?_
          simp only [Act.put,List.setIfInBounds_toArray,List.set_cons_zero,List.set_cons_succ]
          refine wpList_append_g (o:=⟨some 106,_,_,_,_,_⟩) rfl (.tmp 101) (.tmp 105) 58 rfl w.heap.size 57 jp _ 2 16 Tryz.underlying58 hjp gp0 gp1 gp2 rfl (by decide) (.slice A15 i c15) i (flat encP ((l.take i).map (rfP cols M))) rfl HPX.out ⟨W2.heap.size,0,none⟩ 1 1 (encP ((d:Int),0)) rfl rfl (fun j u hj => by rw [add_lit',Nat.zero_add];exact (at_ (hp_new rfl) j u (by simpa [encP] using hj)).1) (encP_one _) (by simp only [maxLen];omega) (by omega) HBX.out.size ?_
          intro v' w7 ho hg' hv'
          have HO7:=Hd (HOX.out.keep HPX.out hg')
          have HP7:Hid (w7.ownsRow w.heap.size 57 2 v' (i + 1) (flat encP ((l.take (i + 1)).map (rfP cols M)))):=Hd (by
           rw [HMT.out,HRE2.out HYM.out,flat_append]
           have e:flat encP [((d:Int),(0:Int))] = encP ((d:Int),0):=by simp [flat]
           rw [e];exact ho)
          have HB7:=Hd (HBX.out.grown hg' HBX.out.size (fun x hx => (HPX.out.lt x hx).1))
          simp only [Act.put,List.setIfInBounds_toArray,List.set_cons_zero,List.set_cons_succ]
          clear ho hg' hv' hbx
          go_wp2
          go_roundw
          case rel => exact ⟨i + 1,by go_num,by omega,HO7.out,HP7.out,HB7.out⟩
          case measure => simp [intOf];omega
        · have hymI:¬ (m:Int) ≤ (y:Int):=by omega
          have hylt:y < m:=by omega
          obtain ⟨j,g,hg,hg1,hg2⟩:=group_of (M:=M) (y:=y) (by rw [HMLm.out];exact hylt)
          have HG:=Hd hg
          have hR:=HRA.out j g hg hg1 hg2
          have hll:lineL M y = begN (groupsL M) j:=by
           have:=lineL_at hg (y - begN (groupsL M) j) (by omega)
           rwa [show begN (groupsL M) j + (y - begN (groupsL M) j) = y by omega] at this
          have HLi:=Hd (HLINE.out y W2 hylt HBW.out)
          rw [hll] at HLi
          obtain ⟨hXa,hYa⟩:=HXA.out j g y hg hg1 hg2
          obtain ⟨hda,hdb,hdd⟩:=HDA.out j g hg
          have HIN:Hid (∀ t,y < t→t < begN (groupsL M) j + g.length→(M.getD t ⟨[],false⟩).cont = true):=Hd (fun t h1 h2 => line_in hg (by omega) h2)
          have HEND:Hid (begN (groupsL M) j + g.length < m→(M.getD (begN (groupsL M) j + g.length) ⟨[],false⟩).cont = false):=Hd (fun h => line_end hg (by rw [HMLm.out];exact h))
          have hgm:=HBN.out j g hg
          have hgrp:=group_at hg
          rw [groupsL_flat] at hgrp
          obtain ⟨b0,hb0⟩:∃ b0,begN (groupsL M) j = b0:=⟨_,rfl⟩
          obtain ⟨z,hz1⟩:∃ z,g.length = z:=⟨_,rfl⟩
          obtain ⟨a,ha⟩:∃ a,outN cols (groupsL M) j = a:=⟨_,rfl⟩
          obtain ⟨dz,hdz⟩:∃ dz,(madeG cols g).length = dz:=⟨_,rfl⟩
          rw [hb0,hz1] at hgm HIN HEND
          rw [hb0] at HLi hg1 hR
          rw [hb0,hz1] at hg2 hgrp
          rw [ha] at hR hXa hda hdb
          rw [hdz] at hda hdb
          obtain ⟨ae,hae⟩:∃ ae,a + dz = ae:=⟨_,rfl⟩
          rw [hdb,hae] at hYa hdd
          have hdz0:0 < dz:=by rw [← hdz];exact madeG_pos cols g
          obtain ⟨t0,ht0⟩:∃ t0:Nat,t0 = y - b0:=⟨_,rfl⟩
          rw [← ht0] at hR
          have hOz:=offP_le g (t0:Int) px
          have hgc:=HCG.out g (List.mem_of_getElem? hg)
          obtain ⟨o,ho0⟩:∃ o,offP g (t0:Int) px = o:=⟨_,rfl⟩
          rw [ho0] at hR hOz
          obtain ⟨r1,hr1⟩:∃ r1,(plP (madeG cols g) o).1 = r1:=⟨_,rfl⟩
          obtain ⟨r2,hr2⟩:∃ r2,(plP (madeG cols g) o).2 = r2:=⟨_,rfl⟩
          rw [hr1,hr2] at hR
          have HRR:=Hd hR
          have hr1z:r1 ≤ dz:=by rw [← hr1,← hdz];exact plP_fst_le _ _
          have HOF:Hid (∀ w',Below w.heap.size w w'→Calls Tryz.prog 111 #[.slice (some ⟨bR,oR + b0 * 2,none⟩) z (ca - b0),.agg #[.int .i64 (t0:Int),.int .i64 px]] w' (fun e w'' => e = .returned (.int .i64 (o:Int))∧Below w'.heap.size w' w'')):=Hd (fun w' hb => by
           have:=HOFF.out b0 z (ca - b0) g (t0:Int) px w' hb hgrp (by omega) (by omega) (by omega) hpz
           rw [ho0] at this
           exact this)
          have HPLC:Hid (∀ w',RfO w.heap.size w' (.slice (some ⟨gD,0,none⟩) d c8) (.slice (some ⟨g9,0,none⟩) m c9) (.slice (some ⟨g10,0,none⟩) m c10) D X Y→Calls Tryz.prog 112 #[.slice (some ⟨gD,a * 2,none⟩) dz (c8 - a),.int .i64 (o:Int)] w' (fun e w'' => e = .returned (.agg #[.int .i64 (r1:Int),.int .i64 (r2:Int)])∧Below w'.heap.size w' w'')):=Hd (fun w' h => by
           have h8:=(gr_own encRh_len h.o8.1).sub a dz
           have hlen:((D.drop a).take dz).length = dz:=by rw [List.length_take,List.length_drop,HDL.out];omega
           have:=rplace_any gD (0 + a * 2) ((D.drop a).take dz) (c8 - a) o w' h8 (fun r hr => (h.o8.2 r (List.mem_of_mem_drop (List.mem_of_mem_take hr))).1) (by omega) (by omega) (by omega) (by omega)
           rw [hlen,hda,hr1,hr2,Nat.zero_add] at this
           exact this)
          have HX9:=Hd hXa
          have HY10:=Hd hYa
          have hdy:(y:Int) - (b0:Int) = (t0:Int):=by omega
          have hwt:IntKind.i64.wrap (t0:Int) = (t0:Int):=IntWalk.i64_in _ (by omega)
          have hwy:IntKind.i64.wrap ((y:Int) + 1) = (y:Int) + 1:=IntWalk.i64_in _ (by omega)
          have hwa:IntKind.i64.wrap ((a:Int) + (r1:Int)) = (a:Int) + (r1:Int):=IntWalk.i64_in _ (by omega)
          have habd:ae - a = dz:=by omega
          have hcab:¬ ca = b0:=by omega
          have hc8a:¬ c8 = a:=by omega
          have hadc:ae ≤ c8:=by omega
          have hada:a ≤ ae:=by omega
          have hylI:(y:Int) < (m:Int):=by omega
          clear hym hg hll hXa hYa hda hdb hgrp hb0 hz1 ha hdz ho0 hr1 hr2 hR hgc ht0 hae hdd
          go_wp2_with (go_at_call 108;(with_reducible refine HLi.out.mono ?_);rintro e w1 ⟨rfl,rfl⟩)
          go_loopw [19] (fun s19 wr => ∃ k:Nat,s19 = .int .i64 k∧y < k∧k ≤ b0 + z∧wr = W2) (fun s19 _ => m - (intOf s19).toNat)
          case atStart => exact ⟨y + 1,by go_num,by omega,by omega,rfl⟩
          case round =>
           obtain ⟨k,rfl,hk1,hk2,rfl⟩:=hrel
           have hwk:IntKind.i64.wrap ((k:Int) + 1) = (k:Int) + 1:=IntWalk.i64_in _ (by omega)
           by_cases hke:k < b0 + z
           · have hkI:(k:Int) < (m:Int):=by omega
             have c1:=HCONT.out k wr (by omega) HBW.out
             rw [HIN.out k hk1 hke] at c1
             go_wp2
             go_roundw
             case rel => exact ⟨k + 1,by go_num,by omega,by omega,trivial⟩
             case measure => simp [intOf];omega
           · obtain ⟨k',hk'⟩:∃ k',k' = b0 + z:=⟨_,rfl⟩
             obtain rfl:k = k':=by omega
             have HK:=Hd hk'
             have hki:k - b0 = z:=by omega
             have hik:b0 ≤ k:=by omega
             have hkca:k ≤ ca:=by omega
             have hkmz:k ≤ m:=by omega
             clear hke hk1 hk2 hk'
             by_cases hkm:k < m
             case' pos =>
              have hkI:(k:Int) < (m:Int):=by omega
              have c1:=HCONT.out k wr hkm HBW.out
              rw [HK.out,HEND.out (by rw [← HK.out];exact hkm),← HK.out] at c1
             case' neg =>
              have hkI:¬ (k:Int) < (m:Int):=by omega
             all_goals
              go_upto_region 33 with fail
              (try clear c1)
              refine wp_region_u 12 (fun w' => Below wr.heap.size wr w'∧w'.cell? ⟨kp,0,none⟩ = some (.int .i64 (y:Int))∧w'.cell? ⟨kp,1,none⟩ = some (.int .i64 px)) (by kernel_rfl) (by kernel_rfl) ?_ ?_
              · exact ⟨(Below.refl _ _).drew,n0,n1⟩
              simp only [List.take_succ_cons,List.take_zero,List.drop_succ_cons,List.drop_zero]
              repeat (
               (first
                | refine seqU_skip (by rfl) ?_
                | ((refine seqU_call 111 #[.slice (some ⟨bR,oR + b0 * 2,none⟩) z (ca - b0),.agg #[.int .i64 (t0:Int),.int .i64 px]] (.int .i64 (o:Int)) (by rfl) ?_ (fun w' hS => (HOF.out w' (below_tail HBW.out hS.1)).mono fun e w2 ⟨he,hb⟩ => ⟨he,below_tail hS.1 hb,holda hb hS.2.1,holda hb hS.2.2⟩) ?_;(focus (intro w2;go_simp;done))))
                | (refine seqU_val ?_ (by rfl) ?_ ?_;rotate_left;(focus (intro w' hS;obtain ⟨_,_,_⟩:=hS;go_simp;first | done | with_reducible rfl))))
               simp only [Act.put,List.setIfInBounds_toArray,List.set_cons_zero,List.set_cons_succ])
              refine seqU_nil (fun w' hS => ?_)
              obtain ⟨hs1,hs2,hs3⟩:=hS
              have HB3:=Hd hs1
              have HN3:=Hd ((hs1.block kp (lt_of_heap HN2.out)).trans HN2.out)
              clear hs1 hs2 hs3 n0 n1
              have HO3:=Hd (HO2.out.below HB3.out)
              have HP3:=Hd (owns_mod HP2.out (Mod.of_below (X:=[]) HB3.out) (fun _ _ h => by cases h))
              have HBX3:=Hd (below_tail HBW.out HB3.out)
              go_upto_region 34 with fail
              have m0:=(at_ HN3.out 0 _ rfl).1
              have b9:=owns_int (n:=m) (c:=c9) (by have:=HO3.out.o9;rw [HXL.out.1] at this;exact this) HX9.out
              have b10:=owns_int (n:=m) (c:=c10) (by have:=HO3.out.o10;rw [HXL.out.2] at this;exact this) HY10.out
              refine wp_region_n 15 (fun wq => Below w'.heap.size w' wq∧wq.cell? ⟨kp,0,none⟩ = some (.int .i64 (y:Int))∧wq.cell? ⟨g9,y,none⟩ = some (.int .i64 (a:Int))∧wq.cell? ⟨g10,y,none⟩ = some (.int .i64 (ae:Int))) (by kernel_rfl) (by kernel_rfl) (fun w1 w2 hS hb => ⟨below_tail hS.1 hb,holda hb hS.2.1,holda hb hS.2.2.1,holda hb hS.2.2.2⟩) ⟨(Below.refl _ _).drew,m0,b9,b10⟩ ?_
              refine AtN.go 0 ?_
              iterate 13 (refine AtC.take (o:=⟨_,_,_,_,_,_⟩) (v:=?_) (by kernel_rfl) rfl (by simp) (by kernel_rfl) (by kernel_rfl) ?_ ?_;rotate_left;(focus (first | exact StabN.skip (by rfl) | (refine StabN.val (by rfl) ?_;intro w' hS;obtain ⟨_,_,_,_⟩:=hS;go_simp;first | done | with_reducible rfl)));simp only [Act.put,List.setIfInBounds_toArray,List.set_cons_zero,List.set_cons_succ])
              refine AtC.back ?_
              refine AtN.take 13 (o:=⟨_,_,_,_,_,_⟩) (v:=.agg #[.int .i64 (r1:Int),.int .i64 (r2:Int)]) (by kernel_rfl) rfl (by simp) (by kernel_rfl) (by kernel_rfl) (StabN.call1 112 #[.slice (some ⟨gD,a * 2,none⟩) dz (c8 - a),.int .i64 (o:Int)] (.agg #[.int .i64 (r1:Int),.int .i64 (r2:Int)]) (by rfl) (by intro w';go_simp;done) (fun w' hS => HPLC.out w' (HO3.out.below hS.1))) ?_
              simp only [Act.put,List.setIfInBounds_toArray,List.set_cons_zero,List.set_cons_succ]
              refine AtN.one 14 (o:=⟨_,_,_,_,_,_⟩) (fun v => ∃ kq,v = .pointer (some ⟨kq,0,none⟩)) (fun v wq => ∃ kq,v = .pointer (some ⟨kq,0,none⟩)∧w'.heap.size ≤ kq∧wq.heap[kq]? = some (.cells #[.int .i64 0,.int .i64 0] 57 (0,0))) (by simp) (by kernel_rfl) rfl (fun v w1 w2 ⟨kq,hv,hk0,hk⟩ hb => ⟨kq,hv,hk0,(hb.block kq (lt_of_heap hk)).trans hk⟩) (StabN.new _ _ (by rfl) (fun wq hS => ?_)) ?_
              · exact ⟨.pointer (some ⟨wq.heap.size,0,none⟩),wq.alloc (.cells #[.int .i64 0,.int .i64 0] 57),by go_simp,⟨_,rfl⟩,⟨_,rfl,hS.1.size,hp_new rfl⟩,below_allocs (Below.refl _ _) _⟩
              rintro v ⟨kq,rfl⟩
              simp only [Act.put,List.setIfInBounds_toArray,List.set_cons_zero,List.set_cons_succ]
              refine AtN.done (by kernel_rfl) (fun w4 hS => ?_)
              obtain ⟨⟨hb4,-,-,-⟩,kq',hvq,hq0,hq⟩:=hS
              simp only [Value.pointer.injEq,Option.some.injEq,Addr.mk.injEq,and_true] at hvq
              subst hvq
              obtain ⟨W5,hW5⟩:∃ W5,(w4.setCell ⟨kq,0,none⟩ (.int .i64 (r1:Int))).setCell ⟨kq,1,none⟩ (.int .i64 (r2:Int)) = W5:=⟨_,rfl⟩
              have HB5:Hid (Below w'.heap.size w' W5):=Hd (by rw [← hW5];exact below_set (below_set hb4 hq0 (o:=0) _) hq0 (o:=1) _)
              have HN5:Hid (W5.heap[kq]? = some (.cells #[.int .i64 (r1:Int),.int .i64 (r2:Int)] 57 (0,0))):=Hd (by
               rw [← hW5]
               exact whole_set (cs:=[.int .i64 (r1:Int),.int .i64 0]) (whole_set (cs:=[.int .i64 0,.int .i64 0]) hq 0 (.int .i64 (r1:Int)) (cs':=[.int .i64 (r1:Int),.int .i64 0]) rfl) 1 (.int .i64 (r2:Int)) (cs':=[.int .i64 (r1:Int),.int .i64 (r2:Int)]) rfl)
              have HW5:=Hd hW5
              obtain ⟨x0,x0f⟩:=at_ hq 0 _ rfl
              obtain ⟨x1,x1f⟩:=at_ hq 1 _ rfl
              clear hW5 hb4 hq hq0 m0 b9 b10
              simp only [List.drop_succ_cons,List.drop_zero]
              go_upto_region 35 with fail
              rw [HW5.out]
              clear x0 x0f x1 x1f
              have HN6:=Hd ((HB5.out.block kp (lt_of_heap HN3.out)).trans HN3.out)
              have HO6:=Hd (HO3.out.below HB5.out)
              have HP6:=Hd (owns_mod HP3.out (Mod.of_below (X:=[]) HB5.out) (fun _ _ h => by cases h))
              have HBX6:=Hd (below_tail HBX3.out HB5.out)
              have m0:=(at_ HN6.out 0 _ rfl).1
              have x0:=(at_ HN5.out 0 _ rfl).1
              have x1:=(at_ HN5.out 1 _ rfl).1
              have b9:=owns_int (n:=m) (c:=c9) (by have:=HO6.out.o9;rw [HXL.out.1] at this;exact this) HX9.out
              refine wp_region_n 13 (fun wq => Below W5.heap.size W5 wq∧wq.cell? ⟨kp,0,none⟩ = some (.int .i64 (y:Int))∧wq.cell? ⟨g9,y,none⟩ = some (.int .i64 (a:Int))∧wq.cell? ⟨kq,0,none⟩ = some (.int .i64 (r1:Int))∧wq.cell? ⟨kq,1,none⟩ = some (.int .i64 (r2:Int))) (by kernel_rfl) (by kernel_rfl) (fun w1 w2 hS hb => ⟨below_tail hS.1 hb,holda hb hS.2.1,holda hb hS.2.2.1,holda hb hS.2.2.2.1,holda hb hS.2.2.2.2⟩) ⟨(Below.refl _ _).drew,m0,b9,x0,x1⟩ ?_
              refine AtN.go 0 ?_
              iterate 12 (refine AtC.take (o:=⟨_,_,_,_,_,_⟩) (v:=?_) (by kernel_rfl) rfl (by simp) (by kernel_rfl) (by kernel_rfl) ?_ ?_;rotate_left;(focus (first | exact StabN.skip (by rfl) | (refine StabN.val (by rfl) ?_;intro w' hS;obtain ⟨_,_,_,_,_⟩:=hS;go_simp;first | done | with_reducible rfl)));simp only [Act.put,List.setIfInBounds_toArray,List.set_cons_zero,List.set_cons_succ])
              refine AtC.back ?_
              refine AtN.one 12 (o:=⟨_,_,_,_,_,_⟩) (fun v => ∃ kb,v = .slice (some ⟨kb,0,none⟩) 1 1) (fun v wq => ∃ kb,v = .slice (some ⟨kb,0,none⟩) 1 1∧wq.heap[kb]? = some (.cells #[.int .i64 ((a:Int) + (r1:Int)),.int .i64 (r2:Int)] 57 (0,0))) (by simp) (by kernel_rfl) rfl (fun v w1 w2 ⟨kb,hv,hk⟩ hb => ⟨kb,hv,(hb.block kb (lt_of_heap hk)).trans hk⟩) (StabN.new _ _ (by rfl) (fun wq hS => ?_)) ?_
              · exact ⟨.slice (some ⟨wq.heap.size,0,none⟩) 1 1,wq.alloc (.cells #[.int .i64 ((a:Int) + (r1:Int)),.int .i64 (r2:Int)] 57),by go_simp,⟨_,rfl⟩,⟨_,rfl,hp_new rfl⟩,below_allocs (Below.refl _ _) _⟩
              rintro v ⟨kb,rfl⟩
              simp only [Act.put,List.setIfInBounds_toArray,List.set_cons_zero,List.set_cons_succ]
              refine AtN.done (by kernel_rfl) (fun w6 hS => ?_)
              obtain ⟨⟨hb6,-⟩,kb',hvb,hkb⟩:=hS
              simp only [Value.slice.injEq,Option.some.injEq,Addr.mk.injEq,and_true] at hvb
              subst hvb
              have HO7:=Hd (HO6.out.below hb6)
              have HP7:=Hd (owns_mod HP6.out (Mod.of_below (X:=[]) hb6) (fun _ _ h => by cases h))
              have HBX7:=Hd (below_tail HBX6.out hb6)
              have HKB:=Hd hkb
              clear hb6 hkb m0 x0 x1 b9
              simp only [List.drop_succ_cons,List.drop_zero]
              refine wpList_append_g (o:=⟨some 166,_,_,_,_,_⟩) rfl (.tmp 153) (.tmp 165) 58 rfl w.heap.size 57 jp _ 2 16 Tryz.underlying58 hjp gp0 gp1 gp2 rfl (by decide) (.slice A15 i c15) i (flat encP ((l.take i).map (rfP cols M))) rfl HP7.out ⟨kb,0,none⟩ 1 1 (encP (((a + r1:Nat):Int),(r2:Int))) rfl rfl (fun j u hj => by rw [add_lit',Nat.zero_add];exact (at_ HKB.out j u (by simpa [encP] using hj)).1) (encP_one _) (by simp only [maxLen];omega) (by omega) HBX7.out.size ?_
              intro v' w7 ho hg' hv'
              have HO8:=Hd (HO7.out.keep HP7.out hg')
              have HP8:Hid (w7.ownsRow w.heap.size 57 2 v' (i + 1) (flat encP ((l.take (i + 1)).map (rfP cols M)))):=Hd (by
               rw [HMT.out,HRR.out,flat_append]
               have e:flat encP [(((a + r1:Nat):Int),(r2:Int))] = encP (((a + r1:Nat):Int),(r2:Int)):=by simp [flat]
               rw [e];exact ho)
              have HB8:=Hd (HBX7.out.grown hg' HBX7.out.size (fun x hx => (HP7.out.lt x hx).1))
              simp only [Act.put,List.setIfInBounds_toArray,List.set_cons_zero,List.set_cons_succ]
              clear ho hg' hv'
              go_wp2
              go_roundw
              case rel => exact ⟨i + 1,by go_num,by omega,HO8.out,HP8.out,HB8.out⟩
              case measure => simp [intOf];omega
  · have hltI:(i:Int) < (m:Int):=by omega
    have hwi:IntKind.i64.wrap ((i:Int) + 1) = (i:Int) + 1:=IntWalk.i64_in _ (by omega)
    have HLi:=Hd (HLINE.out i wr hlt HB.out)
    by_cases hst:i = e0
    rotate_left
    · -- within a line
      obtain ⟨J1,rfl⟩:∃ J1,J = J1 + 1:=⟨J - 1,by
       have:J ≠ 0:=fun h => by have:=HE0.out;rw [h,begN_zero] at this;omega
       omega⟩
      obtain ⟨g,hg⟩:∃ g,(groupsL M)[J1]? = some g:=⟨_,List.getElem?_eq_getElem hJ⟩
      have e1:=begN_succ hg
      have e2:=HQJ.out J1 (by omega)
      have hll:lineL M i = begN (groupsL M) J1:=by
       have:=lineL_at hg (i - begN (groupsL M) J1) (by have:=HE0.out;omega)
       rwa [show begN (groupsL M) J1 + (i - begN (groupsL M) J1) = i by omega] at this
      obtain ⟨ll,hll2⟩:∃ ll,lineL M i = ll:=⟨_,rfl⟩
      rw [hll2] at HLi
      have hne:((ll:Int) == (i:Int)) = false:=beq_eq_false_iff_ne.2 (by omega)
      have HRL:Hid (i + 1 ≤ e0∧∀ q,q < J1 + 1→begN (groupsL M) q < i + 1):=Hd ⟨by omega,fun q hq => by have:=HQJ.out q hq;omega⟩
      clear hg e1 e2 hll hll2 hst hiJ
      go_wp2_with (go_at_call 108;(with_reducible refine HLi.out.mono ?_);rintro e w1 ⟨rfl,rfl⟩)
      go_roundw
      case rel => exact ⟨i + 1,J1 + 1,D,by go_num,by omega,HIJ.out.1,by rw [HE0.out];exact HRL.out.1,HRL.out.2,HO.out,HDM.out,HB.out⟩
      case measure => simp [intOf];omega
    · -- a line begins
      have HST:=Hd hst
      have hJ2:J < (groupsL M).length:=by
       refine Nat.lt_of_not_le fun hle => ?_
       have h1:begN (groupsL M) J = M.length:=by
        have h2:J = (groupsL M).length:=by omega
        rw [h2,begN_full,groupsL_flat]
       have:=HE0.out
       have:=HMLm.out
       omega
      obtain ⟨g,hg⟩:∃ g,(groupsL M)[J]? = some g:=⟨_,List.getElem?_eq_getElem hJ2⟩
      have HG:=Hd hg
      have hgl:0 < g.length:=List.length_pos_iff.2 (groupsL_ne M g (List.mem_of_getElem? hg))
      have hgm:=HBN.out J g hg
      rw [HE0.out] at hgm
      obtain ⟨z,hz1⟩:∃ z,z = g.length:=⟨_,rfl⟩
      have HZ:=Hd hz1
      rw [← hz1] at hgl hgm
      have hll:lineL M i = i:=by
       have:=lineL_at hg 0 (by omega)
       rw [Nat.add_zero,HE0.out,← hst] at this
       exact this
      rw [hll] at HLi
      have HIN:Hid (∀ y,i < y→y < i + z→(M.getD y ⟨[],false⟩).cont = true):=Hd (fun y h1 h2 => line_in hg (by rw [HE0.out];omega) (by rw [HE0.out];omega))
      have HEND:Hid (i + z < m→(M.getD (i + z) ⟨[],false⟩).cont = false):=Hd (fun h => by
       have:=line_end hg (by rw [HE0.out,HMLm.out];omega)
       rw [HE0.out,← hst,← hz1] at this
       exact this)
      have hne:((i:Int) == (i:Int)) = true:=beq_iff_eq.2 rfl
      have hgm2:i + z ≤ m:=by omega
      have hgrp:(M.drop i).take z = g:=by
       have:=group_at hg
       rw [groupsL_flat,HE0.out,← hst,← hz1] at this
       exact this
      have HFL:=Hd (fun w' hb => HFLOW.out i z (ca - i) g w' hb hgrp hgm2 (HCG.out g (List.mem_of_getElem? hg)))
      clear hg hz1 hll hst hgrp hgm hiJ hJ2
      go_wp2_with (go_at_call 108;(with_reducible refine HLi.out.mono ?_);rintro e w1 ⟨rfl,rfl⟩)
      obtain ⟨W,hW⟩:∃ W,W = wr:=⟨_,rfl⟩
      subst hW
      go_loopw [12] (fun s12 wr => ∃ k:Nat,s12 = .int .i64 k∧i < k∧k ≤ i + z∧wr = W) (fun s12 _ => m - (intOf s12).toNat)
      case atStart => exact ⟨i + 1,by go_num,by omega,by omega,rfl⟩
      case round =>
       obtain ⟨k,rfl,hk1,hk2,rfl⟩:=hrel
       have hwk:IntKind.i64.wrap ((k:Int) + 1) = (k:Int) + 1:=IntWalk.i64_in _ (by omega)
       by_cases hke:k < i + z
       · have hkI:(k:Int) < (m:Int):=by omega
         have c1:=HCONT.out k wr (by omega) HB.out
         rw [HIN.out k hk1 hke] at c1
         go_wp2
         go_roundw
         case rel => exact ⟨k + 1,by go_num,by omega,by omega,trivial⟩
         case measure => simp [intOf];omega
       · obtain ⟨k',hk'⟩:∃ k',k' = i + z:=⟨_,rfl⟩
         obtain rfl:k = k':=by omega
         have HK:=Hd hk'
         have hki:k - i = z:=by omega
         have hik:i ≤ k:=by omega
         have hkca:k ≤ ca:=by omega
         have hkmz:k ≤ m:=by omega
         clear hke hk1 hk2 hk' hgm2
         by_cases hkm:k < m
         case' pos =>
          have hkI:(k:Int) < (m:Int):=by omega
          have c1:=HCONT.out k wr hkm HB.out
          rw [HK.out,HEND.out (by rw [← HK.out];exact hkm),← HK.out] at c1
         case' neg =>
          have hkI:¬ (k:Int) < (m:Int):=by omega
         all_goals
          have HK2:=Hd (And.intro hki hik)
          go_upto_region 14 with (first
           | (go_at_call 110;(with_reducible refine (HFL.out _ HB.out).mono ?_);rintro e w3 ⟨A3,c3,rfl,hc3,hr3,hb3⟩;have HR3:=Hd hr3;have HB3:=Hd hb3;clear hr3 hb3)
           | (go_at_call 109;(with_reducible refine (HSPL.out _ _ _ _ HR3.out).mono ?_);rintro e w4 ⟨vM,R,rfl,hr4,hm4,hb4⟩;obtain ⟨gM,cM,hvM⟩:=own_form hr4.1 (by have:=congrArg List.length hm4;rw [List.length_map] at this;rw [this];exact madeG_pos cols g);subst hvM;have HR4:=Hd hr4;have HM4:=Hd hm4;have HB4:=Hd hb4;clear hr4 hm4 hb4))
          obtain ⟨dR,hdR⟩:∃ dR,R.length = dR:=⟨_,rfl⟩
          have hdM:dR = (madeG cols g).length:=by rw [← hdR,← HM4.out,List.length_map]
          have hdRz:dR ≤ 10001:=by rw [hdM];have:=madeG_len HC.out.1 g;have:=HCG.out g (List.mem_of_getElem? HG.out);omega
          have HOS:Hid (outN cols (groupsL M) (J + 1) = d + dR):=Hd (by
           have e:=outN_succ (cols:=cols) HG.out
           have e2:=congrArg List.length e
           rw [List.length_append] at e2
           show (List.flatMap (madeG cols) ((groupsL M).take (J + 1))).length = _
           rw [e2,← hdM,← HD.out];rfl)
          have HDR:=Hd hdR
          have HB5:=Hd (below_tail HB.out HB3.out)
          have HB6:=Hd (below_tail HB5.out HB4.out)
          have HO6:=Hd ((HO.out.below HB3.out).below HB4.out)
          obtain ⟨X,hX⟩:∃ X,X = spread (outN cols (groupsL M)) (groupsL M) J:=⟨_,rfl⟩
          obtain ⟨Y,hY⟩:∃ Y,Y = spread (fun q => outN cols (groupsL M) (q + 1)) (groupsL M) J:=⟨_,rfl⟩
          have hXl:X.length = i:=by rw [hX,spread_len J HIJ.out.1,HE0.out];exact HST.out.symm
          have hYl:Y.length = i:=by rw [hY,spread_len J HIJ.out.1,HE0.out];exact HST.out.symm
          rw [← hX,← hY] at HO6
          have HX:=Hd (And.intro hX hXl)
          have HY:=Hd (And.intro hY hYl)
          rw [hdR]
          rw [hdR] at HR4
          have hsd:IntKind.i64.wrap ((d:Int) + (dR:Int)) = (d:Int) + (dR:Int):=IntWalk.i64_in _ (by omega)
          clear hdR hdM hX hY hXl hYl hki
          go_wp2_with fail
          go_loopw [9,10,14] (fun s9 s10 s14 wr => ∃ (q t:Nat),s14 = .int .i64 q∧q = i + t∧t ≤ z∧RfO w.heap.size wr (.slice A8 d c8) s9 s10 D (X ++ List.replicate t d) (Y ++ List.replicate t (d + dR))∧RowsO w3.heap.size wr (.slice (some ⟨gM,0,none⟩) dR cM) R∧Below w.heap.size w wr) (fun _ _ s14 _ => k - (intOf s14).toNat)
          case atStart => exact ⟨i,0,rfl,rfl,Nat.zero_le _,by simpa using HO6.out,HR4.out,HB6.out⟩
          case round =>
           obtain ⟨q,t,rfl,hq,ht,hO7,hR7,hB7⟩:=hrel
           have hX7:(X ++ List.replicate t d).length = q:=by rw [List.length_append,List.length_replicate,HX.out.2];exact hq.symm
           have hY7:(Y ++ List.replicate t (d + dR)).length = q:=by rw [List.length_append,List.length_replicate,HY.out.2];exact hq.symm
           obtain ⟨A9,c9,hv9⟩:=row_form hO7.o9
           obtain ⟨A10,c10,hv10⟩:=row_form hO7.o10
           subst hv9 hv10
           rw [hX7,hY7] at hO7 ⊢
           have HO7:=Hd hO7
           have HR7:=Hd hR7
           have HB7:=Hd hB7
           have HX7:=Hd hX7
           have HY7:=Hd hY7
           have HQ:=Hd hq
           clear hO7 hR7 hB7 hX7 hY7 hq
           have hwq:IntKind.i64.wrap ((q:Int) + 1) = (q:Int) + 1:=IntWalk.i64_in _ (by have:=HQ.out;have:=HK2.out;omega)
           have hqz:q ≤ 20000:=by have:=HQ.out;have:=HK2.out;omega
           by_cases htz:t < z
           rotate_left
           · have hge:¬ (q:Int) < (k:Int):=by have:=HQ.out;have:=HK2.out;omega
             have HTZ:=Hd (show t = z by omega)
             clear htz ht
             go_upto_region 19 with fail
             refine wp_region_lit ?_
             refine wpList_valG (.slice A8 d c8) (by rfl) (by rfl) ?_
             simp only [Act.put,List.setIfInBounds_toArray,List.set_cons_zero,List.set_cons_succ]
             refine wpList_valG (.slice (some ⟨gM,0,none⟩) dR cM) (by rfl) (by rfl) ?_
             simp only [Act.put,List.setIfInBounds_toArray,List.set_cons_zero,List.set_cons_succ]
             refine wpList_append_g (o:=⟨some 81,_,_,_,_,_⟩) rfl (.tmp 79) (.tmp 80) 42 rfl w.heap.size 50 jr _ 2 32 Tryz.underlying42 hjr gr0 gr1 gr2 rfl (by decide) (.slice A8 d c8) d (flat encRh D) rfl (by have:=HO7.out.o8.1;rw [HDL.out] at this;exact this) ⟨gM,0,none⟩ dR cM (flat encRh R) rfl (by rw [← HDR.out];exact flat_len encRh_len R) ((gr_own encRh_len HR7.out.1).news encRh_len) (flat_one encRh_one _) (by simp only [maxLen];omega) (by omega) HB7.out.size ?_
             intro v' w7 ho hg' hv'
             obtain ⟨A81,c81,hv81⟩:=row_form ho
             subst hv81
             have HJ:=Hd (RfO.push8 HO7.out HR7.out (by rw [HDL.out,HDR.out];exact ho) hg')
             have HB8:=Hd (HB7.out.grown hg' HB7.out.size (fun x hx => (HO7.out.o8.1.lt x hx).1))
             simp only [Act.put,List.setIfInBounds_toArray,List.set_cons_zero,List.set_cons_succ]
             clear ho hg' hv'
             go_wp2
             go_roundw
             case rel =>
              refine ⟨i + 1,J + 1,D ++ R,by go_num,by omega,Nat.succ_le_of_lt (List.getElem?_eq_some_iff.1 HG.out).1,?_,fun q' hq' => ?_,?_,?_,HB8.out⟩
              · rw [begN_succ HG.out,HE0.out,← HST.out,← HZ.out];omega
              · by_cases h:q' = J
                · rw [h,HE0.out,← HST.out];omega
                · have:=HQJ.out q' (by omega);omega
              · rw [spread_succ HG.out,spread_succ HG.out,← HX.out.1,← HY.out.1,← HZ.out,HD.out,HOS.out,← HTZ.out]
                exact HJ.out
              · rw [List.map_append,HDM.out,HM4.out,outN_succ HG.out]
             case measure => simp [intOf];omega
           · have hlt7:(q:Int) < (k:Int):=by have:=HQ.out;have:=HK2.out;omega
             go_upto_region 17 with fail
             refine wp_region_lit ?_
             refine wpList_valG (.slice A9 q c9) (by rfl) (by rfl) ?_
             simp only [Act.put,List.setIfInBounds_toArray,List.set_cons_zero,List.set_cons_succ]
             refine wpList_valG (.slice A8 d c8) (by rfl) (by rfl) ?_
             simp only [Act.put,List.setIfInBounds_toArray,List.set_cons_zero,List.set_cons_succ]
             refine wpList_valG (.int .i64 d) (by rfl) (by go_simp) ?_
             simp only [Act.put,List.setIfInBounds_toArray,List.set_cons_zero,List.set_cons_succ]
             have hbx:=below_allocs (Below.refl wr.heap.size wr) (.cells #[.int .i64 d] 3)
             have HOX:=Hd (HO7.out.below hbx)
             have HBX:=Hd (below_tail HB7.out hbx)
             have HRX:=Hd (HR7.out.below hbx)
             refine wpList_actG (.slice (some ⟨wr.heap.size,0,none⟩) 1 1) (wr.alloc (.cells #[.int .i64 d] 3)) (by rfl) (by go_simp) ?_
             simp only [Act.put,List.setIfInBounds_toArray,List.set_cons_zero,List.set_cons_succ]
             refine wpList_append_g (o:=⟨some 70,_,_,_,_,_⟩) rfl (.tmp 66) (.tmp 69) 122 rfl w.heap.size 3 jn _ 1 8 Tryz.underlying122 hjn gn0 gn1 gn2 rfl (by decide) (.slice A9 q c9) q (flat encN (X ++ List.replicate t d)) rfl (by have:=HOX.out.o9;rw [HX7.out] at this;exact this) ⟨wr.heap.size,0,none⟩ 1 1 (encN d) rfl rfl (fun j u hj => by rw [add_lit',Nat.zero_add];exact (at_ (hp_new rfl) j u (by simpa [encN] using hj)).1) (encN_one _) (by simp only [maxLen];omega) (by omega) HBX.out.size ?_
             intro v' w7 ho hg' hv'
             obtain ⟨A91,c91,hv91⟩:=row_form ho
             subst hv91
             have HP9:=Hd (RfO.push9 HOX.out (by rw [HX7.out];exact ho) hg' hv')
             have HBP:=Hd (HBX.out.grown hg' HBX.out.size (fun x hx => (HOX.out.o9.lt x (by rw [HX7.out] at *;exact hx)).1))
             have HRP:=Hd (HRX.out.mod (Mod.of_grown (X:=(Value.slice A9 q c9).ownBlock.toList) hg' (fun b hb => by simp [hb])) (own_nocel (show World.ownsRow _ _ _ _ _ _ _ from HOX.out.o9) (by decide)) (fun g hg hx => own_ne HRX.out.1 (show World.ownsRow _ _ _ _ _ _ _ from HOX.out.o9) (by decide) hg (Option.mem_toList.1 hx)))
             simp only [Act.put,List.setIfInBounds_toArray,List.set_cons_zero,List.set_cons_succ]
             clear ho hg' hv' hbx
             go_upto_region 18 with fail
             refine wp_region_lit ?_
             refine wpList_valG (.slice A10 q c10) (by rfl) (by rfl) ?_
             simp only [Act.put,List.setIfInBounds_toArray,List.set_cons_zero,List.set_cons_succ]
             refine wpList_valG (.slice A8 d c8) (by rfl) (by rfl) ?_
             simp only [Act.put,List.setIfInBounds_toArray,List.set_cons_zero,List.set_cons_succ]
             refine wpList_valG (.int .i64 d) (by rfl) (by go_simp) ?_
             simp only [Act.put,List.setIfInBounds_toArray,List.set_cons_zero,List.set_cons_succ]
             refine wpList_valG (.slice (some ⟨gM,0,none⟩) dR cM) (by rfl) (by rfl) ?_
             simp only [Act.put,List.setIfInBounds_toArray,List.set_cons_zero,List.set_cons_succ]
             refine wpList_valG (.int .i64 dR) (by rfl) (by go_simp) ?_
             simp only [Act.put,List.setIfInBounds_toArray,List.set_cons_zero,List.set_cons_succ]
             refine wpList_valG (.int .i64 ((d + dR:Nat):Int)) (by rfl) (by go_simp) ?_
             simp only [Act.put,List.setIfInBounds_toArray,List.set_cons_zero,List.set_cons_succ]
             have hby:=below_allocs (Below.refl w7.heap.size w7) (.cells #[.int .i64 ((d + dR:Nat):Int)] 3)
             have HOY:=Hd (HP9.out.below hby)
             have HBY:=Hd (below_tail HBP.out hby)
             have HRY:=Hd (HRP.out.below hby)
             refine wpList_actG (.slice (some ⟨w7.heap.size,0,none⟩) 1 1) (w7.alloc (.cells #[.int .i64 ((d + dR:Nat):Int)] 3)) (by rfl) (by go_simp) ?_
             simp only [Act.put,List.setIfInBounds_toArray,List.set_cons_zero,List.set_cons_succ]
             refine wpList_append_g (o:=⟨some 78,_,_,_,_,_⟩) rfl (.tmp 71) (.tmp 77) 122 rfl w.heap.size 3 jn _ 1 8 Tryz.underlying122 hjn gn0 gn1 gn2 rfl (by decide) (.slice A10 q c10) q (flat encN (Y ++ List.replicate t (d + dR))) rfl (by have:=HOY.out.o10;rw [HY7.out] at this;exact this) ⟨w7.heap.size,0,none⟩ 1 1 (encN (d + dR)) rfl rfl (fun j u hj => by rw [add_lit',Nat.zero_add];exact (at_ (hp_new rfl) j u (by simpa [encN] using hj)).1) (encN_one _) (by simp only [maxLen];omega) (by omega) HBY.out.size ?_
             intro v' w8 ho hg' hv'
             obtain ⟨A101,c101,hv101⟩:=row_form ho
             subst hv101
             have HP10:=Hd (RfO.push10 HOY.out (by rw [HY7.out];exact ho) hg' hv')
             have HBQ:=Hd (HBY.out.grown hg' HBY.out.size (fun x hx => (HOY.out.o10.lt x (by rw [HY7.out] at *;exact hx)).1))
             have HRQ:=Hd (HRY.out.mod (Mod.of_grown (X:=(Value.slice A10 q c10).ownBlock.toList) hg' (fun b hb => by simp [hb])) (own_nocel (show World.ownsRow _ _ _ _ _ _ _ from HOY.out.o10) (by decide)) (fun g hg hx => own_ne HRY.out.1 (show World.ownsRow _ _ _ _ _ _ _ from HOY.out.o10) (by decide) hg (Option.mem_toList.1 hx)))
             simp only [Act.put,List.setIfInBounds_toArray,List.set_cons_zero,List.set_cons_succ]
             clear ho hg' hv' hby
             go_wp2
             go_roundw
             case rel => exact ⟨q + 1,t + 1,by go_num,by have:=HQ.out;omega,by omega,by rw [rep_succ,rep_succ];exact HP10.out,HRQ.out,HBQ.out⟩
             case measure => simp [intOf];omega
end Go.Proofs.YtffdblmdelgkaaaGreat
