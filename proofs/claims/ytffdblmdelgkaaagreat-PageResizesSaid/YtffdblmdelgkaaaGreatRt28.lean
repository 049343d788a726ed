/- Joined by a tool of this claim out of smaller texts. Conditions: as stated. -/
import Derived.Test.YtffdblmdelgkaaaGreatRt23
set_option linter.unusedVariables false
set_option linter.unusedSimpArgs false
set_option maxRecDepth 100000
open Go.Lib renaming hid → Hd
namespace Go.Proofs.YtffdblmdelgkaaaGreat
open Go.RowKit
def ReflowPost (R:List Ro) (X:List P2) (w:World) (e:Ending) (w':World):Prop:=∃ v D g c,e = .returned (.tuple #[v,.slice (some ⟨g,0,none⟩) X.length c])∧RowsO w.heap.size w' v D∧D.map roOf = R∧w'.ownsRow w.heap.size 57 2 (.slice (some ⟨g,0,none⟩) X.length c) X.length (flat encP X)∧Below w.heap.size w w'
theorem info_poszz:(Tryz.prog.info? 57).map (fun i => (i.zero,i.size,i.bytes)) = some (some (.agg #[.int .i64 0,.int .i64 0]),2,16):=by kernel_rfl
def Ok2 (l:List P2):Prop:=∀ p ∈ l,(-9223372036854775808 ≤ p.1∧p.1 ≤ 9223372036854775807)∧-9223372036854775808 ≤ p.2∧p.2 ≤ 9223372036854775807
theorem own_ne {w:World} {b1 b2 n1 n2 s1 s2:Nat} {e1 e2:TypeId} {v1 v2:Value} {x1 x2:List Value} (h1:w.ownsRow b1 e1 s1 v1 n1 x1) (h2:w.ownsRow b2 e2 s2 v2 n2 x2) (he:e1 ≠ e2) {g:Nat} (hg:v1.ownBlock = some g):v2.ownBlock ≠ some g:=fun hg2 => by
 obtain ⟨c1,k1⟩:=own_block h1 hg
 obtain ⟨c2,k2⟩:=own_block h2 hg2
 rw [k1] at k2
 injection k2 with k2
 injection k2 with _ ht
 exact he ht
theorem owns_setPos {w:World} {base g c n:Nat} {X:List P2} (h:w.ownsRow base 57 2 (.slice (some ⟨g,0,none⟩) n c) n (flat encP X)) {i:Nat} (hi:i < X.length) (p:P2) :
 ((w.setCell ⟨g,i * 2,none⟩ (.int .i64 p.1)).setCell ⟨g,i * 2 + 1,none⟩ (.int .i64 p.2)).ownsRow base 57 2 (.slice (some ⟨g,0,none⟩) n c) n (flat encP (X.set i p)):=by
 rw [← flat_set X i p hi]
 exact owns_set1 (owns_set1 h (i * 2) _) (i * 2 + 1) _
theorem owns_pos {w:World} {base g c n:Nat} {X:List P2} (h:w.ownsRow base 57 2 (.slice (some ⟨g,0,none⟩) n c) n (flat encP X)) {i:Nat} {p:P2} (hp:X[i]? = some p) :
 HoldAt w g (i * 2) (.int .i64 p.1)∧HoldAt w g (i * 2 + 1) (.int .i64 p.2) :=
 ⟨owns_hold h (i:=i * 2) (by have:=flat_at2 encP_len X i p 0 hp (by decide);rw [Nat.add_zero] at this;exact this),owns_hold h (i:=i * 2 + 1) (by rw [flat_at2 encP_len X i p 1 hp (by decide)];rfl)⟩
set_option maxHeartbeats 12800000 in
theorem freflow_any (A:Option Addr) (L:List Rh) (ca cols:Nat) (B:Option Addr) (l:List P2) (cb:Nat) (w:World) (hl:GrAt encRh 2 w A L) (hr:∀ r ∈ L,RcAt w r) (h0:0 < L.length) (hz:L.length ≤ 10000) (hcap:L.length ≤ ca) (hN:cntL (L.map roOf) ≤ 10000)
 (hb:GrAt encP 2 w B l) (hl0:0 < l.length) (hlz:l.length ≤ 100000) (hlok:Ok2 l) (hc:2 ≤ cols) (hc2:cols ≤ 1000) :
 Calls Tryz.prog 53 #[.slice A L.length ca,.int .i64 cols,.slice B l.length cb] w (ReflowPost (reflowL cols (L.map roOf)) (l.map (rfP cols (L.map roOf))) w):=by
 obtain ⟨jp,hjp,gp0,gp1,gp2⟩:=info_parts info_poszz
 obtain ⟨jr,hjr,gr0,gr1,gr2⟩:=info_parts info_rowz
 obtain ⟨bR,oR,rfl,-⟩:=hl h0
 obtain ⟨bB,oB,rfl,-⟩:=hb hl0
 obtain ⟨M,hM⟩:∃ M,L.map roOf = M:=⟨_,rfl⟩
 obtain ⟨G,hG⟩:∃ G,groupsL M = G:=⟨_,rfl⟩
 have hGf:G.flatten = M:=by rw [← hG];exact groupsL_flat M
 have hML:M.length = L.length:=by rw [← hM,List.length_map]
 have HNews:=Hd (hb.news encP_len)
 have HFN:=Hd (flat_len encP_len l)
 have HB0:=Hd hb
 have HOK:=Hd hlok
 have HFI:=Hd (fun w => ffits_any cols w hc hc2)
 have HLN:=Hd (fun w' hb' => flines_any (some ⟨bR,oR,none⟩) L ca w' (hl.below (w:=w) hb') (by omega))
 have hrow:∀ {a n:Nat} {g:List Ro} {w':World},Below w.heap.size w w'→(M.drop a).take n = g→a + n ≤ L.length→GrAt encRh 2 w' (some ⟨bR,oR + a * 2,none⟩) ((L.drop a).take n)∧(∀ r ∈ (L.drop a).take n,RcAt w' r)∧((L.drop a).take n).length = n∧((L.drop a).take n).map roOf = g:=fun {a n g w'} hbw hg han =>
  ⟨(hl.below hbw).sub a n,fun r hx => (hr r (List.mem_of_mem_drop (List.mem_of_mem_take hx))).below hbw,by rw [List.length_take,List.length_drop];omega,by rw [List.map_take,List.map_drop,hM];exact hg⟩
 have HFLOW:Hid (∀ a n c g w',Below w.heap.size w w'→(M.drop a).take n = g→a + n ≤ L.length→cntL g ≤ 10000→Calls Tryz.prog 100 #[.slice (some ⟨bR,oR + a * 2,none⟩) n c] w' (RcPost (flowL g) w')):=Hd (fun a n c g w' hbw hg han hcn => by
  obtain ⟨q1,q2,q3,q4⟩:=hrow hbw hg han
  have:=fFlow_any _ _ c w' q1 q2 (by omega) (by rw [q4];exact hcn)
  rw [q3,q4] at this
  exact this)
 have HSUM:Hid (∀ a n c g w',Below w.heap.size w w'→(M.drop a).take n = g→a + n ≤ L.length→0 < n→Calls Tryz.prog 101 #[.slice (some ⟨bR,oR + a * 2,none⟩) n c] w' (SumPost g w')):=Hd (fun a n c g w' hbw hg han hn => by
  obtain ⟨q1,q2,q3,q4⟩:=hrow hbw hg han
  have:=fsums_any _ _ c w' q1 q2 (by omega) (by omega)
  rw [q3,q4] at this
  exact this)
 have HSPL:Hid (∀ A g c w',RcAt w' ⟨A,flowL g,c,false⟩→Calls Tryz.prog 99 #[.slice A (flowL g).length c,.int .i64 cols] w' (AllPost (madeG cols g) w')):=Hd (fun A g c w' h => fSplit_any A (flowL g) c cols w' h.2.2.1 h.1 h.2.1 hc hc2)
 have HSUM2:Hid (∀ base A R c g w',RowsO base w' (.slice A R.length c) R→R.map roOf = madeG cols g→R.length ≤ 20000→Calls Tryz.prog 101 #[.slice A R.length c] w' (SumPost (madeG cols g) w')):=Hd (fun base A R c g w' h hm hz => by
  have:=fsums_any A R c w' (gr_own encRh_len h.1) (fun r hr => (h.2 r hr).1) (by have:=congrArg List.length hm;rw [List.length_map] at this;rw [this];exact madeG_pos cols g) (by omega)
  rw [hm] at this
  exact this)
 have HBG:Hid (∀ j,begN G j ≤ L.length):=Hd (fun j => by rw [← hML,← hGf];exact begN_le G j)
 have HCG:Hid (∀ g ∈ G,cntL g ≤ 10000):=Hd (fun g hg => by have:=cnt_group hg;rw [hGf,← hM] at this;omega)
 have HOUT:Hid (∀ j,outN cols G j ≤ 20000):=Hd (fun j => by
  have h1:=outN_le hc (G.take j)
  have h2:cntL (G.take j).flatten ≤ cntL G.flatten:=by
   conv => rhs;rw [← List.take_append_drop j G,List.flatten_append,cntL_append]
   omega
  rw [hGf,← hM] at h2
  have h3:G.length ≤ L.length:=by rw [← hG,← hML];exact groupsL_len_le M
  have h4:(G.take j).length ≤ G.length:=by rw [List.length_take];omega
  unfold outN
  omega)
 have HGM:Hid (groupsL M = G∧G.flatten = M∧M.length = L.length∧reflowL cols M = G.flatMap (madeG cols)):=Hd ⟨hG,hGf,hML,by unfold reflowL;rw [hG]⟩
 rw [hM] at HLN ⊢
 rw [hG] at HLN
 obtain ⟨m,hm⟩:∃ m,L.length = m:=⟨_,rfl⟩
 rw [hm] at h0 hz hcap HLN HFLOW HSUM HBG HGM ⊢
 obtain ⟨n,hn⟩:∃ n,l.length = n:=⟨_,rfl⟩
 rw [hn] at hl0 hlz HFN ⊢
 have HNL2:=Hd hn
 have HMU:Hid (0 < m∧m ≤ 10000∧m ≤ ca):=Hd ⟨h0,hz,hcap⟩
 have HC:=Hd (And.intro hc hc2)
 clear hl hr hb hM hG hGf hML hrow hN hlok hm hn
 go_enter Tryz.func53,Tryz.ntmps53
 go_upto_region 1 with fail
 refine wp_region_lit ?_
 refine wpList_valG (.slice (some ⟨bB,oB,none⟩) n cb) (by rfl) (by rfl) ?_
 simp only [Act.put,List.setIfInBounds_toArray,List.set_cons_zero,List.set_cons_succ]
 refine wpList_append_g (o:=⟨some 21,_,_,_,_,_⟩) rfl (.const (.slice none 0 0)) (.tmp 20) 58 rfl w.heap.size 57 jp _ 2 16 Tryz.underlying58 hjp gp0 gp1 gp2 rfl (by decide) (.slice none 0 0) 0 [] rfl (World.ownsRow_nil _ _ _ _) ⟨bB,oB,none⟩ n cb (flat encP l) rfl HFN.out HNews.out (flat_one encP_one _) (by simp only [maxLen];omega) (by omega) (Nat.le_refl _) ?_
 intro v8 w1 ho8 hg8 hv8
 rw [Nat.zero_add,List.nil_append] at ho8
 obtain ⟨g8,c8,rfl⟩:=own_form ho8 hl0
 have HO1:=Hd ho8
 have HB1:=Hd (show Below w.heap.size w w1 from (Below.refl _ _).grown hg8 (Nat.le_refl _) (fun k hk => by cases hk))
 have HG8:Hid (w.heap.size ≤ g8):=Hd (ho8.lt g8 rfl).1
 simp only [Act.put,List.setIfInBounds_toArray,List.set_cons_zero,List.set_cons_succ]
 clear ho8 hg8 hv8
 go_wp2_with (first
  | (go_at_call 96;(with_reducible refine (HFI.out _).mono ?_);rintro e w2 ⟨rfl,rfl⟩)
  | (go_at_call 98;(with_reducible refine (HLN.out _ HB1.out).mono ?_);rintro e w2 ⟨v9,rfl,ho9,hb9⟩;obtain ⟨A9,c9,rfl⟩:=row_form ho9;have HO9:=Hd (owns_weaken ho9 HB1.out.size);have HB2:=Hd (below_tail HB1.out hb9);have HO2:=Hd (owns_mod HO1.out (Mod.of_below (X:=[]) hb9) (fun _ _ h => by cases h));clear ho9 hb9))
 obtain ⟨K,hK⟩:∃ K,(ivs 0 G).length = K:=⟨_,rfl⟩
 rw [hK] at HO9 ⊢
 have HK:Hid (G.length = K):=Hd (by rw [← hK,ivs_len])
 have HKm:Hid (K ≤ 10000):=Hd (by have:=groupsL_len_le M;rw [HGM.out.1,HGM.out.2.2.1,HK.out] at this;have:=HMU.out.2.1;omega)
 clear hK
 go_loopw [9,31] (fun s9 s31 wr => ∃ (j:Nat) (D:List Rh),s31 = .int .i64 j∧j ≤ K∧RowsO w.heap.size wr s9 D∧D.map roOf = (G.take j).flatMap (madeG cols)∧wr.ownsRow w.heap.size 57 2 (.slice (some ⟨g8,0,none⟩) n c8) n (flat encP (l.map (plAt cols M (begN G j))))∧wr.ownsRow w.heap.size 119 2 (.slice A9 K c9) K (flat encIv (ivs 0 G))∧Below w.heap.size w wr) (fun _ s31 _ => K - (intOf s31).toNat)
 case atStart => exact ⟨0,[],rfl,Nat.zero_le _,⟨World.ownsRow_nil _ _ _ _,fun r hr => by cases hr⟩,by simp,by rw [begN_zero,List.map_congr_left (g:=id) (fun p _ => plAt_zero cols M p),List.map_id];exact HO2.out,HO9.out,HB2.out⟩
 case round =>
  obtain ⟨j,D,rfl,hj,hD,hDm,hP,hV,hB⟩:=hrel
  obtain ⟨AD,cD,hvD⟩:=row_form hD.1
  subst hvD
  obtain ⟨d,hd⟩:∃ d,D.length = d:=⟨_,rfl⟩
  have hdo:d = outN cols G j:=by have:=congrArg List.length hDm;rw [List.length_map,hd] at this;exact this
  rw [hd] at hD ⊢
  have HDL:=Hd hd
  have HDO:=Hd hdo
  have HDM:=Hd hDm
  have HD:=Hd hD
  have HP:=Hd hP
  have HV:=Hd hV
  have HB:=Hd hB
  have hd2:=HOUT.out j
  rw [← hdo] at hd2
  by_cases hlt:j < K
  rotate_left
  · -- the last loop
    have hge:¬ (j:Int) < (K:Int):=by omega
    have hjK:j = K:=by omega
    have hbm:begN G j = m:=by rw [hjK,← HK.out,begN_full,HGM.out.2.1,HGM.out.2.2.1]
    have hRF:D.map roOf = reflowL cols M:=by rw [hDm,hjK,← HK.out,List.take_length,HGM.out.2.2.2]
    rw [hbm] at HP
    have HRF:=Hd hRF
    have HDR:Hid ((reflowL cols M).length = d):=Hd (by rw [← hRF,List.length_map,hd])
    have hm0:=HMU.out.1
    have hmz:((m:Int) == 0) = false:=beq_eq_false_iff_ne.2 (by omega)
    have hmn:¬ (m:Int) = 0:=by omega
    have HGR:Hid (w.heap.size ≤ wr.heap.size):=Hd hB.size
    obtain ⟨wq,hwq⟩:∃ wq,wq = wr:=⟨_,rfl⟩
    subst hwq
    have hg8q:=(hP.lt g8 rfl).2
    have HG8Q:=Hd hg8q
    have HNC:Hid (NoCel wq [g8]):=Hd (fun b hb cs f he => by
     rw [List.mem_singleton.1 hb] at he
     obtain ⟨cur,hc⟩:=own_block HP.out (g:=g8) rfl
     exact block_ne hc he (by decide) rfl)
    clear hD hDm hP hV hB hjK hbm hRF hd hdo hd2 hg8q
    go_wp2_with fail
    go_loopw [108] (fun s108 w' => ∃ i:Nat,s108 = .int .i64 i∧i ≤ n∧w'.ownsRow w.heap.size 57 2 (.slice (some ⟨g8,0,none⟩) n c8) n (flat encP (mixI (plAt cols M m) (rfP cols M) l i))∧Mod [g8] wq w') (fun s108 _ => n - (intOf s108).toNat)
    case atStart => exact ⟨0,rfl,Nat.zero_le _,by rw [mixI_zero];exact HP.out,Mod.refl _ _⟩
    case round =>
     obtain ⟨i,rfl,hi,hO,hM⟩:=hrel
     have hMB:Below w.heap.size wq wr:=hM.below (fun x hx => by rw [List.mem_singleton.1 hx];exact HG8.out) HGR.out
     have HBi:=Hd (HB.out.trans hMB)
     have HOi:=Hd hO
     have HMi:=Hd hM
     by_cases hlt2:i < n
     rotate_left
     · have hge2:¬ (i:Int) < (n:Int):=by omega
       have hie:i = n:=by omega
       have HOf:Hid (wr.ownsRow w.heap.size 57 2 (.slice (some ⟨g8,0,none⟩) n c8) n (flat encP (l.map (rfP cols M)))):=Hd (by
        rw [← mixI_full (plAt cols M m) (rfP cols M) l,HNL2.out]
        have h:=hO
        rw [hie] at h
        exact h)
       have HDr:=Hd (HD.out.mod hM HNC.out (fun g hg hx => by
        rw [List.mem_singleton.1 hx] at hg
        exact own_ne HD.out.1 HP.out (by decide) hg rfl))
       clear hO hM hMB hie
       go_wp2
       go_ret2
       exact ⟨.slice AD d cD,D,g8,c8,by rw [List.length_map,HNL2.out];rfl,HDr.out,HRF.out,by rw [List.length_map,HNL2.out];exact HOf.out,HBi.out⟩
     · have hlt2I:(i:Int) < (n:Int):=by omega
       have hwi:IntKind.i64.wrap ((i:Int) + 1) = (i:Int) + 1:=IntWalk.i64_in _ (by omega)
       have hil:i < l.length:=by rw [HNL2.out];exact hlt2
       obtain ⟨p,hp⟩:∃ p,l[i]? = some p:=⟨_,List.getElem?_eq_getElem hil⟩
       obtain ⟨bB2,oB2,p',hB2,hp2,hcell⟩:=(HB0.out.below HBi.out).at_ hil
       simp only [Option.some.injEq,Addr.mk.injEq,and_true] at hB2
       obtain ⟨rfl,rfl⟩:=hB2
       rw [hp] at hp2
       obtain rfl:=Option.some.inj hp2
       have HPS:=Hd (mixI_succ (f:=plAt cols M m) (f':=rfP cols M) hp)
       have HPE:=Hd (mixI_same (f:=plAt cols M m) (f':=rfP cols M) hp)
       have HPI:=Hd (mixI_at (f:=plAt cols M m) (f':=rfP cols M) hp)
       obtain ⟨p1,p2⟩:=p
       have q0:=hcell 0 _ rfl
       have q1:=hcell 1 _ rfl
       simp only [Nat.add_zero] at q0 q1
       have lq0:=lt_of_cell q0
       have lq1:=lt_of_cell q1
       have hb9:=below_allocs (Below.refl wr.heap.size wr) (.cells #[.int .i64 p1,.int .i64 p2] 57)
       have HN:=hp_new (W:=wr) (b:=wr.heap.size) (o:=.cells #[.int .i64 p1,.int .i64 p2] 57) rfl
       clear hO hM hMB hil hp hcell
       go_upto_region 27 with fail
       generalize World.alloc _ _ = W at HN hb9 ⊢
       have HB9:=Hd hb9
       have n0:=(at_ HN 0 _ rfl).1
       have HO9:=Hd (owns_mod HOi.out (Mod.of_below (X:=[]) HB9.out) (fun _ _ h => by cases h))
       clear q0 q1 lq0 lq1 hb9 HN
       by_cases hbig:(m:Int) ≤ p1
       · have HPB:Hid (rfP cols M (p1,p2) = ((d:Int),0)):=Hd (by rw [rfP_end (by rw [HGM.out.2.2.1];exact hbig),HDR.out])
         obtain ⟨⟨z0,z0f⟩,z1,z1f⟩:=owns_pos HO9.out HPI.out
         have HS:=Hd (owns_setPos HO9.out (i:=i) (by rw [mixI_len,HNL2.out];exact hlt2) ((d:Int),(0:Int)))
         have HMf:=Hd (((HMi.out.then_below HB9.out).setCell (a:=⟨g8,i * 2,none⟩) (.inl (by simp)) (.int .i64 (d:Int))).setCell (a:=⟨g8,i * 2 + 1,none⟩) (.inl (by simp)) (.int .i64 0))
         go_wp2
         go_roundw
         case rel => exact ⟨i + 1,by go_num,by omega,by rw [HPS.out,HPB.out];exact HS.out,HMf.out⟩
         case measure => simp [intOf];omega
       · have HPB:Hid (rfP cols M (p1,p2) = plAt cols M m (p1,p2)):=Hd (by unfold plAt;rw [if_pos (by simp only;omega)])
         have HMf:=Hd (HMi.out.then_below HB9.out)
         go_wp2
         go_roundw
         case rel => exact ⟨i + 1,by go_num,by omega,by rw [HPE.out HPB.out];exact HO9.out,HMf.out⟩
         case measure => simp [intOf];omega
  · have hltI:(j:Int) < (K:Int):=by omega
    have hwj:IntKind.i64.wrap ((j:Int) + 1) = (j:Int) + 1:=IntWalk.i64_in _ (by have:=HKm.out;omega)
    obtain ⟨g,hg⟩:∃ g,G[j]? = some g:=⟨_,List.getElem?_eq_getElem (by rw [HK.out];exact hlt)⟩
    have hgm:=List.mem_of_getElem? hg
    obtain ⟨a,ha⟩:∃ a,begN G j = a:=⟨_,rfl⟩
    obtain ⟨gl,hgl⟩:∃ gl,g.length = gl:=⟨_,rfl⟩
    obtain ⟨b,hbb⟩:∃ b,a + gl = b:=⟨_,rfl⟩
    have hb2:begN G (j + 1) = b:=by rw [begN_succ hg,ha,hgl,hbb]
    have hbm:b ≤ m:=by rw [← hb2];exact HBG.out _
    have hgat:=group_at hg
    rw [HGM.out.2.1,ha,hgl] at hgat
    have hgl0:0 < gl:=by
     have h1:g ≠ []:=groupsL_ne M g (by rw [HGM.out.1];exact hgm)
     rw [← hgl];exact List.length_pos_iff.2 h1
    have hXi:=ivs_at 0 hg
    rw [Nat.zero_add,ha,hgl,hbb] at hXi
    obtain ⟨g9,hA9⟩:∃ g9,A9 = some ⟨g9,0,none⟩:=by
     obtain ⟨g9,cap,hv⟩:=Go.Joins.ownsRow_form hV (by omega)
     simp only [Value.slice.injEq] at hv
     exact ⟨g9,hv.1⟩
    subst hA9
    have hv0:=(owns_hold hV (i:=j * 2) (by have:=flat_at2 encIv_len (ivs 0 G) j (a,b) 0 hXi (by decide);rw [Nat.add_zero] at this;exact this)).1
    have hv1:=(owns_hold hV (i:=j * 2 + 1) (by rw [flat_at2 encIv_len (ivs 0 G) j (a,b) 1 hXi (by decide)];rfl)).1
    have hv0':wr.cell? ⟨g9,j * 2,none⟩ = some (.int .i64 a):=hv0
    have hv1':wr.cell? ⟨g9,j * 2 + 1,none⟩ = some (.int .i64 b):=hv1
    have hmu:=HMU.out
    have hba:b - a = gl:=by omega
    have hab:a ≤ b:=by omega
    have hbca:b ≤ ca:=by omega
    have hcaa:¬ ca = a:=by omega
    have hcaa2:a < ca:=by omega
    have HG:=Hd (And.intro hg (And.intro ha (And.intro hgl (And.intro hbb (And.intro hb2 (And.intro hbm (And.intro hgat hgl0)))))))
    have HGC:=Hd (HCG.out g hgm)
    obtain ⟨W,hW⟩:∃ W,wr.alloc (.cells #[.int .i64 a,.int .i64 b] 119) = W:=⟨_,rfl⟩
    have hbW:Below wr.heap.size wr W:=by rw [← hW];exact below_allocs (Below.refl _ _) _
    have HBW:=Hd hbW
    have HNL:=Hd (show W.heap[wr.heap.size]? = some (.cells #[.int .i64 a,.int .i64 b] 119 (0,0)) from by rw [← hW];exact hp_new rfl)
    have HWW:=Hd hW
    obtain ⟨wq,hwq⟩:∃ wq,wq = wr:=⟨_,rfl⟩
    subst hwq
    clear hD hDm hP hV hB hg hgm ha hgl hbb hb2 hbm hgat hXi hv0 hv1 hbW hW hd hdo hmu
    go_upto_region 8 with fail
    rw [HWW.out]
    have e0:=(at_ HNL.out 0 _ rfl).1
    have e1:=(at_ HNL.out 1 _ rfl).1
    clear hv0' hv1'
    go_upto_region 9 with fail
    clear e0 e1
    have HWB:=Hd (below_tail HB.out HBW.out)
    go_upto_region 11 with (first
     | (go_at_call 100;(with_reducible refine (HFLOW.out a gl _ g _ HWB.out HG.out.2.2.2.2.2.2.1 (by have:=HG.out;omega) HGC.out).mono ?_);rintro e w3 ⟨AF,cF,rfl,-,hrf,hb3⟩;have HRF:=Hd hrf;have HB3:=Hd (hb3);clear hrf hb3)
     | (go_at_call 99;(with_reducible refine (HSPL.out AF g cF _ HRF.out).mono ?_);rintro e w4 ⟨vM,R,rfl,hro,hrm,hb4⟩;obtain ⟨AM,cM,rfl⟩:=row_form hro.1;have HRM:=Hd hro;have HRMM:=Hd hrm;have HB4:=Hd (below_tail HB3.out hb4);clear hro hrm hb4)
     | (go_at_call 101;first
         | (have hpv:=HSF.out;clear hpv;(with_reducible refine (HSUM2.out _ AM R cM g _ (HRM.out.below HB5.out) HRMM.out (by have h1:=congrArg List.length HRMM.out;rw [List.length_map] at h1;have h2:=madeG_len HC.out.1 g;have:=HGC.out;omega)).mono ?_);rintro e w6 ⟨gT,cT,rfl,hot,hb6⟩;have HST:=Hd hot;have HB6:=Hd hb6;clear hot hb6)
         | ((with_reducible refine (HSUM.out a gl _ g _ (below_tail HWB.out HB4.out) HG.out.2.2.2.2.2.2.1 (by have:=HG.out;omega) HG.out.2.2.2.2.2.2.2).mono ?_);rintro e w5 ⟨gF,cS,rfl,hos,hb5⟩;have HSF:=Hd hos;have HB5:=Hd hb5;clear hos hb5)))
    go_wp2_with fail
    have hW6:=below_tail (below_tail HB4.out HB5.out) HB6.out
    have hq6:=below_tail HBW.out hW6
    have HW6:=Hd (below_tail HB.out hq6)
    have HLI:=Hd ((hW6.block _ (lt_of_heap HNL.out)).trans HNL.out)
    have HD6:=Hd (HD.out.below hq6)
    have HV6:=Hd (owns_mod HV.out (Mod.of_below (X:=[]) hq6) (fun _ _ h => by cases h))
    have HP6:=Hd (owns_mod HP.out (Mod.of_below (X:=[]) hq6) (fun _ _ h => by cases h))
    have HSF6:=Hd (owns_mod HSF.out (Mod.of_below (X:=[]) HB6.out) (fun _ _ h => by cases h))
    have HRM6:=Hd (HRM.out.below (below_tail HB5.out HB6.out))
    have hg8q:=(HP.out.lt g8 rfl).2
    have hsz4:wq.heap.size ≤ w4.heap.size:=(below_tail HBW.out HB4.out).size
    have hsz5:w4.heap.size ≤ w5.heap.size:=HB5.out.size
    have hgF:=(HSF.out.lt gF rfl).1
    have hgT:=(HST.out.lt gT rfl).1
    have HNE:Hid (g8 < wq.heap.size∧g8 < gF∧g8 < gT):=Hd (by omega)
    have HNC:Hid (NoCel w6 [g8]):=Hd (fun b hb cs f he => by
     rw [List.mem_singleton.1 hb] at he
     obtain ⟨cur,hc⟩:=own_block HP6.out (g:=g8) rfl
     exact block_ne hc he (by decide) rfl)
    clear hW6 hq6 hg8q hsz4 hsz5 hgF hgT HNL HD HV HP HSF HRM HB3 HB4 HB5 HB6 HBW HRF HWB
    go_loopw [51] (fun s51 w' => ∃ i:Nat,s51 = .int .i64 i∧i ≤ n∧w'.ownsRow w.heap.size 57 2 (.slice (some ⟨g8,0,none⟩) n c8) n (flat encP (plI cols M a b l i))∧Mod [g8] w6 w') (fun s51 _ => n - (intOf s51).toNat)
    case atStart => exact ⟨0,rfl,Nat.zero_le _,by rw [plI_zero,← HG.out.2.1];exact HP6.out,Mod.refl _ _⟩
    case round =>
     obtain ⟨i,rfl,hi,hO,hM⟩:=hrel
     have hMB:Below w.heap.size w6 wr:=hM.below (fun x hx => by rw [List.mem_singleton.1 hx];exact HG8.out) HW6.out.size
     have HBi:=Hd (HW6.out.trans hMB)
     have HOi:=Hd hO
     have HMi:=Hd hM
     by_cases hlt2:i < n
     rotate_left
     · -- the line's rows come behind
       have hge2:¬ (i:Int) < (n:Int):=by omega
       have hie:i = n:=by omega
       have HOf:Hid (wr.ownsRow w.heap.size 57 2 (.slice (some ⟨g8,0,none⟩) n c8) n (flat encP (l.map (plAt cols M (begN G (j + 1)))))):=Hd (by
        rw [HG.out.2.2.2.2.1,← plI_full cols M a b l,HNL2.out]
        have h:=hO
        rw [hie] at h
        exact h)
       have hne:∀ {e:TypeId} {base size k:Nat} {v:Value} {xs:List Value},w6.ownsRow base e size v k xs→e ≠ 57→∀ g,v.ownBlock = some g→g ∉ [g8]:=fun {e base size k v xs} h he g hg hx => by
        rw [List.mem_singleton.1 hx] at hg
        exact own_ne h HP6.out he hg rfl
       have HDr:=Hd (HD6.out.mod hM HNC.out (hne HD6.out.1 (by decide)))
       have HVr:=Hd (owns_mod HV6.out hM (hne HV6.out (by decide)))
       have HRr:=Hd (HRM6.out.mod hM HNC.out (hne HRM6.out.1 (by decide)))
       have hRl:0 < R.length:=by have h1:=congrArg List.length HRMM.out;rw [List.length_map] at h1;rw [h1];exact madeG_pos cols g
       have hRz:R.length ≤ 10001:=by have h1:=congrArg List.length HRMM.out;rw [List.length_map] at h1;have h2:=madeG_len HC.out.1 g;have:=HGC.out;omega
       obtain ⟨gM,cM',hvM⟩:=own_form HRr.out.1 hRl
       simp only [Value.slice.injEq,true_and] at hvM
       obtain ⟨rfl,rfl⟩:=hvM
       have hnews:=(gr_own encRh_len HRr.out.1).news encRh_len
       have HNEW:=Hd hnews
       have HRZ:=Hd hRz
       have HDL2:=Hd hd2
       clear hO hM hMB hie hne hRl hnews hRz hd2
       go_upto_region 22 with fail
       refine wp_region_lit ?_
       refine wpList_valG (.slice AD d cD) (by rfl) (by rfl) ?_
       simp only [Act.put,List.setIfInBounds_toArray,List.set_cons_zero,List.set_cons_succ]
       refine wpList_valG (.slice (some ⟨gM,0,none⟩) R.length cM) (by rfl) (by rfl) ?_
       simp only [Act.put,List.setIfInBounds_toArray,List.set_cons_zero,List.set_cons_succ]
       refine wpList_append_g (o:=⟨some 104,_,_,_,_,_⟩) rfl (.tmp 102) (.tmp 103) 42 rfl w.heap.size 50 jr _ 2 32 Tryz.underlying42 hjr gr0 gr1 gr2 rfl (by decide) (.slice AD d cD) D.length (flat encRh D) rfl HDr.out.1 ⟨gM,0,none⟩ R.length cM (flat encRh R) rfl (flat_len encRh_len R) HNEW.out (flat_one encRh_one _) (by simp only [maxLen];have:=HDL.out;have:=HDL2.out;have:=HRZ.out;omega) (by have:=HDL.out;have:=HDL2.out;have:=HRZ.out;omega) HBi.out.size ?_
       intro v' w7 ho hg' hv'
       have hnd:∀ {e:TypeId} {base size k:Nat} {v:Value} {xs:List Value},wr.ownsRow base e size v k xs→e ≠ 50→∀ g,v.ownBlock = some g→g ∉ (Value.slice AD d cD).ownBlock.toList:=fun {e base size k v xs} h he g hg hx => own_ne h HDr.out.1 he hg (Option.mem_toList.1 hx)
       have hmo:Mod (Value.slice AD d cD).ownBlock.toList wr w7:=Mod.of_grown hg' (fun b hb => by simp [hb])
       have HJ:=Hd (RowsO.join HDr.out HRr.out ho hg')
       have HO7:=Hd (owns_mod HOf.out hmo (hnd HOf.out (by decide)))
       have HV7:=Hd (owns_mod HVr.out hmo (hnd HVr.out (by decide)))
       have HB7:=Hd (HBi.out.grown hg' HBi.out.size (fun x hx => (HDr.out.1.lt x hx).1))
       simp only [Act.put,List.setIfInBounds_toArray,List.set_cons_zero,List.set_cons_succ]
       clear ho hg' hv' hnd hmo
       go_wp2
       go_roundw
       case rel => exact ⟨j + 1,D ++ R,by go_num,by omega,HJ.out,by rw [List.map_append,HDM.out,HRMM.out,outN_succ HG.out.1],HO7.out,HV7.out,HB7.out⟩
       case measure => simp [intOf];omega
     · -- a place
       have hlt2I:(i:Int) < (n:Int):=by omega
       have hwi:IntKind.i64.wrap ((i:Int) + 1) = (i:Int) + 1:=IntWalk.i64_in _ (by omega)
       have hil:i < l.length:=by rw [HNL2.out];exact hlt2
       obtain ⟨p,hp⟩:∃ p,l[i]? = some p:=⟨_,List.getElem?_eq_getElem hil⟩
       obtain ⟨bB2,oB2,p',hB2,hp2,hcell⟩:=(HB0.out.below HBi.out).at_ hil
       simp only [Option.some.injEq,Addr.mk.injEq,and_true] at hB2
       obtain ⟨rfl,rfl⟩:=hB2
       rw [hp] at hp2
       obtain rfl:=Option.some.inj hp2
       have hpok:=HOK.out p (List.mem_of_getElem? hp)
       have HPS:=Hd (plI_succ (cols:=cols) (M:=M) (a:=a) (b:=b) hp)
       have HPE:=Hd (plI_same (cols:=cols) (M:=M) (a:=a) (b:=b) hp)
       have HPI:=Hd (plI_at (cols:=cols) (M:=M) (a:=a) (b:=b) hp)
       obtain ⟨p1,p2⟩:=p
       simp only at hpok
       have q0:=hcell 0 _ rfl
       have q1:=hcell 1 _ rfl
       simp only [Nat.add_zero] at q0 q1
       have lq0:=lt_of_cell q0
       have lq1:=lt_of_cell q1
       obtain ⟨y,hy⟩:∃ y:Nat,max 0 p1 = (y:Int):=⟨p1.toNat,by omega⟩
       have HY:=Hd hy
       have hy64:y ≤ 9223372036854775807:=by have:=hpok.1.2;omega
       have HY64:=Hd hy64
       have hlb:=hM.hold (by have:=HNE.out;simp;omega) (at_ HLI.out 0 _ rfl)
       have hlb1:=hM.hold (by have:=HNE.out;simp;omega) (at_ HLI.out 1 _ rfl)
       have HLB:=Hd (And.intro hlb.1 hlb1.1)
       have HGG:=Hd hba
       clear hO hM hMB hlb hlb1 hil hp hcell
       by_cases hneg:p1 < 0
       · have HNG:=Hd hneg
         by_cases hlo:y < a
         · have hloI:(y:Int) < (a:Int):=by omega
           have HLO:=Hd hlo
           clear hlo hab hba hpok hy64
           have HN:=hp_new (W:=wr) (b:=wr.heap.size) (o:=.cells #[.int .i64 (y:Int),.int .i64 0] 57) rfl
           have hb9:=below_allocs (Below.refl wr.heap.size wr) (.cells #[.int .i64 (y:Int),.int .i64 0] 57)
           go_upto_region 17 with fail
           generalize World.alloc _ _ = W at HN hb9 ⊢
           have HB9:=Hd hb9
           have HN9:=Hd HN
           have e0:=holda hb9 HLB.out.1
           have e1:=holda hb9 HLB.out.2
           have n0:=at_ HN 0 _ rfl
           obtain ⟨n0,n0f⟩:=n0
           clear q0 q1 lq0 lq1 hb9 HN hy
           have HO9:=Hd (owns_mod HOi.out (Mod.of_below (X:=[]) HB9.out) (fun _ _ h => by cases h))
           have HM9:=Hd (HMi.out.then_below HB9.out)
           go_wp2
           go_roundw
           case rel => exact ⟨i + 1,by go_num,by omega,by rw [HPE.out (by have h1:=HY.out;have h2:=HGG.out;have h3:=HLO.out;unfold plAt;rw [if_pos (by simp only;omega),if_pos (by simp only;omega)])];exact HO9.out,HM9.out⟩
           case measure => simp [intOf];omega
         · by_cases hhi:b ≤ y
           · have hloI:¬ (y:Int) < (a:Int):=by omega
             have hhiI:(b:Int) ≤ (y:Int):=by omega
             have HLO:=Hd hhi
             clear hlo hhi hab hba hpok hy64
             have HN:=hp_new (W:=wr) (b:=wr.heap.size) (o:=.cells #[.int .i64 (y:Int),.int .i64 0] 57) rfl
             have hb9:=below_allocs (Below.refl wr.heap.size wr) (.cells #[.int .i64 (y:Int),.int .i64 0] 57)
             go_upto_region 17 with fail
             generalize World.alloc _ _ = W at HN hb9 ⊢
             have HB9:=Hd hb9
             have HN9:=Hd HN
             have e0:=holda hb9 HLB.out.1
             have e1:=holda hb9 HLB.out.2
             have n0:=at_ HN 0 _ rfl
             obtain ⟨n0,n0f⟩:=n0
             clear q0 q1 lq0 lq1 hb9 HN hy
             have HO9:=Hd (owns_mod HOi.out (Mod.of_below (X:=[]) HB9.out) (fun _ _ h => by cases h))
             have HM9:=Hd (HMi.out.then_below HB9.out)
             go_wp2
             go_roundw
             case rel => exact ⟨i + 1,by go_num,by omega,by rw [HPE.out (by have h1:=HY.out;have h2:=HGG.out;have h3:=HLO.out;unfold plAt;rw [if_neg (by simp only;omega),if_neg (by simp only;omega)])];exact HO9.out,HM9.out⟩
             case measure => simp [intOf];omega
           · have hloI:¬ (y:Int) < (a:Int):=by omega
             have hhiI:¬ (b:Int) ≤ (y:Int):=by omega
             have HLO:=Hd (And.intro hlo hhi)
             have HN:=hp_new (W:=wr) (b:=wr.heap.size) (o:=.cells #[.int .i64 (y:Int),.int .i64 0] 57) rfl
             have hb9:=below_allocs (Below.refl wr.heap.size wr) (.cells #[.int .i64 (y:Int),.int .i64 0] 57)
             go_upto_region 17 with fail
             generalize World.alloc _ _ = W at HN hb9 ⊢
             have HB9:=Hd hb9
             have HN9:=Hd HN
             have e0:=holda hb9 HLB.out.1
             have e1:=holda hb9 HLB.out.2
             have n0:=at_ HN 0 _ rfl
             obtain ⟨n0,n0f⟩:=n0
             clear q0 q1 lq0 lq1 hb9 HN hy
             obtain ⟨ya,hya⟩:∃ ya,y - a = ya:=⟨_,rfl⟩
             have hyaI:(y:Int) - (a:Int) = (ya:Int):=by omega
             have hwya:IntKind.i64.wrap (ya:Int) = (ya:Int):=IntWalk.i64_in _ (by omega)
             have HYA:=Hd hya
             have hgg:=HG.out
             have hne:=HNE.out
             have HSFr:=Hd (owns_mod HSF6.out HMi.out (fun x hx => by simp [Value.ownBlock] at hx;simp;omega))
             have HSTr:=Hd (owns_mod HST.out HMi.out (fun x hx => by simp [Value.ownBlock] at hx;simp;omega))
             have hgz:g.length ≤ 10000:=by have:=HMU.out;omega
             have hmz:(madeG cols g).length ≤ 10001:=by have:=madeG_len HC.out.1 g;have:=HGC.out;omega
             have hmc:cntL (madeG cols g) ≤ 1000000000000:=by
              have h1:=cnt_le (L:=R) (N:=10000) (fun r hr => (HRM6.out.2 r hr).1.1) R.length
              rw [HRMM.out] at h1
              have h2:=congrArg List.length HRMM.out
              rw [List.length_map] at h2
              rw [List.take_of_length_le (by omega)] at h1
              omega
             obtain ⟨off,hoff⟩:∃ off,off = offP g (ya:Int) 0:=⟨_,rfl⟩
             have hof:off ≤ 10000:=by rw [hoff];have:=offP_le g (ya:Int) 0;have:=HGC.out;omega
             have HOFFS:Hid (∀ w',Below wr.heap.size wr w'→Calls Tryz.prog 103 #[.slice (some ⟨gF,0,none⟩) g.length cS,.agg #[.int .i64 (ya:Int),.int .i64 0]] w' (fun e w'' => e = .returned (.int .i64 off)∧Below w'.heap.size w' w'')):=Hd (fun w' hb => by
              rw [hoff]
              exact foffset_any _ g cS (ya:Int) 0 w' (gr_own encN_len (n:=g.length) (c:=cS) (e:=3) (by rw [sumsL_len];exact owns_mod HSFr.out (Mod.of_below (X:=[]) hb) (fun _ _ h => by cases h))) (by omega) (by have:=HGC.out;omega) (by omega))
             have HPLC:Hid (∀ w',Below wr.heap.size wr w'→Calls Tryz.prog 102 #[.slice (some ⟨gT,0,none⟩) (madeG cols g).length cT,.int .i64 off] w' (fun e w'' => e = .returned (.agg #[.int .i64 (plP (madeG cols g) off).1,.int .i64 (plP (madeG cols g) off).2])∧Below w'.heap.size w' w'')):=Hd (fun w' hb => fplace_any _ (madeG cols g) cT off w' (gr_own encN_len (n:=(madeG cols g).length) (c:=cT) (e:=3) (by rw [sumsL_len];exact owns_mod HSTr.out (Mod.of_below (X:=[]) hb) (fun _ _ h => by cases h))) (madeG_pos cols g) (by omega) hmc (by omega))
             have HPF:=Hd (plP_fst_le (madeG cols g) off)
             have HPB:Hid (plAt cols M b (p1,p2) = (((d + (plP (madeG cols g) off).1:Nat):Int),((plP (madeG cols g) off).2:Int))):=Hd (by
              have h1:=HY.out
              have h2:=HGG.out
              have h3:=HLO.out
              unfold plAt
              rw [if_pos (by simp only;omega),rfP_at (p:=(p1,p2)) (y:=y) (by rw [HGM.out.1];exact hgg.1) h1 (by rw [HGM.out.1,hgg.2.1];omega) (by rw [HGM.out.1,hgg.2.1,hgg.2.2.1];omega),HGM.out.1,hgg.2.1,hya,← HDO.out]
              simp only [if_pos HNG.out,← hoff])
             obtain ⟨pr,hpr⟩:∃ pr,pr = (plP (madeG cols g) off).1:=⟨_,rfl⟩
             obtain ⟨pc,hpc⟩:∃ pc,pc = (plP (madeG cols g) off).2:=⟨_,rfl⟩
             rw [← hpr,← hpc] at HPLC HPB
             rw [← hpr] at HPF
             obtain ⟨rd,hrd⟩:∃ rd,rd = d + pr:=⟨_,rfl⟩
             have hrdI:(pr:Int) + (d:Int) = (rd:Int):=by omega
             have hwrd:IntKind.i64.wrap (rd:Int) = (rd:Int):=IntWalk.i64_in _ (by have:=HPF.out;omega)
             rw [← hrd] at HPB
             have hq9:=HB9.out.size
             clear hpr hpc hrd hoff hof hmc hmz hgz hya hgg hne hlo hhi hab hba hpok hy64
             go_upto_region 19 with fail
             have HN2:=Hd (whole_set HN9.out 0 (.int .i64 (ya:Int)) (cs':=[.int .i64 (ya:Int),.int .i64 0]) rfl)
             have HB2:=Hd (below_set HB9.out (Nat.le_refl _) (o:=0) (.int .i64 (ya:Int)))
             clear e0 e1 n0 n0f
             generalize World.setCell _ _ _ = W2 at HN2 HB2 ⊢
             have m0:=(at_ HN2.out 0 _ rfl).1
             have m1:=(at_ HN2.out 1 _ rfl).1
             go_upto_region 20 with (first
              | (go_at_call 103;(with_reducible refine (HOFFS.out _ HB2.out).mono ?_);rintro e w3 ⟨rfl,hb3⟩;have HB3:=Hd (below_tail HB2.out hb3);have HN3:=Hd ((hb3.block _ (lt_of_heap HN2.out)).trans HN2.out);clear hb3 m0 m1)
              | (go_at_call 102;(with_reducible refine (HPLC.out _ HB3.out).mono ?_);rintro e w4 ⟨rfl,hb4⟩;have HB4:=Hd (below_tail HB3.out hb4);have HN4:=Hd ((hb4.block _ (lt_of_heap HN3.out)).trans HN3.out);obtain ⟨k0,k0f⟩:=at_ HN4.out 0 _ rfl;obtain ⟨k1,k1f⟩:=at_ HN4.out 1 _ rfl;clear hb4))
             have HN5:=Hd (whole_set (whole_set HN4.out 0 (.int .i64 (pr:Int)) (cs':=[.int .i64 (pr:Int),.int .i64 0]) rfl) 1 (.int .i64 (pc:Int)) (cs':=[.int .i64 (pr:Int),.int .i64 (pc:Int)]) rfl)
             have HB5:=Hd (below_set (below_set HB4.out (Nat.le_refl _) (o:=0) (.int .i64 (pr:Int))) (Nat.le_refl _) (o:=1) (.int .i64 (pc:Int)))
             clear k0 k0f k1 k1f
             generalize World.setCell _ _ _ = W6 at HN5 HB5 ⊢
             have l0:=(at_ HN5.out 0 _ rfl).1
             have l1:=(at_ HN5.out 1 _ rfl).1
             have HO6:=Hd (owns_mod HOi.out (Mod.of_below (X:=[]) HB5.out) (fun _ _ h => by cases h))
             obtain ⟨⟨z0,z0f⟩,z1,z1f⟩:=owns_pos HO6.out HPI.out
             have HS:=Hd (owns_setPos HO6.out (i:=i) (by rw [plI_len,HNL2.out];exact hlt2) ((rd:Int),(pc:Int)))
             have HMf:=Hd (((HMi.out.then_below HB5.out).setCell (a:=⟨g8,i * 2,none⟩) (.inl (by simp)) (.int .i64 (rd:Int))).setCell (a:=⟨g8,i * 2 + 1,none⟩) (.inl (by simp)) (.int .i64 (pc:Int)))
             go_wp2
             go_roundw
             case rel => exact ⟨i + 1,by go_num,by omega,by rw [HPS.out,HPB.out];exact HS.out,HMf.out⟩
             case measure => simp [intOf];omega
       · have HNG:=Hd hneg
         by_cases hlo:y < a
         · have hloI:(y:Int) < (a:Int):=by omega
           have HLO:=Hd hlo
           clear hlo hab hba hpok hy64
           have HN:=hp_new (W:=wr) (b:=wr.heap.size) (o:=.cells #[.int .i64 (y:Int),.int .i64 p2] 57) rfl
           have hb9:=below_allocs (Below.refl wr.heap.size wr) (.cells #[.int .i64 (y:Int),.int .i64 p2] 57)
           go_upto_region 17 with fail
           generalize World.alloc _ _ = W at HN hb9 ⊢
           have HB9:=Hd hb9
           have HN9:=Hd HN
           have e0:=holda hb9 HLB.out.1
           have e1:=holda hb9 HLB.out.2
           have n0:=at_ HN 0 _ rfl
           obtain ⟨n0,n0f⟩:=n0
           clear q0 q1 lq0 lq1 hb9 HN hy
           have HO9:=Hd (owns_mod HOi.out (Mod.of_below (X:=[]) HB9.out) (fun _ _ h => by cases h))
           have HM9:=Hd (HMi.out.then_below HB9.out)
           go_wp2
           go_roundw
           case rel => exact ⟨i + 1,by go_num,by omega,by rw [HPE.out (by have h1:=HY.out;have h2:=HGG.out;have h3:=HLO.out;unfold plAt;rw [if_pos (by simp only;omega),if_pos (by simp only;omega)])];exact HO9.out,HM9.out⟩
           case measure => simp [intOf];omega
         · by_cases hhi:b ≤ y
           · have hloI:¬ (y:Int) < (a:Int):=by omega
             have hhiI:(b:Int) ≤ (y:Int):=by omega
             have HLO:=Hd hhi
             clear hlo hhi hab hba hpok hy64
             have HN:=hp_new (W:=wr) (b:=wr.heap.size) (o:=.cells #[.int .i64 (y:Int),.int .i64 p2] 57) rfl
             have hb9:=below_allocs (Below.refl wr.heap.size wr) (.cells #[.int .i64 (y:Int),.int .i64 p2] 57)
             go_upto_region 17 with fail
             generalize World.alloc _ _ = W at HN hb9 ⊢
             have HB9:=Hd hb9
             have HN9:=Hd HN
             have e0:=holda hb9 HLB.out.1
             have e1:=holda hb9 HLB.out.2
             have n0:=at_ HN 0 _ rfl
             obtain ⟨n0,n0f⟩:=n0
             clear q0 q1 lq0 lq1 hb9 HN hy
             have HO9:=Hd (owns_mod HOi.out (Mod.of_below (X:=[]) HB9.out) (fun _ _ h => by cases h))
             have HM9:=Hd (HMi.out.then_below HB9.out)
             go_wp2
             go_roundw
             case rel => exact ⟨i + 1,by go_num,by omega,by rw [HPE.out (by have h1:=HY.out;have h2:=HGG.out;have h3:=HLO.out;unfold plAt;rw [if_neg (by simp only;omega),if_neg (by simp only;omega)])];exact HO9.out,HM9.out⟩
             case measure => simp [intOf];omega
           · have hloI:¬ (y:Int) < (a:Int):=by omega
             have hhiI:¬ (b:Int) ≤ (y:Int):=by omega
             have HLO:=Hd (And.intro hlo hhi)
             have HN:=hp_new (W:=wr) (b:=wr.heap.size) (o:=.cells #[.int .i64 (y:Int),.int .i64 p2] 57) rfl
             have hb9:=below_allocs (Below.refl wr.heap.size wr) (.cells #[.int .i64 (y:Int),.int .i64 p2] 57)
             go_upto_region 17 with fail
             generalize World.alloc _ _ = W at HN hb9 ⊢
             have HB9:=Hd hb9
             have HN9:=Hd HN
             have e0:=holda hb9 HLB.out.1
             have e1:=holda hb9 HLB.out.2
             have n0:=at_ HN 0 _ rfl
             obtain ⟨n0,n0f⟩:=n0
             clear q0 q1 lq0 lq1 hb9 HN hy
             obtain ⟨ya,hya⟩:∃ ya,y - a = ya:=⟨_,rfl⟩
             have hyaI:(y:Int) - (a:Int) = (ya:Int):=by omega
             have hwya:IntKind.i64.wrap (ya:Int) = (ya:Int):=IntWalk.i64_in _ (by omega)
             have HYA:=Hd hya
             have hgg:=HG.out
             have hne:=HNE.out
             have HSFr:=Hd (owns_mod HSF6.out HMi.out (fun x hx => by simp [Value.ownBlock] at hx;simp;omega))
             have HSTr:=Hd (owns_mod HST.out HMi.out (fun x hx => by simp [Value.ownBlock] at hx;simp;omega))
             have hgz:g.length ≤ 10000:=by have:=HMU.out;omega
             have hmz:(madeG cols g).length ≤ 10001:=by have:=madeG_len HC.out.1 g;have:=HGC.out;omega
             have hmc:cntL (madeG cols g) ≤ 1000000000000:=by
              have h1:=cnt_le (L:=R) (N:=10000) (fun r hr => (HRM6.out.2 r hr).1.1) R.length
              rw [HRMM.out] at h1
              have h2:=congrArg List.length HRMM.out
              rw [List.length_map] at h2
              rw [List.take_of_length_le (by omega)] at h1
              omega
             obtain ⟨off,hoff⟩:∃ off,off = offP g (ya:Int) p2:=⟨_,rfl⟩
             have hof:off ≤ 10000:=by rw [hoff];have:=offP_le g (ya:Int) p2;have:=HGC.out;omega
             have HOFFS:Hid (∀ w',Below wr.heap.size wr w'→Calls Tryz.prog 103 #[.slice (some ⟨gF,0,none⟩) g.length cS,.agg #[.int .i64 (ya:Int),.int .i64 p2]] w' (fun e w'' => e = .returned (.int .i64 off)∧Below w'.heap.size w' w'')):=Hd (fun w' hb => by
              rw [hoff]
              exact foffset_any _ g cS (ya:Int) p2 w' (gr_own encN_len (n:=g.length) (c:=cS) (e:=3) (by rw [sumsL_len];exact owns_mod HSFr.out (Mod.of_below (X:=[]) hb) (fun _ _ h => by cases h))) (by omega) (by have:=HGC.out;omega) (by omega))
             have HPLC:Hid (∀ w',Below wr.heap.size wr w'→Calls Tryz.prog 102 #[.slice (some ⟨gT,0,none⟩) (madeG cols g).length cT,.int .i64 off] w' (fun e w'' => e = .returned (.agg #[.int .i64 (plP (madeG cols g) off).1,.int .i64 (plP (madeG cols g) off).2])∧Below w'.heap.size w' w'')):=Hd (fun w' hb => fplace_any _ (madeG cols g) cT off w' (gr_own encN_len (n:=(madeG cols g).length) (c:=cT) (e:=3) (by rw [sumsL_len];exact owns_mod HSTr.out (Mod.of_below (X:=[]) hb) (fun _ _ h => by cases h))) (madeG_pos cols g) (by omega) hmc (by omega))
             have HPF:=Hd (plP_fst_le (madeG cols g) off)
             have HPB:Hid (plAt cols M b (p1,p2) = (((d + (plP (madeG cols g) off).1:Nat):Int),((plP (madeG cols g) off).2:Int))):=Hd (by
              have h1:=HY.out
              have h2:=HGG.out
              have h3:=HLO.out
              unfold plAt
              rw [if_pos (by simp only;omega),rfP_at (p:=(p1,p2)) (y:=y) (by rw [HGM.out.1];exact hgg.1) h1 (by rw [HGM.out.1,hgg.2.1];omega) (by rw [HGM.out.1,hgg.2.1,hgg.2.2.1];omega),HGM.out.1,hgg.2.1,hya,← HDO.out]
              simp only [if_neg HNG.out,← hoff])
             obtain ⟨pr,hpr⟩:∃ pr,pr = (plP (madeG cols g) off).1:=⟨_,rfl⟩
             obtain ⟨pc,hpc⟩:∃ pc,pc = (plP (madeG cols g) off).2:=⟨_,rfl⟩
             rw [← hpr,← hpc] at HPLC HPB
             rw [← hpr] at HPF
             obtain ⟨rd,hrd⟩:∃ rd,rd = d + pr:=⟨_,rfl⟩
             have hrdI:(pr:Int) + (d:Int) = (rd:Int):=by omega
             have hwrd:IntKind.i64.wrap (rd:Int) = (rd:Int):=IntWalk.i64_in _ (by have:=HPF.out;omega)
             rw [← hrd] at HPB
             have hq9:=HB9.out.size
             clear hpr hpc hrd hoff hof hmc hmz hgz hya hgg hne hlo hhi hab hba hpok hy64
             go_upto_region 19 with fail
             have HN2:=Hd (whole_set HN9.out 0 (.int .i64 (ya:Int)) (cs':=[.int .i64 (ya:Int),.int .i64 p2]) rfl)
             have HB2:=Hd (below_set HB9.out (Nat.le_refl _) (o:=0) (.int .i64 (ya:Int)))
             clear e0 e1 n0 n0f
             generalize World.setCell _ _ _ = W2 at HN2 HB2 ⊢
             have m0:=(at_ HN2.out 0 _ rfl).1
             have m1:=(at_ HN2.out 1 _ rfl).1
             go_upto_region 20 with (first
              | (go_at_call 103;(with_reducible refine (HOFFS.out _ HB2.out).mono ?_);rintro e w3 ⟨rfl,hb3⟩;have HB3:=Hd (below_tail HB2.out hb3);have HN3:=Hd ((hb3.block _ (lt_of_heap HN2.out)).trans HN2.out);clear hb3 m0 m1)
              | (go_at_call 102;(with_reducible refine (HPLC.out _ HB3.out).mono ?_);rintro e w4 ⟨rfl,hb4⟩;have HB4:=Hd (below_tail HB3.out hb4);have HN4:=Hd ((hb4.block _ (lt_of_heap HN3.out)).trans HN3.out);obtain ⟨k0,k0f⟩:=at_ HN4.out 0 _ rfl;obtain ⟨k1,k1f⟩:=at_ HN4.out 1 _ rfl;clear hb4))
             have HN5:=Hd (whole_set (whole_set HN4.out 0 (.int .i64 (pr:Int)) (cs':=[.int .i64 (pr:Int),.int .i64 p2]) rfl) 1 (.int .i64 (pc:Int)) (cs':=[.int .i64 (pr:Int),.int .i64 (pc:Int)]) rfl)
             have HB5:=Hd (below_set (below_set HB4.out (Nat.le_refl _) (o:=0) (.int .i64 (pr:Int))) (Nat.le_refl _) (o:=1) (.int .i64 (pc:Int)))
             clear k0 k0f k1 k1f
             generalize World.setCell _ _ _ = W6 at HN5 HB5 ⊢
             have l0:=(at_ HN5.out 0 _ rfl).1
             have l1:=(at_ HN5.out 1 _ rfl).1
             have HO6:=Hd (owns_mod HOi.out (Mod.of_below (X:=[]) HB5.out) (fun _ _ h => by cases h))
             obtain ⟨⟨z0,z0f⟩,z1,z1f⟩:=owns_pos HO6.out HPI.out
             have HS:=Hd (owns_setPos HO6.out (i:=i) (by rw [plI_len,HNL2.out];exact hlt2) ((rd:Int),(pc:Int)))
             have HMf:=Hd (((HMi.out.then_below HB5.out).setCell (a:=⟨g8,i * 2,none⟩) (.inl (by simp)) (.int .i64 (rd:Int))).setCell (a:=⟨g8,i * 2 + 1,none⟩) (.inl (by simp)) (.int .i64 (pc:Int)))
             go_wp2
             go_roundw
             case rel => exact ⟨i + 1,by go_num,by omega,by rw [HPS.out,HPB.out];exact HS.out,HMf.out⟩
             case measure => simp [intOf];omega
end Go.Proofs.YtffdblmdelgkaaaGreat
