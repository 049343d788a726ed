/- Joined by a tool of this claim out of smaller texts. Conditions: as stated. -/
import Derived.Test.YtffdblmdelgkaaaGreatRt21
set_option linter.unusedVariables false
set_option linter.unusedSimpArgs false
set_option maxRecDepth 100000
open Go.Lib renaming hid → Hd
namespace Go.Proofs.YtffdblmdelgkaaaGreat
open Go.RowKit
theorem run_copy_none {P:Program} (w:World) (dT sT ty elem:TypeId) (d a:Option Addr) (dLen dCap sCap k:Nat) (hu:P.underlying dT = some (.slice elem)) (hs:(P.info? elem).map (·.size) = some k) :
 (Builtin.copy_ #[dT,sT] ty #[.slice d dLen dCap,.slice a 0 sCap]).run P w = .ok (goInt 0) w:=by
 cases hq:P.info? elem with
 | none => simp [hq] at hs
 | some i =>
   cases d <;> cases a <;> simp [Builtin.copy_,run_underlying hu,Builtin.lenOf,Builtin.firstCells,sizeOf,typeInfo,hq,loadCells,loadCellsFrom,storeCells]
theorem copy_into {w:World} {base g cap n c:Nat} {A:Option Addr} {D S:List Cl} (h:CrO w base g cap D) (hs:GrAt encCl 8 w A S) (hn:n ≤ S.length) (hd:n ≤ D.length) :
 ∃ w',(Builtin.copy_ #[48,48] 3 #[.slice (some ⟨g,0,none⟩) D.length cap,.slice A n c]).run Tryz.prog w = .ok (goInt n) w'∧CrO w' base g cap (S.take n ++ D.drop n)∧Mod [g] w w':=by
 rcases Nat.eq_zero_or_pos n with rfl | hn0
 · exact ⟨w,run_copy_none w _ _ _ 109 _ _ _ _ _ 8 Tryz.underlying48 info_cell,by simpa using h,Mod.refl _ _⟩
 · obtain ⟨b,off,rfl,hc⟩:=hs (by omega)
   have hlen:(S.take n).length = n:=by rw [List.length_take];omega
   have hcl:(flat encCl (S.take n)).length = n * 8:=by rw [flat_len encCl_len,hlen]
   have hmin:Nat.min n D.length = n:=Nat.min_eq_left hd
   have:=run_copy_k (P:=Tryz.prog) w 48 48 3 109 g 0 D.length cap ⟨b,off,none⟩ n c 8 (flat encCl (S.take n)) Tryz.underlying48 info_cell (by rw [hmin,hcl]) (fun j v hj => ?_) (fun j hj => ?_) (fun j hj => ?_) (flat_one encCl_one _)
   · rw [hmin] at this
     have h2:=h.setMany 0 (S.take n) (by rw [hlen];omega)
     rw [hlen,Nat.zero_mul,Nat.zero_add,List.take_zero,List.nil_append] at h2
     exact ⟨_,this,h2⟩
   · exact (GrAt.firsts0 hs n).news encCl_len j v hj
   · rw [hcl] at hj
     obtain ⟨v,hv⟩:∃ v,(flat encCl D)[0 + j]? = some v:=⟨_,List.getElem?_eq_getElem (by rw [flat_len encCl_len];omega)⟩
     rw [(owns_hold h hv).1];rfl
   · rw [hcl] at hj
     obtain ⟨v,hv⟩:∃ v,(flat encCl D)[0 + j]? = some v:=⟨_,List.getElem?_eq_getElem (by rw [flat_len encCl_len];omega)⟩
     exact (owns_hold h hv).2
theorem splitG_rest {cols:Nat} (hc:2 ≤ cols) (c:Bool) (l:List Cl):splitG cols (l.length + 1) c l = ⟨rowCs cols l,c⟩ :: (if takeN cols l < l.length then splitG cols ((l.drop (takeN cols l)).length + 1) true (l.drop (takeN cols l)) else []):=by
 rw [splitG]
 split
 · next h =>
   have:=takeN_pos hc (l:=l) (by omega)
   rw [splitG_fuel hc l.length ((l.drop (takeN cols l)).length + 1) true (l.drop (takeN cols l)) (by rw [List.length_drop];omega) (by omega)]
 · rfl
def lnV:Value→Nat
 | .slice _ n _ => n
 | _ => 0
theorem RcAt.lasts {w:World} {A:Option Addr} {l:List Cl} {cap n:Nat} {b b':Bool} {cap':Nat} {A':Option Addr} (h:RcAt w ⟨A,l,cap,b⟩) (hA:n < l.length→∃ g o,A = some ⟨g,o,none⟩∧A' = some ⟨g,o + n * 8,none⟩):RcAt w ⟨A',l.drop n,cap',b'⟩ :=
 ⟨by have:=h.1;simp only [List.length_drop] at *;omega,h.2.1.drop n,fun h0 => by
  have h1:0 < (l.drop n).length:=h0
  rw [List.length_drop] at h1
  obtain ⟨g,o,rfl,rfl⟩:=hA (by omega)
  obtain ⟨b2,off,e,hc⟩:=h.2.2.1 (show 0 < l.length by omega)
  simp only [Option.some.injEq,Addr.mk.injEq,and_true] at e
  obtain ⟨rfl,rfl⟩:=e
  refine ⟨g,o + n * 8,rfl,fun i x hx j v hv => ?_⟩
  have:=hc (n + i) x (by rw [List.getElem?_drop] at hx;exact hx) j v hv
  rw [show o + n * 8 + i * 8 + j = o + (n + i) * 8 + j by omega]
  exact this,fun h0 => by
  have h1:0 < (l.drop n).length:=h0
  rw [List.length_drop] at h1
  obtain ⟨g,o,rfl,rfl⟩:=hA (by omega)
  obtain ⟨b2,off,cs,f,e,hc⟩:=h.2.2.2 (show 0 < l.length by omega)
  simp only [Option.some.injEq,Addr.mk.injEq,and_true] at e
  obtain ⟨rfl,rfl⟩:=e
  exact ⟨g,_,cs,f,rfl,hc⟩⟩
theorem fine_row {cols:Nat} {l:List Cl} (h:Fine l):Fine (rowCs cols l):=by
 unfold rowCs
 refine (h.take _).append ?_
 split
 · intro c hc
   rw [List.mem_singleton.1 hc];exact Nat.zero_le _
 · exact fun c hc => by rw [(List.mem_replicate.1 hc).2];exact Nat.zero_le _
theorem CrO.pad {w:World} {base g cap n cols:Nat} {S:List Cl} (h:CrO w base g cap (S.take n ++ (List.replicate cols zC).drop n)) (hn:n + 1 = cols) (hS:n ≤ S.length) :
 HoldAt w g (n * 8 + 2) (.int .i64 0)∧CrO (w.setCell ⟨g,n * 8 + 2,none⟩ (.int .i64 3)) base g cap (S.take n ++ [padC]):=by
 have e:S.take n ++ (List.replicate cols zC).drop n = S.take n ++ [zC]:=by
  rw [List.drop_replicate,show cols - n = 1 by omega];rfl
 rw [e] at h
 have hx:(S.take n ++ [zC])[n]? = some zC:=by
  rw [List.getElem?_append_right (by rw [List.length_take];omega),List.length_take,show n - min n S.length = 0 by omega];rfl
 refine ⟨owns_hold h (i:=n * 8 + 2) (by rw [flat_at2 encCl_len _ n zC 2 hx (by decide)];rfl),?_⟩
 have h1:=owns_set1 h (n * 8 + 2) (.int .i64 3)
 rw [flat_set1 encCl_len _ n zC padC 2 (.int .i64 3) hx (by decide) rfl] at h1
 rw [List.set_append_right _ _ (by rw [List.length_take];omega),List.length_take,show n - min n S.length = 0 by omega,List.set_cons_zero] at h1
 unfold CrO
 have hl:(S.take n ++ [padC]).length = (S.take n ++ [zC]).length:=by simp
 rw [hl]
 exact h1
theorem rowCs_plain {cols n:Nat} {S:List Cl} (hn:n = takeN cols S) (h:¬ (n + 1 = cols∧n < S.length)):S.take n ++ (List.replicate cols zC).drop n = rowCs cols S:=by
 unfold rowCs
 rw [← hn,if_neg h,List.drop_replicate]
theorem rowCs_padded {cols n:Nat} {S:List Cl} (hn:n = takeN cols S) (h:n + 1 = cols∧n < S.length):S.take n ++ [padC] = rowCs cols S:=by
 unfold rowCs
 rw [← hn,if_pos h]
theorem rc_nil_of {w:World} {A:Option Addr} {l:List Cl} {cap:Nat} {b:Bool} (h:l.length = 0):RcAt w ⟨A,l,cap,b⟩:=by
 rw [List.length_eq_zero_iff.1 h]
 exact rc_nil w A cap b
structure SplSt (w:World) (cols:Nat) (R:List Ro) (v5 v6:Value) (done:List Rh) (left:List Cl) (wr:World):Prop where
 h5:∃ A c,v5 = .slice A left.length c∧left.length ≤ c∧RcAt wr ⟨A,left,c,false⟩∧(done = []→left.length = 0→A = none∧c = 0)
 h6:RowsO w.heap.size wr v6 done
 hR:R = done.map roOf ++ (if done = [] ∨ 0 < left.length then splitG cols (left.length + 1) (decide (done ≠ [])) left else [])
 hb:Below w.heap.size w wr
set_option maxHeartbeats 6400000 in
theorem fSplit_any (A:Option Addr) (l:List Cl) (ca cols:Nat) (w:World) (hl:GrAt encCl 8 w A l) (hz:l.length ≤ 10000) (hf:Fine l) (hc:2 ≤ cols) (hc2:cols ≤ 1000) :
 Calls Tryz.prog 99 #[.slice A l.length ca,.int .i64 cols] w (AllPost (splitL cols l) w):=by
 obtain ⟨j0,hj,gz0,gz1,gz2⟩:=info_parts info_cellz
 obtain ⟨j1,hj1,gy0,gy1,gy2⟩:=info_parts info_rowz
 have HFI:=Hd (fun w => ffits_any cols w hc hc2)
 have HPL:=Hd (fplain_any A l ca w hl hz hf)
 have HTK:=Hd (fun (A:Option Addr) (l:List Cl) (ca:Nat) (w:World) (hl:GrAt encCl 8 w A l) (hz:l.length ≤ 100000000) => ftake_any A l ca cols w hl hz hc hc2)
 obtain ⟨P,hP⟩:∃ P,P = plainL l:=⟨_,rfl⟩
 have hPz:P.length ≤ 10000:=by rw [hP,plainL_len];exact hz
 obtain ⟨R,hR⟩:∃ R,R = splitL cols l:=⟨_,rfl⟩
 have hR2:R = splitG cols (P.length + 1) false P:=by
  rw [hR,hP];unfold splitL
  exact splitG_fuel hc _ _ _ _ (by rw [plainL_len];omega) (by omega)
 have hRl:R.length ≤ 10001:=by
  have:=splitG_len hc (P.length + 1) false P
  rw [← hR2] at this;omega
 rw [← hP] at HPL
 rw [← hR]
 have HR2:=Hd hR2
 have HRL:=Hd hRl
 have HC:=Hd (And.intro hc hc2)
 clear hl hP hPz hR hR2 hRl hf
 go_enter Tryz.func99,Tryz.ntmps99
 go_wp2_with (first
  | (go_at_call 96;(with_reducible refine (HFI.out _).mono ?_);rintro e w1 ⟨rfl,rfl⟩)
  | (go_at_call 131;(with_reducible refine HPL.out.mono ?_);rintro e w2 ⟨A5,c5,rfl,hc5,hr5,hb5,hz5⟩;have HR5:=Hd hr5;have HB5:=Hd hb5;have HC5:=Hd hc5;have HZ5:=Hd hz5;clear hr5 hb5 hc5 hz5))
 go_loopw [5,6] (fun s5 s6 wr => ∃ done left,SplSt w cols R s5 s6 done left wr) (fun s5 s6 _ => 2 * lnV s5 + (if lnV s6 = 0 then 1 else 0))
 case atStart => exact ⟨[],P,⟨A5,c5,rfl,HC5.out,HR5.out,fun _ => HZ5.out⟩,⟨World.ownsRow_nil _ _ _ _,fun r hr => by cases hr⟩,by rw [HR2.out];simp,HB5.out⟩
 case round =>
  obtain ⟨done,left,⟨A5,c5,rfl,hc5,hr5,hz5⟩,h6,hR,hb⟩:=hrel
  obtain ⟨A6,c6,hv6⟩:=row_form h6.1
  subst hv6
  have H6:=Hd h6
  have HB:=Hd hb
  have HR5':=Hd hr5
  have HRE:=Hd hR
  have hdl:done.length ≤ 10001:=by
   have:=congrArg List.length hR
   rw [List.length_append,List.length_map] at this
   have:=HRL.out
   omega
  by_cases hend:done = [] ∨ 0 < left.length
  rotate_left
  · have hd0:done ≠ []:=fun h => hend (.inl h)
    have hl0:left.length = 0:=by have:¬ 0 < left.length:=fun h => hend (.inr h);omega
    have hdp:0 < done.length:=List.length_pos_iff.2 hd0
    obtain ⟨p,hp⟩:∃ p,done.length = p:=⟨_,rfl⟩
    have HP:=Hd hp
    rw [hp] at hdp ⊢
    have hp0:((p:Int) == 0) = false:=beq_eq_false_iff_ne.2 (by omega)
    have hpn:¬ (p:Int) = 0:=by omega
    have HE:=Hd hend
    rw [hl0]
    clear h6 hb hr5 hR hend hd0 hl0 hp
    go_wp2
    go_ret
    refine ⟨_,done,rfl,?_,?_,HB.out⟩
    · rw [← HP.out];exact H6.out
    · rw [HRE.out,if_neg HE.out,List.append_nil]
  · -- printed by gen_FlE.py
    obtain ⟨n,hn⟩:∃ n,n = takeN cols left:=⟨_,rfl⟩
    obtain ⟨q,hq⟩:∃ q,left.length = q:=⟨_,rfl⟩
    obtain ⟨p,hp⟩:∃ p,done.length = p:=⟨_,rfl⟩
    have hnq:n ≤ q:=by rw [hn,← hq];exact takeN_le _ _
    have hnc:n ≤ cols:=by rw [hn];exact takeN_cols _ _
    have hq10:q ≤ 10000:=by rw [← hq];exact hr5.1
    have hcs:=HC.out
    have HREM:=Hd (splitG_rest (cols:=cols) hcs.1 (decide (done ≠ [])) left)
    have HTAKE:=Hd (HTK.out A5 left c5 wr hr5.2.2.1 (by omega))
    rw [← hn] at HREM HTAKE
    rw [hq] at HTAKE
    rw [hq] at hc5 ⊢
    rw [hp] at hdl ⊢
    have hnc5:n ≤ c5:=by omega
    have HP:=Hd hp
    have H6:=Hd (show RowsO w.heap.size wr (.slice A6 p c6) done from by rw [← hp];exact H6.out)
    have HQ:=Hd hq
    have HNN:=Hd hn
    have HEND:=Hd hend
    have HRA:=Hd (show R = done.map roOf ++ ⟨rowCs cols left,decide (done ≠ [])⟩ :: (if n < q then splitG cols ((left.drop n).length + 1) true (left.drop n) else []) from by rw [HRE.out,if_pos hend,HREM.out,hq])
    obtain ⟨k1,hk1⟩:∃ k1,k1 + 1 = cols:=⟨cols - 1,by omega⟩
    have hk1I:(cols:Int) - 1 = (k1:Int):=by omega
    have hwk1:IntKind.i64.wrap (k1:Int) = (k1:Int):=IntWalk.i64_in _ (by omega)
    have HG5:=Hd hr5.2.2.1
    have HFL:=Hd hr5.2.1
    by_cases hq0:q = 0
    · have hp0:p = 0:=by
       rcases hend with h | h
       · rw [h] at hp;exact hp.symm
       · omega
      have hn0:n = 0:=by omega
      obtain ⟨rfl,-⟩:=hz5 (by
       rcases hend with h | h
       · exact h
       · omega) (by rw [hq];exact hq0)
      have hp0b:((p:Int) == 0) = true:=by simp [hp0]
      have hpN:¬ 0 < p:=by omega
      have hkn:¬ n = k1:=by omega
      have hkz:¬ (n:Int) = (k1:Int):=by omega
      have HP0:=Hd hp0
      have HQ0:=Hd hq0
      have HN0:=Hd hn0
      clear h6 hb hr5 hR hend hn hp hq hcs hp0 hq0 hn0 hz5
      go_upto_region 8 with (first
       | (go_at_call 132;(with_reducible refine HTAKE.out.mono ?_);rintro e w9 ⟨rfl,rfl⟩)
       | (refine wpList_make_full _ rfl (.tmp 25) (.tmp 25) _ rfl w.heap.size 109 j0 _ 8 Tryz.underlying48 hj gz0 gz1 .i64 .i64 _ _ cols rfl rfl ?_ ?_ ?_ ?_ ?_ ?_))
      all_goals first
       | rfl
       | omega
       | (simp only [maxLen];omega)
       | (rw [gz2];omega)
       | (simp;done)
       | exact HB.out.size
       | skip
      intro w1 hown hg
      have HG:=Hd hg
      have e:=made_flat zC cols
      have HO1:Hid (CrO w1 w.heap.size wr.heap.size cols (List.replicate cols zC)):=Hd (by unfold CrO;rw [List.length_replicate,← e];exact hown)
      have HB1:=Hd (show Below wr.heap.size wr w1 from (Below.refl _ _).grown HG.out (Nat.le_refl _) (fun k hk => by cases hk))
      obtain ⟨w2,hcp,hO2,hM2⟩:=copy_into (n:=n) (c:=c5) HO1.out (HG5.out.below HB1.out) (by rw [HQ.out];omega) (by rw [List.length_replicate];omega)
      rw [List.length_replicate] at hcp
      have HO2:=Hd hO2
      have HB2:=Hd (HB1.out.trans (hM2.below (B:=wr.heap.size) (fun x hx => by rw [List.mem_singleton.1 hx];exact Nat.le_refl _) HB1.out.size))
      clear hown hg e hO2 hM2
      obtain ⟨g1,hg1⟩:∃ g1,wr.heap.size = g1:=⟨_,rfl⟩
      rw [hg1] at hcp HO2 ⊢
      have HG1:=Hd hg1
      clear hg1
      have hne1:((n:Int) == (k1:Int)) = false:=beq_eq_false_iff_ne.2 hkz
      go_upto_region 12 with fail
      have hqn:=HQ0.out
      have hnn:=HN0.out
      have hcc:=HC.out.1
      have HO3:Hid (CrO w2 w.heap.size g1 cols (rowCs cols left)):=Hd (by rw [← rowCs_plain HNN.out (by rw [HQ.out];omega)];exact HO2.out)
      have HB3:=Hd HB2.out
      obtain ⟨W3,hW3⟩:∃ W3,W3 = w2:=⟨_,rfl⟩
      subst hW3
      clear hqn hnn hcc
      have HL3:Hid (RcAt W3 ⟨none,left.drop n,c5 - n,false⟩):=Hd (rc_nil_of (by have:=HQ0.out;rw [List.length_drop,HQ.out];omega))
      have H63:=Hd (H6.out.below HB3.out)
      have HBT:=Hd (below_tail HB.out HB3.out)
      have HRC3:Hid (RcAt W3 ⟨some ⟨g1,0,none⟩,rowCs cols left,cols,false⟩):=Hd (.of_own HO3.out (by rw [rowCs_len HC.out.1];have:=HC.out.2;omega) (fine_row HFL.out) false)
      go_upto_region 12 with fail
      refine wp_region_lit ?_
      refine wpList_valG (.slice A6 p c6) (by rfl) (by rfl) ?_
      simp only [Act.put,List.setIfInBounds_toArray,List.set_cons_zero,List.set_cons_succ]
      refine wpList_valG (.slice (some ⟨g1,0,none⟩) cols cols) (by rfl) (by rfl) ?_
      simp only [Act.put,List.setIfInBounds_toArray,List.set_cons_zero,List.set_cons_succ]
      refine wpList_valG (.slice A6 p c6) (by rfl) (by rfl) ?_
      simp only [Act.put,List.setIfInBounds_toArray,List.set_cons_zero,List.set_cons_succ]
      refine wpList_valG (.int .i64 (p:Int)) (by rfl) (by go_simp) ?_
      simp only [Act.put,List.setIfInBounds_toArray,List.set_cons_zero,List.set_cons_succ]
      refine wpList_valG (.bool false) (by rfl) (by go_simp) ?_
      simp only [Act.put,List.setIfInBounds_toArray,List.set_cons_zero,List.set_cons_succ]
      refine wpList_valG (.agg #[.slice (some ⟨g1,0,none⟩) cols cols,.bool false]) (by rfl) (by go_simp) ?_
      simp only [Act.put,List.setIfInBounds_toArray,List.set_cons_zero,List.set_cons_succ]
      have hbx:=below_allocs (Below.refl W3.heap.size W3) (.cells #[.slice (some ⟨g1,0,none⟩) cols cols,.bool false] 50)
      refine wpList_actG (.slice (some ⟨W3.heap.size,0,none⟩) 1 1) (W3.alloc (.cells #[.slice (some ⟨g1,0,none⟩) cols cols,.bool false] 50)) (by rfl) (by go_simp) ?_
      simp only [Act.put,List.setIfInBounds_toArray,List.set_cons_zero,List.set_cons_succ]
      have HBX:=Hd (below_tail HBT.out hbx)
      have HRX:=Hd (H63.out.below hbx)
      have HRC4:=Hd (HRC3.out.below hbx)
      have HL4:=Hd (HL3.out.below hbx)
      refine wpList_append_g (o:=⟨some 55,_,_,_,_,_⟩) rfl (.tmp 48) (.tmp 54) 42 rfl w.heap.size 50 j1 _ 2 32 Tryz.underlying42 hj1 gy0 gy1 gy2 rfl (by decide) (.slice A6 p c6) done.length (flat encRh done) rfl HRX.out.1 ⟨W3.heap.size,0,none⟩ 1 1 (encRh ⟨some ⟨g1,0,none⟩,rowCs cols left,cols,false⟩) rfl rfl ?_ (encRh_one _) (by simp only [maxLen];have:=HP.out;omega) (by have:=HP.out;omega) HBX.out.size ?_
      · intro j u hj
        rw [add_lit',Nat.zero_add]
        exact (at_ (hp_new rfl) j u (by simpa [encRh,rowCs_len HC.out.1] using hj)).1
      · intro v' w7 ho hg hv'
        have HRO:=Hd (HRX.out.push (r:=⟨some ⟨g1,0,none⟩,rowCs cols left,cols,false⟩) ho hg HRC4.out (by rw [rowCs_len HC.out.1];have:=HC.out.1;omega))
        have hmo:Mod (Value.slice A6 p c6).ownBlock.toList (W3.alloc (.cells #[.slice (some ⟨g1,0,none⟩) cols cols,.bool false] 50)) w7:=Mod.of_grown hg (fun b hb => by simp [hb])
        have hnc:NoCel (W3.alloc (.cells #[.slice (some ⟨g1,0,none⟩) cols cols,.bool false] 50)) (Value.slice A6 p c6).ownBlock.toList:=fun b hb cs f he => by
         obtain ⟨cur,hc⟩:=own_block HRX.out.1 (Option.mem_toList.1 hb)
         exact block_ne hc he (by decide) rfl
        have HL7:=Hd (HL4.out.mod hmo hnc)
        have HB7:=Hd (HBX.out.grown hg HBX.out.size (fun x hx => (HRX.out.1.lt x hx).1))
        have hln:lnV v' = p + 1:=by
         rcases ho.2 with ⟨e,h0⟩ | ⟨g',c',cur,e,_⟩
         · have:=HP.out;omega
         · rw [e];show done.length + 1 = _;rw [HP.out]
        have HLN:=Hd hln
        simp only [Act.put,List.setIfInBounds_toArray,List.set_cons_zero,List.set_cons_succ]
        clear ho hg hv' hmo hnc hln hbx
        go_wp2
        go_roundw
        case rel =>
         refine ⟨done ++ [⟨some ⟨g1,0,none⟩,rowCs cols left,cols,false⟩],left.drop n,⟨none,c5 - n,by rw [List.length_drop,HQ.out],by rw [List.length_drop,HQ.out];omega,HL7.out,fun h => absurd h (by simp)⟩,HRO.out,?_,HB7.out⟩
         rw [HRA.out,List.map_append,List.append_assoc]
         congr 1
         have hdec:decide (done ≠ []) = false:=by have:=HP.out;have:=HP0.out;rw [decide_eq_false_iff_not];intro h;apply h;exact List.length_eq_zero_iff.1 (by omega)
         rw [hdec]
         have hne:¬ (done ++ [(⟨some ⟨g1,0,none⟩,rowCs cols left,cols,false⟩:Rh)] = []):=by simp
         have hdec2:decide (done ++ [(⟨some ⟨g1,0,none⟩,rowCs cols left,cols,false⟩:Rh)] ≠ []) = true:=by simp
         rw [hdec2,List.length_drop,HQ.out]
         simp only [hne,false_or]
         by_cases h:n < q
         · rw [if_pos h,if_pos (show 0 < q - n by omega)];rfl
         · rw [if_neg h,if_neg (show ¬ 0 < q - n by omega)];rfl
        case measure => show 2 * (q - n) + (if lnV v' = 0 then 1 else 0) < 2 * q + (if p = 0 then 1 else 0);have h1:=HLN.out;have h2:=HP0.out;have h3:=HQ0.out;rw [h1,if_neg (show ¬ p + 1 = 0 by omega)];split <;> omega
    · have hq1:0 < left.length:=by rw [hq];omega
      obtain ⟨b,off,rfl,-⟩:=hr5.2.2.1 hq1
      have hqI:0 < (q:Int):=by omega
      have hn1:0 < n:=by rw [hn];exact takeN_pos HC.out.1 hq1
      clear h6 hb hr5 hR hend hn hq hcs hq1 hq0 hz5
      by_cases hp0:p = 0
      · have hp0b:((p:Int) == 0) = true:=by simp [hp0]
        have hpN:¬ 0 < p:=by omega
        have HP0:=Hd hp0
        clear hp hp0
        go_upto_region 8 with (first
         | (go_at_call 132;(with_reducible refine HTAKE.out.mono ?_);rintro e w9 ⟨rfl,rfl⟩)
         | (refine wpList_make_full _ rfl (.tmp 25) (.tmp 25) _ rfl w.heap.size 109 j0 _ 8 Tryz.underlying48 hj gz0 gz1 .i64 .i64 _ _ cols rfl rfl ?_ ?_ ?_ ?_ ?_ ?_))
        all_goals first
         | rfl
         | omega
         | (simp only [maxLen];omega)
         | (rw [gz2];omega)
         | (simp;done)
         | exact HB.out.size
         | skip
        intro w1 hown hg
        have HG:=Hd hg
        have e:=made_flat zC cols
        have HO1:Hid (CrO w1 w.heap.size wr.heap.size cols (List.replicate cols zC)):=Hd (by unfold CrO;rw [List.length_replicate,← e];exact hown)
        have HB1:=Hd (show Below wr.heap.size wr w1 from (Below.refl _ _).grown HG.out (Nat.le_refl _) (fun k hk => by cases hk))
        obtain ⟨w2,hcp,hO2,hM2⟩:=copy_into (n:=n) (c:=c5) HO1.out (HG5.out.below HB1.out) (by rw [HQ.out];omega) (by rw [List.length_replicate];omega)
        rw [List.length_replicate] at hcp
        have HO2:=Hd hO2
        have HB2:=Hd (HB1.out.trans (hM2.below (B:=wr.heap.size) (fun x hx => by rw [List.mem_singleton.1 hx];exact Nat.le_refl _) HB1.out.size))
        clear hown hg e hO2 hM2
        obtain ⟨g1,hg1⟩:∃ g1,wr.heap.size = g1:=⟨_,rfl⟩
        rw [hg1] at hcp HO2 ⊢
        have HG1:=Hd hg1
        clear hg1
        obtain ⟨off2,hoff,hoff2⟩:∃ off2,(if c5 = n then (some ⟨b,off,none⟩:Option Addr) else some ⟨b,off + n * 8,none⟩) = some ⟨b,off2,none⟩∧(n < c5→off2 = off + n * 8):=by
         by_cases h:c5 = n
         · exact ⟨off,if_pos h,fun h2 => by omega⟩
         · exact ⟨off + n * 8,if_neg h,fun _ => rfl⟩
        have HADR:Hid (n < q→off2 = off + n * 8):=Hd (fun h => hoff2 (by omega))
        obtain ⟨d,hd⟩:∃ d,q - n = d:=⟨_,rfl⟩
        have HD:=Hd hd
        clear hoff2
        by_cases hnk:n = k1
        · have heq1:((n:Int) == (k1:Int)) = true:=by simp [hnk]
          have HNK:=Hd hnk
          clear hnk
          by_cases hd0:0 < d
          · have hdI:0 < (d:Int):=by omega
            have hncI:(n:Int) < (cols:Int):=by have:=HNK.out;omega
            obtain ⟨y0,y0f⟩:=(HO2.out.pad (n:=n) (by have:=HNK.out;omega) (by rw [HQ.out];omega)).1
            have HO3:Hid (CrO (w2.setCell ⟨g1,n * 8 + 2,none⟩ (.int .i64 3)) w.heap.size g1 cols (rowCs cols left)):=Hd (by rw [← rowCs_padded HNN.out ⟨by have:=HNK.out;omega,by rw [HQ.out];omega⟩];exact (HO2.out.pad (n:=n) (by have:=HNK.out;omega) (by rw [HQ.out];omega)).2)
            have HB3:=Hd (below_set HB2.out (show wr.heap.size ≤ g1 from Nat.le_of_eq HG1.out) (o:=n * 8 + 2) (.int .i64 3))
            go_upto_region 12 with fail
            clear hcp y0 y0f
            generalize World.setCell _ _ _ = W3 at HO3 HB3 ⊢
            have HL3:Hid (RcAt W3 ⟨(some ⟨b,off + n * 8,none⟩),left.drop n,c5 - n,false⟩):=Hd ((HR5'.out.below HB3.out).lasts (fun hlt => ⟨b,off,rfl,rfl⟩))
            have H63:=Hd (H6.out.below HB3.out)
            have HBT:=Hd (below_tail HB.out HB3.out)
            have HRC3:Hid (RcAt W3 ⟨some ⟨g1,0,none⟩,rowCs cols left,cols,false⟩):=Hd (.of_own HO3.out (by rw [rowCs_len HC.out.1];have:=HC.out.2;omega) (fine_row HFL.out) false)
            go_upto_region 12 with fail
            refine wp_region_lit ?_
            refine wpList_valG (.slice A6 p c6) (by rfl) (by rfl) ?_
            simp only [Act.put,List.setIfInBounds_toArray,List.set_cons_zero,List.set_cons_succ]
            refine wpList_valG (.slice (some ⟨g1,0,none⟩) cols cols) (by rfl) (by rfl) ?_
            simp only [Act.put,List.setIfInBounds_toArray,List.set_cons_zero,List.set_cons_succ]
            refine wpList_valG (.slice A6 p c6) (by rfl) (by rfl) ?_
            simp only [Act.put,List.setIfInBounds_toArray,List.set_cons_zero,List.set_cons_succ]
            refine wpList_valG (.int .i64 (p:Int)) (by rfl) (by go_simp) ?_
            simp only [Act.put,List.setIfInBounds_toArray,List.set_cons_zero,List.set_cons_succ]
            refine wpList_valG (.bool false) (by rfl) (by go_simp) ?_
            simp only [Act.put,List.setIfInBounds_toArray,List.set_cons_zero,List.set_cons_succ]
            refine wpList_valG (.agg #[.slice (some ⟨g1,0,none⟩) cols cols,.bool false]) (by rfl) (by go_simp) ?_
            simp only [Act.put,List.setIfInBounds_toArray,List.set_cons_zero,List.set_cons_succ]
            have hbx:=below_allocs (Below.refl W3.heap.size W3) (.cells #[.slice (some ⟨g1,0,none⟩) cols cols,.bool false] 50)
            refine wpList_actG (.slice (some ⟨W3.heap.size,0,none⟩) 1 1) (W3.alloc (.cells #[.slice (some ⟨g1,0,none⟩) cols cols,.bool false] 50)) (by rfl) (by go_simp) ?_
            simp only [Act.put,List.setIfInBounds_toArray,List.set_cons_zero,List.set_cons_succ]
            have HBX:=Hd (below_tail HBT.out hbx)
            have HRX:=Hd (H63.out.below hbx)
            have HRC4:=Hd (HRC3.out.below hbx)
            have HL4:=Hd (HL3.out.below hbx)
            refine wpList_append_g (o:=⟨some 55,_,_,_,_,_⟩) rfl (.tmp 48) (.tmp 54) 42 rfl w.heap.size 50 j1 _ 2 32 Tryz.underlying42 hj1 gy0 gy1 gy2 rfl (by decide) (.slice A6 p c6) done.length (flat encRh done) rfl HRX.out.1 ⟨W3.heap.size,0,none⟩ 1 1 (encRh ⟨some ⟨g1,0,none⟩,rowCs cols left,cols,false⟩) rfl rfl ?_ (encRh_one _) (by simp only [maxLen];have:=HP.out;omega) (by have:=HP.out;omega) HBX.out.size ?_
            · intro j u hj
              rw [add_lit',Nat.zero_add]
              exact (at_ (hp_new rfl) j u (by simpa [encRh,rowCs_len HC.out.1] using hj)).1
            · intro v' w7 ho hg hv'
              have HRO:=Hd (HRX.out.push (r:=⟨some ⟨g1,0,none⟩,rowCs cols left,cols,false⟩) ho hg HRC4.out (by rw [rowCs_len HC.out.1];have:=HC.out.1;omega))
              have hmo:Mod (Value.slice A6 p c6).ownBlock.toList (W3.alloc (.cells #[.slice (some ⟨g1,0,none⟩) cols cols,.bool false] 50)) w7:=Mod.of_grown hg (fun b hb => by simp [hb])
              have hnc:NoCel (W3.alloc (.cells #[.slice (some ⟨g1,0,none⟩) cols cols,.bool false] 50)) (Value.slice A6 p c6).ownBlock.toList:=fun b hb cs f he => by
               obtain ⟨cur,hc⟩:=own_block HRX.out.1 (Option.mem_toList.1 hb)
               exact block_ne hc he (by decide) rfl
              have HL7:=Hd (HL4.out.mod hmo hnc)
              have HB7:=Hd (HBX.out.grown hg HBX.out.size (fun x hx => (HRX.out.1.lt x hx).1))
              have hln:lnV v' = p + 1:=by
               rcases ho.2 with ⟨e,h0⟩ | ⟨g',c',cur,e,_⟩
               · have:=HP.out;omega
               · rw [e];show done.length + 1 = _;rw [HP.out]
              have HLN:=Hd hln
              simp only [Act.put,List.setIfInBounds_toArray,List.set_cons_zero,List.set_cons_succ]
              clear ho hg hv' hmo hnc hln hbx
              go_wp2
              go_roundw
              case rel =>
               refine ⟨done ++ [⟨some ⟨g1,0,none⟩,rowCs cols left,cols,false⟩],left.drop n,⟨(some ⟨b,off + n * 8,none⟩),c5 - n,by rw [List.length_drop,HQ.out,HD.out],by rw [List.length_drop,HQ.out];omega,HL7.out,fun h => absurd h (by simp)⟩,HRO.out,?_,HB7.out⟩
               rw [HRA.out,List.map_append,List.append_assoc]
               congr 1
               have hdec:decide (done ≠ []) = false:=by have:=HP.out;have:=HP0.out;rw [decide_eq_false_iff_not];intro h;apply h;exact List.length_eq_zero_iff.1 (by omega)
               rw [hdec]
               have hne:¬ (done ++ [(⟨some ⟨g1,0,none⟩,rowCs cols left,cols,false⟩:Rh)] = []):=by simp
               have hdec2:decide (done ++ [(⟨some ⟨g1,0,none⟩,rowCs cols left,cols,false⟩:Rh)] ≠ []) = true:=by simp
               rw [hdec2,List.length_drop,HQ.out]
               simp only [hne,false_or]
               by_cases h:n < q
               · rw [if_pos h,if_pos (show 0 < q - n by omega)];rfl
               · rw [if_neg h,if_neg (show ¬ 0 < q - n by omega)];rfl
              case measure => show 2 * d + (if lnV v' = 0 then 1 else 0) < 2 * q + (if p = 0 then 1 else 0);have h1:=HLN.out;have h2:=HP0.out;have h4:=HD.out;rw [h1,if_neg (show ¬ p + 1 = 0 by omega)];split <;> omega
          · have hdI:¬ 0 < (d:Int):=by omega
            go_upto_region 12 with fail
            clear hcp
            have HO3:Hid (CrO w2 w.heap.size g1 cols (rowCs cols left)):=Hd (by rw [← rowCs_plain HNN.out (by rw [HQ.out];omega)];exact HO2.out)
            have HB3:=Hd HB2.out
            obtain ⟨W3,hW3⟩:∃ W3,W3 = w2:=⟨_,rfl⟩
            subst hW3
            have HL3:Hid (RcAt W3 ⟨(some ⟨b,off2,none⟩),left.drop n,c5 - n,false⟩):=Hd ((HR5'.out.below HB3.out).lasts (fun hlt => ⟨b,off,rfl,by rw [HADR.out (by rw [← HQ.out];exact hlt)]⟩))
            have H63:=Hd (H6.out.below HB3.out)
            have HBT:=Hd (below_tail HB.out HB3.out)
            have HRC3:Hid (RcAt W3 ⟨some ⟨g1,0,none⟩,rowCs cols left,cols,false⟩):=Hd (.of_own HO3.out (by rw [rowCs_len HC.out.1];have:=HC.out.2;omega) (fine_row HFL.out) false)
            go_upto_region 12 with fail
            refine wp_region_lit ?_
            refine wpList_valG (.slice A6 p c6) (by rfl) (by rfl) ?_
            simp only [Act.put,List.setIfInBounds_toArray,List.set_cons_zero,List.set_cons_succ]
            refine wpList_valG (.slice (some ⟨g1,0,none⟩) cols cols) (by rfl) (by rfl) ?_
            simp only [Act.put,List.setIfInBounds_toArray,List.set_cons_zero,List.set_cons_succ]
            refine wpList_valG (.slice A6 p c6) (by rfl) (by rfl) ?_
            simp only [Act.put,List.setIfInBounds_toArray,List.set_cons_zero,List.set_cons_succ]
            refine wpList_valG (.int .i64 (p:Int)) (by rfl) (by go_simp) ?_
            simp only [Act.put,List.setIfInBounds_toArray,List.set_cons_zero,List.set_cons_succ]
            refine wpList_valG (.bool false) (by rfl) (by go_simp) ?_
            simp only [Act.put,List.setIfInBounds_toArray,List.set_cons_zero,List.set_cons_succ]
            refine wpList_valG (.agg #[.slice (some ⟨g1,0,none⟩) cols cols,.bool false]) (by rfl) (by go_simp) ?_
            simp only [Act.put,List.setIfInBounds_toArray,List.set_cons_zero,List.set_cons_succ]
            have hbx:=below_allocs (Below.refl W3.heap.size W3) (.cells #[.slice (some ⟨g1,0,none⟩) cols cols,.bool false] 50)
            refine wpList_actG (.slice (some ⟨W3.heap.size,0,none⟩) 1 1) (W3.alloc (.cells #[.slice (some ⟨g1,0,none⟩) cols cols,.bool false] 50)) (by rfl) (by go_simp) ?_
            simp only [Act.put,List.setIfInBounds_toArray,List.set_cons_zero,List.set_cons_succ]
            have HBX:=Hd (below_tail HBT.out hbx)
            have HRX:=Hd (H63.out.below hbx)
            have HRC4:=Hd (HRC3.out.below hbx)
            have HL4:=Hd (HL3.out.below hbx)
            refine wpList_append_g (o:=⟨some 55,_,_,_,_,_⟩) rfl (.tmp 48) (.tmp 54) 42 rfl w.heap.size 50 j1 _ 2 32 Tryz.underlying42 hj1 gy0 gy1 gy2 rfl (by decide) (.slice A6 p c6) done.length (flat encRh done) rfl HRX.out.1 ⟨W3.heap.size,0,none⟩ 1 1 (encRh ⟨some ⟨g1,0,none⟩,rowCs cols left,cols,false⟩) rfl rfl ?_ (encRh_one _) (by simp only [maxLen];have:=HP.out;omega) (by have:=HP.out;omega) HBX.out.size ?_
            · intro j u hj
              rw [add_lit',Nat.zero_add]
              exact (at_ (hp_new rfl) j u (by simpa [encRh,rowCs_len HC.out.1] using hj)).1
            · intro v' w7 ho hg hv'
              have HRO:=Hd (HRX.out.push (r:=⟨some ⟨g1,0,none⟩,rowCs cols left,cols,false⟩) ho hg HRC4.out (by rw [rowCs_len HC.out.1];have:=HC.out.1;omega))
              have hmo:Mod (Value.slice A6 p c6).ownBlock.toList (W3.alloc (.cells #[.slice (some ⟨g1,0,none⟩) cols cols,.bool false] 50)) w7:=Mod.of_grown hg (fun b hb => by simp [hb])
              have hnc:NoCel (W3.alloc (.cells #[.slice (some ⟨g1,0,none⟩) cols cols,.bool false] 50)) (Value.slice A6 p c6).ownBlock.toList:=fun b hb cs f he => by
               obtain ⟨cur,hc⟩:=own_block HRX.out.1 (Option.mem_toList.1 hb)
               exact block_ne hc he (by decide) rfl
              have HL7:=Hd (HL4.out.mod hmo hnc)
              have HB7:=Hd (HBX.out.grown hg HBX.out.size (fun x hx => (HRX.out.1.lt x hx).1))
              have hln:lnV v' = p + 1:=by
               rcases ho.2 with ⟨e,h0⟩ | ⟨g',c',cur,e,_⟩
               · have:=HP.out;omega
               · rw [e];show done.length + 1 = _;rw [HP.out]
              have HLN:=Hd hln
              simp only [Act.put,List.setIfInBounds_toArray,List.set_cons_zero,List.set_cons_succ]
              clear ho hg hv' hmo hnc hln hbx
              go_wp2
              go_roundw
              case rel =>
               refine ⟨done ++ [⟨some ⟨g1,0,none⟩,rowCs cols left,cols,false⟩],left.drop n,⟨(some ⟨b,off2,none⟩),c5 - n,by rw [List.length_drop,HQ.out,HD.out],by rw [List.length_drop,HQ.out];omega,HL7.out,fun h => absurd h (by simp)⟩,HRO.out,?_,HB7.out⟩
               rw [HRA.out,List.map_append,List.append_assoc]
               congr 1
               have hdec:decide (done ≠ []) = false:=by have:=HP.out;have:=HP0.out;rw [decide_eq_false_iff_not];intro h;apply h;exact List.length_eq_zero_iff.1 (by omega)
               rw [hdec]
               have hne:¬ (done ++ [(⟨some ⟨g1,0,none⟩,rowCs cols left,cols,false⟩:Rh)] = []):=by simp
               have hdec2:decide (done ++ [(⟨some ⟨g1,0,none⟩,rowCs cols left,cols,false⟩:Rh)] ≠ []) = true:=by simp
               rw [hdec2,List.length_drop,HQ.out]
               simp only [hne,false_or]
               by_cases h:n < q
               · rw [if_pos h,if_pos (show 0 < q - n by omega)];rfl
               · rw [if_neg h,if_neg (show ¬ 0 < q - n by omega)];rfl
              case measure => show 2 * d + (if lnV v' = 0 then 1 else 0) < 2 * q + (if p = 0 then 1 else 0);have h1:=HLN.out;have h2:=HP0.out;have h4:=HD.out;rw [h1,if_neg (show ¬ p + 1 = 0 by omega)];split <;> omega
        · have heq1:((n:Int) == (k1:Int)) = false:=beq_eq_false_iff_ne.2 (by omega)
          have hkz:¬ (n:Int) = (k1:Int):=by omega
          go_upto_region 12 with fail
          clear hcp
          have HO3:Hid (CrO w2 w.heap.size g1 cols (rowCs cols left)):=Hd (by rw [← rowCs_plain HNN.out (by rw [HQ.out];omega)];exact HO2.out)
          have HB3:=Hd HB2.out
          obtain ⟨W3,hW3⟩:∃ W3,W3 = w2:=⟨_,rfl⟩
          subst hW3
          have HL3:Hid (RcAt W3 ⟨(some ⟨b,off2,none⟩),left.drop n,c5 - n,false⟩):=Hd ((HR5'.out.below HB3.out).lasts (fun hlt => ⟨b,off,rfl,by rw [HADR.out (by rw [← HQ.out];exact hlt)]⟩))
          have H63:=Hd (H6.out.below HB3.out)
          have HBT:=Hd (below_tail HB.out HB3.out)
          have HRC3:Hid (RcAt W3 ⟨some ⟨g1,0,none⟩,rowCs cols left,cols,false⟩):=Hd (.of_own HO3.out (by rw [rowCs_len HC.out.1];have:=HC.out.2;omega) (fine_row HFL.out) false)
          go_upto_region 12 with fail
          refine wp_region_lit ?_
          refine wpList_valG (.slice A6 p c6) (by rfl) (by rfl) ?_
          simp only [Act.put,List.setIfInBounds_toArray,List.set_cons_zero,List.set_cons_succ]
          refine wpList_valG (.slice (some ⟨g1,0,none⟩) cols cols) (by rfl) (by rfl) ?_
          simp only [Act.put,List.setIfInBounds_toArray,List.set_cons_zero,List.set_cons_succ]
          refine wpList_valG (.slice A6 p c6) (by rfl) (by rfl) ?_
          simp only [Act.put,List.setIfInBounds_toArray,List.set_cons_zero,List.set_cons_succ]
          refine wpList_valG (.int .i64 (p:Int)) (by rfl) (by go_simp) ?_
          simp only [Act.put,List.setIfInBounds_toArray,List.set_cons_zero,List.set_cons_succ]
          refine wpList_valG (.bool false) (by rfl) (by go_simp) ?_
          simp only [Act.put,List.setIfInBounds_toArray,List.set_cons_zero,List.set_cons_succ]
          refine wpList_valG (.agg #[.slice (some ⟨g1,0,none⟩) cols cols,.bool false]) (by rfl) (by go_simp) ?_
          simp only [Act.put,List.setIfInBounds_toArray,List.set_cons_zero,List.set_cons_succ]
          have hbx:=below_allocs (Below.refl W3.heap.size W3) (.cells #[.slice (some ⟨g1,0,none⟩) cols cols,.bool false] 50)
          refine wpList_actG (.slice (some ⟨W3.heap.size,0,none⟩) 1 1) (W3.alloc (.cells #[.slice (some ⟨g1,0,none⟩) cols cols,.bool false] 50)) (by rfl) (by go_simp) ?_
          simp only [Act.put,List.setIfInBounds_toArray,List.set_cons_zero,List.set_cons_succ]
          have HBX:=Hd (below_tail HBT.out hbx)
          have HRX:=Hd (H63.out.below hbx)
          have HRC4:=Hd (HRC3.out.below hbx)
          have HL4:=Hd (HL3.out.below hbx)
          refine wpList_append_g (o:=⟨some 55,_,_,_,_,_⟩) rfl (.tmp 48) (.tmp 54) 42 rfl w.heap.size 50 j1 _ 2 32 Tryz.underlying42 hj1 gy0 gy1 gy2 rfl (by decide) (.slice A6 p c6) done.length (flat encRh done) rfl HRX.out.1 ⟨W3.heap.size,0,none⟩ 1 1 (encRh ⟨some ⟨g1,0,none⟩,rowCs cols left,cols,false⟩) rfl rfl ?_ (encRh_one _) (by simp only [maxLen];have:=HP.out;omega) (by have:=HP.out;omega) HBX.out.size ?_
          · intro j u hj
            rw [add_lit',Nat.zero_add]
            exact (at_ (hp_new rfl) j u (by simpa [encRh,rowCs_len HC.out.1] using hj)).1
          · intro v' w7 ho hg hv'
            have HRO:=Hd (HRX.out.push (r:=⟨some ⟨g1,0,none⟩,rowCs cols left,cols,false⟩) ho hg HRC4.out (by rw [rowCs_len HC.out.1];have:=HC.out.1;omega))
            have hmo:Mod (Value.slice A6 p c6).ownBlock.toList (W3.alloc (.cells #[.slice (some ⟨g1,0,none⟩) cols cols,.bool false] 50)) w7:=Mod.of_grown hg (fun b hb => by simp [hb])
            have hnc:NoCel (W3.alloc (.cells #[.slice (some ⟨g1,0,none⟩) cols cols,.bool false] 50)) (Value.slice A6 p c6).ownBlock.toList:=fun b hb cs f he => by
             obtain ⟨cur,hc⟩:=own_block HRX.out.1 (Option.mem_toList.1 hb)
             exact block_ne hc he (by decide) rfl
            have HL7:=Hd (HL4.out.mod hmo hnc)
            have HB7:=Hd (HBX.out.grown hg HBX.out.size (fun x hx => (HRX.out.1.lt x hx).1))
            have hln:lnV v' = p + 1:=by
             rcases ho.2 with ⟨e,h0⟩ | ⟨g',c',cur,e,_⟩
             · have:=HP.out;omega
             · rw [e];show done.length + 1 = _;rw [HP.out]
            have HLN:=Hd hln
            simp only [Act.put,List.setIfInBounds_toArray,List.set_cons_zero,List.set_cons_succ]
            clear ho hg hv' hmo hnc hln hbx
            go_wp2
            go_roundw
            case rel =>
             refine ⟨done ++ [⟨some ⟨g1,0,none⟩,rowCs cols left,cols,false⟩],left.drop n,⟨(some ⟨b,off2,none⟩),c5 - n,by rw [List.length_drop,HQ.out,HD.out],by rw [List.length_drop,HQ.out];omega,HL7.out,fun h => absurd h (by simp)⟩,HRO.out,?_,HB7.out⟩
             rw [HRA.out,List.map_append,List.append_assoc]
             congr 1
             have hdec:decide (done ≠ []) = false:=by have:=HP.out;have:=HP0.out;rw [decide_eq_false_iff_not];intro h;apply h;exact List.length_eq_zero_iff.1 (by omega)
             rw [hdec]
             have hne:¬ (done ++ [(⟨some ⟨g1,0,none⟩,rowCs cols left,cols,false⟩:Rh)] = []):=by simp
             have hdec2:decide (done ++ [(⟨some ⟨g1,0,none⟩,rowCs cols left,cols,false⟩:Rh)] ≠ []) = true:=by simp
             rw [hdec2,List.length_drop,HQ.out]
             simp only [hne,false_or]
             by_cases h:n < q
             · rw [if_pos h,if_pos (show 0 < q - n by omega)];rfl
             · rw [if_neg h,if_neg (show ¬ 0 < q - n by omega)];rfl
            case measure => show 2 * d + (if lnV v' = 0 then 1 else 0) < 2 * q + (if p = 0 then 1 else 0);have h1:=HLN.out;have h2:=HP0.out;have h4:=HD.out;rw [h1,if_neg (show ¬ p + 1 = 0 by omega)];split <;> omega
      · have hp0b:((p:Int) == 0) = false:=beq_eq_false_iff_ne.2 (by omega)
        have hpn:¬ (p:Int) = 0:=by omega
        have hpN:0 < p:=by omega
        have HP0:=Hd hp0
        clear hp hp0
        go_upto_region 8 with (first
         | (go_at_call 132;(with_reducible refine HTAKE.out.mono ?_);rintro e w9 ⟨rfl,rfl⟩)
         | (refine wpList_make_full _ rfl (.tmp 25) (.tmp 25) _ rfl w.heap.size 109 j0 _ 8 Tryz.underlying48 hj gz0 gz1 .i64 .i64 _ _ cols rfl rfl ?_ ?_ ?_ ?_ ?_ ?_))
        all_goals first
         | rfl
         | omega
         | (simp only [maxLen];omega)
         | (rw [gz2];omega)
         | (simp;done)
         | exact HB.out.size
         | skip
        intro w1 hown hg
        have HG:=Hd hg
        have e:=made_flat zC cols
        have HO1:Hid (CrO w1 w.heap.size wr.heap.size cols (List.replicate cols zC)):=Hd (by unfold CrO;rw [List.length_replicate,← e];exact hown)
        have HB1:=Hd (show Below wr.heap.size wr w1 from (Below.refl _ _).grown HG.out (Nat.le_refl _) (fun k hk => by cases hk))
        obtain ⟨w2,hcp,hO2,hM2⟩:=copy_into (n:=n) (c:=c5) HO1.out (HG5.out.below HB1.out) (by rw [HQ.out];omega) (by rw [List.length_replicate];omega)
        rw [List.length_replicate] at hcp
        have HO2:=Hd hO2
        have HB2:=Hd (HB1.out.trans (hM2.below (B:=wr.heap.size) (fun x hx => by rw [List.mem_singleton.1 hx];exact Nat.le_refl _) HB1.out.size))
        clear hown hg e hO2 hM2
        obtain ⟨g1,hg1⟩:∃ g1,wr.heap.size = g1:=⟨_,rfl⟩
        rw [hg1] at hcp HO2 ⊢
        have HG1:=Hd hg1
        clear hg1
        obtain ⟨off2,hoff,hoff2⟩:∃ off2,(if c5 = n then (some ⟨b,off,none⟩:Option Addr) else some ⟨b,off + n * 8,none⟩) = some ⟨b,off2,none⟩∧(n < c5→off2 = off + n * 8):=by
         by_cases h:c5 = n
         · exact ⟨off,if_pos h,fun h2 => by omega⟩
         · exact ⟨off + n * 8,if_neg h,fun _ => rfl⟩
        have HADR:Hid (n < q→off2 = off + n * 8):=Hd (fun h => hoff2 (by omega))
        obtain ⟨d,hd⟩:∃ d,q - n = d:=⟨_,rfl⟩
        have HD:=Hd hd
        clear hoff2
        by_cases hnk:n = k1
        · have heq1:((n:Int) == (k1:Int)) = true:=by simp [hnk]
          have HNK:=Hd hnk
          clear hnk
          by_cases hd0:0 < d
          · have hdI:0 < (d:Int):=by omega
            have hncI:(n:Int) < (cols:Int):=by have:=HNK.out;omega
            obtain ⟨y0,y0f⟩:=(HO2.out.pad (n:=n) (by have:=HNK.out;omega) (by rw [HQ.out];omega)).1
            have HO3:Hid (CrO (w2.setCell ⟨g1,n * 8 + 2,none⟩ (.int .i64 3)) w.heap.size g1 cols (rowCs cols left)):=Hd (by rw [← rowCs_padded HNN.out ⟨by have:=HNK.out;omega,by rw [HQ.out];omega⟩];exact (HO2.out.pad (n:=n) (by have:=HNK.out;omega) (by rw [HQ.out];omega)).2)
            have HB3:=Hd (below_set HB2.out (show wr.heap.size ≤ g1 from Nat.le_of_eq HG1.out) (o:=n * 8 + 2) (.int .i64 3))
            go_upto_region 12 with fail
            clear hcp y0 y0f
            generalize World.setCell _ _ _ = W3 at HO3 HB3 ⊢
            have HL3:Hid (RcAt W3 ⟨(some ⟨b,off + n * 8,none⟩),left.drop n,c5 - n,false⟩):=Hd ((HR5'.out.below HB3.out).lasts (fun hlt => ⟨b,off,rfl,rfl⟩))
            have H63:=Hd (H6.out.below HB3.out)
            have HBT:=Hd (below_tail HB.out HB3.out)
            have HRC3:Hid (RcAt W3 ⟨some ⟨g1,0,none⟩,rowCs cols left,cols,true⟩):=Hd (.of_own HO3.out (by rw [rowCs_len HC.out.1];have:=HC.out.2;omega) (fine_row HFL.out) true)
            go_upto_region 12 with fail
            refine wp_region_lit ?_
            refine wpList_valG (.slice A6 p c6) (by rfl) (by rfl) ?_
            simp only [Act.put,List.setIfInBounds_toArray,List.set_cons_zero,List.set_cons_succ]
            refine wpList_valG (.slice (some ⟨g1,0,none⟩) cols cols) (by rfl) (by rfl) ?_
            simp only [Act.put,List.setIfInBounds_toArray,List.set_cons_zero,List.set_cons_succ]
            refine wpList_valG (.slice A6 p c6) (by rfl) (by rfl) ?_
            simp only [Act.put,List.setIfInBounds_toArray,List.set_cons_zero,List.set_cons_succ]
            refine wpList_valG (.int .i64 (p:Int)) (by rfl) (by go_simp) ?_
            simp only [Act.put,List.setIfInBounds_toArray,List.set_cons_zero,List.set_cons_succ]
            refine wpList_valG (.bool true) (by rfl) (by go_simp) ?_
            simp only [Act.put,List.setIfInBounds_toArray,List.set_cons_zero,List.set_cons_succ]
            refine wpList_valG (.agg #[.slice (some ⟨g1,0,none⟩) cols cols,.bool true]) (by rfl) (by go_simp) ?_
            simp only [Act.put,List.setIfInBounds_toArray,List.set_cons_zero,List.set_cons_succ]
            have hbx:=below_allocs (Below.refl W3.heap.size W3) (.cells #[.slice (some ⟨g1,0,none⟩) cols cols,.bool true] 50)
            refine wpList_actG (.slice (some ⟨W3.heap.size,0,none⟩) 1 1) (W3.alloc (.cells #[.slice (some ⟨g1,0,none⟩) cols cols,.bool true] 50)) (by rfl) (by go_simp) ?_
            simp only [Act.put,List.setIfInBounds_toArray,List.set_cons_zero,List.set_cons_succ]
            have HBX:=Hd (below_tail HBT.out hbx)
            have HRX:=Hd (H63.out.below hbx)
            have HRC4:=Hd (HRC3.out.below hbx)
            have HL4:=Hd (HL3.out.below hbx)
            refine wpList_append_g (o:=⟨some 55,_,_,_,_,_⟩) rfl (.tmp 48) (.tmp 54) 42 rfl w.heap.size 50 j1 _ 2 32 Tryz.underlying42 hj1 gy0 gy1 gy2 rfl (by decide) (.slice A6 p c6) done.length (flat encRh done) rfl HRX.out.1 ⟨W3.heap.size,0,none⟩ 1 1 (encRh ⟨some ⟨g1,0,none⟩,rowCs cols left,cols,true⟩) rfl rfl ?_ (encRh_one _) (by simp only [maxLen];have:=HP.out;omega) (by have:=HP.out;omega) HBX.out.size ?_
            · intro j u hj
              rw [add_lit',Nat.zero_add]
              exact (at_ (hp_new rfl) j u (by simpa [encRh,rowCs_len HC.out.1] using hj)).1
            · intro v' w7 ho hg hv'
              have HRO:=Hd (HRX.out.push (r:=⟨some ⟨g1,0,none⟩,rowCs cols left,cols,true⟩) ho hg HRC4.out (by rw [rowCs_len HC.out.1];have:=HC.out.1;omega))
              have hmo:Mod (Value.slice A6 p c6).ownBlock.toList (W3.alloc (.cells #[.slice (some ⟨g1,0,none⟩) cols cols,.bool true] 50)) w7:=Mod.of_grown hg (fun b hb => by simp [hb])
              have hnc:NoCel (W3.alloc (.cells #[.slice (some ⟨g1,0,none⟩) cols cols,.bool true] 50)) (Value.slice A6 p c6).ownBlock.toList:=fun b hb cs f he => by
               obtain ⟨cur,hc⟩:=own_block HRX.out.1 (Option.mem_toList.1 hb)
               exact block_ne hc he (by decide) rfl
              have HL7:=Hd (HL4.out.mod hmo hnc)
              have HB7:=Hd (HBX.out.grown hg HBX.out.size (fun x hx => (HRX.out.1.lt x hx).1))
              have hln:lnV v' = p + 1:=by
               rcases ho.2 with ⟨e,h0⟩ | ⟨g',c',cur,e,_⟩
               · have:=HP.out;omega
               · rw [e];show done.length + 1 = _;rw [HP.out]
              have HLN:=Hd hln
              simp only [Act.put,List.setIfInBounds_toArray,List.set_cons_zero,List.set_cons_succ]
              clear ho hg hv' hmo hnc hln hbx
              go_wp2
              go_roundw
              case rel =>
               refine ⟨done ++ [⟨some ⟨g1,0,none⟩,rowCs cols left,cols,true⟩],left.drop n,⟨(some ⟨b,off + n * 8,none⟩),c5 - n,by rw [List.length_drop,HQ.out,HD.out],by rw [List.length_drop,HQ.out];omega,HL7.out,fun h => absurd h (by simp)⟩,HRO.out,?_,HB7.out⟩
               rw [HRA.out,List.map_append,List.append_assoc]
               congr 1
               have hdec:decide (done ≠ []) = true:=by have h1:=HP.out;have h2:=HP0.out;rw [decide_eq_true_eq];intro h;rw [h] at h1;exact h2 h1.symm
               rw [hdec]
               have hne:¬ (done ++ [(⟨some ⟨g1,0,none⟩,rowCs cols left,cols,true⟩:Rh)] = []):=by simp
               have hdec2:decide (done ++ [(⟨some ⟨g1,0,none⟩,rowCs cols left,cols,true⟩:Rh)] ≠ []) = true:=by simp
               rw [hdec2,List.length_drop,HQ.out]
               simp only [hne,false_or]
               by_cases h:n < q
               · rw [if_pos h,if_pos (show 0 < q - n by omega)];rfl
               · rw [if_neg h,if_neg (show ¬ 0 < q - n by omega)];rfl
              case measure => show 2 * d + (if lnV v' = 0 then 1 else 0) < 2 * q + (if p = 0 then 1 else 0);have h1:=HLN.out;have h2:=HP0.out;have h4:=HD.out;rw [h1,if_neg (show ¬ p + 1 = 0 by omega)];split <;> omega
          · have hdI:¬ 0 < (d:Int):=by omega
            go_upto_region 12 with fail
            clear hcp
            have HO3:Hid (CrO w2 w.heap.size g1 cols (rowCs cols left)):=Hd (by rw [← rowCs_plain HNN.out (by rw [HQ.out];omega)];exact HO2.out)
            have HB3:=Hd HB2.out
            obtain ⟨W3,hW3⟩:∃ W3,W3 = w2:=⟨_,rfl⟩
            subst hW3
            have HL3:Hid (RcAt W3 ⟨(some ⟨b,off2,none⟩),left.drop n,c5 - n,false⟩):=Hd ((HR5'.out.below HB3.out).lasts (fun hlt => ⟨b,off,rfl,by rw [HADR.out (by rw [← HQ.out];exact hlt)]⟩))
            have H63:=Hd (H6.out.below HB3.out)
            have HBT:=Hd (below_tail HB.out HB3.out)
            have HRC3:Hid (RcAt W3 ⟨some ⟨g1,0,none⟩,rowCs cols left,cols,true⟩):=Hd (.of_own HO3.out (by rw [rowCs_len HC.out.1];have:=HC.out.2;omega) (fine_row HFL.out) true)
            go_upto_region 12 with fail
            refine wp_region_lit ?_
            refine wpList_valG (.slice A6 p c6) (by rfl) (by rfl) ?_
            simp only [Act.put,List.setIfInBounds_toArray,List.set_cons_zero,List.set_cons_succ]
            refine wpList_valG (.slice (some ⟨g1,0,none⟩) cols cols) (by rfl) (by rfl) ?_
            simp only [Act.put,List.setIfInBounds_toArray,List.set_cons_zero,List.set_cons_succ]
            refine wpList_valG (.slice A6 p c6) (by rfl) (by rfl) ?_
            simp only [Act.put,List.setIfInBounds_toArray,List.set_cons_zero,List.set_cons_succ]
            refine wpList_valG (.int .i64 (p:Int)) (by rfl) (by go_simp) ?_
            simp only [Act.put,List.setIfInBounds_toArray,List.set_cons_zero,List.set_cons_succ]
            refine wpList_valG (.bool true) (by rfl) (by go_simp) ?_
            simp only [Act.put,List.setIfInBounds_toArray,List.set_cons_zero,List.set_cons_succ]
            refine wpList_valG (.agg #[.slice (some ⟨g1,0,none⟩) cols cols,.bool true]) (by rfl) (by go_simp) ?_
            simp only [Act.put,List.setIfInBounds_toArray,List.set_cons_zero,List.set_cons_succ]
            have hbx:=below_allocs (Below.refl W3.heap.size W3) (.cells #[.slice (some ⟨g1,0,none⟩) cols cols,.bool true] 50)
            refine wpList_actG (.slice (some ⟨W3.heap.size,0,none⟩) 1 1) (W3.alloc (.cells #[.slice (some ⟨g1,0,none⟩) cols cols,.bool true] 50)) (by rfl) (by go_simp) ?_
            simp only [Act.put,List.setIfInBounds_toArray,List.set_cons_zero,List.set_cons_succ]
            have HBX:=Hd (below_tail HBT.out hbx)
            have HRX:=Hd (H63.out.below hbx)
            have HRC4:=Hd (HRC3.out.below hbx)
            have HL4:=Hd (HL3.out.below hbx)
            refine wpList_append_g (o:=⟨some 55,_,_,_,_,_⟩) rfl (.tmp 48) (.tmp 54) 42 rfl w.heap.size 50 j1 _ 2 32 Tryz.underlying42 hj1 gy0 gy1 gy2 rfl (by decide) (.slice A6 p c6) done.length (flat encRh done) rfl HRX.out.1 ⟨W3.heap.size,0,none⟩ 1 1 (encRh ⟨some ⟨g1,0,none⟩,rowCs cols left,cols,true⟩) rfl rfl ?_ (encRh_one _) (by simp only [maxLen];have:=HP.out;omega) (by have:=HP.out;omega) HBX.out.size ?_
            · intro j u hj
              rw [add_lit',Nat.zero_add]
              exact (at_ (hp_new rfl) j u (by simpa [encRh,rowCs_len HC.out.1] using hj)).1
            · intro v' w7 ho hg hv'
              have HRO:=Hd (HRX.out.push (r:=⟨some ⟨g1,0,none⟩,rowCs cols left,cols,true⟩) ho hg HRC4.out (by rw [rowCs_len HC.out.1];have:=HC.out.1;omega))
              have hmo:Mod (Value.slice A6 p c6).ownBlock.toList (W3.alloc (.cells #[.slice (some ⟨g1,0,none⟩) cols cols,.bool true] 50)) w7:=Mod.of_grown hg (fun b hb => by simp [hb])
              have hnc:NoCel (W3.alloc (.cells #[.slice (some ⟨g1,0,none⟩) cols cols,.bool true] 50)) (Value.slice A6 p c6).ownBlock.toList:=fun b hb cs f he => by
               obtain ⟨cur,hc⟩:=own_block HRX.out.1 (Option.mem_toList.1 hb)
               exact block_ne hc he (by decide) rfl
              have HL7:=Hd (HL4.out.mod hmo hnc)
              have HB7:=Hd (HBX.out.grown hg HBX.out.size (fun x hx => (HRX.out.1.lt x hx).1))
              have hln:lnV v' = p + 1:=by
               rcases ho.2 with ⟨e,h0⟩ | ⟨g',c',cur,e,_⟩
               · have:=HP.out;omega
               · rw [e];show done.length + 1 = _;rw [HP.out]
              have HLN:=Hd hln
              simp only [Act.put,List.setIfInBounds_toArray,List.set_cons_zero,List.set_cons_succ]
              clear ho hg hv' hmo hnc hln hbx
              go_wp2
              go_roundw
              case rel =>
               refine ⟨done ++ [⟨some ⟨g1,0,none⟩,rowCs cols left,cols,true⟩],left.drop n,⟨(some ⟨b,off2,none⟩),c5 - n,by rw [List.length_drop,HQ.out,HD.out],by rw [List.length_drop,HQ.out];omega,HL7.out,fun h => absurd h (by simp)⟩,HRO.out,?_,HB7.out⟩
               rw [HRA.out,List.map_append,List.append_assoc]
               congr 1
               have hdec:decide (done ≠ []) = true:=by have h1:=HP.out;have h2:=HP0.out;rw [decide_eq_true_eq];intro h;rw [h] at h1;exact h2 h1.symm
               rw [hdec]
               have hne:¬ (done ++ [(⟨some ⟨g1,0,none⟩,rowCs cols left,cols,true⟩:Rh)] = []):=by simp
               have hdec2:decide (done ++ [(⟨some ⟨g1,0,none⟩,rowCs cols left,cols,true⟩:Rh)] ≠ []) = true:=by simp
               rw [hdec2,List.length_drop,HQ.out]
               simp only [hne,false_or]
               by_cases h:n < q
               · rw [if_pos h,if_pos (show 0 < q - n by omega)];rfl
               · rw [if_neg h,if_neg (show ¬ 0 < q - n by omega)];rfl
              case measure => show 2 * d + (if lnV v' = 0 then 1 else 0) < 2 * q + (if p = 0 then 1 else 0);have h1:=HLN.out;have h2:=HP0.out;have h4:=HD.out;rw [h1,if_neg (show ¬ p + 1 = 0 by omega)];split <;> omega
        · have heq1:((n:Int) == (k1:Int)) = false:=beq_eq_false_iff_ne.2 (by omega)
          have hkz:¬ (n:Int) = (k1:Int):=by omega
          go_upto_region 12 with fail
          clear hcp
          have HO3:Hid (CrO w2 w.heap.size g1 cols (rowCs cols left)):=Hd (by rw [← rowCs_plain HNN.out (by rw [HQ.out];omega)];exact HO2.out)
          have HB3:=Hd HB2.out
          obtain ⟨W3,hW3⟩:∃ W3,W3 = w2:=⟨_,rfl⟩
          subst hW3
          have HL3:Hid (RcAt W3 ⟨(some ⟨b,off2,none⟩),left.drop n,c5 - n,false⟩):=Hd ((HR5'.out.below HB3.out).lasts (fun hlt => ⟨b,off,rfl,by rw [HADR.out (by rw [← HQ.out];exact hlt)]⟩))
          have H63:=Hd (H6.out.below HB3.out)
          have HBT:=Hd (below_tail HB.out HB3.out)
          have HRC3:Hid (RcAt W3 ⟨some ⟨g1,0,none⟩,rowCs cols left,cols,true⟩):=Hd (.of_own HO3.out (by rw [rowCs_len HC.out.1];have:=HC.out.2;omega) (fine_row HFL.out) true)
          go_upto_region 12 with fail
          refine wp_region_lit ?_
          refine wpList_valG (.slice A6 p c6) (by rfl) (by rfl) ?_
          simp only [Act.put,List.setIfInBounds_toArray,List.set_cons_zero,List.set_cons_succ]
          refine wpList_valG (.slice (some ⟨g1,0,none⟩) cols cols) (by rfl) (by rfl) ?_
          simp only [Act.put,List.setIfInBounds_toArray,List.set_cons_zero,List.set_cons_succ]
          refine wpList_valG (.slice A6 p c6) (by rfl) (by rfl) ?_
          simp only [Act.put,List.setIfInBounds_toArray,List.set_cons_zero,List.set_cons_succ]
          refine wpList_valG (.int .i64 (p:Int)) (by rfl) (by go_simp) ?_
          simp only [Act.put,List.setIfInBounds_toArray,List.set_cons_zero,List.set_cons_succ]
          refine wpList_valG (.bool true) (by rfl) (by go_simp) ?_
          simp only [Act.put,List.setIfInBounds_toArray,List.set_cons_zero,List.set_cons_succ]
          refine wpList_valG (.agg #[.slice (some ⟨g1,0,none⟩) cols cols,.bool true]) (by rfl) (by go_simp) ?_
          simp only [Act.put,List.setIfInBounds_toArray,List.set_cons_zero,List.set_cons_succ]
          have hbx:=below_allocs (Below.refl W3.heap.size W3) (.cells #[.slice (some ⟨g1,0,none⟩) cols cols,.bool true] 50)
          refine wpList_actG (.slice (some ⟨W3.heap.size,0,none⟩) 1 1) (W3.alloc (.cells #[.slice (some ⟨g1,0,none⟩) cols cols,.bool true] 50)) (by rfl) (by go_simp) ?_
          simp only [Act.put,List.setIfInBounds_toArray,List.set_cons_zero,List.set_cons_succ]
          have HBX:=Hd (below_tail HBT.out hbx)
          have HRX:=Hd (H63.out.below hbx)
          have HRC4:=Hd (HRC3.out.below hbx)
          have HL4:=Hd (HL3.out.below hbx)
          refine wpList_append_g (o:=⟨some 55,_,_,_,_,_⟩) rfl (.tmp 48) (.tmp 54) 42 rfl w.heap.size 50 j1 _ 2 32 Tryz.underlying42 hj1 gy0 gy1 gy2 rfl (by decide) (.slice A6 p c6) done.length (flat encRh done) rfl HRX.out.1 ⟨W3.heap.size,0,none⟩ 1 1 (encRh ⟨some ⟨g1,0,none⟩,rowCs cols left,cols,true⟩) rfl rfl ?_ (encRh_one _) (by simp only [maxLen];have:=HP.out;omega) (by have:=HP.out;omega) HBX.out.size ?_
          · intro j u hj
            rw [add_lit',Nat.zero_add]
            exact (at_ (hp_new rfl) j u (by simpa [encRh,rowCs_len HC.out.1] using hj)).1
          · intro v' w7 ho hg hv'
            have HRO:=Hd (HRX.out.push (r:=⟨some ⟨g1,0,none⟩,rowCs cols left,cols,true⟩) ho hg HRC4.out (by rw [rowCs_len HC.out.1];have:=HC.out.1;omega))
            have hmo:Mod (Value.slice A6 p c6).ownBlock.toList (W3.alloc (.cells #[.slice (some ⟨g1,0,none⟩) cols cols,.bool true] 50)) w7:=Mod.of_grown hg (fun b hb => by simp [hb])
            have hnc:NoCel (W3.alloc (.cells #[.slice (some ⟨g1,0,none⟩) cols cols,.bool true] 50)) (Value.slice A6 p c6).ownBlock.toList:=fun b hb cs f he => by
             obtain ⟨cur,hc⟩:=own_block HRX.out.1 (Option.mem_toList.1 hb)
             exact block_ne hc he (by decide) rfl
            have HL7:=Hd (HL4.out.mod hmo hnc)
            have HB7:=Hd (HBX.out.grown hg HBX.out.size (fun x hx => (HRX.out.1.lt x hx).1))
            have hln:lnV v' = p + 1:=by
             rcases ho.2 with ⟨e,h0⟩ | ⟨g',c',cur,e,_⟩
             · have:=HP.out;omega
             · rw [e];show done.length + 1 = _;rw [HP.out]
            have HLN:=Hd hln
            simp only [Act.put,List.setIfInBounds_toArray,List.set_cons_zero,List.set_cons_succ]
            clear ho hg hv' hmo hnc hln hbx
            go_wp2
            go_roundw
            case rel =>
             refine ⟨done ++ [⟨some ⟨g1,0,none⟩,rowCs cols left,cols,true⟩],left.drop n,⟨(some ⟨b,off2,none⟩),c5 - n,by rw [List.length_drop,HQ.out,HD.out],by rw [List.length_drop,HQ.out];omega,HL7.out,fun h => absurd h (by simp)⟩,HRO.out,?_,HB7.out⟩
             rw [HRA.out,List.map_append,List.append_assoc]
             congr 1
             have hdec:decide (done ≠ []) = true:=by have h1:=HP.out;have h2:=HP0.out;rw [decide_eq_true_eq];intro h;rw [h] at h1;exact h2 h1.symm
             rw [hdec]
             have hne:¬ (done ++ [(⟨some ⟨g1,0,none⟩,rowCs cols left,cols,true⟩:Rh)] = []):=by simp
             have hdec2:decide (done ++ [(⟨some ⟨g1,0,none⟩,rowCs cols left,cols,true⟩:Rh)] ≠ []) = true:=by simp
             rw [hdec2,List.length_drop,HQ.out]
             simp only [hne,false_or]
             by_cases h:n < q
             · rw [if_pos h,if_pos (show 0 < q - n by omega)];rfl
             · rw [if_neg h,if_neg (show ¬ 0 < q - n by omega)];rfl
            case measure => show 2 * d + (if lnV v' = 0 then 1 else 0) < 2 * q + (if p = 0 then 1 else 0);have h1:=HLN.out;have h2:=HP0.out;have h4:=HD.out;rw [h1,if_neg (show ¬ p + 1 = 0 by omega)];split <;> omega
end Go.Proofs.YtffdblmdelgkaaaGreat
