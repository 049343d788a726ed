/- Joined by a tool of this claim out of smaller texts. Conditions: as stated. -/
import Derived.Test.YtffdblmdelgkaaaGreatRt23
set_option linter.unusedVariables false
set_option linter.unusedSimpArgs false
set_option maxRecDepth 100000
open Go.Lib renaming hid → Hd
namespace Go.Proofs.YtffdblmdelgkaaaGreat
open Go.RowKit
def fillH (X:List Ro) (room i:Nat):List Ro:=(X.take i).drop (i - room)
theorem fillH_push {X:List Ro} {room i:Nat} {r:Ro} (h:X[i]? = some r):fillH X room (i + 1) = (if room = 0 then [] else if (fillH X room i).length = room then (fillH X room i).drop 1 ++ [r] else fillH X room i ++ [r]):=by
 have hi:=(List.getElem?_eq_some_iff.1 h).1
 have hl:(fillH X room i).length = i - (i - room):=by unfold fillH;rw [List.length_drop,List.length_take];omega
 have e:X.take (i + 1) = X.take i ++ [r]:=by rw [List.take_add_one,h];rfl
 by_cases h0:room = 0
 · rw [if_pos h0]
   unfold fillH
   rw [h0,List.drop_eq_nil_of_le (by rw [List.length_take];omega)]
 · rw [if_neg h0,hl]
   unfold fillH
   by_cases hc:room ≤ i
   · rw [if_pos (by omega),e,List.drop_drop,List.drop_append_of_le_length (by rw [List.length_take];omega),show i + 1 - room = i - room + 1 by omega]
   · rw [if_neg (by omega),e,show i + 1 - room = 0 by omega,show i - room = 0 by omega];rfl
theorem fillH_len {X:List Ro} {room i:Nat} (hi:i ≤ X.length):(fillH X room i).length = i - (i - room):=by unfold fillH;rw [List.length_drop,List.length_take];omega
theorem wrap_mod (x:Int):IntKind.u64.wrap x = x % 18446744073709551616:=IntKind.wrap_u64 _
section
variable {base:Nat} {w:World} {R:Nat} {vl:Value} {SL:List Rh} {room first n:Nat} {gone:Int}
set_option maxHeartbeats 6400000 in
theorem rfill_any (h:RgO base w R vl SL room first n gone) (hg0:0 ≤ gone) (hg1:gone < 18446744073709551616) (hbw:base ≤ w.heap.size) (A:Option Addr) (X:List Rh) (ca:Nat) (hX:GrAt encRh 2 w A X) (hr:∀ r ∈ X,RcAt w r∧0 < r.cs.length) (hz:X.length ≤ 1000000) (hAR:∀ b off,A = some ⟨b,off,none⟩→b ≠ R) :
 Calls Tryz.prog 56 #[.pointer (some ⟨R,0,none⟩),.slice A X.length ca] w (fun e w' => e = .returned (.int .i64 ((X.length - room:Nat):Int))∧RgPost base w R vl room ((gone + (X.length - room:Nat)) % 18446744073709551616) (fillH (X.map roOf) room X.length) w'):=by
 have H:=Hd h
 have HX:=Hd hX
 have HR:=Hd hr
 have HAR:=Hd hAR
 obtain ⟨y0,y0f⟩:=at_ h.blk 0 _ rfl
 obtain ⟨y2,y2f⟩:=at_ h.blk 2 _ rfl
 obtain ⟨y3,y3f⟩:=at_ h.blk 3 _ rfl
 obtain ⟨y4,y4f⟩:=at_ h.blk 4 _ rfl
 have HK:=Hd (whole_set (whole_set (whole_set (cs:=[vl,.int .i64 room,.int .i64 first,.int .i64 n,.int .u64 gone]) h.blk 0 (.slice none 0 0) (cs':=[.slice none 0 0,.int .i64 room,.int .i64 first,.int .i64 n,.int .u64 gone]) rfl) 2 (.int .i64 0) (cs':=[.slice none 0 0,.int .i64 room,.int .i64 0,.int .i64 n,.int .u64 gone]) rfl) 3 (.int .i64 0) (cs':=[.slice none 0 0,.int .i64 room,.int .i64 0,.int .i64 0,.int .u64 gone]) rfl)
 have HM:=Hd ((((Mod.refl [R] w).setCell (a:=⟨R,0,none⟩) (.inl (by simp)) (.slice none 0 0)).setCell (a:=⟨R,2,none⟩) (.inl (by simp)) (.int .i64 0)).setCell (a:=⟨R,3,none⟩) (.inl (by simp)) (.int .i64 0))
 obtain ⟨m,hm⟩:∃ m,X.length = m:=⟨_,rfl⟩
 have HXM:=Hd hm
 rw [hm] at hz ⊢
 have HG:=Hd (And.intro hg0 hg1)
 have hroom:=h.hroom
 have HBW:=Hd hbw
 clear h hX hr hm hAR hg0 hg1 hbw
 go_enter Tryz.func56,Tryz.ntmps56
 go_upto_region 5 with fail
 clear y0 y0f y2 y2f y3 y3f y4 y4f
 generalize World.setCell _ _ _ = w1 at HK HM ⊢
 have HO1:Hid (RgO base w1 R (.slice none 0 0) [] room 0 0 gone):=Hd ⟨HK.out,World.ownsRow_nil _ _ _ _,H.out.hb,H.out.hroom,Nat.le_refl _,Nat.zero_le _,.inr ⟨rfl,rfl⟩,fun r hr => by cases hr⟩
 have HNC:Hid (NoCel w [R]):=Hd (fun b hb => H.out.nocel b (by rw [List.mem_singleton.1 hb];simp [ringX]))
 have HSZ:Hid (w.heap.size ≤ w1.heap.size):=Hd HM.out.size
 go_wp2_with fail
 go_loopw [25] (fun s25 wr => ∃ i:Nat,s25 = .int .i64 i∧i ≤ m∧RgPost base w1 R (.slice none 0 0) room ((gone + (i - room:Nat)) % 18446744073709551616) (fillH (X.map roOf) room i) wr) (fun s25 _ => m - (intOf s25).toNat)
 case atStart => exact ⟨0,rfl,Nat.zero_le _,.slice none 0 0,[],0,0,by have:=HO1.out;rw [show (0 - room:Nat) = 0 by omega,Int.emod_eq_of_lt (by have:=HG.out.1;omega) (by have:=HG.out.2;omega)];simpa using this,by simp [fillH,histL],Mod.refl _ _,fun g hg => .inl hg⟩
 case round =>
  obtain ⟨i,rfl,hi,hp⟩:=hrel
  obtain ⟨vl2,SL2,f2,n2,hO,hH,hMo,hvb⟩:=hp
  have HO:=Hd hO
  have HHM:=Hd hH
  have HMo:=Hd hMo
  have hMw:Mod [R] w wr:=HM.out.trans hMo (fun x hx => by simp [ringX,Value.ownBlock] at hx;exact .inl (by simp [hx]))
  have HMW:=Hd hMw
  have HVB:=Hd hvb
  by_cases hlt:i < m
  rotate_left
  · have hge:¬ (i:Int) < (m:Int):=by omega
    have him:i = m:=by omega
    rw [him] at HO HHM
    obtain ⟨z4,z4f⟩:=at_ HO.out.blk 4 _ rfl
    obtain ⟨G2,hG2⟩:∃ G2,G2 = (gone + (m - room:Nat)) % 18446744073709551616:=⟨_,rfl⟩
    rw [← hG2] at z4 HO
    obtain ⟨k,hk⟩:∃ k,k = m - room:=⟨_,rfl⟩
    have hsub:IntKind.u64.wrap (G2 - gone) = (k:Int):=by
     have h1:=HG.out
     rw [wrap_mod,hG2]
     have h2:=hk
     omega
    have hcv:IntKind.i64.wrap (k:Int) = (k:Int):=IntWalk.i64_in _ (by omega)
    have HG2:=Hd hG2
    have HKK:=Hd hk
    clear hO hH hMo hMw him hG2 hk hvb
    go_wp2
    go_ret
    refine ⟨by rw [← HKK.out];rfl,vl2,SL2,f2,n2,by rw [← HG2.out];exact HO.out,HHM.out,HMW.out.mono (fun x hx => by rw [List.mem_singleton.1 hx];simp [ringX]),fun g hg => ?_⟩
    rcases HVB.out g hg with hv | hv
    · simp [Value.ownBlock] at hv
    · exact .inr (Nat.le_trans HSZ.out hv)
  · have hltI:(i:Int) < (m:Int):=by omega
    have hil:i < X.length:=by rw [HXM.out];exact hlt
    have hxw:GrAt encRh 2 wr A X:=fun h0 => by
     obtain ⟨b,off,e,hc⟩:=HX.out h0
     exact ⟨b,off,e,fun i x hx j v hv => hMw.cell (by rw [List.mem_singleton];exact HAR.out b off e) (hc i x hx j v hv)⟩
    obtain ⟨b,off,r,rfl,hx,hcell⟩:=hxw.at_ hil
    have hrr:=HR.out r (List.mem_of_getElem? hx)
    have hxm:(X.map roOf)[i]? = some (roOf r):=by rw [List.getElem?_map,hx];rfl
    have HPU:=Hd (fillH_push (room:=room) hxm)
    have hn2:n2 = (fillH (X.map roOf) room i).length:=by rw [← hH,List.length_map,histL_len]
    have hfl:=fillH_len (X:=X.map roOf) (room:=room) (i:=i) (by rw [List.length_map];omega)
    have c0:=hcell 0 _ rfl
    have c1:=hcell 1 _ rfl
    simp only [Nat.add_zero] at c0
    obtain ⟨W,hW⟩:∃ W,wr.alloc (.cells #[.slice r.A r.cs.length r.cap,.bool r.cont] 50) = W:=⟨_,rfl⟩
    have hbW:Below wr.heap.size wr W:=by rw [← hW];exact below_allocs (Below.refl _ _) _
    have HBW2:=Hd hbW
    have HNW:=Hd (show W.heap[wr.heap.size]? = some (.cells #[.slice r.A r.cs.length r.cap,.bool r.cont] 50 (0,0)) from by rw [← hW];exact hp_new rfl)
    have HPS:=Hd (rpush_any (hO.below hbW) (Int.emod_nonneg _ (by decide)) (by have:=HBW.out;have:=HSZ.out;have:=hMo.size;have:=hbW.size;omega) r ((hrr.1.mod hMw HNC.out).below hbW) hrr.2)
    rw [hH] at HPS
    have HWW:=Hd hW
    have hwi:IntKind.i64.wrap ((i:Int) + 1) = (i:Int) + 1:=IntWalk.i64_in _ (by omega)
    have HN2:=Hd hn2
    have HFL:=Hd hfl
    clear hO hH hMo hMw hxw hil hx hrr hxm hcell hbW hW hn2 hfl hvb
    go_upto_region 8 with fail
    rw [HWW.out]
    have e0:=(at_ HNW.out 0 _ rfl).1
    have e1:=(at_ HNW.out 1 _ rfl).1
    clear c0 c1
    go_wp2_with (go_at_call 106;(with_reducible refine HPS.out.mono ?_);rintro e w5 ⟨r6,rfl,hpo⟩;have HPO:=Hd hpo;clear hpo e0 e1)
    go_roundw
    case rel =>
     obtain ⟨vl3,SL3,f3,n3,h1,h2,h3,h4⟩:=HPO.out
     refine ⟨i + 1,by go_num,by omega,vl3,SL3,f3,n3,?_,?_,?_,?_⟩
     · have hgo:(if n2 = room then ((gone + (i - room:Nat)) % 18446744073709551616 + 1) % 18446744073709551616 else (gone + (i - room:Nat)) % 18446744073709551616) = (gone + (i + 1 - room:Nat)) % 18446744073709551616:=by
        have ha:=HN2.out
        have hb:=HFL.out
        split <;> omega
       rw [hgo] at h1
       exact h1
     · rw [h2,HPU.out,← HN2.out]
     · exact (HMo.out.then_below HBW2.out).trans h3 (fun x hx => by
        simp only [ringX,List.mem_cons] at hx
        rcases hx with rfl | hx
        · exact .inl (by simp [ringX])
        · rcases HVB.out x (Option.mem_toList.1 hx) with hv | hv
          · simp [Value.ownBlock] at hv
          · exact .inr hv)
     · intro x hx
       rcases h4 x hx with hv | hv
       · exact HVB.out x hv
       · exact .inr (Nat.le_trans HMo.out.size (Nat.le_trans HBW2.out.size hv))
    case measure => simp [intOf];omega
end
def trimN (L:List Ro) (least:Nat):Nat→Nat
 | 0 => 0
 | k + 1 => if least + 1 < k + 1∧usedL (L.getD k ⟨[],false⟩).cs = 0 then trimN L least k else k + 1
theorem trimN_le (L:List Ro) (least:Nat):∀ k,trimN L least k ≤ k
 | 0 => Nat.le_refl _
 | k + 1 => by
   rw [trimN]
   split
   · have:=trimN_le L least k;omega
   · omega
theorem trimN_pos (L:List Ro) (least:Nat):∀ k,0 < k→0 < trimN L least k
 | 0,h => by omega
 | k + 1,_ => by
   rw [trimN]
   split
   · exact trimN_pos L least k (by omega)
   · omega
set_option maxHeartbeats 6400000 in
theorem ptrim_any (A:Option Addr) (L:List Rh) (ca least:Nat) (w:World) (hl:GrAt encRh 2 w A L) (hr:∀ r ∈ L,RcAt w r) (hz:L.length ≤ 1000000) (hcap:L.length ≤ ca) (hle:least ≤ 1000000) :
 Calls Tryz.prog 54 #[.slice A L.length ca,.int .i64 least] w (fun e w' => e = .returned (.slice A (trimN (L.map roOf) least L.length) ca)∧Below w.heap.size w w'):=by
 have HL:=Hd hl
 have HR:=Hd hr
 have HU:=Hd (fun (A:Option Addr) (l:List Cl) (ca:Nat) (w:World) (hl:GrAt encCl 8 w A l) (hz:l.length ≤ 100000000) => cUsed_any A l ca w hl hz)
 obtain ⟨m,hm⟩:∃ m,L.length = m:=⟨_,rfl⟩
 have HLM:=Hd hm
 rw [hm] at hz hcap ⊢
 clear hl hr hm
 obtain ⟨M,hM⟩:∃ M,L.map roOf = M:=⟨_,rfl⟩
 have HMM:=Hd hM
 rw [hM]
 clear hM
 go_enter Tryz.func54,Tryz.ntmps54
 go_wp2_with fail
 go_loopw [0] (fun s0 wr => ∃ k:Nat,s0 = .slice A k ca∧k ≤ m∧trimN M least k = trimN M least m∧Below w.heap.size w wr) (fun s0 _ => lnV s0)
 case atStart => exact ⟨m,rfl,Nat.le_refl _,rfl,Below.refl _ _⟩
 case round =>
  obtain ⟨k,rfl,hk,ht,hb⟩:=hrel
  have HB:=Hd hb
  have HT:=Hd ht
  obtain ⟨le1,hle1⟩:∃ le1,le1 = least + 1:=⟨_,rfl⟩
  have hleI:(least:Int) + 1 = (le1:Int):=by omega
  have hwle:IntKind.i64.wrap (le1:Int) = (le1:Int):=IntWalk.i64_in _ (by omega)
  by_cases hc:le1 < k
  rotate_left
  · have hcI:¬ (le1:Int) < (k:Int):=by omega
    have hres:trimN M least m = k:=by
     rw [← ht]
     cases k with
     | zero => rfl
     | succ k => rw [trimN,if_neg (by omega)]
    have HRES:=Hd hres
    clear ht hb hc hle1 hres
    go_wp2
    go_ret
    exact ⟨by rw [HRES.out];rfl,HB.out⟩
  · have hcI:(le1:Int) < (k:Int):=by omega
    obtain ⟨z,hz1⟩:∃ z,k = z + 1:=⟨k - 1,by omega⟩
    have hzI:(k:Int) - 1 = (z:Int):=by omega
    have hwz:IntKind.i64.wrap (z:Int) = (z:Int):=IntWalk.i64_in _ (by omega)
    have hzk:(z:Int) < (k:Int):=by omega
    have hzca:z ≤ ca:=by omega
    have hzl:z < L.length:=by rw [HLM.out];omega
    obtain ⟨b,off,r,rfl,hx,hcell⟩:=(HL.out.below hb).at_ hzl
    have hrc:=(HR.out r (List.mem_of_getElem? hx)).below hb
    have HUZ:=Hd (HU.out r.A r.cs r.cap wr hrc.2.2.1 (by have:=hrc.1;omega))
    have hgd:M.getD z ⟨[],false⟩ = roOf r:=by rw [← HMM.out,List.getD_eq_getElem?_getD,List.getElem?_map,hx];rfl
    have hstep:trimN M least k = if usedL r.cs = 0 then trimN M least z else k:=by
     rw [hz1,trimN,hgd]
     by_cases hu:usedL r.cs = 0
     · rw [if_pos ⟨by omega,hu⟩,if_pos hu]
     · rw [if_neg (fun h => hu h.2),if_neg hu]
    have HST:=Hd hstep
    have c0:=hcell 0 _ rfl
    simp only [Nat.add_zero] at c0
    obtain ⟨u,hu⟩:∃ u,u = usedL r.cs:=⟨_,rfl⟩
    have HUE:=Hd hu
    rw [← hu] at HUZ
    have HZ1:=Hd hz1
    clear ht hb hc hle1 hx hcell hrc hgd hstep hu hz1 hzl
    by_cases hu0:u = 0
    · have hub:((u:Int) == 0) = true:=by simp [hu0]
      have HU0:=Hd hu0
      clear hu0
      go_wp2_with (go_at_call 104;(with_reducible refine HUZ.out.mono ?_);rintro e w5 ⟨rfl,hb5⟩;have HB5:=Hd (below_tail HB.out hb5);clear hb5)
      go_roundw
      case rel => exact ⟨z,rfl,by omega,by rw [← HT.out,HST.out,if_pos (by rw [← HUE.out];exact HU0.out)],HB5.out⟩
      case measure => show z < k;omega
    · have hub:((u:Int) == 0) = false:=beq_eq_false_iff_ne.2 (by omega)
      have hun:¬ (u:Int) = 0:=by omega
      have HU0:=Hd hu0
      clear hu0
      go_wp2_with (go_at_call 104;(with_reducible refine HUZ.out.mono ?_);rintro e w5 ⟨rfl,hb5⟩;have HB5:=Hd (below_tail HB.out hb5);clear hb5)
      go_ret
      exact ⟨by rw [← HT.out,HST.out,if_neg (by rw [← HUE.out];exact HU0.out)];rfl,HB5.out⟩
theorem rowsOf_snoc:∀ (b:Bool) (l:List (List Cl)) (a:List Cl),rowsOf b (l ++ [a]) = rowsOf b l ++ [⟨a,if l = [] then b else true⟩]
 | b,[],a => rfl
 | b,x :: l,a => by
   rw [List.cons_append,rowsOf,rowsOf,rowsOf_snoc true l a]
   by_cases h:l = [] <;> simp [h]
theorem fold_take {α β:Type} (f:β→α→β) (s:β) {l:List α} {i:Nat} {c:α} (h:l[i]? = some c):(l.take (i + 1)).foldl f s = f ((l.take i).foldl f s) c:=by
 rw [List.take_add_one,h,List.foldl_append];rfl
theorem map_take_succ {α β:Type} (f:α→β) {l:List α} {i:Nat} {c:α} (h:l[i]? = some c):(l.take (i + 1)).map f = (l.take i).map f ++ [f c]:=by
 rw [List.take_add_one,h,List.map_append];rfl
theorem rc_of_own {B:Nat} {w:World} {A:Option Addr} {l:List Cl} {cap:Nat} (h:ClO B w (.slice A l.length cap) l) (hz:l.length ≤ 10000) (hf:Fine l) (b:Bool):RcAt w ⟨A,l,cap,b⟩:=by
 by_cases h0:0 < l.length
 · obtain ⟨g,c,hv,hc⟩:=h.form h0
   simp only [Value.slice.injEq,true_and] at hv
   obtain ⟨rfl,rfl⟩:=hv
   exact .of_own hc hz hf b
 · exact rc_nil_of (by omega)
theorem owns_lower {b1 b2 n s:Nat} {w:World} {e:TypeId} {v:Value} {X:List Value} (h:w.ownsRow b2 e s v n X) (hb:b1 ≤ b2):w.ownsRow b1 e s v n X :=
 ⟨h.1,h.2.imp_right fun ⟨g,c,cur,e1,e2,r⟩ => ⟨g,c,cur,e1,Nat.le_trans hb e2,r⟩⟩
structure SpO (base bS:Nat) (w:World) (v:Value) (D:List Rh) (x:Rh):Prop where
 own:w.ownsRow base 50 2 v (D.length + 1) (flat encRh (D ++ [x]))
 cl:ClO bS w (.slice x.A x.cs.length x.cap) x.cs
 b1:base ≤ bS
 b2:bS ≤ w.heap.size
 rest:∃ wS X,wS.heap.size = bS∧Mod X wS w∧NoCel wS X∧(∀ r ∈ D,RcAt wS r)∧∀ g,v.ownBlock = some g→g ∈ X ∨ bS ≤ g
section
variable {base bS:Nat} {w w2:World} {v v':Value} {D:List Rh} {x:Rh}
theorem SpO.below {w1:World} (h:SpO base bS w v D x) (hb:Below w.heap.size w w1):SpO base bS w1 v D x:=by
 obtain ⟨wS,X,h1,h2,h3,h4,h5⟩:=h.rest
 exact ⟨owns_mod h.own (Mod.of_below (X:=[]) hb) (fun _ _ h => by cases h),h.cl.below hb,h.b1,Nat.le_trans h.b2 hb.size,wS,X,h1,h2.then_below hb,h3,h4,h5⟩
theorem SpO.b0 (h:SpO base bS w v D x):base ≤ w.heap.size:=Nat.le_trans h.b1 h.b2
theorem SpO.form (h:SpO base bS w v D x):∃ g cp,v = .slice (some ⟨g,0,none⟩) (D.length + 1) cp∧base ≤ g∧(∃ cur:Array Value,w.heap[g]? = some (.cells cur 50 (0,0)))∧w.cell? ⟨g,D.length * 2,none⟩ = some (.slice x.A x.cs.length x.cap)∧w.frozen? ⟨g,D.length * 2,none⟩ = false:=by
 obtain ⟨g,cp,hv⟩:=own_form h.own (Nat.succ_pos _)
 subst hv
 have hx:(D ++ [x])[D.length]? = some x:=by simp
 exact ⟨g,cp,rfl,(World.ownsRow.lt h.own g rfl).1,own_block h.own rfl,by
  have:=owns_hold h.own (i:=D.length * 2) (by rw [← Nat.add_zero (D.length * 2),flat_at2 encRh_len _ D.length x 0 hx (by decide)];rfl)
  exact this⟩
theorem SpO.put {g cp:Nat} {A':Option Addr} {c':Nat} {cs':List Cl} (h:SpO base bS w (.slice (some ⟨g,0,none⟩) (D.length + 1) cp) D x)
 (ho:ClO bS w2 (.slice A' cs'.length c') cs') (hg:w.grownBy w2 (Value.slice x.A x.cs.length x.cap).ownBlock) :
 SpO base bS (w2.setCell ⟨g,D.length * 2,none⟩ (.slice A' cs'.length c')) (.slice (some ⟨g,0,none⟩) (D.length + 1) cp) D ⟨A',cs',c',x.cont⟩:=by
 have hmv:Mod (Value.slice x.A x.cs.length x.cap).ownBlock.toList w w2:=Mod.of_grown hg (fun g hg => by rw [hg];simp)
 obtain ⟨cur,hcur⟩:=own_block h.own (show (Value.slice (some ⟨g,0,none⟩) (D.length + 1) cp).ownBlock = some g from rfl)
 have hne:∀ b,(Value.slice x.A x.cs.length x.cap).ownBlock = some b→b ≠ g:=fun b hb e => by
  obtain ⟨c2,hc2⟩:=own_block h.cl hb
  rw [e] at hc2
  exact block_ne hcur hc2 (by decide) rfl
 have ho1:=owns_mod h.own hmv (fun b hb hx => by
  injection hb with hb
  exact hne _ (Option.mem_toList.1 hx) hb.symm)
 have hx:(D ++ [x])[D.length]? = some x:=by simp
 have ho2:=owns_set1 ho1 (D.length * 2) (.slice A' cs'.length c')
 have e0:=flat_set1 encRh_len (D ++ [x]) D.length x ⟨A',cs',c',x.cont⟩ 0 (.slice A' cs'.length c') hx (by decide) rfl
 rw [Nat.add_zero] at e0
 rw [e0,List.set_append_right _ _ (Nat.le_refl _),Nat.sub_self,List.set_cons_zero] at ho2
 obtain ⟨cur2,hcur2⟩:=own_block ho1 (show (Value.slice (some ⟨g,0,none⟩) (D.length + 1) cp).ownBlock = some g from rfl)
 obtain ⟨wS,X,h1,h2,h3,h4,h5⟩:=h.rest
 have hmS:Mod X wS w2:=h2.trans hmv (fun b hb => .inr (by rw [h1];exact (World.ownsRow.lt h.cl b (Option.mem_toList.1 hb)).1))
 refine ⟨ho2,owns_mod ho ((Mod.refl [g] w2).setCell (a:=⟨g,D.length * 2,none⟩) (.inl (by simp)) _) (fun b hb hx => ?_),h.b1,?_,wS,X,h1,hmS.setCell (a:=⟨g,D.length * 2,none⟩) (by rw [h1];exact h5 g rfl) _,h3,h4,h5⟩
 · obtain ⟨c2,hc2⟩:=own_block ho hb
   rw [List.mem_singleton.1 hx] at hc2
   exact block_ne hcur2 hc2 (by decide) rfl
 · have e1:=hmS.size
   have e2:=((Mod.refl [g] w2).setCell (a:=⟨g,D.length * 2,none⟩) (.inl (by simp)) (.slice A' cs'.length c')).size
   omega
theorem SpO.here (h:SpO base bS w v D x) (hz:x.cs.length ≤ 10000) (hf:Fine x.cs):∀ r ∈ D ++ [x],RcAt w r:=fun r hr => by
 obtain ⟨wS,X,h1,h2,h3,h4,h5⟩:=h.rest
 rcases List.mem_append.1 hr with hr | hr
 · exact (h4 r hr).mod h2 h3
 · rw [List.mem_singleton.1 hr]
   exact rc_of_own h.cl hz hf x.cont
theorem SpO.next (h:SpO base bS w v D x) (hz:x.cs.length ≤ 10000) (hf:Fine x.cs) (c:Bool) (ho:w2.ownsRow base 50 2 v' (D.length + 1 + 1) (flat encRh (D ++ [x]) ++ encRh ⟨none,[],0,c⟩)) (hg:w.grownBy w2 v.ownBlock) :
 SpO base w2.heap.size w2 v' (D ++ [x]) ⟨none,[],0,c⟩:=by
 have hmv:Mod v.ownBlock.toList w w2:=Mod.of_grown hg (fun g hg => by rw [hg];simp)
 have hnc:NoCel w v.ownBlock.toList:=fun b hb cs f he => by
  obtain ⟨cur,hc⟩:=own_block h.own (Option.mem_toList.1 hb)
  exact block_ne hc he (by decide) rfl
 have hbs:=h.b1
 have hb2:=h.b2
 have hms:=hmv.size
 refine ⟨?_,World.ownsRow_nil _ _ _ _,by omega,Nat.le_refl _,w2,v'.ownBlock.toList,rfl,Mod.refl _ _,fun b hb cs f he => ?_,fun r hr => (h.here hz hf r hr).mod hmv hnc,fun g hg => .inl (by rw [hg];simp)⟩
 · rw [flat_append,List.length_append]
   have e:flat encRh [(⟨none,[],0,c⟩:Rh)] = encRh ⟨none,[],0,c⟩:=by simp [flat]
   rw [e]
   exact ho
 · obtain ⟨cur,hc⟩:=own_block ho (Option.mem_toList.1 hb)
   exact block_ne hc he (by decide) rfl
theorem SpO.first {g:Nat} (hblk:w.heap[g]? = some (.cells #[.slice none 0 0,.bool false] 50 (0,0))) (hb:base ≤ g):SpO base w.heap.size w (.slice (some ⟨g,0,none⟩) 1 1) [] ⟨none,[],0,false⟩ :=
 ⟨⟨rfl,.inr ⟨g,1,_,rfl,hb,hblk,Nat.le_refl _,by simp [maxLen],rfl,rfl⟩⟩,World.ownsRow_nil _ _ _ _,by have:=lt_of_heap hblk;omega,Nat.le_refl _,w,[g],rfl,Mod.refl _ _,fun b hb cs f he => by
  rw [List.mem_singleton.1 hb] at he
  exact block_ne hblk he (by decide) rfl,fun r hr => (by cases hr),fun k hk => .inl (by injection hk with hk;exact List.mem_singleton.2 hk.symm)⟩
theorem sp_after {g m cp p k kc:Nat} {kA:Option Addr} {xs:List Cl} {xc:Bool} (h:SpO base bS w (.slice (some ⟨g,0,none⟩) m cp) D ⟨kA,xs,kc,xc⟩) (hg:w.grownBy w2 (Value.slice kA k kc).ownBlock) (hk:xs.length = k) (hp:D.length = p) :
 w2.cell? ⟨g,p * 2,none⟩ = some (.slice kA k kc)∧w2.frozen? ⟨g,p * 2,none⟩ = false:=by
 subst hk hp
 obtain ⟨g',cp',hv,hb,⟨cur,hcur⟩,h1,h2⟩:=h.form
 simp only [Value.slice.injEq,Option.some.injEq,Addr.mk.injEq,and_true] at hv
 obtain ⟨rfl,rfl,rfl⟩:=hv
 have hmv:Mod (Value.slice kA xs.length kc).ownBlock.toList w w2:=Mod.of_grown hg (fun g hg => by rw [hg];simp)
 exact hmv.hold (fun hx => by
  obtain ⟨c2,hc2⟩:=own_block h.cl (Option.mem_toList.1 hx)
  exact block_ne hcur hc2 (by decide) rfl) ⟨h1,h2⟩
theorem sp_cl {k kc:Nat} {kA:Option Addr} {xs:List Cl} {xc:Bool} (h:SpO base bS w v D ⟨kA,xs,kc,xc⟩) (hk:xs.length = k):w.ownsRow bS 109 8 (.slice kA k kc) k (flat encCl xs):=by
 subst hk
 exact h.cl
theorem below_at {B:Nat} {w0 w1 w2:World} (h:Below B w0 w1) (hB:B ≤ w1.heap.size) (h2:Below w1.heap.size w1 w2):Below B w0 w2:=h.trans (h2.mono hB)
theorem below_setB {B b o:Nat} {w0 w1:World} (h:Below B w0 w1) (hB:B ≤ w1.heap.size) (hb:B ≤ b) (v:Value):Below B w0 (w1.setCell ⟨b,o,none⟩ v) :=
 h.trans (((Mod.refl [b] w1).setCell (a:=⟨b,o,none⟩) (.inl (by simp)) v).below (fun g hg => by rw [List.mem_singleton.1 hg];exact hb) hB)
theorem sp_put {g m cp p k kc c':Nat} {kA A':Option Addr} {xs:List Cl} {xc:Bool} {c:Cl} (h:SpO base bS w (.slice (some ⟨g,0,none⟩) m cp) D ⟨kA,xs,kc,xc⟩) (ho:w2.ownsRow bS 109 8 (.slice A' (k + 1) c') (k + 1) (flat encCl xs ++ encCl c))
 (hg:w.grownBy w2 (Value.slice kA k kc).ownBlock) (hk:xs.length = k) (hp:D.length = p) :
 SpO base bS (w2.setCell ⟨g,p * 2,none⟩ (.slice A' (k + 1) c')) (.slice (some ⟨g,0,none⟩) m cp) D ⟨A',xs ++ [c],c',xc⟩:=by
 subst hk hp
 obtain ⟨g',cp',hv,-⟩:=h.form
 simp only [Value.slice.injEq,Option.some.injEq,Addr.mk.injEq,and_true] at hv
 obtain ⟨rfl,rfl,rfl⟩:=hv
 have:=h.put (cs':=xs ++ [c]) (A':=A') (c':=c') (by
  unfold ClO
  rw [List.length_append,flat_append]
  exact ho) hg
 rwa [List.length_append] at this
theorem sp_slot {g m cp p k kc:Nat} {kA:Option Addr} {xs:List Cl} {xc:Bool} (h:SpO base bS w (.slice (some ⟨g,0,none⟩) m cp) D ⟨kA,xs,kc,xc⟩) (hk:xs.length = k) (hp:D.length = p) :
 w.cell? ⟨g,p * 2,none⟩ = some (.slice kA k kc)∧w.frozen? ⟨g,p * 2,none⟩ = false:=by
 subst hk hp
 obtain ⟨g',cp',hv,hb,-,h1,h2⟩:=h.form
 simp only [Value.slice.injEq,Option.some.injEq,Addr.mk.injEq,and_true] at hv
 obtain ⟨rfl,rfl,rfl⟩:=hv
 exact ⟨h1,h2⟩
theorem sp_read {g m cp p k kc:Nat} {kA:Option Addr} {xs:List Cl} {xc:Bool} (h:SpO base bS w (.slice (some ⟨g,0,none⟩) m cp) D ⟨kA,xs,kc,xc⟩) (hk:xs.length = k) (hp:D.length = p) :
 w.cell? ⟨g,p * 2,none⟩ = some (.slice kA k kc)∧base ≤ g∧m = p + 1:=by
 subst hk hp
 obtain ⟨g',cp',hv,hb,-,h1,h2⟩:=h.form
 simp only [Value.slice.injEq,Option.some.injEq,Addr.mk.injEq,and_true] at hv
 obtain ⟨rfl,rfl,rfl⟩:=hv
 exact ⟨h1,hb,rfl⟩
end
end Go.Proofs.YtffdblmdelgkaaaGreat
