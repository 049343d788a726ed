/- Joined by a tool of this claim out of smaller texts. Conditions: as stated. -/
import Derived.Test.YtffdblmdelgkaaaGreatRt21
set_option linter.unusedVariables false
set_option linter.unusedSimpArgs false
set_option maxRecDepth 100000
open Go.Lib renaming hid → Hd
namespace Go.Proofs.YtffdblmdelgkaaaGreat
open Go.RowKit
theorem rMend0_any (A:Option Addr) (ca:Nat) (w:World):Calls Tryz.prog 70 #[.slice A 0 ca] w (fun e w' => e = .returned (.slice none 0 0)∧w = w'):=by
 go_enter Tryz.func70,Tryz.ntmps70
 go_wp2_with fail
 go_loopw [3,5] (fun s3 s5 wr => s3 = .slice none 0 0∧s5 = .int .i64 0∧w = wr) (fun _ _ _ => 0)
 case atStart => exact ⟨rfl,rfl,rfl⟩
 case round =>
  obtain ⟨rfl,rfl,rfl⟩:=hrel
  go_wp2
  go_ret
  exact ⟨rfl,rfl⟩
theorem rMendE_any (A:Option Addr) (l:List Cl) (ca:Nat) (w:World) (hl:GrAt encCl 8 w A l) (hz:l.length ≤ 10000) (hf:Fine l) :
 Calls Tryz.prog 70 #[.slice A l.length ca] w (RcPost0 (mendL l) w):=by
 by_cases h0:0 < l.length
 · refine (rMend_any A l ca w hl h0 hz).mono ?_
   rintro e w' ⟨g,cap,rfl,hc,hb⟩
   exact ⟨_,cap,rfl,hc.cap,.of_own hc (by rw [mendL_len];exact hz) hf.mend false,hb,fun h => by rw [mendL_len] at h;omega⟩
 · have:l = []:=List.length_eq_zero_iff.1 (by omega)
   subst this
   refine (rMend0_any A ca w).mono ?_
   rintro e w' ⟨rfl,rfl⟩
   exact ⟨none,0,rfl,Nat.le_refl _,rc_nil _ _ _ _,Below.refl _ _,fun _ => ⟨rfl,rfl⟩⟩
set_option maxHeartbeats 6400000 in
theorem rFlow_any (A:Option Addr) (L:List Rh) (ca:Nat) (w:World) (hl:GrAt encRh 2 w A L) (hr:∀ r ∈ L,RcAt w r) (hz:L.length ≤ 1000000) (hN:cntL (L.map roOf) ≤ 10000) :
 Calls Tryz.prog 110 #[.slice A L.length ca] w (RcPost (flowL (L.map roOf)) w):=by
 obtain ⟨j0,hj,gz0,gz1,gz2⟩:=info_parts info_cellz
 have HL:=Hd hl
 have HR:=Hd hr
 have HN:=Hd hN
 have HFF:Hid (Fine (flatR (L.map roOf))):=Hd (fine_flatR (fun r h => by
  obtain ⟨x,hx,rfl⟩:=List.mem_map.1 h
  exact (hr x hx).2.1))
 have HM:=Hd (fun (A:Option Addr) (l:List Cl) (ca:Nat) (w:World) (hl:GrAt encCl 8 w A l) (hz:l.length ≤ 10000) (hf:Fine l) => rMendE_any A l ca w hl hz hf)
 have HU:=Hd (fun (A:Option Addr) (l:List Cl) (ca:Nat) (w:World) (hl:GrAt encCl 8 w A l) (hz:l.length ≤ 100000000) => rUsed_any A l ca w hl hz)
 obtain ⟨m,hm⟩:∃ m,L.length = m:=⟨_,rfl⟩
 have HLM:=Hd hm
 rw [hm] at hz ⊢
 clear hl hr hm hN
 go_enter Tryz.func110,Tryz.ntmps110
 go_wp2_with fail
 go_loopw [3,4] (fun s3 s4 wr => ∃ i:Nat,s4 = .int .i64 i∧i ≤ m∧ClO w.heap.size wr s3 (flatR ((L.map roOf).take i))∧Below w.heap.size w wr) (fun _ s4 _ => m - (intOf s4).toNat)
 case atStart => exact ⟨0,rfl,Nat.zero_le _,World.ownsRow_nil _ _ _ _,Below.refl _ _⟩
 case round =>
  obtain ⟨i,rfl,hi,hO,hB⟩:=hrel
  have HO:=Hd hO
  have HB:=Hd hB
  by_cases hlt:i < m
  rotate_left
  · have hge:¬ (i:Int) < (m:Int):=by omega
    have hie:i = m:=by omega
    obtain ⟨A3,c3,hv3⟩:=row_form hO
    rw [hie,← HLM.out,List.take_of_length_le (by simp)] at HO hv3
    subst hv3
    obtain ⟨F,hF⟩:∃ F,F = flatR (L.map roOf):=⟨_,rfl⟩
    have hFz:F.length ≤ 10000:=by rw [hF,flatR_len];exact HN.out
    rw [← hF] at HO ⊢
    have HM2:=Hd (HM.out A3 F c3 wr (gr_own encCl_len (n:=F.length) (c:=c3) (base:=w.heap.size) (e:=109) HO.out) hFz (by rw [hF];exact HFF.out))
    have HFL:Hid (flowL (L.map roOf) = (mendL F).take (usedL (mendL F))):=Hd (by unfold flowL;rw [hF])
    obtain ⟨G,hG⟩:∃ G,G = mendL F:=⟨_,rfl⟩
    have hGz:G.length ≤ 10000:=by rw [hG,mendL_len];exact hFz
    rw [← hG] at HM2 HFL
    obtain ⟨n,hn⟩:∃ n,n = G.length:=⟨_,rfl⟩
    obtain ⟨u,hu⟩:∃ u,u = usedL G:=⟨_,rfl⟩
    have hun:u ≤ n:=by rw [hu,hn];exact usedL_le G
    have HGN:=Hd hn
    have HUE:=Hd hu
    have HGZ:=Hd hGz
    clear hO hB hie hF hFz hG hGz hn hu
    go_upto_region 11 with (go_at_call 70;(with_reducible refine HM2.out.mono ?_);rintro e w5 ⟨A5,c5,rfl,hc5,hg5,hb5,-⟩;rw [← HGN.out] at hc5 ⊢;have HG5:=Hd hg5;have HB5:=Hd (below_tail HB.out hb5);clear hg5 hb5)
    have HU5:=Hd (HU.out A5 G c5 w5 HG5.out.2.2.1 (by have:=HGZ.out;omega))
    rw [← HUE.out,← HGN.out] at HU5
    have huc:u ≤ c5:=by omega
    go_wp2_with (go_at_call 61;(with_reducible refine HU5.out.mono ?_);rintro e w6 ⟨rfl,hb6⟩;have HB6:=Hd hb6;clear hb6)
    go_ret
    rw [HFL.out]
    refine ⟨A5,c5,?_,?_,(HG5.out.below HB6.out).firsts _,below_tail HB5.out HB6.out⟩
    · rw [List.length_take,← HUE.out,← HGN.out,Nat.min_eq_left hun];rfl
    · rw [List.length_take,← HUE.out,← HGN.out];omega
  · have hltI:(i:Int) < (m:Int):=by omega
    have hil:i < L.length:=by rw [HLM.out];exact hlt
    obtain ⟨b,off,r,rfl,hx,hcell⟩:=(HL.out.below hB).at_ hil
    obtain ⟨b',off',r',hA',hx',hcell0⟩:=HL.out.at_ hil
    simp only [Option.some.injEq,Addr.mk.injEq,and_true] at hA'
    obtain ⟨rfl,rfl⟩:=hA'
    obtain rfl:r' = r:=by rw [hx] at hx';exact (Option.some.inj hx').symm
    have HRC:=Hd ((HR.out r' (List.mem_of_getElem? hx)).below hB)
    have hxm:(L.map roOf)[i]? = some (roOf r'):=by rw [List.getElem?_map,hx];rfl
    have HFT:=Hd (flatR_take hxm)
    have c0:=hcell 0 _ rfl
    have C0:=Hd (hcell0 0 _ rfl)
    simp only [Nat.add_zero] at c0 C0
    obtain ⟨P,hP⟩:∃ P,P = flatR ((L.map roOf).take i):=⟨_,rfl⟩
    have hPle:∀ k,(P ++ (r'.cs.take k).filter nPad).length ≤ 10000:=fun k => by
     have h1:=flatR_le (L.map roOf) (i + 1)
     have h2:=HN.out
     rw [HFT.out,← hP,List.length_append] at h1
     have h3:=((List.take_sublist k r'.cs).filter nPad).length_le
     show _ ≤ _
     rw [List.length_append]
     have:((roOf r').cs.filter nPad).length = (r'.cs.filter nPad).length:=rfl
     omega
    have HPL:=Hd hPle
    rw [← hP] at HO HFT
    have HRZ:=Hd HRC.out.1
    have HRW:=Hd (HR.out r' (List.mem_of_getElem? hx))
    obtain ⟨n,hn⟩:∃ n,r'.cs.length = n:=⟨_,rfl⟩
    rw [hn] at c0 C0
    have HRN:=Hd hn
    have hwi:IntKind.i64.wrap ((i:Int) + 1) = (i:Int) + 1:=IntWalk.i64_in _ (by omega)
    have hn10:n ≤ 10000:=by rw [← hn];exact HRZ.out
    clear hO hB hx hx' hxm hcell hcell0 hil hP hPle hn c0
    go_wp2_with fail
    go_loopw [3,5] (fun s3 s5 wr => ∃ k:Nat,s5 = .int .i64 k∧k ≤ n∧ClO w.heap.size wr s3 (P ++ (r'.cs.take k).filter nPad)∧Below w.heap.size w wr) (fun _ s5 _ => n - (intOf s5).toNat)
    case atStart => exact ⟨0,rfl,Nat.zero_le _,by simpa using HO.out,HB.out⟩
    case round =>
     obtain ⟨k,rfl,hk,hO,hB⟩:=hrel
     have hRc:=HRW.out.below hB
     have HOk:=Hd hO
     have HBk:=Hd hB
     have c0:=holda hB C0.out
     by_cases hlt2:k < n
     rotate_left
     · have hge:¬ (k:Int) < (n:Int):=by omega
       have hke:k = n:=by omega
       have HKE:=Hd hke
       clear hO hB hRc hke
       go_wp2
       go_roundw
       case rel => exact ⟨i + 1,by go_num,by omega,by rw [HFT.out];have:=HOk.out;rw [HKE.out,← HRN.out,List.take_length] at this;exact this,HBk.out⟩
       case measure => simp [intOf];omega
     · have hlt2I:(k:Int) < (n:Int):=by omega
       have hkl:k < r'.cs.length:=by rw [HRN.out];exact hlt2
       obtain ⟨b2,off2,c,hA2,hc2,hcell2⟩:=hRc.2.2.1.at_ hkl
       have HFK:=Hd (filter_take hc2)
       obtain ⟨bx,rfl⟩:∃ bx:Value × Unit,u3 = bx.1:=⟨(u3,()),rfl⟩
       have d0:=hcell2 0 _ rfl
       have d1:=hcell2 1 _ rfl
       have d2:=hcell2 2 _ rfl
       have d3:=hcell2 3 _ rfl
       have d4:=hcell2 4 _ rfl
       have d5:=hcell2 5 _ rfl
       have d6:=hcell2 6 _ rfl
       have d7:=hcell2 7 _ rfl
       simp only [Nat.add_zero] at d0
       have hwk:IntKind.i64.wrap ((k:Int) + 1) = (k:Int) + 1:=IntWalk.i64_in _ (by omega)
       have HXZ:=Hd (HPL.out k)
       obtain ⟨xr,xm,xh,x1,x2,x3,x4,x5⟩:=c
       simp only at d0 d1 d2 d3 d4 d5 d6 d7
       rw [hA2] at c0
       clear hO hB hRc hA2 hc2 hcell2 hkl
       by_cases hh:xh = 3
       · have hhb:(xh == 3) = true:=by simp [hh]
         have HH:=Hd hh
         clear hh
         go_wp2
         go_roundw
         case rel => exact ⟨k + 1,by go_num,by omega,by rw [HFK.out,if_pos HH.out,List.append_nil];exact HOk.out,HBk.out⟩
         case measure => simp [intOf];omega
       · have hhb:(xh == 3) = false:=by simp [hh]
         have HH:=Hd hh
         clear hh
         go_upto_region 9 with fail
         refine wp_region_lit ?_
         refine wpList_valG (bx.1) (by rfl) (by rfl) ?_
         simp only [Act.put,List.setIfInBounds_toArray,List.set_cons_zero,List.set_cons_succ]
         refine wpList_valG (.slice (some ⟨b,off,none⟩) m ca) (by rfl) (by rfl) ?_
         simp only [Act.put,List.setIfInBounds_toArray,List.set_cons_zero,List.set_cons_succ]
         refine wpList_valG (.int .i64 i) (by rfl) (by rfl) ?_
         simp only [Act.put,List.setIfInBounds_toArray,List.set_cons_zero,List.set_cons_succ]
         refine wpList_valG (.pointer (some ⟨b,off + i * 2,none⟩)) (by rfl) (by go_simp) ?_
         simp only [Act.put,List.setIfInBounds_toArray,List.set_cons_zero,List.set_cons_succ]
         refine wpList_valG (.pointer (some ⟨b,off + i * 2,none⟩)) (by rfl) (by go_simp) ?_
         simp only [Act.put,List.setIfInBounds_toArray,List.set_cons_zero,List.set_cons_succ]
         refine wpList_valG (.slice (some ⟨b2,off2,none⟩) n r'.cap) (by rfl) (by go_simp) ?_
         simp only [Act.put,List.setIfInBounds_toArray,List.set_cons_zero,List.set_cons_succ]
         refine wpList_valG (.int .i64 k) (by rfl) (by rfl) ?_
         simp only [Act.put,List.setIfInBounds_toArray,List.set_cons_zero,List.set_cons_succ]
         refine wpList_valG (.pointer (some ⟨b2,off2 + k * 8,none⟩)) (by rfl) (by go_simp) ?_
         simp only [Act.put,List.setIfInBounds_toArray,List.set_cons_zero,List.set_cons_succ]
         refine wpList_valG (.agg #[.int .i32 xr,.string xm,.int .i64 xh,.int .i64 x1,.int .i64 x2,.int .i64 x3,.int .i64 x4,.int .i64 x5]) (by rfl) (by go_simp) ?_
         simp only [Act.put,List.setIfInBounds_toArray,List.set_cons_zero,List.set_cons_succ]
         clear d0 d1 d2 d3 d4 d5 d6 d7
         have hbx:=below_allocs (Below.refl wr.heap.size wr) (.cells #[.int .i32 xr,.string xm,.int .i64 xh,.int .i64 x1,.int .i64 x2,.int .i64 x3,.int .i64 x4,.int .i64 x5] 109)
         have HBX:=Hd (below_tail HBk.out hbx)
         have HOX:=Hd (ClO.below HOk.out hbx)
         refine wpList_actG (.slice (some ⟨wr.heap.size,0,none⟩) 1 1) (wr.alloc (.cells #[.int .i32 xr,.string xm,.int .i64 xh,.int .i64 x1,.int .i64 x2,.int .i64 x3,.int .i64 x4,.int .i64 x5] 109)) (by rfl) (by go_simp) ?_
         simp only [Act.put,List.setIfInBounds_toArray,List.set_cons_zero,List.set_cons_succ]
         refine wpList_append_g (o:=⟨some 42,_,_,_,_,_⟩) rfl (.tmp 32) (.tmp 41) 48 rfl w.heap.size 109 j0 _ 8 72 Tryz.underlying48 hj gz0 gz1 gz2 rfl (by decide) bx.1 _ _ rfl HOX.out ⟨wr.heap.size,0,none⟩ 1 1 (encCl (⟨xr,xm,xh,x1,x2,x3,x4,x5⟩:Cl)) rfl rfl (fun j u hj => by rw [add_lit',Nat.zero_add];exact (at_ (hp_new rfl) j u (by simpa [encCl] using hj)).1) (encCl_one _) (by simp only [maxLen];have:=HXZ.out;omega) (by have:=HXZ.out;omega) HBX.out.size ?_
         intro v' w7 ho hg hv'
         have HO7:Hid (ClO w.heap.size w7 v' (P ++ (r'.cs.take (k + 1)).filter nPad)):=Hd (by
          rw [HFK.out,if_neg HH.out,← List.append_assoc]
          unfold ClO
          rw [flat_append,List.length_append]
          exact ho)
         have HB7:=Hd (HBX.out.grown hg HBX.out.size (fun b hb => (World.ownsRow.lt (show World.ownsRow _ _ _ _ _ _ _ from HOX.out) b hb).1))
         simp only [Act.put,List.setIfInBounds_toArray,List.set_cons_zero,List.set_cons_succ]
         clear ho hg hv'
         go_wp2
         go_roundw
         case rel => exact ⟨k + 1,by go_num,by omega,HO7.out,HB7.out⟩
         case measure => simp [intOf];omega
end Go.Proofs.YtffdblmdelgkaaaGreat
