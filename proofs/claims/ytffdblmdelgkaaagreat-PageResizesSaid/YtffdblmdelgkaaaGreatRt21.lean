/- Joined by a tool of this claim out of smaller texts. Conditions: as stated. -/
import Derived.Test.YtffdblmdelgkaaaGreatRt14
import Derived.Test.YtffdblmdelgkaaaGreatRt18
import Derived.Test.YtffdblmdelgkaaaGreatRt19
set_option linter.unusedVariables false
set_option linter.unusedSimpArgs false
set_option maxRecDepth 100000
open Go.Lib renaming hid → Hd
namespace Go.Proofs.YtffdblmdelgkaaaGreat
open Go.RowKit
theorem cmend0_any (w:World):Calls Tryz.prog 142 #[.slice none 0 0] w (fun e w' => e = .returned (.tuple #[])∧w = w'):=by
 go_enter Tryz.func142,Tryz.ntmps142
 go_wp2_with fail
 go_loopw [2] (fun s2 wr => s2 = .int .i64 0∧w = wr) (fun _ _ => 0)
 case atStart => exact ⟨rfl,rfl⟩
 case round =>
  obtain ⟨rfl,rfl⟩:=hrel
  go_wp2
  go_end0
  exact ⟨rfl,rfl⟩
theorem cMend0_any (A:Option Addr) (ca:Nat) (w:World):Calls Tryz.prog 133 #[.slice A 0 ca] w (fun e w' => e = .returned (.slice none 0 0)∧w = w'):=by
 obtain ⟨j0,hj,gz0,gz1,gz2⟩:=info_parts info_cellz
 have HM:=Hd (fun w => cmend0_any w)
 have HD:Hid (∀ w,Calls Tryz.prog 150 #[.slice none 0 0] w (fun e w' => e = .returned (.tuple #[])∧w = w')):=Hd (fun w => mend1_any _ w)
 have HW:Hid (Calls Tryz.prog 114 #[.slice A 0 ca,.func (.func 150) #[] #[]] w (fun e w' => e = .returned (.slice none 0 0)∧w = w')):=Hd (by
  go_enter Tryz.func114,Tryz.ntmps114
  go_upto_region 1 with fail
  refine wp_region_lit ?_
  refine wpList_valG (.slice A 0 ca) (by rfl) (by rfl) ?_
  simp only [Act.put,List.setIfInBounds_toArray,List.set_cons_zero,List.set_cons_succ]
  refine wpList_append_nothing (P:=Tryz.prog) rfl (.const (.slice none 0 0)) (.tmp 6) 48 rfl Tryz.underlying48 hj A ca rfl rfl ?_
  simp only [Act.put,List.setIfInBounds_toArray,List.set_cons_zero,List.set_cons_succ]
  go_wp2_with (first
   | (go_at_call 142;(with_reducible refine (HM.out _).mono ?_);rintro e w1 ⟨rfl,rfl⟩)
   | ((with_reducible refine (HD.out _).mono ?_);rintro e w1 ⟨rfl,rfl⟩))
  go_ret
  exact ⟨rfl,rfl⟩)
 go_enter Tryz.func133,Tryz.ntmps133
 go_wp2_with (go_at_call 114;refine HW.out.mono ?_;rintro e w1 ⟨rfl,rfl⟩)
 go_ret
 exact ⟨rfl,rfl⟩
theorem GrAt.firsts0 {α:Type} {enc:α→List Value} {k:Nat} {w:World} {A:Option Addr} {l:List α} (h:GrAt enc k w A l) (n:Nat):GrAt enc k w A (l.take n):=fun h0 => by
 rw [List.length_take] at h0
 obtain ⟨b,off,e,hc⟩:=h (by omega)
 exact ⟨b,off,e,fun i x hx j v hv => hc i x (by rw [List.getElem?_take] at hx;split at hx;exact hx;cases hx) j v hv⟩
def RcPost (l:List Cl) (w:World) (e:Ending) (w':World):Prop:=∃ A cap,e = .returned (.slice A l.length cap)∧l.length ≤ cap∧RcAt w' ⟨A,l,cap,false⟩∧Below w.heap.size w w'
def RcPost0 (l:List Cl) (w:World) (e:Ending) (w':World):Prop:=∃ A cap,e = .returned (.slice A l.length cap)∧l.length ≤ cap∧RcAt w' ⟨A,l,cap,false⟩∧Below w.heap.size w w'∧(l.length = 0→A = none∧cap = 0)
theorem rc_nil (w:World) (A:Option Addr) (cap:Nat) (b:Bool):RcAt w ⟨A,[],cap,b⟩:=⟨Nat.zero_le _,fun c hc => by (try cases hc),fun h => absurd h (by simp),fun h => absurd h (by simp)⟩
theorem cMendE_any (A:Option Addr) (l:List Cl) (ca:Nat) (w:World) (hl:GrAt encCl 8 w A l) (hz:l.length ≤ 10000) (hf:Fine l) :
 Calls Tryz.prog 133 #[.slice A l.length ca] w (RcPost0 (mendL l) w):=by
 by_cases h0:0 < l.length
 · refine (cMend_any A l ca w hl h0 hz).mono ?_
   rintro e w' ⟨g,cap,rfl,hc,hb⟩
   exact ⟨_,cap,rfl,hc.cap,.of_own hc (by rw [mendL_len];exact hz) hf.mend false,hb,fun h => by rw [mendL_len] at h;omega⟩
 · have:l = []:=List.length_eq_zero_iff.1 (by omega)
   subst this
   refine (cMend0_any A ca w).mono ?_
   rintro e w' ⟨rfl,rfl⟩
   exact ⟨none,0,rfl,Nat.le_refl _,rc_nil _ _ _ _,Below.refl _ _,fun _ => ⟨rfl,rfl⟩⟩
theorem fine_flatR {L:List Ro} (h:∀ r ∈ L,Fine r.cs):Fine (flatR L):=fun c hc => by
 obtain ⟨r,hr,hc⟩:=List.mem_flatMap.1 hc
 exact h r hr c (List.mem_filter.1 hc).1
theorem RcAt.firsts {w:World} {A:Option Addr} {l:List Cl} {cap:Nat} {b:Bool} (h:RcAt w ⟨A,l,cap,b⟩) (n:Nat):RcAt w ⟨A,l.take n,cap,b⟩ :=
 ⟨by have:=h.1;simp only [List.length_take] at *;omega,h.2.1.take n,GrAt.firsts0 h.2.2.1 n,fun h0 => h.2.2.2 (by have h1:0 < (l.take n).length:=h0;rw [List.length_take] at h1;show 0 < l.length;omega)⟩
theorem flatR_take {L:List Ro} {i:Nat} {r:Ro} (h:L[i]? = some r):flatR (L.take (i + 1)) = flatR (L.take i) ++ r.cs.filter nPad:=by
 unfold flatR
 rw [List.take_add_one,h,List.flatMap_append]
 simp
theorem flatR_len (L:List Ro):(flatR L).length = cntL L:=by
 unfold flatR cntL
 rw [List.length_flatMap]
 rfl
theorem flatR_le (L:List Ro) (i:Nat):(flatR (L.take i)).length ≤ cntL L:=by
 rw [flatR_len]
 have:=cntL_mono L (show i ≤ max i L.length by omega)
 rwa [List.take_of_length_le (l:=L) (i:=max i L.length) (by omega)] at this
set_option maxHeartbeats 6400000 in
theorem fFlow_any (A:Option Addr) (L:List Rh) (ca:Nat) (w:World) (hl:GrAt encRh 2 w A L) (hr:∀ r ∈ L,RcAt w r) (hz:L.length ≤ 1000000) (hN:cntL (L.map roOf) ≤ 10000) :
 Calls Tryz.prog 100 #[.slice A L.length ca] w (RcPost (flowL (L.map roOf)) w):=by
 obtain ⟨j0,hj,gz0,gz1,gz2⟩:=info_parts info_cellz
 have HL:=Hd hl
 have HR:=Hd hr
 have HN:=Hd hN
 have HFF:Hid (Fine (flatR (L.map roOf))):=Hd (fine_flatR (fun r h => by
  obtain ⟨x,hx,rfl⟩:=List.mem_map.1 h
  exact (hr x hx).2.1))
 have HM:=Hd (fun (A:Option Addr) (l:List Cl) (ca:Nat) (w:World) (hl:GrAt encCl 8 w A l) (hz:l.length ≤ 10000) (hf:Fine l) => cMendE_any A l ca w hl hz hf)
 have HU:=Hd (fun (A:Option Addr) (l:List Cl) (ca:Nat) (w:World) (hl:GrAt encCl 8 w A l) (hz:l.length ≤ 100000000) => cUsed_any A l ca w hl hz)
 obtain ⟨m,hm⟩:∃ m,L.length = m:=⟨_,rfl⟩
 have HLM:=Hd hm
 rw [hm] at hz ⊢
 clear hl hr hm hN
 go_enter Tryz.func100,Tryz.ntmps100
 go_wp2_with fail
 go_loopw [3,10] (fun s3 s10 wr => ∃ i:Nat,s10 = .int .i64 i∧i ≤ m∧ClO w.heap.size wr s3 (flatR ((L.map roOf).take i))∧Below w.heap.size w wr) (fun _ s10 _ => m - (intOf s10).toNat)
 case atStart => exact ⟨0,rfl,Nat.zero_le _,World.ownsRow_nil _ _ _ _,Below.refl _ _⟩
 case round =>
  obtain ⟨i,rfl,hi,hO,hB⟩:=hrel
  have HO:=Hd hO
  have HB:=Hd hB
  by_cases hlt:i < m
  rotate_left
  · have hge:¬ (i:Int) < (m:Int):=by omega
    have hie:i = m:=by omega
    obtain ⟨A3,c3,hv3⟩:=row_form hO
    rw [hie,← HLM.out,List.take_of_length_le (by simp)] at HO hv3
    subst hv3
    obtain ⟨F,hF⟩:∃ F,F = flatR (L.map roOf):=⟨_,rfl⟩
    have hFz:F.length ≤ 10000:=by rw [hF,flatR_len];exact HN.out
    rw [← hF] at HO ⊢
    have HM2:=Hd (HM.out A3 F c3 wr (gr_own encCl_len (n:=F.length) (c:=c3) (base:=w.heap.size) (e:=109) HO.out) hFz (by rw [hF];exact HFF.out))
    have HFL:Hid (flowL (L.map roOf) = (mendL F).take (usedL (mendL F))):=Hd (by unfold flowL;rw [hF])
    obtain ⟨G,hG⟩:∃ G,G = mendL F:=⟨_,rfl⟩
    have hGz:G.length ≤ 10000:=by rw [hG,mendL_len];exact hFz
    rw [← hG] at HM2 HFL
    obtain ⟨n,hn⟩:∃ n,n = G.length:=⟨_,rfl⟩
    obtain ⟨u,hu⟩:∃ u,u = usedL G:=⟨_,rfl⟩
    have hun:u ≤ n:=by rw [hu,hn];exact usedL_le G
    have HGN:=Hd hn
    have HUE:=Hd hu
    have HGZ:=Hd hGz
    clear hO hB hie hF hFz hG hGz hn hu
    go_upto_region 13 with (go_at_call 133;(with_reducible refine HM2.out.mono ?_);rintro e w5 ⟨A5,c5,rfl,hc5,hg5,hb5,-⟩;rw [← HGN.out] at hc5 ⊢;have HG5:=Hd hg5;have HB5:=Hd (below_tail HB.out hb5);clear hg5 hb5)
    have HU5:=Hd (HU.out A5 G c5 w5 HG5.out.2.2.1 (by have:=HGZ.out;omega))
    rw [← HUE.out,← HGN.out] at HU5
    have huc:u ≤ c5:=by omega
    go_wp2_with (go_at_call 104;(with_reducible refine HU5.out.mono ?_);rintro e w6 ⟨rfl,hb6⟩;have HB6:=Hd hb6;clear hb6)
    go_ret
    rw [HFL.out]
    refine ⟨A5,c5,?_,?_,(HG5.out.below HB6.out).firsts _,below_tail HB5.out HB6.out⟩
    · rw [List.length_take,← HUE.out,← HGN.out,Nat.min_eq_left hun];rfl
    · rw [List.length_take,← HUE.out,← HGN.out];omega
  · have hltI:(i:Int) < (m:Int):=by omega
    have hil:i < L.length:=by rw [HLM.out];exact hlt
    obtain ⟨b,off,r,rfl,hx,hcell⟩:=(HL.out.below hB).at_ hil
    have HRC:=Hd ((HR.out r (List.mem_of_getElem? hx)).below hB)
    have hxm:(L.map roOf)[i]? = some (roOf r):=by rw [List.getElem?_map,hx];rfl
    have HFT:=Hd (flatR_take hxm)
    have c0:=hcell 0 _ rfl
    have c1:=hcell 1 _ rfl
    simp only [Nat.add_zero] at c0
    obtain ⟨P,hP⟩:∃ P,P = flatR ((L.map roOf).take i):=⟨_,rfl⟩
    have hPle:∀ k,(P ++ (r.cs.take k).filter nPad).length ≤ 10000:=fun k => by
     have h1:=flatR_le (L.map roOf) (i + 1)
     have h2:=HN.out
     rw [HFT.out,← hP,List.length_append] at h1
     have h3:=((List.take_sublist k r.cs).filter nPad).length_le
     show _ ≤ _
     rw [List.length_append]
     have:((roOf r).cs.filter nPad).length = (r.cs.filter nPad).length:=rfl
     omega
    have HPL:=Hd hPle
    rw [← hP] at HO HFT
    have HRZ:=Hd HRC.out.1
    obtain ⟨W,hW⟩:∃ W,wr.alloc (.cells #[.slice r.A r.cs.length r.cap,.bool r.cont] 50) = W:=⟨_,rfl⟩
    have hbW:Below wr.heap.size wr W:=by rw [← hW];exact below_allocs (Below.refl _ _) _
    have HBW:=Hd hbW
    have HOW:=Hd (HO.out.below hbW)
    have HRW:=Hd (HR.out r (List.mem_of_getElem? hx))
    have HWW:=Hd hW
    obtain ⟨n,hn⟩:∃ n,r.cs.length = n:=⟨_,rfl⟩
    rw [hn] at c0
    have HRN:=Hd hn
    have hwi:IntKind.i64.wrap ((i:Int) + 1) = (i:Int) + 1:=IntWalk.i64_in _ (by omega)
    have hn10:n ≤ 10000:=by rw [← hn];exact HRZ.out
    rw [hn] at HWW
    obtain ⟨w0,hw0⟩:∃ w0,w0 = wr:=⟨_,rfl⟩
    subst hw0
    clear hO hB hx hxm hcell hil hP hPle hbW hW hn
    go_upto_region 5 with fail
    rw [HWW.out]
    have z0:=(at_ (show W.heap[w0.heap.size]? = some (.cells #[.slice r.A n r.cap,.bool r.cont] 50 (0,0)) from by rw [← HWW.out];exact hp_new rfl) 0 _ rfl).1
    clear HWW c0 c1
    go_wp2_with fail
    clear z0
    go_loopw [3,17] (fun s3 s17 wr => ∃ k:Nat,s17 = .int .i64 k∧k ≤ n∧ClO w.heap.size wr s3 (P ++ (r.cs.take k).filter nPad)∧Below w.heap.size w wr) (fun _ s17 _ => n - (intOf s17).toNat)
    case atStart => exact ⟨0,rfl,Nat.zero_le _,by simpa using HOW.out,below_tail HB.out HBW.out⟩
    case round =>
     obtain ⟨k,rfl,hk,hO,hB⟩:=hrel
     have hRc:=HRW.out.below hB
     have HOk:=Hd hO
     have HBk:=Hd hB
     by_cases hlt2:k < n
     rotate_left
     · have hge:¬ (k:Int) < (n:Int):=by omega
       have hke:k = n:=by omega
       have HKE:=Hd hke
       clear hO hB hRc hke
       go_wp2
       go_roundw
       case rel => exact ⟨i + 1,by go_num,by omega,by rw [HFT.out];have:=HOk.out;rw [HKE.out,← HRN.out,List.take_length] at this;exact this,HBk.out⟩
       case measure => simp [intOf];omega
     · have hlt2I:(k:Int) < (n:Int):=by omega
       have hkl:k < r.cs.length:=by rw [HRN.out];exact hlt2
       obtain ⟨b2,off2,c,hA2,hc2,hcell2⟩:=hRc.2.2.1.at_ hkl
       have HFK:=Hd (filter_take hc2)
       obtain ⟨bx,rfl⟩:∃ bx:Value × Unit,u3 = bx.1:=⟨(u3,()),rfl⟩
       have d0:=hcell2 0 _ rfl
       have d1:=hcell2 1 _ rfl
       have d2:=hcell2 2 _ rfl
       have d3:=hcell2 3 _ rfl
       have d4:=hcell2 4 _ rfl
       have d5:=hcell2 5 _ rfl
       have d6:=hcell2 6 _ rfl
       have d7:=hcell2 7 _ rfl
       simp only [Nat.add_zero] at d0
       have hA2':=Hd hA2
       have hwk:IntKind.i64.wrap ((k:Int) + 1) = (k:Int) + 1:=IntWalk.i64_in _ (by omega)
       have hXZ:=HPL.out k
       have HXZ:=Hd hXZ
       obtain ⟨xr,xm,xh,x1,x2,x3,x4,x5⟩:=c
       simp only at d0 d1 d2 d3 d4 d5 d6 d7
       obtain ⟨W9,hW9⟩:∃ W9,wr.alloc (.cells #[.int .i32 xr,.string xm,.int .i64 xh,.int .i64 x1,.int .i64 x2,.int .i64 x3,.int .i64 x4,.int .i64 x5] 109) = W9:=⟨_,rfl⟩
       have hb9:Below wr.heap.size wr W9:=by rw [← hW9];exact below_allocs (Below.refl _ _) _
       have HB9:=Hd (below_tail hB hb9)
       have HO9:=Hd (hO.below hb9)
       have HN9:=Hd (show W9.heap[wr.heap.size]? = some (.cells #[.int .i32 xr,.string xm,.int .i64 xh,.int .i64 x1,.int .i64 x2,.int .i64 x3,.int .i64 x4,.int .i64 x5] 109 (0,0)) from by rw [← hW9];exact hp_new rfl)
       have HW9:=Hd hW9
       rw [hA2]
       clear hO hB hRc hA2 hc2 hcell2 hkl hXZ hb9 hW9
       by_cases hh:xh = 3
       · have hhb:(xh == 3) = true:=by simp [hh]
         have HH:=Hd hh
         clear hh
         go_upto_region 8 with fail
         rw [HW9.out]
         have e2:=(at_ HN9.out 2 _ rfl).1
         clear d0 d1 d2 d3 d4 d5 d6 d7
         go_wp2
         go_roundw
         case rel => exact ⟨k + 1,by go_num,by omega,by rw [HFK.out,if_pos HH.out,List.append_nil];exact HO9.out,HB9.out⟩
         case measure => simp [intOf];omega
       · have hhb:(xh == 3) = false:=by simp [hh]
         have HH:=Hd hh
         clear hh
         go_upto_region 8 with fail
         rw [HW9.out]
         have e2:=(at_ HN9.out 2 _ rfl).1
         clear d0 d1 d2 d3 d4 d5 d6 d7
         go_upto_region 9 with fail
         have e0:=(at_ HN9.out 0 _ rfl).1
         have e1:=(at_ HN9.out 1 _ rfl).1
         have e3:=(at_ HN9.out 3 _ rfl).1
         have e4:=(at_ HN9.out 4 _ rfl).1
         have e5:=(at_ HN9.out 5 _ rfl).1
         have e6:=(at_ HN9.out 6 _ rfl).1
         have e7:=(at_ HN9.out 7 _ rfl).1
         refine wp_region_lit ?_
         refine wpList_valG (bx.1) (by rfl) (by rfl) ?_
         simp only [Act.put,List.setIfInBounds_toArray,List.set_cons_zero,List.set_cons_succ]
         refine wpList_valG (.agg #[.int .i32 xr,.string xm,.int .i64 xh,.int .i64 x1,.int .i64 x2,.int .i64 x3,.int .i64 x4,.int .i64 x5]) (by rfl) (by go_simp) ?_
         simp only [Act.put,List.setIfInBounds_toArray,List.set_cons_zero,List.set_cons_succ]
         clear e0 e1 e2 e3 e4 e5 e6 e7
         have hbx:=below_allocs (Below.refl W9.heap.size W9) (.cells #[.int .i32 xr,.string xm,.int .i64 xh,.int .i64 x1,.int .i64 x2,.int .i64 x3,.int .i64 x4,.int .i64 x5] 109)
         have HBX:=Hd (below_tail HB9.out hbx)
         have HOX:=Hd (ClO.below HO9.out hbx)
         refine wpList_actG (.slice (some ⟨W9.heap.size,0,none⟩) 1 1) (W9.alloc (.cells #[.int .i32 xr,.string xm,.int .i64 xh,.int .i64 x1,.int .i64 x2,.int .i64 x3,.int .i64 x4,.int .i64 x5] 109)) (by rfl) (by go_simp) ?_
         simp only [Act.put,List.setIfInBounds_toArray,List.set_cons_zero,List.set_cons_succ]
         refine wpList_append_g (o:=⟨some 27,_,_,_,_,_⟩) rfl (.tmp 24) (.tmp 26) 48 rfl w.heap.size 109 j0 _ 8 72 Tryz.underlying48 hj gz0 gz1 gz2 rfl (by decide) bx.1 _ _ rfl HOX.out ⟨W9.heap.size,0,none⟩ 1 1 (encCl (⟨xr,xm,xh,x1,x2,x3,x4,x5⟩:Cl)) rfl rfl (fun j u hj => by rw [add_lit',Nat.zero_add];exact (at_ (hp_new rfl) j u (by simpa [encCl] using hj)).1) (encCl_one _) (by simp only [maxLen];have:=HXZ.out;omega) (by have:=HXZ.out;omega) HBX.out.size ?_
         intro v' w7 ho hg hv'
         have HO7:Hid (ClO w.heap.size w7 v' (P ++ (r.cs.take (k + 1)).filter nPad)):=Hd (by
          rw [HFK.out,if_neg HH.out,← List.append_assoc]
          unfold ClO
          rw [flat_append,List.length_append]
          exact ho)
         have HB7:=Hd (HBX.out.grown hg HBX.out.size (fun b hb => (World.ownsRow.lt (show World.ownsRow _ _ _ _ _ _ _ from HOX.out) b hb).1))
         simp only [Act.put,List.setIfInBounds_toArray,List.set_cons_zero,List.set_cons_succ]
         clear ho hg hv'
         go_wp2
         go_roundw
         case rel => exact ⟨k + 1,by go_num,by omega,HO7.out,HB7.out⟩
         case measure => simp [intOf];omega
theorem copy_any (A:Option Addr) (l:List Cl) (ca:Nat) (w:World) (hl:GrAt encCl 8 w A l) (hz:l.length ≤ 10000) :
 ∃ A' c' w',(Builtin.append_ #[48,48] 48 #[.slice none 0 0,.slice A l.length ca]).run Tryz.prog w = .ok (.slice A' l.length c') w'∧ClO w.heap.size w' (.slice A' l.length c') l∧Below w.heap.size w w':=by
 obtain ⟨j0,hj,gz0,gz1,gz2⟩:=info_parts info_cellz
 by_cases h0:0 < l.length
 · obtain ⟨b,off,rfl,-⟩:=hl h0
   obtain ⟨v',w',hr,ho,hgr,-⟩:=run_append_own_at (P:=Tryz.prog) w w.heap.size 48 48 109 j0 _ 8 72 Tryz.underlying48 hj gz0 gz1 gz2 rfl (by decide) _ 0 [] (World.ownsRow_nil _ _ _ _) ⟨b,off,none⟩ l.length ca (flat encCl l) (flat_len encCl_len l) (hl.news encCl_len) (flat_one encCl_one _) (by simp only [maxLen];omega) (by omega) (Nat.le_refl _)
   rw [Nat.zero_add,List.nil_append] at ho
   obtain ⟨g,cap,hv⟩:=Go.Joins.ownsRow_form ho h0
   subst hv
   exact ⟨_,cap,w',hr,ho,(Below.refl _ _).grown hgr (Nat.le_refl _) (fun k hk => by cases hk)⟩
 · have:l = []:=List.length_eq_zero_iff.1 (by omega)
   subst this
   exact ⟨none,0,w,append_nil_none Tryz.underlying48 hj A ca w,World.ownsRow_nil _ _ _ _,Below.refl _ _⟩
def unpI (l:List Cl) (i:Nat):List Cl:=(l.take i).map unpad ++ l.drop i
theorem unpI_len (l:List Cl) (i:Nat):(unpI l i).length = l.length:=by unfold unpI;simp;omega
theorem unpI_at {l:List Cl} {i:Nat} {c:Cl} (h:l[i]? = some c):(unpI l i)[i]? = some c:=by
 have hi:=(List.getElem?_eq_some_iff.1 h).1
 unfold unpI
 rw [List.getElem?_append_right (by simp;omega),List.getElem?_drop,List.length_map,List.length_take,show i + (i - min i l.length) = i by omega]
 exact h
theorem unpI_succ {l:List Cl} {i:Nat} {c:Cl} (h:l[i]? = some c):unpI l (i + 1) = (unpI l i).set i (unpad c):=by
 have hi:=(List.getElem?_eq_some_iff.1 h).1
 have hc:=(List.getElem?_eq_some_iff.1 h).2
 unfold unpI
 rw [List.set_append_right _ _ (by simp;omega),List.length_map,List.length_take,show i - min i l.length = 0 by omega,List.drop_eq_getElem_cons hi,List.set_cons_zero,List.take_add_one,h]
 simp
theorem unpI_same {l:List Cl} {i:Nat} {c:Cl} (h:l[i]? = some c) (hh:c.half ≠ 3):unpI l (i + 1) = unpI l i:=by
 rw [unpI_succ h,show unpad c = c from if_neg hh]
 refine List.ext_getElem? fun j => ?_
 rw [List.getElem?_set]
 split
 · next e =>
   subst e
   rw [if_pos (by rw [unpI_len];exact (List.getElem?_eq_some_iff.1 h).1),unpI_at h]
 · rfl
theorem fine_plain {l:List Cl} (h:Fine l):Fine (l.map unpad):=fun c hc => by
 obtain ⟨x,hx,rfl⟩:=List.mem_map.1 hc
 unfold unpad
 split
 · exact Nat.zero_le _
 · exact h x hx
set_option maxHeartbeats 6400000 in
theorem fplain_any (A:Option Addr) (l:List Cl) (ca:Nat) (w:World) (hl:GrAt encCl 8 w A l) (hz:l.length ≤ 10000) (hf:Fine l) :
 Calls Tryz.prog 131 #[.slice A l.length ca] w (RcPost0 (plainL l) w):=by
 obtain ⟨A1,c1,w1,hrun,ho,hb⟩:=copy_any A l ca w hl hz
 have HO:=Hd ho
 have HB:=Hd hb
 have HM:=Hd (fun (A:Option Addr) (l:List Cl) (ca:Nat) (w:World) (hl:GrAt encCl 8 w A l) (hz:l.length ≤ 10000) (hf:Fine l) => cMendE_any A l ca w hl hz hf)
 have HFP:=Hd (fine_plain hf)
 obtain ⟨n,hn⟩:∃ n,l.length = n:=⟨_,rfl⟩
 rw [hn] at hrun
 have HN:=Hd hn
 rw [hn] at hz ⊢
 have HRUN:=Hd hrun
 clear hl ho hb hn hrun hf
 go_enter Tryz.func131,Tryz.ntmps131
 go_upto_region 1 with fail
 refine wp_region_lit ?_
 refine wpList_valG (.slice A n ca) (by rfl) (by rfl) ?_
 simp only [Act.put,List.setIfInBounds_toArray,List.set_cons_zero,List.set_cons_succ]
 refine wpList_actG (.slice A1 n c1) w1 (by rfl) (exec_append _ _ _ rfl _ _ _ rfl rfl HRUN.out) ?_
 simp only [Act.put,List.setIfInBounds_toArray,List.set_cons_zero,List.set_cons_succ]
 go_wp2_with fail
 go_loopw [10] (fun s10 wr => ∃ i:Nat,s10 = .int .i64 i∧i ≤ n∧wr.ownsRow w.heap.size 109 8 (.slice A1 n c1) n (flat encCl (unpI l i))∧Below w.heap.size w wr) (fun s10 _ => n - (intOf s10).toNat)
 case atStart => exact ⟨0,rfl,Nat.zero_le _,by have:=HO.out;unfold ClO at this;rw [HN.out] at this;simpa [unpI] using this,HB.out⟩
 case round =>
  obtain ⟨i,rfl,hi,hO,hB⟩:=hrel
  have HOi:=Hd hO
  have HBi:=Hd hB
  by_cases hlt:i < n
  rotate_left
  · have hge:¬ (i:Int) < (n:Int):=by omega
    have hie:i = n:=by omega
    have hX:unpI l i = l.map unpad:=by rw [hie,← HN.out];simp [unpI]
    rw [hX] at HOi
    have HM2:=Hd (HM.out A1 (l.map unpad) c1 wr (gr_own encCl_len (n:=n) (c:=c1) (base:=w.heap.size) (e:=109) (by rw [List.length_map,HN.out];exact HOi.out)) (by rw [List.length_map,HN.out];exact hz) HFP.out)
    rw [List.length_map,HN.out] at HM2
    clear hO hB hie hX
    go_wp2_with (go_at_call 133;(with_reducible refine HM2.out.mono ?_);rintro e w5 ⟨A5,c5,rfl,hc5,hg5,hb5,hz5⟩;have HG5:=Hd hg5;have HB5:=Hd (below_tail HBi.out hb5);have HC5:=Hd hc5;have HZ5:=Hd hz5;clear hg5 hb5 hc5 hz5)
    go_ret
    exact ⟨A5,c5,rfl,HC5.out,HG5.out,HB5.out,HZ5.out⟩
  · have hltI:(i:Int) < (n:Int):=by omega
    have hil:i < l.length:=by rw [HN.out];exact hlt
    obtain ⟨c,hc⟩:∃ c,l[i]? = some c:=⟨l[i],List.getElem?_eq_getElem hil⟩
    have hg:GrAt encCl 8 wr A1 (unpI l i):=gr_own encCl_len (n:=n) (c:=c1) (base:=w.heap.size) (e:=109) (by rw [unpI_len,HN.out];exact hO)
    have hiu:i < (unpI l i).length:=by rw [unpI_len];exact hil
    obtain ⟨g,hA1⟩:∃ g,A1 = some ⟨g,0,none⟩:=by
     obtain ⟨g,cap,hv⟩:=Go.Joins.ownsRow_form hO (by omega)
     simp only [Value.slice.injEq] at hv
     exact ⟨g,hv.1⟩
    subst hA1
    obtain ⟨b2,off2,c',hA2,hc2,hcell2⟩:=hg.at_ hiu
    simp only [Option.some.injEq,Addr.mk.injEq,and_true] at hA2
    obtain ⟨rfl,rfl⟩:=hA2
    rw [unpI_at hc] at hc2
    obtain rfl:=Option.some.inj hc2
    have HUS:=Hd (unpI_succ hc)
    have HUM:=Hd (unpI_same hc)
    have hcro:CrO wr w.heap.size g c1 (unpI l i):=by unfold CrO;rw [unpI_len,HN.out];exact hO
    have HCR:=Hd hcro
    have d0:=hcell2 0 _ rfl
    have d1:=hcell2 1 _ rfl
    have d2:=hcell2 2 _ rfl
    have d3:=hcell2 3 _ rfl
    have d4:=hcell2 4 _ rfl
    have d5:=hcell2 5 _ rfl
    have d6:=hcell2 6 _ rfl
    have d7:=hcell2 7 _ rfl
    simp only [Nat.add_zero,Nat.zero_add] at d0 d1 d2 d3 d4 d5 d6 d7
    have hwi:IntKind.i64.wrap ((i:Int) + 1) = (i:Int) + 1:=IntWalk.i64_in _ (by omega)
    obtain ⟨xr,xm,xh,x1,x2,x3,x4,x5⟩:=c
    simp only at d0 d1 d2 d3 d4 d5 d6 d7
    obtain ⟨W9,hW9⟩:∃ W9,wr.alloc (.cells #[.int .i32 xr,.string xm,.int .i64 xh,.int .i64 x1,.int .i64 x2,.int .i64 x3,.int .i64 x4,.int .i64 x5] 109) = W9:=⟨_,rfl⟩
    have hb9:Below wr.heap.size wr W9:=by rw [← hW9];exact below_allocs (Below.refl _ _) _
    have HB9:=Hd (below_tail hB hb9)
    have HC9:=Hd (hcro.below hb9)
    have HN9:=Hd (show W9.heap[wr.heap.size]? = some (.cells #[.int .i32 xr,.string xm,.int .i64 xh,.int .i64 x1,.int .i64 x2,.int .i64 x3,.int .i64 x4,.int .i64 x5] 109 (0,0)) from by rw [← hW9];exact hp_new rfl)
    have HW9:=Hd hW9
    have HIL:=Hd hiu
    clear hO hB hg hcro hc hc2 hcell2 hil hiu hb9 hW9
    by_cases hh:xh = 3
    · have hhb:(xh == 3) = true:=by simp [hh]
      have HH:=Hd hh
      clear hh
      go_upto_region 5 with fail
      rw [HW9.out]
      have e2:=(at_ HN9.out 2 _ rfl).1
      have e3:=(at_ HN9.out 3 _ rfl).1
      have e4:=(at_ HN9.out 4 _ rfl).1
      have e5:=(at_ HN9.out 5 _ rfl).1
      have e6:=(at_ HN9.out 6 _ rfl).1
      have e7:=(at_ HN9.out 7 _ rfl).1
      clear d0 d1 d2 d3 d4 d5 d6 d7
      have HTH:=Hd (HC9.out.there HIL.out)
      obtain ⟨q1,q2⟩:=HC9.out.set HIL.out (emptyC ⟨xr,xm,xh,x1,x2,x3,x4,x5⟩)
      have hg1:=HC9.out.lt.1
      have Q1:=Hd q1
      have Q2:=Hd (HB9.out.trans (q2.below (fun x hx => by rw [List.mem_singleton.1 hx];exact hg1) HB9.out.size))
      clear q1 q2
      go_wp2_with (refine wpList_store_mid (op:=⟨none,.store 109 (.tmp 23) (.tmp 22),_,_,_,_⟩) rfl 109 (.tmp 23) (.tmp 22) rfl g (i * 8) (encCl (emptyC ⟨xr,xm,xh,x1,x2,x3,x4,x5⟩)).toArray rfl rfl HTH.out info_cell (cl_one (emptyC ⟨xr,xm,xh,x1,x2,x3,x4,x5⟩)) ?_)
      go_roundw
      case rel =>
       refine ⟨i + 1,by go_num,by omega,?_,Q2.out⟩
       have h1:=Q1.out
       unfold CrO at h1
       rw [List.length_set,unpI_len,HN.out] at h1
       rw [HUS.out,show unpad ⟨xr,xm,xh,x1,x2,x3,x4,x5⟩ = emptyC ⟨xr,xm,xh,x1,x2,x3,x4,x5⟩ from if_pos HH.out]
       exact h1
      case measure => simp [intOf];omega
    · have hhb:(xh == 3) = false:=by simp [hh]
      have HH:=Hd hh
      clear hh
      go_upto_region 5 with fail
      rw [HW9.out]
      have e2:=(at_ HN9.out 2 _ rfl).1
      clear d0 d1 d2 d3 d4 d5 d6 d7
      go_wp2
      go_roundw
      case rel =>
       refine ⟨i + 1,by go_num,by omega,?_,HB9.out⟩
       rw [HUM.out HH.out]
       have h1:=HC9.out
       unfold CrO at h1
       rw [unpI_len,HN.out] at h1
       exact h1
      case measure => simp [intOf];omega
def begN (G:List (List Ro)) (j:Nat):Nat:=((G.take j).flatten).length
def outN (cols:Nat) (G:List (List Ro)) (j:Nat):Nat:=((G.take j).flatMap (madeG cols)).length
theorem begN_zero (G:List (List Ro)):begN G 0 = 0:=rfl
theorem begN_cons (h:List Ro) (G:List (List Ro)) (j:Nat):begN (h :: G) (j + 1) = h.length + begN G j:=by simp [begN]
theorem outN_cons (cols:Nat) (h:List Ro) (G:List (List Ro)) (j:Nat):outN cols (h :: G) (j + 1) = (madeG cols h).length + outN cols G j:=by simp [outN]
theorem begN_succ {G:List (List Ro)} {j:Nat} {g:List Ro} (h:G[j]? = some g):begN G (j + 1) = begN G j + g.length:=by
 unfold begN
 rw [List.take_add_one,h]
 simp
theorem outN_succ {cols:Nat} {G:List (List Ro)} {j:Nat} {g:List Ro} (h:G[j]? = some g):(G.take (j + 1)).flatMap (madeG cols) = (G.take j).flatMap (madeG cols) ++ madeG cols g:=by
 rw [List.take_add_one,h,List.flatMap_append]
 simp
theorem begN_full (G:List (List Ro)):begN G G.length = G.flatten.length:=by unfold begN;rw [List.take_length]
theorem begN_le (G:List (List Ro)) (j:Nat):begN G j ≤ G.flatten.length:=by
 unfold begN
 conv => rhs;rw [← List.take_append_drop j G]
 rw [List.flatten_append,List.length_append]
 omega
theorem group_at:∀ {G:List (List Ro)} {j:Nat} {g:List Ro},G[j]? = some g→(G.flatten.drop (begN G j)).take g.length = g
 | [],j,g,h => by simp at h
 | x :: G,0,g,h => by
   simp at h;subst h
   rw [begN_zero,List.drop_zero,List.flatten_cons,List.take_left]
 | x :: G,j + 1,g,h => by
   have h':G[j]? = some g:=by simpa using h
   rw [begN_cons,List.flatten_cons,← List.drop_drop,List.drop_left]
   exact group_at h'
theorem ivs_at:∀ {G:List (List Ro)} {j:Nat} {g:List Ro} (a:Nat),G[j]? = some g→(ivs a G)[j]? = some (a + begN G j,a + begN G j + g.length)
 | [],j,g,a,h => by simp at h
 | x :: G,0,g,a,h => by
   simp at h;subst h
   rw [begN_zero];rfl
 | x :: G,j + 1,g,a,h => by
   have h':G[j]? = some g:=by simpa using h
   rw [ivs,List.getElem?_cons_succ,ivs_at (a + x.length) h',begN_cons]
   simp [Nat.add_assoc]
theorem placeG_at (cols:Nat) (x:Int):∀ {G:List (List Ro)} {j:Nat} {g:List Ro} (y out:Nat),G[j]? = some g→begN G j ≤ y→y < begN G j + g.length→placeG cols x G y out = (out + outN cols G j + (plP (madeG cols g) (offP g ((y - begN G j:Nat):Int) x)).1,(plP (madeG cols g) (offP g ((y - begN G j:Nat):Int) x)).2)
 | [],j,g,y,out,h,_,_ => by simp at h
 | z :: G,0,g,y,out,h,h1,h2 => by
   simp at h;subst h
   rw [begN_zero] at h1 h2 ⊢
   rw [placeG,if_pos (by omega),Nat.sub_zero]
   rfl
 | z :: G,j + 1,g,y,out,h,h1,h2 => by
   have h':G[j]? = some g:=by simpa using h
   rw [begN_cons] at h1 h2 ⊢
   rw [placeG,if_neg (by omega),placeG_at cols x (y - z.length) _ h' (by omega) (by omega),outN_cons,show y - z.length - begN G j = y - (z.length + begN G j) by omega]
   simp [Nat.add_assoc]
theorem placeG_end (cols:Nat) (x:Int):∀ (G:List (List Ro)) (y out:Nat),G.flatten.length ≤ y→placeG cols x G y out = (out + outN cols G G.length,0)
 | [],y,out,_ => by simp [placeG,outN]
 | z :: G,y,out,h => by
   rw [List.flatten_cons,List.length_append] at h
   rw [placeG,if_neg (by omega),placeG_end cols x G _ _ (by omega),List.length_cons,outN_cons]
   simp [Nat.add_assoc]
theorem madeG_len {cols:Nat} (hc:2 ≤ cols) (g:List Ro):(madeG cols g).length ≤ cntL g + 1:=by
 unfold madeG splitL
 have h1:=splitG_len hc ((flowL g).length + 1) false (plainL (flowL g))
 rw [plainL_len] at h1
 have h2:(flowL g).length ≤ cntL g:=by
  unfold flowL
  rw [List.length_take,mendL_len,flatR_len]
  omega
 omega
theorem madeG_pos (cols:Nat) (g:List Ro):0 < (madeG cols g).length:=by
 unfold madeG splitL
 rw [splitG];simp
theorem outN_le {cols:Nat} (hc:2 ≤ cols):∀ G:List (List Ro),(G.flatMap (madeG cols)).length ≤ cntL G.flatten + G.length
 | [] => by simp
 | g :: G => by
   have h1:=outN_le hc G
   have h2:=madeG_len hc g
   rw [List.flatMap_cons,List.length_append,List.flatten_cons,cntL_append,List.length_cons]
   omega
theorem cnt_group {G:List (List Ro)} {g:List Ro} (h:g ∈ G):cntL g ≤ cntL G.flatten:=by
 obtain ⟨a,b,rfl⟩:=List.append_of_mem h
 simp only [List.flatten_append,List.flatten_cons,cntL_append]
 omega
def rfP (cols:Nat) (M:List Ro) (p:P2):P2:=(((reflowP cols M p).1:Int),((reflowP cols M p).2:Int))
def plAt (cols:Nat) (M:List Ro) (a:Nat) (p:P2):P2:=if max 0 p.1 < (a:Int) then rfP cols M p else p
theorem plAt_zero (cols:Nat) (M:List Ro) (p:P2):plAt cols M 0 p = p:=by unfold plAt;rw [if_neg (by omega)]
def plI (cols:Nat) (M:List Ro) (a b:Nat) (l:List P2) (i:Nat):List P2:=(l.take i).map (plAt cols M b) ++ (l.drop i).map (plAt cols M a)
theorem plI_zero (cols:Nat) (M:List Ro) (a b:Nat) (l:List P2):plI cols M a b l 0 = l.map (plAt cols M a):=by simp [plI]
theorem plI_full (cols:Nat) (M:List Ro) (a b:Nat) (l:List P2):plI cols M a b l l.length = l.map (plAt cols M b):=by simp [plI]
theorem plI_len (cols:Nat) (M:List Ro) (a b:Nat) (l:List P2) (i:Nat):(plI cols M a b l i).length = l.length:=by unfold plI;simp;omega
theorem plI_succ {cols:Nat} {M:List Ro} {a b:Nat} {l:List P2} {i:Nat} {p:P2} (h:l[i]? = some p):plI cols M a b l (i + 1) = (plI cols M a b l i).set i (plAt cols M b p):=by
 have hi:=(List.getElem?_eq_some_iff.1 h).1
 unfold plI
 rw [List.set_append_right _ _ (by simp;omega),List.length_map,List.length_take,show i - min i l.length = 0 by omega,List.drop_eq_getElem_cons hi,List.map_cons,List.set_cons_zero,List.take_add_one,h]
 simp
theorem plI_at {cols:Nat} {M:List Ro} {a b:Nat} {l:List P2} {i:Nat} {p:P2} (h:l[i]? = some p):(plI cols M a b l i)[i]? = some (plAt cols M a p):=by
 have hi:=(List.getElem?_eq_some_iff.1 h).1
 unfold plI
 rw [List.getElem?_append_right (by simp;omega),List.length_map,List.length_take,show i - min i l.length = 0 by omega,List.getElem?_map,List.getElem?_drop,Nat.add_zero,h]
 rfl
theorem plI_same {cols:Nat} {M:List Ro} {a b:Nat} {l:List P2} {i:Nat} {p:P2} (h:l[i]? = some p) (hp:plAt cols M b p = plAt cols M a p):plI cols M a b l (i + 1) = plI cols M a b l i:=by
 rw [plI_succ h,hp]
 refine List.ext_getElem? fun j => ?_
 rw [List.getElem?_set]
 split
 · next e =>
   subst e
   rw [if_pos (by rw [plI_len];exact (List.getElem?_eq_some_iff.1 h).1),plI_at h]
 · rfl
def mixI (f f':P2→P2) (l:List P2) (i:Nat):List P2:=(l.take i).map f' ++ (l.drop i).map f
theorem mixI_zero (f f':P2→P2) (l:List P2):mixI f f' l 0 = l.map f:=by simp [mixI]
theorem mixI_full (f f':P2→P2) (l:List P2):mixI f f' l l.length = l.map f':=by simp [mixI]
theorem mixI_len (f f':P2→P2) (l:List P2) (i:Nat):(mixI f f' l i).length = l.length:=by unfold mixI;simp;omega
theorem mixI_succ {f f':P2→P2} {l:List P2} {i:Nat} {p:P2} (h:l[i]? = some p):mixI f f' l (i + 1) = (mixI f f' l i).set i (f' p):=by
 have hi:=(List.getElem?_eq_some_iff.1 h).1
 unfold mixI
 rw [List.set_append_right _ _ (by simp;omega),List.length_map,List.length_take,show i - min i l.length = 0 by omega,List.drop_eq_getElem_cons hi,List.map_cons,List.set_cons_zero,List.take_add_one,h]
 simp
theorem mixI_at {f f':P2→P2} {l:List P2} {i:Nat} {p:P2} (h:l[i]? = some p):(mixI f f' l i)[i]? = some (f p):=by
 have hi:=(List.getElem?_eq_some_iff.1 h).1
 unfold mixI
 rw [List.getElem?_append_right (by simp;omega),List.length_map,List.length_take,show i - min i l.length = 0 by omega,List.getElem?_map,List.getElem?_drop,Nat.add_zero,h]
 rfl
theorem mixI_same {f f':P2→P2} {l:List P2} {i:Nat} {p:P2} (h:l[i]? = some p) (hp:f' p = f p):mixI f f' l (i + 1) = mixI f f' l i:=by
 rw [mixI_succ h,hp]
 refine List.ext_getElem? fun j => ?_
 rw [List.getElem?_set]
 split
 · next e =>
   subst e
   rw [if_pos (by rw [mixI_len];exact (List.getElem?_eq_some_iff.1 h).1),mixI_at h]
 · rfl
theorem rfP_at {cols:Nat} {M:List Ro} {j:Nat} {g:List Ro} {p:P2} {y:Nat} (h:(groupsL M)[j]? = some g) (hy:max 0 p.1 = (y:Int)) (h1:begN (groupsL M) j ≤ y) (h2:y < begN (groupsL M) j + g.length) :
 rfP cols M p = (((outN cols (groupsL M) j + (plP (madeG cols g) (offP g ((y - begN (groupsL M) j:Nat):Int) (if p.1 < 0 then 0 else p.2))).1:Nat):Int),((plP (madeG cols g) (offP g ((y - begN (groupsL M) j:Nat):Int) (if p.1 < 0 then 0 else p.2))).2:Int)):=by
 unfold rfP reflowP
 have hy2:p.1.toNat = y:=by omega
 rw [hy2,placeG_at cols _ y 0 h h1 h2,Nat.zero_add]
theorem rfP_end {cols:Nat} {M:List Ro} {p:P2} (h:(M.length:Int) ≤ p.1):rfP cols M p = (((reflowL cols M).length:Int),0):=by
 unfold rfP reflowP
 rw [placeG_end cols _ (groupsL M) _ _ (by rw [groups_len];omega),Nat.zero_add]
 unfold outN reflowL
 rw [List.take_length]
 rfl
theorem groupsL_ne:∀ (l:List Ro),∀ g ∈ groupsL l,g ≠ []
 | [],g,h => by simp [groupsL] at h
 | r :: l,g,h => by
   have ih:=groupsL_ne l
   rw [groupsL] at h
   split at h
   · simp at h;rw [h];simp
   · next g' gs hl =>
     rw [hl] at ih
     split at h
     · rcases List.mem_cons.1 h with rfl | h
       · simp
       · exact ih g (by simp [h])
     · rcases List.mem_cons.1 h with rfl | h
       · simp
       · exact ih g h
theorem offP_le (rows:List Ro) (y x:Int):offP rows y x ≤ cntL rows:=by
 unfold offP
 split
 · omega
 split
 · omega
 · next h1 h2 =>
   have hk:y.toNat < rows.length:=by omega
   have hr:=List.getElem?_eq_getElem hk
   have h3:=cntL_take_succ hr
   have h4:=cntL_mono rows (show y.toNat + 1 ≤ rows.length by omega)
   rw [List.take_length] at h4
   rw [List.getD_eq_getElem?_getD,hr,Option.getD_some]
   omega
theorem plP_fst_le (rows:List Ro) (off:Nat):(plP rows off).1 ≤ rows.length:=by
 unfold plP
 split
 · simp
 split
 · exact firstGt_le rows off
 · simp
theorem RowsO.mod {base:Nat} {w w':World} {v:Value} {L:List Rh} {X:List Nat} (h:RowsO base w v L) (hm:Mod X w w') (hX:NoCel w X) (hv:∀ g,v.ownBlock = some g→g ∉ X):RowsO base w' v L :=
 ⟨owns_mod h.1 hm hv,fun r hr => ⟨(h.2 r hr).1.mod hm hX,(h.2 r hr).2⟩⟩
theorem GrAt.sub {α:Type} {enc:α→List Value} {k:Nat} {w:World} {b off:Nat} {l:List α} (h:GrAt enc k w (some ⟨b,off,none⟩) l) (a n:Nat):GrAt enc k w (some ⟨b,off + a * k,none⟩) ((l.drop a).take n):=fun h0 => by
 rw [List.length_take,List.length_drop] at h0
 obtain ⟨b2,off2,e,hc⟩:=h (by omega)
 simp only [Option.some.injEq,Addr.mk.injEq,and_true] at e
 obtain ⟨rfl,rfl⟩:=e
 refine ⟨b,_,rfl,fun i x hx j v hv => ?_⟩
 have:=hc (a + i) x (by rw [List.getElem?_take] at hx;split at hx;rw [List.getElem?_drop] at hx;exact hx;cases hx) j v hv
 rw [show off + a * k + i * k + j = off + (a + i) * k + j by rw [Nat.add_mul];omega]
 exact this
theorem RowsO.join {base base2:Nat} {w w1:World} {v v' v2:Value} {D R:List Rh} (h:RowsO base w v D) (h2:RowsO base2 w v2 R) (ho:w1.ownsRow base 50 2 v' (D.length + R.length) (flat encRh D ++ flat encRh R)) (hg:w.grownBy w1 v.ownBlock):RowsO base w1 v' (D ++ R):=by
 have hm:Mod v.ownBlock.toList w w1:=Mod.of_grown hg (fun b hb => by simp [hb])
 have hn:NoCel w v.ownBlock.toList:=fun b hb cs f he => by
  obtain ⟨cur,hc⟩:=own_block h.1 (Option.mem_toList.1 hb)
  exact block_ne hc he (by decide) rfl
 refine ⟨by rw [flat_append,List.length_append];exact ho,fun x hx => ?_⟩
 rcases List.mem_append.1 hx with hx | hx
 · exact ⟨(h.2 x hx).1.mod hm hn,(h.2 x hx).2⟩
 · exact ⟨(h2.2 x hx).1.mod hm hn,(h2.2 x hx).2⟩
end Go.Proofs.YtffdblmdelgkaaaGreat
