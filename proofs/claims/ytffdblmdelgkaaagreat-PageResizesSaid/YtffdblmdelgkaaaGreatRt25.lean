/- Joined by a tool of this claim out of smaller texts. Conditions: as stated. -/
import Derived.Test.YtffdblmdelgkaaaGreatRt20
set_option linter.unusedVariables false
set_option linter.unusedSimpArgs false
set_option maxRecDepth 100000
open Go.Lib renaming hid → Hd
namespace Go.Proofs.YtffdblmdelgkaaaGreat
open Go.RowKit
def lenOf:Value→Nat
 | .slice _ n _ => n
 | _ => 0
theorem ClO.any {base:Nat} {w:World} {v:Value} {l:List Cl} (h:ClO base w v l):∃ a cap,v = .slice a l.length cap:=by
 obtain ⟨-,⟨rfl,h0⟩ | ⟨g,cap,cur,rfl,-⟩⟩:=h
 · exact ⟨none,0,by rw [h0]⟩
 · exact ⟨_,_,rfl⟩
set_option maxHeartbeats 3200000 in
theorem rDelete_any (A:Option Addr) (l:List Cl) (ca:Nat) (x n:Int) (b:Col) (w:World) (hl:GrAt encCl 8 w A l) (h0:0 < l.length) (hz:l.length ≤ 10000) :
 Calls Tryz.prog 39 #[.slice A l.length ca,.int .i64 x,.int .i64 n,.agg #[.int .i64 b.k,.int .i64 b.n]] w (WithPost (deleteL l x n b) w):=by
 obtain ⟨j0,hj,gz0,gz1,gz2⟩:=info_parts info_cellz
 have hb0:=below_allocs (Below.refl w.heap.size w) (.cells #[.int .i64 b.k,.int .i64 b.n] 32)
 have HB0:=Hd hb0
 have HK:Hid (HoldAt (w.alloc (.cells #[.int .i64 b.k,.int .i64 b.n] 32)) w.heap.size 0 (.int .i64 b.k)∧HoldAt (w.alloc (.cells #[.int .i64 b.k,.int .i64 b.n] 32)) w.heap.size 1 (.int .i64 b.n)):=Hd ⟨at_ (hp_new rfl) 0 _ rfl,at_ (hp_new rfl) 1 _ rfl⟩
 have HM:=Hd (rMend_n A l l.length ca _ (hl.below hb0) rfl h0 hz)
 have HBL:=Hd (fun w => rBlank_any b w)
 have HM2:=Hd (fun (g cap base:Nat) (o:List Cl) (w':World) (h:CrO w' base g cap o) (hn:o.length = l.length) => rMend_n (some ⟨g,0,none⟩) o l.length cap w' h.gr hn h0 hz)
 clear hl hb0
 go_enter Tryz.func39,Tryz.ntmps39
 go_wp2_with (go_at_call 70;refine HM.out.mono ?_;rintro e w1 ⟨g,cap,rfl,hc,hb⟩;have HC:=Hd hc;have HB1:=Hd (below_tail HB0.out hb);have HK1:=Hd (show HoldAt w1 w.heap.size 0 (.int .i64 b.k)∧HoldAt w1 w.heap.size 1 (.int .i64 b.n) from ⟨hold hb HK.out.1,hold hb HK.out.2⟩);clear hc hb)
 go_loopw [10,11] (fun s10 s11 wr => ∃ (i:Nat) (P:List Cl),s11 = .int .i64 i∧i ≤ l.length∧P = delP (mendL l) x n i∧ClO w1.heap.size wr s10 P∧Below w1.heap.size w1 wr) (fun _ s11 _ => l.length - (intOf s11).toNat)
 case atStart => exact ⟨0,[],rfl,Nat.zero_le _,(delP_zero _ _ _).symm,World.ownsRow_nil _ _ _ _,Below.refl _ _⟩
 case round =>
  obtain ⟨i,P,rfl,hi,hT,hO,hB⟩:=hrel
  obtain ⟨bx,rfl⟩:∃ bx:Value × Unit,u10 = bx.1:=⟨(u10,()),rfl⟩
  have HO:=Hd hO
  have HB:=Hd hB
  have HP:=Hd (show P.length ≤ i by rw [hT];exact delP_le _ _ _ _)
  have HT:=Hd hT
  have k0:=(hold hB HK1.out.1).1
  have k1:=(hold hB HK1.out.2).1
  clear hO hB hT
  by_cases hlt:i < l.length
  rotate_left
  · have hge:¬ (i:Int) < (l.length:Int):=by omega
    obtain rfl:i = l.length:=by omega
    go_wp2_with fail
    go_loopw [10] (fun s10 wr => ∃ (j:Nat) (P:List Cl),P = delP (mendL l) x n l.length ++ List.replicate j (blankC b)∧P.length ≤ l.length∧ClO w1.heap.size wr s10 P∧Below w1.heap.size w1 wr) (fun s10 _ => l.length - lenOf s10)
    case atStart => exact ⟨0,P,by rw [HT.out];simp,HP.out,HO.out,HB.out⟩
    case round =>
     clear HT HP HO HB k0 k1
     obtain ⟨j,P2,hT2,hle,hO2,hB2⟩:=hrel
     obtain ⟨a,cp,hv⟩:=hO2.any
     obtain ⟨p,hp⟩:∃ p,P2.length = p:=⟨_,rfl⟩
     rw [hp] at hv hle
     subst hv
     have HO:=Hd hO2
     have HB:=Hd hB2
     have HP2:=Hd hp
     have HT2:=Hd hT2
     have k0:=(hold hB2 HK1.out.1).1
     have k1:=(hold hB2 HK1.out.2).1
     clear hO2 hB2 hp hT2
     by_cases hlt:p < l.length
     rotate_left
     · have hgep:¬ (p:Int) < (l.length:Int):=by omega
       obtain rfl:p = l.length:=by omega
       have HPE:Hid (P2 = delM (mendL l) x n b):=Hd (by
        have h1:=HT2.out
        have h2:=HP2.out
        have h3:=mendL_len l
        rw [← h3] at h1
        rw [h1] at h2
        rw [List.length_append,List.length_replicate] at h2
        rw [h1]
        exact delP_end (by omega))
       obtain ⟨g2,cap2,hv,hc2⟩:=ClO.form HO.out (by rw [HP2.out];omega)
       rw [HP2.out] at hv
       have HM3:=Hd (HM2.out _ _ _ _ _ hc2 HP2.out)
       rw [hv]
       clear hc2
       go_wp2_with (go_at_call 70;refine HM3.out.mono ?_;rintro e w2 ⟨g',cap',rfl,hc,hb⟩;have HC2:=Hd hc;have HB2:=Hd hb;clear hc hb)
       go_ret
       have hO2:=HC2.out
       rw [HPE.out,delM_L] at hO2
       have hbb:=HB1.out.trans (HB.out.mono HB1.out.size)
       exact ⟨g',cap',by rw [show (deleteL l x n b).length = l.length by rw [← delM_L,mendL_len,delM_len,mendL_len]];rfl,owns_weaken hO2 hbb.size,below_tail hbb HB2.out⟩
     · have hltP:(p:Int) < (l.length:Int):=by omega
       obtain ⟨X,hX⟩:∃ X,blankC b = X:=⟨_,rfl⟩
       have HNC:Hid (P2 ++ [X] = delP (mendL l) x n l.length ++ List.replicate (j + 1) (blankC b)):=Hd (by rw [HT2.out,hX,List.replicate_succ',List.append_assoc])
       rw [hX] at HBL
       obtain ⟨xr,xm,xh,x1,x2,x3,x4,x5⟩:=X
       clear hX
       go_upto_region 9 with fail
       refine wp_region_lit ?_
       refine wpList_valG (.slice a p cp) (by rfl) (by rfl) ?_
       simp only [Act.put,List.setIfInBounds_toArray,List.set_cons_zero,List.set_cons_succ]
       refine wpList_valG (.agg #[.int .i64 b.k,.int .i64 b.n]) (by rfl) (by go_simp) ?_
       simp only [Act.put,List.setIfInBounds_toArray,List.set_cons_zero,List.set_cons_succ]
       refine wpList_callG rfl 83 #[.agg #[.int .i64 b.k,.int .i64 b.n]] (by go_simp) (HBL.out _) (.agg #[.int .i32 xr,.string xm,.int .i64 xh,.int .i64 x1,.int .i64 x2,.int .i64 x3,.int .i64 x4,.int .i64 x5]) (fun e w' h => h.1) ?_
       rintro w3 ⟨-,hb⟩
       have HO2:=Hd (ClO.below HO.out hb)
       have HB3:=Hd (HB.out.trans (hb.mono HB.out.size))
       clear hb k0 k1
       simp only [Act.put,List.setIfInBounds_toArray,List.set_cons_zero,List.set_cons_succ]
       have HBX:=Hd (below_allocs (Below.refl w3.heap.size w3) (.cells #[.int .i32 xr,.string xm,.int .i64 xh,.int .i64 x1,.int .i64 x2,.int .i64 x3,.int .i64 x4,.int .i64 x5] 109))
       have HO3:=Hd (ClO.below HO2.out HBX.out)
       refine wpList_actG (.slice (some ⟨w3.heap.size,0,none⟩) 1 1) (w3.alloc (.cells #[.int .i32 xr,.string xm,.int .i64 xh,.int .i64 x1,.int .i64 x2,.int .i64 x3,.int .i64 x4,.int .i64 x5] 109)) (by rfl) (by go_simp) ?_
       simp only [Act.put,List.setIfInBounds_toArray,List.set_cons_zero,List.set_cons_succ]
       refine wpList_append_g rfl (.tmp 56) (.tmp 59) 48 rfl w1.heap.size 109 j0 _ 8 72 Tryz.underlying48 hj gz0 gz1 gz2 rfl (by decide) (.slice a p cp) _ _ rfl HO3.out ⟨w3.heap.size,0,none⟩ 1 1 (encCl (⟨xr,xm,xh,x1,x2,x3,x4,x5⟩:Cl)) rfl rfl (fun j u hj => by rw [add_lit',Nat.zero_add];exact (at_ (hp_new rfl) j u (by simpa [encCl] using hj)).1) (encCl_one _) (by simp only [maxLen];have:=HP2.out;omega) (by have:=HP2.out;omega) (by have:=HB3.out.size;simp at *;omega) ?_
       intro v' w7 ho hg hv'
       have HO7:Hid (ClO w1.heap.size w7 v' (P2 ++ [(⟨xr,xm,xh,x1,x2,x3,x4,x5⟩:Cl)])):=Hd (by unfold ClO;rw [flat_append,List.length_append];exact ho)
       have HB7:=Hd ((show Below w1.heap.size w1 _ from HB3.out.trans (HBX.out.mono HB3.out.size)).grown hg (by have:=HB3.out.size;simp at *;omega) (fun b hb => (World.ownsRow.lt (show World.ownsRow _ _ _ _ _ _ _ from HO3.out) b hb).1))
       simp only [Act.put,List.setIfInBounds_toArray,List.set_cons_zero,List.set_cons_succ]
       clear hg hv'
       have HLN:Hid (lenOf v' = p + 1):=Hd (by
        obtain ⟨a',c',e'⟩:=HO7.out.any
        rw [e'];show (P2 ++ [_]).length = _;rw [List.length_append,HP2.out];rfl)
       clear ho
       go_wp2
       go_roundw
       case rel => exact ⟨j + 1,P2 ++ [(⟨xr,xm,xh,x1,x2,x3,x4,x5⟩:Cl)],HNC.out,by rw [List.length_append,HP2.out];exact hlt,HO7.out,HB7.out⟩
       case measure => have:=HLN.out;simp [lenOf] at *;omega
  · have hltI:(i:Int) < (l.length:Int):=by omega
    have HG:=Hd (fun (k:Nat) (c:Cl) (h:(mendL l)[k]? = some c) => range_below (HC.out.range h) HB.out)
    by_cases e1:x < 0
    · obtain ⟨c,hc⟩:∃ c,(mendL l)[i]? = some c:=⟨(mendL l)[i]'(by rw [mendL_len];omega),List.getElem?_eq_getElem _⟩
      obtain ⟨xr,xm,xh,x1,x2,x3,x4,x5⟩:=c
      have HRG:=Hd (HG.out i _ hc)
      have HNC:Hid (P ++ [(⟨xr,xm,xh,x1,x2,x3,x4,x5⟩:Cl)] = delP (mendL l) x n (i + 1)):=Hd (by rw [HT.out];exact (delP_in hc (by rw [mendL_len];omega)).symm)
      clear hc
      go_upto_region 7 with fail
      refine wp_region_lit ?_
      refine wpList_valG (bx.1) (by rfl) (by rfl) ?_
      simp only [Act.put,List.setIfInBounds_toArray,List.set_cons_zero,List.set_cons_succ]
      refine wpList_valG (.slice (some ⟨g,0,none⟩) l.length cap) (by rfl) (by rfl) ?_
      simp only [Act.put,List.setIfInBounds_toArray,List.set_cons_zero,List.set_cons_succ]
      refine wpList_valG (.int .i64 (i:Int)) (by rfl) (by rfl) ?_
      simp only [Act.put,List.setIfInBounds_toArray,List.set_cons_zero,List.set_cons_succ]
      refine wpList_valG (.pointer (some ⟨g,i * 8,none⟩)) (by rfl) (by go_simp) ?_
      simp only [Act.put,List.setIfInBounds_toArray,List.set_cons_zero,List.set_cons_succ]
      refine load_mid_g (by rfl) 109 (.tmp 47) rfl (g) (i * 8) rfl (encCl (⟨xr,xm,xh,x1,x2,x3,x4,x5⟩:Cl)) _ (HRG.out) Tryz.underlying109 rfl info_cell ?_
      simp only [Act.put,List.setIfInBounds_toArray,List.set_cons_zero,List.set_cons_succ]
      simp only [encCl]
      have HBX:=Hd (below_allocs (Below.refl wr.heap.size wr) (.cells #[.int .i32 xr,.string xm,.int .i64 xh,.int .i64 x1,.int .i64 x2,.int .i64 x3,.int .i64 x4,.int .i64 x5] 109))
      have HO3:=Hd (ClO.below HO.out HBX.out)
      refine wpList_actG (.slice (some ⟨wr.heap.size,0,none⟩) 1 1) (wr.alloc (.cells #[.int .i32 xr,.string xm,.int .i64 xh,.int .i64 x1,.int .i64 x2,.int .i64 x3,.int .i64 x4,.int .i64 x5] 109)) (by rfl) (by go_simp) ?_
      simp only [Act.put,List.setIfInBounds_toArray,List.set_cons_zero,List.set_cons_succ]
      refine wpList_append_g rfl (.tmp 44) (.tmp 49) 48 rfl w1.heap.size 109 j0 _ 8 72 Tryz.underlying48 hj gz0 gz1 gz2 rfl (by decide) bx.1 _ _ rfl HO3.out ⟨wr.heap.size,0,none⟩ 1 1 (encCl (⟨xr,xm,xh,x1,x2,x3,x4,x5⟩:Cl)) rfl rfl (fun j u hj => by rw [add_lit',Nat.zero_add];exact (at_ (hp_new rfl) j u (by simpa [encCl] using hj)).1) (encCl_one _) (by simp only [maxLen];have:=HP.out;omega) (by have:=HP.out;omega) (by have:=HB.out.size;simp at *;omega) ?_
      intro v' w7 ho hg hv'
      have HO7:Hid (ClO w1.heap.size w7 v' (P ++ [(⟨xr,xm,xh,x1,x2,x3,x4,x5⟩:Cl)])):=Hd (by unfold ClO;rw [flat_append,List.length_append];exact ho)
      have HB7:=Hd ((show Below w1.heap.size w1 _ from HB.out.trans (HBX.out.mono HB.out.size)).grown hg (by have:=HB.out.size;simp at *;omega) (fun b hb => (World.ownsRow.lt (show World.ownsRow _ _ _ _ _ _ _ from HO3.out) b hb).1))
      simp only [Act.put,List.setIfInBounds_toArray,List.set_cons_zero,List.set_cons_succ]
      clear ho hg hv'
      go_wp2
      go_roundw
      case rel => exact ⟨i + 1,P ++ [(⟨xr,xm,xh,x1,x2,x3,x4,x5⟩:Cl)],by go_num,by omega,HNC.out,HO7.out,HB7.out⟩
      case measure => simp [intOf];omega
    by_cases e2:(l.length:Int) ≤ x
    · obtain ⟨c,hc⟩:∃ c,(mendL l)[i]? = some c:=⟨(mendL l)[i]'(by rw [mendL_len];omega),List.getElem?_eq_getElem _⟩
      obtain ⟨xr,xm,xh,x1,x2,x3,x4,x5⟩:=c
      have HRG:=Hd (HG.out i _ hc)
      have HNC:Hid (P ++ [(⟨xr,xm,xh,x1,x2,x3,x4,x5⟩:Cl)] = delP (mendL l) x n (i + 1)):=Hd (by rw [HT.out];exact (delP_in hc (by rw [mendL_len];omega)).symm)
      clear hc
      go_upto_region 7 with fail
      refine wp_region_lit ?_
      refine wpList_valG (bx.1) (by rfl) (by rfl) ?_
      simp only [Act.put,List.setIfInBounds_toArray,List.set_cons_zero,List.set_cons_succ]
      refine wpList_valG (.slice (some ⟨g,0,none⟩) l.length cap) (by rfl) (by rfl) ?_
      simp only [Act.put,List.setIfInBounds_toArray,List.set_cons_zero,List.set_cons_succ]
      refine wpList_valG (.int .i64 (i:Int)) (by rfl) (by rfl) ?_
      simp only [Act.put,List.setIfInBounds_toArray,List.set_cons_zero,List.set_cons_succ]
      refine wpList_valG (.pointer (some ⟨g,i * 8,none⟩)) (by rfl) (by go_simp) ?_
      simp only [Act.put,List.setIfInBounds_toArray,List.set_cons_zero,List.set_cons_succ]
      refine load_mid_g (by rfl) 109 (.tmp 47) rfl (g) (i * 8) rfl (encCl (⟨xr,xm,xh,x1,x2,x3,x4,x5⟩:Cl)) _ (HRG.out) Tryz.underlying109 rfl info_cell ?_
      simp only [Act.put,List.setIfInBounds_toArray,List.set_cons_zero,List.set_cons_succ]
      simp only [encCl]
      have HBX:=Hd (below_allocs (Below.refl wr.heap.size wr) (.cells #[.int .i32 xr,.string xm,.int .i64 xh,.int .i64 x1,.int .i64 x2,.int .i64 x3,.int .i64 x4,.int .i64 x5] 109))
      have HO3:=Hd (ClO.below HO.out HBX.out)
      refine wpList_actG (.slice (some ⟨wr.heap.size,0,none⟩) 1 1) (wr.alloc (.cells #[.int .i32 xr,.string xm,.int .i64 xh,.int .i64 x1,.int .i64 x2,.int .i64 x3,.int .i64 x4,.int .i64 x5] 109)) (by rfl) (by go_simp) ?_
      simp only [Act.put,List.setIfInBounds_toArray,List.set_cons_zero,List.set_cons_succ]
      refine wpList_append_g rfl (.tmp 44) (.tmp 49) 48 rfl w1.heap.size 109 j0 _ 8 72 Tryz.underlying48 hj gz0 gz1 gz2 rfl (by decide) bx.1 _ _ rfl HO3.out ⟨wr.heap.size,0,none⟩ 1 1 (encCl (⟨xr,xm,xh,x1,x2,x3,x4,x5⟩:Cl)) rfl rfl (fun j u hj => by rw [add_lit',Nat.zero_add];exact (at_ (hp_new rfl) j u (by simpa [encCl] using hj)).1) (encCl_one _) (by simp only [maxLen];have:=HP.out;omega) (by have:=HP.out;omega) (by have:=HB.out.size;simp at *;omega) ?_
      intro v' w7 ho hg hv'
      have HO7:Hid (ClO w1.heap.size w7 v' (P ++ [(⟨xr,xm,xh,x1,x2,x3,x4,x5⟩:Cl)])):=Hd (by unfold ClO;rw [flat_append,List.length_append];exact ho)
      have HB7:=Hd ((show Below w1.heap.size w1 _ from HB.out.trans (HBX.out.mono HB.out.size)).grown hg (by have:=HB.out.size;simp at *;omega) (fun b hb => (World.ownsRow.lt (show World.ownsRow _ _ _ _ _ _ _ from HO3.out) b hb).1))
      simp only [Act.put,List.setIfInBounds_toArray,List.set_cons_zero,List.set_cons_succ]
      clear ho hg hv'
      go_wp2
      go_roundw
      case rel => exact ⟨i + 1,P ++ [(⟨xr,xm,xh,x1,x2,x3,x4,x5⟩:Cl)],by go_num,by omega,HNC.out,HO7.out,HB7.out⟩
      case measure => simp [intOf];omega
    by_cases e3:n < 1
    · obtain ⟨c,hc⟩:∃ c,(mendL l)[i]? = some c:=⟨(mendL l)[i]'(by rw [mendL_len];omega),List.getElem?_eq_getElem _⟩
      obtain ⟨xr,xm,xh,x1,x2,x3,x4,x5⟩:=c
      have HRG:=Hd (HG.out i _ hc)
      have HNC:Hid (P ++ [(⟨xr,xm,xh,x1,x2,x3,x4,x5⟩:Cl)] = delP (mendL l) x n (i + 1)):=Hd (by rw [HT.out];exact (delP_in hc (by rw [mendL_len];omega)).symm)
      clear hc
      go_upto_region 7 with fail
      refine wp_region_lit ?_
      refine wpList_valG (bx.1) (by rfl) (by rfl) ?_
      simp only [Act.put,List.setIfInBounds_toArray,List.set_cons_zero,List.set_cons_succ]
      refine wpList_valG (.slice (some ⟨g,0,none⟩) l.length cap) (by rfl) (by rfl) ?_
      simp only [Act.put,List.setIfInBounds_toArray,List.set_cons_zero,List.set_cons_succ]
      refine wpList_valG (.int .i64 (i:Int)) (by rfl) (by rfl) ?_
      simp only [Act.put,List.setIfInBounds_toArray,List.set_cons_zero,List.set_cons_succ]
      refine wpList_valG (.pointer (some ⟨g,i * 8,none⟩)) (by rfl) (by go_simp) ?_
      simp only [Act.put,List.setIfInBounds_toArray,List.set_cons_zero,List.set_cons_succ]
      refine load_mid_g (by rfl) 109 (.tmp 47) rfl (g) (i * 8) rfl (encCl (⟨xr,xm,xh,x1,x2,x3,x4,x5⟩:Cl)) _ (HRG.out) Tryz.underlying109 rfl info_cell ?_
      simp only [Act.put,List.setIfInBounds_toArray,List.set_cons_zero,List.set_cons_succ]
      simp only [encCl]
      have HBX:=Hd (below_allocs (Below.refl wr.heap.size wr) (.cells #[.int .i32 xr,.string xm,.int .i64 xh,.int .i64 x1,.int .i64 x2,.int .i64 x3,.int .i64 x4,.int .i64 x5] 109))
      have HO3:=Hd (ClO.below HO.out HBX.out)
      refine wpList_actG (.slice (some ⟨wr.heap.size,0,none⟩) 1 1) (wr.alloc (.cells #[.int .i32 xr,.string xm,.int .i64 xh,.int .i64 x1,.int .i64 x2,.int .i64 x3,.int .i64 x4,.int .i64 x5] 109)) (by rfl) (by go_simp) ?_
      simp only [Act.put,List.setIfInBounds_toArray,List.set_cons_zero,List.set_cons_succ]
      refine wpList_append_g rfl (.tmp 44) (.tmp 49) 48 rfl w1.heap.size 109 j0 _ 8 72 Tryz.underlying48 hj gz0 gz1 gz2 rfl (by decide) bx.1 _ _ rfl HO3.out ⟨wr.heap.size,0,none⟩ 1 1 (encCl (⟨xr,xm,xh,x1,x2,x3,x4,x5⟩:Cl)) rfl rfl (fun j u hj => by rw [add_lit',Nat.zero_add];exact (at_ (hp_new rfl) j u (by simpa [encCl] using hj)).1) (encCl_one _) (by simp only [maxLen];have:=HP.out;omega) (by have:=HP.out;omega) (by have:=HB.out.size;simp at *;omega) ?_
      intro v' w7 ho hg hv'
      have HO7:Hid (ClO w1.heap.size w7 v' (P ++ [(⟨xr,xm,xh,x1,x2,x3,x4,x5⟩:Cl)])):=Hd (by unfold ClO;rw [flat_append,List.length_append];exact ho)
      have HB7:=Hd ((show Below w1.heap.size w1 _ from HB.out.trans (HBX.out.mono HB.out.size)).grown hg (by have:=HB.out.size;simp at *;omega) (fun b hb => (World.ownsRow.lt (show World.ownsRow _ _ _ _ _ _ _ from HO3.out) b hb).1))
      simp only [Act.put,List.setIfInBounds_toArray,List.set_cons_zero,List.set_cons_succ]
      clear ho hg hv'
      go_wp2
      go_roundw
      case rel => exact ⟨i + 1,P ++ [(⟨xr,xm,xh,x1,x2,x3,x4,x5⟩:Cl)],by go_num,by omega,HNC.out,HO7.out,HB7.out⟩
      case measure => simp [intOf];omega
    by_cases e4:(i:Int) < x
    · obtain ⟨c,hc⟩:∃ c,(mendL l)[i]? = some c:=⟨(mendL l)[i]'(by rw [mendL_len];omega),List.getElem?_eq_getElem _⟩
      obtain ⟨xr,xm,xh,x1,x2,x3,x4,x5⟩:=c
      have HRG:=Hd (HG.out i _ hc)
      have HNC:Hid (P ++ [(⟨xr,xm,xh,x1,x2,x3,x4,x5⟩:Cl)] = delP (mendL l) x n (i + 1)):=Hd (by rw [HT.out];exact (delP_in hc (by rw [mendL_len];omega)).symm)
      clear hc
      go_upto_region 7 with fail
      refine wp_region_lit ?_
      refine wpList_valG (bx.1) (by rfl) (by rfl) ?_
      simp only [Act.put,List.setIfInBounds_toArray,List.set_cons_zero,List.set_cons_succ]
      refine wpList_valG (.slice (some ⟨g,0,none⟩) l.length cap) (by rfl) (by rfl) ?_
      simp only [Act.put,List.setIfInBounds_toArray,List.set_cons_zero,List.set_cons_succ]
      refine wpList_valG (.int .i64 (i:Int)) (by rfl) (by rfl) ?_
      simp only [Act.put,List.setIfInBounds_toArray,List.set_cons_zero,List.set_cons_succ]
      refine wpList_valG (.pointer (some ⟨g,i * 8,none⟩)) (by rfl) (by go_simp) ?_
      simp only [Act.put,List.setIfInBounds_toArray,List.set_cons_zero,List.set_cons_succ]
      refine load_mid_g (by rfl) 109 (.tmp 47) rfl (g) (i * 8) rfl (encCl (⟨xr,xm,xh,x1,x2,x3,x4,x5⟩:Cl)) _ (HRG.out) Tryz.underlying109 rfl info_cell ?_
      simp only [Act.put,List.setIfInBounds_toArray,List.set_cons_zero,List.set_cons_succ]
      simp only [encCl]
      have HBX:=Hd (below_allocs (Below.refl wr.heap.size wr) (.cells #[.int .i32 xr,.string xm,.int .i64 xh,.int .i64 x1,.int .i64 x2,.int .i64 x3,.int .i64 x4,.int .i64 x5] 109))
      have HO3:=Hd (ClO.below HO.out HBX.out)
      refine wpList_actG (.slice (some ⟨wr.heap.size,0,none⟩) 1 1) (wr.alloc (.cells #[.int .i32 xr,.string xm,.int .i64 xh,.int .i64 x1,.int .i64 x2,.int .i64 x3,.int .i64 x4,.int .i64 x5] 109)) (by rfl) (by go_simp) ?_
      simp only [Act.put,List.setIfInBounds_toArray,List.set_cons_zero,List.set_cons_succ]
      refine wpList_append_g rfl (.tmp 44) (.tmp 49) 48 rfl w1.heap.size 109 j0 _ 8 72 Tryz.underlying48 hj gz0 gz1 gz2 rfl (by decide) bx.1 _ _ rfl HO3.out ⟨wr.heap.size,0,none⟩ 1 1 (encCl (⟨xr,xm,xh,x1,x2,x3,x4,x5⟩:Cl)) rfl rfl (fun j u hj => by rw [add_lit',Nat.zero_add];exact (at_ (hp_new rfl) j u (by simpa [encCl] using hj)).1) (encCl_one _) (by simp only [maxLen];have:=HP.out;omega) (by have:=HP.out;omega) (by have:=HB.out.size;simp at *;omega) ?_
      intro v' w7 ho hg hv'
      have HO7:Hid (ClO w1.heap.size w7 v' (P ++ [(⟨xr,xm,xh,x1,x2,x3,x4,x5⟩:Cl)])):=Hd (by unfold ClO;rw [flat_append,List.length_append];exact ho)
      have HB7:=Hd ((show Below w1.heap.size w1 _ from HB.out.trans (HBX.out.mono HB.out.size)).grown hg (by have:=HB.out.size;simp at *;omega) (fun b hb => (World.ownsRow.lt (show World.ownsRow _ _ _ _ _ _ _ from HO3.out) b hb).1))
      simp only [Act.put,List.setIfInBounds_toArray,List.set_cons_zero,List.set_cons_succ]
      clear ho hg hv'
      go_wp2
      go_roundw
      case rel => exact ⟨i + 1,P ++ [(⟨xr,xm,xh,x1,x2,x3,x4,x5⟩:Cl)],by go_num,by omega,HNC.out,HO7.out,HB7.out⟩
      case measure => simp [intOf];omega
    have hwx:IntKind.i64.wrap ((i:Int) - x) = (i:Int) - x:=IntWalk.i64_in _ (by omega)
    by_cases e5:n ≤ (i:Int) - x
    · obtain ⟨c,hc⟩:∃ c,(mendL l)[i]? = some c:=⟨(mendL l)[i]'(by rw [mendL_len];omega),List.getElem?_eq_getElem _⟩
      obtain ⟨xr,xm,xh,x1,x2,x3,x4,x5⟩:=c
      have HRG:=Hd (HG.out i _ hc)
      have HNC:Hid (P ++ [(⟨xr,xm,xh,x1,x2,x3,x4,x5⟩:Cl)] = delP (mendL l) x n (i + 1)):=Hd (by rw [HT.out];exact (delP_in hc (by rw [mendL_len];omega)).symm)
      clear hc
      go_upto_region 7 with fail
      refine wp_region_lit ?_
      refine wpList_valG (bx.1) (by rfl) (by rfl) ?_
      simp only [Act.put,List.setIfInBounds_toArray,List.set_cons_zero,List.set_cons_succ]
      refine wpList_valG (.slice (some ⟨g,0,none⟩) l.length cap) (by rfl) (by rfl) ?_
      simp only [Act.put,List.setIfInBounds_toArray,List.set_cons_zero,List.set_cons_succ]
      refine wpList_valG (.int .i64 (i:Int)) (by rfl) (by rfl) ?_
      simp only [Act.put,List.setIfInBounds_toArray,List.set_cons_zero,List.set_cons_succ]
      refine wpList_valG (.pointer (some ⟨g,i * 8,none⟩)) (by rfl) (by go_simp) ?_
      simp only [Act.put,List.setIfInBounds_toArray,List.set_cons_zero,List.set_cons_succ]
      refine load_mid_g (by rfl) 109 (.tmp 47) rfl (g) (i * 8) rfl (encCl (⟨xr,xm,xh,x1,x2,x3,x4,x5⟩:Cl)) _ (HRG.out) Tryz.underlying109 rfl info_cell ?_
      simp only [Act.put,List.setIfInBounds_toArray,List.set_cons_zero,List.set_cons_succ]
      simp only [encCl]
      have HBX:=Hd (below_allocs (Below.refl wr.heap.size wr) (.cells #[.int .i32 xr,.string xm,.int .i64 xh,.int .i64 x1,.int .i64 x2,.int .i64 x3,.int .i64 x4,.int .i64 x5] 109))
      have HO3:=Hd (ClO.below HO.out HBX.out)
      refine wpList_actG (.slice (some ⟨wr.heap.size,0,none⟩) 1 1) (wr.alloc (.cells #[.int .i32 xr,.string xm,.int .i64 xh,.int .i64 x1,.int .i64 x2,.int .i64 x3,.int .i64 x4,.int .i64 x5] 109)) (by rfl) (by go_simp) ?_
      simp only [Act.put,List.setIfInBounds_toArray,List.set_cons_zero,List.set_cons_succ]
      refine wpList_append_g rfl (.tmp 44) (.tmp 49) 48 rfl w1.heap.size 109 j0 _ 8 72 Tryz.underlying48 hj gz0 gz1 gz2 rfl (by decide) bx.1 _ _ rfl HO3.out ⟨wr.heap.size,0,none⟩ 1 1 (encCl (⟨xr,xm,xh,x1,x2,x3,x4,x5⟩:Cl)) rfl rfl (fun j u hj => by rw [add_lit',Nat.zero_add];exact (at_ (hp_new rfl) j u (by simpa [encCl] using hj)).1) (encCl_one _) (by simp only [maxLen];have:=HP.out;omega) (by have:=HP.out;omega) (by have:=HB.out.size;simp at *;omega) ?_
      intro v' w7 ho hg hv'
      have HO7:Hid (ClO w1.heap.size w7 v' (P ++ [(⟨xr,xm,xh,x1,x2,x3,x4,x5⟩:Cl)])):=Hd (by unfold ClO;rw [flat_append,List.length_append];exact ho)
      have HB7:=Hd ((show Below w1.heap.size w1 _ from HB.out.trans (HBX.out.mono HB.out.size)).grown hg (by have:=HB.out.size;simp at *;omega) (fun b hb => (World.ownsRow.lt (show World.ownsRow _ _ _ _ _ _ _ from HO3.out) b hb).1))
      simp only [Act.put,List.setIfInBounds_toArray,List.set_cons_zero,List.set_cons_succ]
      clear ho hg hv'
      go_wp2
      go_roundw
      case rel => exact ⟨i + 1,P ++ [(⟨xr,xm,xh,x1,x2,x3,x4,x5⟩:Cl)],by go_num,by omega,HNC.out,HO7.out,HB7.out⟩
      case measure => simp [intOf];omega
    · go_wp2
      go_roundw
      case rel => exact ⟨i + 1,P,by go_num,by omega,by rw [HT.out];exact (delP_out (by rw [mendL_len];omega)).symm,HO.out,HB.out⟩
      case measure => simp [intOf];omega
set_option maxHeartbeats 3200000 in
theorem rPut_any (A:Option Addr) (l:List Cl) (ca:Nat) (x r:Int) (a:Atr) (w:World) (hl:GrAt encCl 8 w A l) (h0:0 < l.length) (hz:l.length ≤ 10000) :
 Calls Tryz.prog 30 #[.slice A l.length ca,.int .i64 x,.int .i32 r,.agg #[.int .i64 a.fk,.int .i64 a.fn,.int .i64 a.bk,.int .i64 a.bn,.int .i64 a.fl]] w (WithPost (putL l x r a) w):=by
 obtain ⟨fk,fn,bk,bn,fl⟩:=a
 have hb0:=below_allocs (Below.refl w.heap.size w) (.cells #[.int .i64 fk,.int .i64 fn,.int .i64 bk,.int .i64 bn,.int .i64 fl] 34)
 have HB0:=Hd hb0
 have HA0:=Hd (range_new (cs:=encAt ⟨fk,fn,bk,bn,fl⟩) (w:=w.alloc (.cells #[.int .i64 fk,.int .i64 fn,.int .i64 bk,.int .i64 bn,.int .i64 fl] 34)) (g:=w.heap.size) (t:=34) (hp_new rfl))
 have HM:=Hd (rMend_n A l l.length ca _ (hl.below hb0) rfl h0 hz)
 have HW:=Hd (fun w => rOf_any r w)
 have HM2:=Hd (fun (g cap base:Nat) (o:List Cl) (w':World) (h:CrO w' base g cap o) (hn:o.length = l.length) => rMend_n (some ⟨g,0,none⟩) o l.length cap w' h.gr hn h0 hz)
 have HV:=Hd (show putO (mendL l) x r ⟨fk,fn,bk,bn,fl⟩ = if widOf r = 1∧0 ≤ x∧x < (mendL l).length then (mendL l).set x.toNat (mkCl r ByteArray.empty 0 ⟨fk,fn,bk,bn,fl⟩) else if widOf r = 2∧0 ≤ x∧x + 1 < (mendL l).length then ((mendL l).set x.toNat (mkCl r ByteArray.empty 1 ⟨fk,fn,bk,bn,fl⟩)).set (x.toNat + 1) (mkCl r ByteArray.empty 2 ⟨fk,fn,bk,bn,fl⟩) else mendL l from rfl)
 rw [mendL_len] at HV
 have HPL:=Hd (putL_O l x r ⟨fk,fn,bk,bn,fl⟩)
 have HPN:=Hd (putL_len l x r ⟨fk,fn,bk,bn,fl⟩)
 generalize putO (mendL l) x r ⟨fk,fn,bk,bn,fl⟩ = RES at HV HPL
 generalize putL l x r ⟨fk,fn,bk,bn,fl⟩ = GO at HPL HPN ⊢
 have HZ:=Hd hz
 have H0:=Hd h0
 have HWR:=Hd (wid_range r)
 generalize widOf r = wd at HW HV HWR
 have hwl:IntKind.i64.wrap ((l.length:Int) - 1) = (l.length:Int) - 1:=IntWalk.i64_in _ (by omega)
 have HML:=Hd (mendL_len l)
 clear hl hb0
 by_cases h1:wd = 1∧0 ≤ x∧x < l.length
 · obtain ⟨hw1,hx0,hxl⟩:=h1
   subst hw1
   obtain ⟨k,hk⟩:∃ k:Nat,x = (k:Int):=⟨x.toNat,by omega⟩
   subst hk
   clear HWR hwl
   go_enter Tryz.func30,Tryz.ntmps30
   go_upto_region 4 with (first
    | (go_at_call 70;(with_reducible refine HM.out.mono ?_);rintro e w1 ⟨g,cap,rfl,hc,hb⟩;have HC:=Hd hc;have HB1:=Hd (below_tail HB0.out hb);have HA1:=Hd (range_below HA0.out hb);clear hc hb)
    | (go_at_call 71;refine (HW.out _).mono ?_;rintro e w2 ⟨rfl,hb⟩;have HB2:=Hd (below_tail HB1.out hb);have HC2:=Hd (HC.out.below hb);have HA2:=Hd (range_below HA1.out hb);clear hb)
    | fail)
   have HTH:=Hd (HC2.out.there (i:=k) (by rw [HML.out];omega))
   have HS:=Hd (HC2.out.set (i:=k) (by rw [HML.out];omega) (mkCl r ByteArray.empty 0 ⟨fk,fn,bk,bn,fl⟩))
   refine wp_region_lit ?_
   refine wpList_valG (.slice (some ⟨g,0,none⟩) l.length cap) (by rfl) (by rfl) ?_
   simp only [Act.put,List.setIfInBounds_toArray,List.set_cons_zero,List.set_cons_succ]
   refine wpList_valG (.int .i64 (k:Int)) (by rfl) (by rfl) ?_
   simp only [Act.put,List.setIfInBounds_toArray,List.set_cons_zero,List.set_cons_succ]
   refine wpList_valG (.int .i32 r) (by rfl) (by rfl) ?_
   simp only [Act.put,List.setIfInBounds_toArray,List.set_cons_zero,List.set_cons_succ]
   refine load_mid_g (by rfl) 34 (.tmp 7) rfl (w.heap.size) (0) rfl ([.int .i64 fk,.int .i64 fn,.int .i64 bk,.int .i64 bn,.int .i64 fl]) _ (HA2.out) Tryz.underlying34 rfl info_attr ?_
   simp only [Act.put,List.setIfInBounds_toArray,List.set_cons_zero,List.set_cons_succ]
   refine wpList_valG (.agg (encCl (mkCl r ByteArray.empty 0 ⟨fk,fn,bk,bn,fl⟩)).toArray) (by rfl) (by go_simp;rfl) ?_
   simp only [Act.put,List.setIfInBounds_toArray,List.set_cons_zero,List.set_cons_succ]
   refine wpList_valG (.pointer (some ⟨g,k * 8,none⟩)) (by rfl) (by go_simp) ?_
   simp only [Act.put,List.setIfInBounds_toArray,List.set_cons_zero,List.set_cons_succ]
   refine wpList_store_mid rfl 109 (.tmp 33) (.tmp 32) rfl (g) (k * 8) ((encCl (mkCl r ByteArray.empty 0 ⟨fk,fn,bk,bn,fl⟩)).toArray) rfl rfl (HTH.out) info_cell (cl_one _) ?_
   have hO:=HS.out.1
   have HB3:=Hd (HB2.out.trans (HS.out.2.below (fun x hx => by rw [List.mem_singleton.1 hx];have:=HC2.out.lt.1;simp at this;omega) HB2.out.size))
   rw [show (mendL l).set k (mkCl r ByteArray.empty 0 ⟨fk,fn,bk,bn,fl⟩) = RES from by rw [HV.out,if_pos (by first | exact ⟨rfl,hx0,hxl⟩ | exact ⟨trivial,hx0,hxl⟩),Int.toNat_natCast]] at hO
   have HRL:Hid (RES.length = l.length):=Hd (by rw [HV.out,if_pos (by first | exact ⟨rfl,hx0,hxl⟩ | exact ⟨trivial,hx0,hxl⟩),List.length_set,HML.out])
   have HM3:=Hd (HM2.out _ _ _ _ _ hO HRL.out)
   clear hO
   go_wp2_with (go_at_call 70;refine HM3.out.mono ?_;rintro e w4 ⟨g',cap',rfl,hc,hb⟩;have HC4:=Hd hc;have HB4:=Hd hb;clear hc hb)
   go_ret
   have hO2:=HC4.out
   rw [HPL.out] at hO2
   exact ⟨g',cap',by rw [HPN.out];rfl,owns_weaken hO2 HB3.out.size,below_tail HB3.out HB4.out⟩
 by_cases h2:wd = 2∧0 ≤ x∧x + 1 < l.length
 · obtain ⟨hw2,hx0,hxl⟩:=h2
   subst hw2
   obtain ⟨k,hk⟩:∃ k:Nat,x = (k:Int):=⟨x.toNat,by omega⟩
   subst hk
   obtain ⟨j,hj⟩:∃ j:Nat,j = k + 1:=⟨_,rfl⟩
   have hkk:(k:Int) + 1 = (j:Int):=by omega
   have hwj:IntKind.i64.wrap (j:Int) = (j:Int):=IntWalk.i64_in _ (by omega)
   have hxl1:(k:Int) < (l.length:Int) - 1:=by omega
   have hkl:k < l.length:=by omega
   have hkl2:(k:Int) < (l.length:Int):=by omega
   have hjl:j < l.length:=by omega
   have hjl2:(j:Int) < (l.length:Int):=by omega
   have HJ:=Hd hj
   clear HWR hj
   go_enter Tryz.func30,Tryz.ntmps30
   go_upto_region 6 with (first
    | (go_at_call 70;(with_reducible refine HM.out.mono ?_);rintro e w1 ⟨g,cap,rfl,hc,hb⟩;have HC:=Hd hc;have HB1:=Hd (below_tail HB0.out hb);have HA1:=Hd (range_below HA0.out hb);clear hc hb)
    | (go_at_call 71;refine (HW.out _).mono ?_;rintro e w2 ⟨rfl,hb⟩;have HB2:=Hd (below_tail HB1.out hb);have HC2:=Hd (HC.out.below hb);have HA2:=Hd (range_below HA1.out hb);clear hb)
    | fail)
   have HTH:=Hd (HC2.out.there (i:=k) (by rw [HML.out];omega))
   have HS:=Hd (HC2.out.set (i:=k) (by rw [HML.out];omega) (mkCl r ByteArray.empty 1 ⟨fk,fn,bk,bn,fl⟩))
   refine wp_region_lit ?_
   refine wpList_valG (.slice (some ⟨g,0,none⟩) l.length cap) (by rfl) (by rfl) ?_
   simp only [Act.put,List.setIfInBounds_toArray,List.set_cons_zero,List.set_cons_succ]
   refine wpList_valG (.int .i64 (k:Int)) (by rfl) (by rfl) ?_
   simp only [Act.put,List.setIfInBounds_toArray,List.set_cons_zero,List.set_cons_succ]
   refine wpList_valG (.int .i32 r) (by rfl) (by rfl) ?_
   simp only [Act.put,List.setIfInBounds_toArray,List.set_cons_zero,List.set_cons_succ]
   refine load_mid_g (by rfl) 34 (.tmp 7) rfl (w.heap.size) (0) rfl ([.int .i64 fk,.int .i64 fn,.int .i64 bk,.int .i64 bn,.int .i64 fl]) _ (HA2.out) Tryz.underlying34 rfl info_attr ?_
   simp only [Act.put,List.setIfInBounds_toArray,List.set_cons_zero,List.set_cons_succ]
   refine wpList_valG (.agg (encCl (mkCl r ByteArray.empty 1 ⟨fk,fn,bk,bn,fl⟩)).toArray) (by rfl) (by go_simp;rfl) ?_
   simp only [Act.put,List.setIfInBounds_toArray,List.set_cons_zero,List.set_cons_succ]
   refine wpList_valG (.pointer (some ⟨g,k * 8,none⟩)) (by rfl) (by go_simp) ?_
   simp only [Act.put,List.setIfInBounds_toArray,List.set_cons_zero,List.set_cons_succ]
   refine wpList_store_mid rfl 109 (.tmp 53) (.tmp 52) rfl (g) (k * 8) ((encCl (mkCl r ByteArray.empty 1 ⟨fk,fn,bk,bn,fl⟩)).toArray) rfl rfl (HTH.out) info_cell (cl_one _) ?_
   simp only [Act.put]
   change wpList _ _ _ _ _ (w2.setCells g (k * 8) (encCl (mkCl r ByteArray.empty 1 ⟨fk,fn,bk,bn,fl⟩)))
   have HLT:Hid (w.heap.size < g∧g < w2.heap.size):=Hd (by have:=HC2.out.lt;simp at this;omega)
   have HA3:Hid ((w2.setCells g (k * 8) (encCl (mkCl r ByteArray.empty 1 ⟨fk,fn,bk,bn,fl⟩))).rangeAt w.heap.size 0 (encAt ⟨fk,fn,bk,bn,fl⟩)):=Hd (fun j v hv => HS.out.2.cell (by have:=HLT.out;simp;omega) (HA2.out j v hv))
   have HB3:=Hd (HB2.out.trans (HS.out.2.below (fun x hx => by rw [List.mem_singleton.1 hx];have:=HLT.out;omega) HB2.out.size))
   generalize w2.setCells g (k * 8) (encCl (mkCl r ByteArray.empty 1 ⟨fk,fn,bk,bn,fl⟩)) = W3 at HS HA3 HB3 ⊢
   go_upto_region 7 with fail
   have HTH3:=Hd (HS.out.1.there (i:=j) (by rw [List.length_set,HML.out];omega))
   have HS3:=Hd (HS.out.1.set (i:=j) (by rw [List.length_set,HML.out];omega) (mkCl r ByteArray.empty 2 ⟨fk,fn,bk,bn,fl⟩))
   refine wp_region_lit ?_
   refine wpList_valG (.slice (some ⟨g,0,none⟩) l.length cap) (by rfl) (by rfl) ?_
   simp only [Act.put,List.setIfInBounds_toArray,List.set_cons_zero,List.set_cons_succ]
   refine wpList_valG (.int .i64 (k:Int)) (by rfl) (by rfl) ?_
   simp only [Act.put,List.setIfInBounds_toArray,List.set_cons_zero,List.set_cons_succ]
   refine wpList_valG (.int .i64 (j:Int)) (by rfl) (by go_simp) ?_
   simp only [Act.put,List.setIfInBounds_toArray,List.set_cons_zero,List.set_cons_succ]
   refine wpList_valG (.int .i32 r) (by rfl) (by rfl) ?_
   simp only [Act.put,List.setIfInBounds_toArray,List.set_cons_zero,List.set_cons_succ]
   refine load_mid_g (by rfl) 34 (.tmp 7) rfl (w.heap.size) (0) rfl ([.int .i64 fk,.int .i64 fn,.int .i64 bk,.int .i64 bn,.int .i64 fl]) _ (HA3.out) Tryz.underlying34 rfl info_attr ?_
   simp only [Act.put,List.setIfInBounds_toArray,List.set_cons_zero,List.set_cons_succ]
   refine wpList_valG (.agg (encCl (mkCl r ByteArray.empty 2 ⟨fk,fn,bk,bn,fl⟩)).toArray) (by rfl) (by go_simp;rfl) ?_
   simp only [Act.put,List.setIfInBounds_toArray,List.set_cons_zero,List.set_cons_succ]
   refine wpList_valG (.pointer (some ⟨g,j * 8,none⟩)) (by rfl) (by go_simp) ?_
   simp only [Act.put,List.setIfInBounds_toArray,List.set_cons_zero,List.set_cons_succ]
   refine wpList_store_mid rfl 109 (.tmp 60) (.tmp 59) rfl (g) (j * 8) ((encCl (mkCl r ByteArray.empty 2 ⟨fk,fn,bk,bn,fl⟩)).toArray) rfl rfl (HTH3.out) info_cell (cl_one _) ?_
   have HE:Hid (((mendL l).set k (mkCl r ByteArray.empty 1 ⟨fk,fn,bk,bn,fl⟩)).set j (mkCl r ByteArray.empty 2 ⟨fk,fn,bk,bn,fl⟩) = RES):=Hd (by rw [HV.out,if_neg (by simp),if_pos (by first | exact ⟨rfl,hx0,by omega⟩ | exact ⟨trivial,hx0,by omega⟩),Int.toNat_natCast,HJ.out])
   have HRL:Hid (RES.length = l.length):=Hd (by rw [← HE.out,List.length_set,List.length_set,HML.out])
   have hO:=HS3.out.1
   have HB4:=Hd (HB3.out.trans (HS3.out.2.below (fun x hx => by rw [List.mem_singleton.1 hx];have:=HLT.out;omega) HB3.out.size))
   rw [HE.out] at hO
   have HM3:=Hd (HM2.out _ _ _ _ _ hO HRL.out)
   clear hO
   go_wp2_with (go_at_call 70;refine HM3.out.mono ?_;rintro e w4 ⟨g',cap',rfl,hc,hb⟩;have HC4:=Hd hc;have HB5:=Hd hb;clear hc hb)
   go_ret
   have hO2:=HC4.out
   rw [HPL.out] at hO2
   exact ⟨g',cap',by rw [HPN.out];rfl,owns_weaken hO2 HB4.out.size,below_tail HB4.out HB5.out⟩
 have HRES:Hid (RES = mendL l):=Hd (by rw [HV.out,if_neg h1,if_neg h2])
 have hfin:∀ (g cap:Nat) (w2:World),CrO w2 (w.alloc (.cells #[.int .i64 fk,.int .i64 fn,.int .i64 bk,.int .i64 bn,.int .i64 fl] 34)).heap.size g cap (mendL l)→Calls Tryz.prog 70 #[.slice (some ⟨g,0,none⟩) l.length cap] w2 (RPost l.length GO w2):=fun g cap w2 h => by
  have:=HM2.out g cap _ _ w2 h HML.out
  rwa [← HRES.out,HPL.out] at this
 have HF:=Hd hfin
 have HN:=Hd (And.intro h1 h2)
 clear h1 h2 hfin HV HM2 HRES HPL
 have hx:x < 0 ∨ (0 ≤ x∧x < (l.length:Int) - 1) ∨ (0 ≤ x∧¬ x < (l.length:Int) - 1∧x < l.length) ∨ (0 ≤ x∧¬ x < (l.length:Int) - 1∧¬ x < l.length):=by omega
 rcases HWR.out with hw | hw | hw | hw <;> subst hw <;> rcases hx with hx | ⟨hx1,hx2⟩ | ⟨hx1,hx2,hx3⟩ | ⟨hx1,hx2,hx3⟩ <;>
  first
  | (exfalso;have:=HN.out;omega)
  | (clear HWR
     go_enter Tryz.func30,Tryz.ntmps30
     go_wp2_with (first
      | (go_at_call 70;(with_reducible refine HM.out.mono ?_);rintro e w1 ⟨g,cap,rfl,hc,hb⟩;have HC:=Hd hc;have HB1:=Hd (below_tail HB0.out hb);clear hc hb)
      | (go_at_call 71;refine (HW.out _).mono ?_;rintro e w2 ⟨rfl,hb⟩;have HB2:=Hd (below_tail HB1.out hb);have HM3:=Hd (HF.out g cap _ (HC.out.below hb));clear hb)
      | (go_at_call 70;refine HM3.out.mono ?_;rintro e w4 ⟨g',cap',rfl,hc,hb⟩;have HC4:=Hd hc;have HB5:=Hd hb;clear hc hb))
     go_ret
     exact ⟨g',cap',by rw [HPN.out];rfl,owns_weaken HC4.out HB2.out.size,below_tail HB2.out HB5.out⟩)
end Go.Proofs.YtffdblmdelgkaaaGreat
