/- Joined by a tool of this claim out of smaller texts. Conditions: as stated. -/
import Derived.Test.YtaefcahblmopfaaGreatDoorDp37
set_option linter.unusedVariables false
set_option linter.unusedSimpArgs false
set_option maxRecDepth 100000
open Go.Lib renaming hid → Hd
namespace Go.Proofs.YtaefcahblmopfaaGreatDoor
open Go.RowKit
theorem cellT_len {c:Cl} (h:c.more.size ≤ 1048576):(cellT c).length ≤ 1048580:=by
 have h1:=putB_len4 c.r
 have h2:(putB c.r).data.toList.length = (putB c.r).size:=by rw [Array.length_toList];rfl
 have h3:c.more.data.toList.length = c.more.size:=by rw [Array.length_toList];rfl
 unfold cellT
 split
 · exact Nat.zero_le _
 · split
   · show 1 ≤ _;omega
   · rw [List.length_append];omega
theorem cells_text_len:∀ (cs:List Cl),(∀ c ∈ cs,c.more.size ≤ 1048576)→(cs.flatMap cellT).length ≤ 1048580 * cs.length
 | [],_ => Nat.zero_le _
 | c :: cs,h => by
   have h1:=cellT_len (h c (List.mem_cons_self ..))
   have h2:=cells_text_len cs (fun d hd => h d (List.mem_cons_of_mem _ hd))
   rw [List.flatMap_cons,List.length_append,List.length_cons]
   omega
theorem trim_snoc (l:List UInt8) (c:UInt8):Lib.trimRightB (l ++ [c]) c = Lib.trimRightB l c:=by
 unfold Lib.trimRightB
 rw [List.reverse_append,List.reverse_singleton,List.singleton_append,List.dropWhile_cons_of_pos (by simp)]
theorem trim_snoc_ne {l:List UInt8} {x c:UInt8} (h:x ≠ c):Lib.trimRightB (l ++ [x]) c = l ++ [x]:=by
 unfold Lib.trimRightB
 rw [List.reverse_append,List.reverse_singleton,List.singleton_append,List.dropWhile_cons_of_neg (by simpa using h)]
 simp
theorem trim_nil (c:UInt8):Lib.trimRightB [] c = []:=rfl
theorem join_snoc (c:UInt8) (y:List UInt8):∀ xs:List (List UInt8),Lib.join (xs ++ [y]) [c] = if xs = [] then y else Lib.join xs [c] ++ ([c] ++ y)
 | [] => by
   rw [List.nil_append,if_pos rfl,Lib.join_one]
 | [x] => by
   rw [if_neg (by simp)]
   show Lib.join (x :: y :: []) [c] = _
   rw [Lib.join_one,show Lib.join (x :: y :: []) [c] = x ++ ([c] ++ Lib.join [y] [c]) from rfl,Lib.join_one]
 | x :: z :: r => by
   have ih:=join_snoc c y (z :: r)
   rw [if_neg (by simp)] at ih ⊢
   rw [show x :: z :: r ++ [y] = x :: z :: (r ++ [y]) from rfl,show Lib.join (x :: z :: (r ++ [y])) [c] = x ++ ([c] ++ Lib.join (z :: (r ++ [y])) [c]) from rfl,show z :: (r ++ [y]) = z :: r ++ [y] from rfl,ih,show Lib.join (x :: z :: r) [c] = x ++ ([c] ++ Lib.join (z :: r) [c]) from rfl]
   simp only [List.append_assoc]
def joinK (rows:List Rw) (k:Nat):List UInt8:=Lib.join (((rows.take k).map rowT).map (·.data.toList)) [10]
theorem joinK_step {rows:List Rw} {k:Nat} {r:Rw} (h:rows[k]? = some r):joinK rows (k + 1) = if k = 0 then (rowT r).data.toList else joinK rows k ++ ([10] ++ (rowT r).data.toList):=by
 obtain ⟨hk,rfl⟩:=List.getElem?_eq_some_iff.1 h
 unfold joinK
 rw [List.take_succ_eq_append_getElem hk,List.map_append,List.map_append]
 show Lib.join (_ ++ [_]) [10] = _
 rw [join_snoc]
 by_cases h0:k = 0
 · subst h0
   simp
 · rw [if_neg h0,if_neg (fun h => by have:=congrArg List.length h;simp only [List.length_map,List.length_take,List.length_nil] at this;omega)]
theorem joinK_len {rows:List Rw} {k:Nat} (hz:rows.length ≤ 400) (h:∀ r ∈ rows,(rowT r).data.toList.length ≤ 419432000):(joinK rows k).length ≤ 167772800400:=by
 have:=join_len 419432000 10 (((rows.take k).map rowT).map (·.data.toList)) (fun x hx => by
  obtain ⟨y,hy,rfl⟩:=List.mem_map.1 hx
  obtain ⟨r,hr,rfl⟩:=List.mem_map.1 hy
  exact h r (List.mem_of_mem_take hr))
 simp only [List.length_map,List.length_take] at this
 have h2:min k rows.length * (419432000 + 1) ≤ 400 * (419432000 + 1):=Nat.mul_le_mul_right _ (by omega)
 unfold joinK
 omega
theorem ba_last (t:ByteArray) (h:0 < t.size):t.data.toList = (t.extract 0 (t.size - 1)).data.toList ++ [t[t.size - 1]]:=by
 have hl:t.data.toList.length = t.size:=by rw [Array.length_toList];rfl
 have h1:(t.extract 0 (t.size - 1)).data.toList = t.data.toList.take (t.size - 1):=by
  simp
  rw [List.dropLast_eq_take,hl]
 have h2:t[t.size - 1] = t.data.toList[t.size - 1]'(by omega):=by rw [Array.getElem_toList];rfl
 rw [h1,h2]
 have:=List.take_append_getElem (l:=t.data.toList) (i:=t.size - 1) (by omega)
 rw [this,show t.size - 1 + 1 = t.data.toList.length by omega,List.take_length]
theorem ba_trim {t:ByteArray} {c:UInt8} (h:0 < t.size) (hx:t[t.size - 1] = c):Lib.trimRightB (t.extract 0 (t.size - 1)).data.toList c = Lib.trimRightB t.data.toList c:=by
 rw [ba_last t h,hx,trim_snoc]
theorem ba_trimmed {t:ByteArray} {c:UInt8} (h:0 < t.size) (hx:t[t.size - 1] ≠ c):Lib.trimRightB t.data.toList c = t.data.toList:=by
 rw [ba_last t h,trim_snoc_ne hx]
theorem u8_eq_c (x c:UInt8):(((x.toNat:Int) == (c.toNat:Int)) = true) ↔ x = c:=by
 rw [beq_iff_eq]
 constructor
 · intro h
   exact UInt8.toNat_inj.1 (by omega)
 · rintro rfl
   rfl
theorem u8_32 (x:UInt8):(((x.toNat:Int) == 32) = true) ↔ x = 32:=u8_eq_c x 32
theorem u8_10 (x:UInt8):(((x.toNat:Int) == 10) = true) ↔ x = 10:=u8_eq_c x 10
theorem same_list {t:ByteArray} {l:List UInt8} (h:t = ⟨l.toArray⟩):(l == t.toList) = true:=by
 rw [Lib.toList_data,h]
 simp
def strSz:Value→Nat
 | .string s => s.size
 | _ => 0
set_option maxHeartbeats 6400000 in
theorem DrawPlain_walk (A:Option Addr) (rows:List Rw) (ca:Nat) (w:World) (hl:RwsAt w A rows) (hz:rows.length ≤ 1048576) (hcz:∀ r ∈ rows,r.cs.length ≤ 1048576∧r.cs.length ≤ r.cap) (hmz:∀ r ∈ rows,∀ c ∈ r.cs,c.more.size ≤ 1048576) (ht:TabP w) :
 Calls Tryz.prog 5 #[.slice A rows.length ca] w fun e w' => e = .returned (.bool true)∧Below w.heap.size w w':=by
 have HL:=Hd hl
 have HT:=Hd ht
 have HC:=Hd (And.intro hcz hmz)
 have HG:=Hd (great28_any A rows ca w hl hz (fun r hr => (hcz r hr).1))
 have HAW:Hid (∀ w',Below w.heap.size w w'→Calls Tryz.prog 22 #[] w' fun e w2 => e = .returned (.bool true)∧Below w'.heap.size w' w2):=Hd (fun w' hb => awake28_any w' (HT.out.below hb))
 obtain ⟨L,hL⟩:∃ L,rows.length = L:=⟨_,rfl⟩
 have HLL:=Hd hL
 rw [hL] at HG ⊢
 clear hl hz hcz hmz ht hL
 go_enter Tryz.func5,Tryz.ntmps5
 go_upto_region 1 with fail
 refine wp_region_lit ?_
 refine wpList_valG (.slice A L ca) (by rfl) (by rfl) ?_
 simp only [Act.put,List.setIfInBounds_toArray,List.set_cons_zero,List.set_cons_succ]
 refine wpList_callE rfl 21 #[.slice A L ca] (by go_simp) (HG.out.mono (fun e w' ⟨b,he,hb,hw⟩ => (⟨_,he,⟨b,rfl,hb⟩,hw⟩:∃ v,e = .returned v∧(∃ b:Bool,v = .bool b∧(b = false→rows.length ≤ 400∧∀ r ∈ rows,r.cs.length ≤ 400))∧Below w.heap.size w w'))) ?_
 rintro v1 w1 ⟨⟨b,rfl,hgr⟩,hb1⟩
 have HB1:=Hd hb1
 clear hb1
 simp only [Act.put,List.setIfInBounds_toArray,List.set_cons_zero,List.set_cons_succ]
 rcases b with _ | _
 rotate_left
 · go_wp2_with (go_at_call 22;(with_reducible refine (HAW.out _ HB1.out).mono ?_);rintro e w2 ⟨rfl,hb2⟩;have HB2:=Hd (below_tail HB1.out hb2);clear hb2)
   go_ret
   exact ⟨rfl,HB2.out⟩
 · have HGR:=Hd (hgr rfl)
   clear hgr
   go_upto_region 5 with (go_at_call 22;(with_reducible refine (HAW.out _ HB1.out).mono ?_);rintro e w2 ⟨rfl,hb2⟩;have HB2:=Hd (below_tail HB1.out hb2);clear hb2)
   have HTX:Hid (∀ r ∈ rows,(r.cs.flatMap cellT).length ≤ 419432000):=Hd (fun r hr => by
    have h1:=cells_text_len r.cs (HC.out.2 r hr)
    have h2:=HGR.out.2 r hr
    omega)
   clear HAW HG
   go_loopw [3,4] (fun s3 i wr => ∃ (k:Nat) (s:ByteArray),k ≤ L∧i = .int .i64 k∧s3 = .string s∧Below w.heap.size w wr∧s.data.toList = joinK rows k) (fun _ i _ => L - (intOf i).toNat)
   case atStart => exact ⟨0,_,Nat.zero_le _,rfl,rfl,HB2.out,rfl⟩
   case round =>
    obtain ⟨k,s,hk,rfl,rfl,hB,hs⟩:=hrel
    have HB:=Hd hB
    have HS:=Hd hs
    clear hB hs
    by_cases hlt:k < L
    · obtain ⟨b,off,r,rfl,hr,cr,cc,cz⟩:=HL.out.at_ (k:=k) (by have:=HLL.out;omega)
      have hm:=List.mem_of_getElem? hr
      have HST:=Hd (joinK_step hr)
      have htx:=HTX.out r hm
      have hrz:=HGR.out.2 r hm
      have HTE:=Hd (fun w' hb => rtext7_any r.A r.cs r.cap w' (cc.below hb) (by omega) (by omega))
      have htl:(textL r.cs).length ≤ 419432000:=Nat.le_trans (text_le _ _) htx
      have hrt:(rowT r).data.toList = Lib.trimRightB (textL r.cs) 32:=rfl
      have hjl:=joinK_len (rows:=rows) (k:=k) HGR.out.1 (fun q hq => by
       have:=HTX.out q hq
       show (Lib.trimRightB (textL q.cs) 32).length ≤ _
       exact Nat.le_trans (trim_len _ _) (Nat.le_trans (text_le _ _) this))
      have HJL:=Hd (And.intro htl (And.intro hrt hjl))
      have d0:=holda HB.out cr.1
      obtain ⟨n,hn⟩:∃ n,r.cs.length = n:=⟨_,rfl⟩
      obtain ⟨rA,hrA⟩:∃ q,r.A = q:=⟨_,rfl⟩
      obtain ⟨rc,hrc⟩:∃ q,r.cap = q:=⟨_,rfl⟩
      rw [hn,hrA,hrc] at d0 HTE
      clear hr cr cc cz hm htx hrz htl hrt hjl hn hrA hrc
      have hsz:s.size = (joinK rows k).length:=ba_size HS.out
      have HLT:=Hd hlt
      have hwk:IntKind.i64.wrap ((k:Int) + 1) = (k:Int) + 1:=IntWalk.i64_in _ (by have:=HLT.out;have:=HGR.out.1;have:=HLL.out;omega)
      by_cases h0:k = 0
      · have hgt:¬ (0:Int) < (k:Int):=by omega
        have HS1:Hid (s.data.toList ++ (rowT r).data.toList = joinK rows (k + 1)):=Hd (by rw [HST.out,if_pos h0,HS.out,h0];rfl)
        clear h0
        go_wp2_with (go_at_call 26;(with_reducible refine (HTE.out _ HB.out).mono ?_);rintro e w5 ⟨rfl,hb5⟩;have HB5:=Hd (below_tail HB.out hb5);clear hb5)
        go_loopw [5] (fun s5 wt => ∃ t:ByteArray,s5 = .string t∧Lib.trimRightB t.data.toList 32 = (rowT r).data.toList∧t.size ≤ 419432000∧Below w.heap.size w wt) (fun s5 _ => strSz s5)
        case atStart => exact ⟨_,rfl,HJL.out.2.1.symm,HJL.out.1,HB5.out⟩
        case round =>
         obtain ⟨t,rfl,ht1,ht2,hBt⟩:=hrel
         have HT1:=Hd ht1
         have HBt:=Hd hBt
         clear ht1 hBt
         have hov:¬ 9223372036854775807 < (joinK rows k).length + t.size:=by have:=HJL.out.2.2;omega
         by_cases hz0:0 < t.size
         · have hidx:1 ≤ (t.size:Int)∧(t.size:Int) - 1 < t.size:=by omega
           by_cases hx:(((t[t.size - 1]).toNat:Int) == 32) = true
           · have HX:=Hd ((u8_32 _).1 hx)
             go_wp2_with fail
             go_roundw
             case rel => exact ⟨_,rfl,by rw [ba_trim hz0 HX.out];exact HT1.out,by rw [ByteArray.size_extract];omega,HBt.out⟩
             case measure => show (t.extract 0 (t.size - 1)).size < t.size;rw [ByteArray.size_extract];omega
           · have hxf:(((t[t.size - 1]).toNat:Int) == 32) = false:=by simpa using hx
             have HX:=Hd (fun e => hx ((u8_32 _).2 e))
             clear hx
             go_wp2_with fail
             go_roundw
             case rel => exact ⟨k + 1,_,by have:=HLT.out;omega,by go_num,rfl,HBt.out,by rw [← HS1.out,← HT1.out,ba_trimmed hz0 HX.out];simp only [ba_app,List.append_assoc]⟩
             case measure => simp [intOf];have:=HLT.out;omega
         · have HZ:=Hd hz0
           go_wp2_with fail
           go_roundw
           case rel => exact ⟨k + 1,_,by have:=HLT.out;omega,by go_num,rfl,HBt.out,by
            have e0:t.data.toList = []:=List.length_eq_zero_iff.1 (by rw [Array.length_toList];have:=HZ.out;show t.size = 0;omega)
            have h1:=HT1.out
            rw [e0,trim_nil] at h1
            rw [← HS1.out,← h1,ba_app,e0]⟩
           case measure => simp [intOf];have:=HLT.out;omega
      · have hgt:(0:Int) < (k:Int):=by omega
        have HS1:Hid ((s ++ ⟨#[10]⟩:ByteArray).data.toList ++ (rowT r).data.toList = joinK rows (k + 1)):=Hd (by rw [HST.out,if_neg h0,ba_app,HS.out,List.append_assoc])
        have hov1:¬ 9223372036854775807 < (joinK rows k).length + 1:=by have:=HJL.out.2.2;omega
        have hov2:¬ 9223372036854775806 < (joinK rows k).length:=by have:=HJL.out.2.2;omega
        clear h0
        go_wp2_with (go_at_call 26;(with_reducible refine (HTE.out _ HB.out).mono ?_);rintro e w5 ⟨rfl,hb5⟩;have HB5:=Hd (below_tail HB.out hb5);clear hb5)
        go_loopw [5] (fun s5 wt => ∃ t:ByteArray,s5 = .string t∧Lib.trimRightB t.data.toList 32 = (rowT r).data.toList∧t.size ≤ 419432000∧Below w.heap.size w wt) (fun s5 _ => strSz s5)
        case atStart => exact ⟨_,rfl,HJL.out.2.1.symm,HJL.out.1,HB5.out⟩
        case round =>
         obtain ⟨t,rfl,ht1,ht2,hBt⟩:=hrel
         have HT1:=Hd ht1
         have HBt:=Hd hBt
         clear ht1 hBt
         have hov:¬ 9223372036854775807 < (joinK rows k).length + 1 + t.size:=by have:=HJL.out.2.2;omega
         by_cases hz0:0 < t.size
         · have hidx:1 ≤ (t.size:Int)∧(t.size:Int) - 1 < t.size:=by omega
           by_cases hx:(((t[t.size - 1]).toNat:Int) == 32) = true
           · have HX:=Hd ((u8_32 _).1 hx)
             go_wp2_with fail
             go_roundw
             case rel => exact ⟨_,rfl,by rw [ba_trim hz0 HX.out];exact HT1.out,by rw [ByteArray.size_extract];omega,HBt.out⟩
             case measure => show (t.extract 0 (t.size - 1)).size < t.size;rw [ByteArray.size_extract];omega
           · have hxf:(((t[t.size - 1]).toNat:Int) == 32) = false:=by simpa using hx
             have HX:=Hd (fun e => hx ((u8_32 _).2 e))
             clear hx
             go_wp2_with fail
             go_roundw
             case rel => exact ⟨k + 1,_,by have:=HLT.out;omega,by go_num,rfl,HBt.out,by rw [← HS1.out,← HT1.out,ba_trimmed hz0 HX.out];simp only [ba_app,List.append_assoc]⟩
             case measure => simp [intOf];have:=HLT.out;omega
         · have HZ:=Hd hz0
           go_wp2_with fail
           go_roundw
           case rel => exact ⟨k + 1,_,by have:=HLT.out;omega,by go_num,rfl,HBt.out,by
            have e0:t.data.toList = []:=List.length_eq_zero_iff.1 (by rw [Array.length_toList];have:=HZ.out;show t.size = 0;omega)
            have h1:=HT1.out
            rw [e0,trim_nil] at h1
            rw [← HS1.out,← h1,ba_app,e0]⟩
           case measure => simp [intOf];have:=HLT.out;omega
    · obtain rfl:k = L:=by omega
      have hk:joinK rows k = Lib.join ((rows.map rowT).map (·.data.toList)) [10]:=by unfold joinK;rw [← HLL.out,List.take_length]
      have hpl:Lib.trimRightB s.data.toList 10 = plainT rows:=by rw [HS.out,hk];rfl
      have hsz:s.size ≤ 167772800400:=by
       rw [ba_size HS.out]
       exact joinK_len HGR.out.1 (fun q hq => by
        have:=HTX.out q hq
        show (Lib.trimRightB (textL q.cs) 32).length ≤ _
        exact Nat.le_trans (trim_len _ _) (Nat.le_trans (text_le _ _) this))
      have HPL:Hid (∀ w',Below w.heap.size w w'→Calls Tryz.prog 27 #[.slice A k ca] w' fun e w2 => e = .returned (.string ⟨(plainT rows).toArray⟩)∧Below w'.heap.size w' w2):=Hd (fun w' hb => by
       rcases Nat.eq_zero_or_pos k with e0 | e0
       · have er:rows = []:=List.length_eq_zero_iff.1 (by rw [HLL.out];exact e0)
         rw [er,e0]
         exact dplain_nil A ca w'
       · have:=dplain_pos A rows ca w' (HL.out.below hb) (by rw [HLL.out];exact e0) HGR.out.1 (fun r hr => ⟨(HC.out.1 r hr).2,by have:=HGR.out.2 r hr;omega,by have:=HTX.out r hr;omega⟩)
         rw [HLL.out] at this
         exact this)
      have HPT:=Hd (And.intro hpl hsz)
      generalize plainT rows = PT at HPT HPL
      clear hk hpl hsz
      go_wp2_with fail
      go_loopw [3] (fun s3 wt => ∃ t:ByteArray,s3 = .string t∧Lib.trimRightB t.data.toList 10 = PT∧t.size ≤ 167772800400∧Below w.heap.size w wt) (fun s3 _ => strSz s3)
      case atStart => exact ⟨_,rfl,HPT.out.1,HPT.out.2,HB.out⟩
      case round =>
       obtain ⟨t,rfl,ht1,ht2,hBt⟩:=hrel
       have HT1:=Hd ht1
       have HBt:=Hd hBt
       clear ht1 hBt
       by_cases hz0:0 < t.size
       · have hidx:1 ≤ (t.size:Int)∧(t.size:Int) - 1 < t.size:=by omega
         by_cases hx:(((t[t.size - 1]).toNat:Int) == 10) = true
         · have HX:=Hd ((u8_10 _).1 hx)
           go_wp2_with fail
           go_roundw
           case rel => exact ⟨_,rfl,by rw [ba_trim hz0 HX.out];exact HT1.out,by rw [ByteArray.size_extract];omega,HBt.out⟩
           case measure => show (t.extract 0 (t.size - 1)).size < t.size;rw [ByteArray.size_extract];omega
         · have hxf:(((t[t.size - 1]).toNat:Int) == 10) = false:=by simpa using hx
           have hte:t = ⟨PT.toArray⟩:=ba_list (by rw [← HT1.out,ba_trimmed hz0 (fun e => hx ((u8_10 _).2 e))])
           have HTE:=Hd hte
           clear hx hte
           go_wp2_with (go_at_call 27;(with_reducible refine (HPL.out _ HBt.out).mono ?_);rintro e w9 ⟨rfl,hb9⟩;have HB9:=Hd (below_tail HBt.out hb9);clear hb9)
           go_ret
           exact ⟨by show Ending.returned (.bool (PT == t.toList)) = _;rw [same_list HTE.out],HB9.out⟩
       · have hte:t = ⟨PT.toArray⟩:=ba_list (by
          have e0:t.data.toList = []:=List.length_eq_zero_iff.1 (by rw [Array.length_toList];show t.size = 0;omega)
          have h1:=HT1.out
          rw [e0,trim_nil] at h1
          rw [e0,h1])
         have HTE:=Hd hte
         clear hte
         go_wp2_with (go_at_call 27;(with_reducible refine (HPL.out _ HBt.out).mono ?_);rintro e w9 ⟨rfl,hb9⟩;have HB9:=Hd (below_tail HBt.out hb9);clear hb9)
         go_ret
         exact ⟨by show Ending.returned (.bool (PT == t.toList)) = _;rw [same_list HTE.out],HB9.out⟩
end Go.Proofs.YtaefcahblmopfaaGreatDoor
