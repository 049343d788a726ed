/- Joined by a tool of this claim out of smaller texts. Conditions: as stated. -/
import Derived.Test.YtaefcahblmopfaaGreatDoorDp11
import Derived.Test.YtaefcahblmopfaaGreatDoorDp14
set_option linter.unusedVariables false
set_option linter.unusedSimpArgs false
set_option maxRecDepth 100000
open Go.Lib renaming hid → Hd
namespace Go.Proofs.YtaefcahblmopfaaGreatDoor
open Go.RowKit
def TbRes (base:Nat) (w:World) (T:Nat) (vw:Value) (st':List Bool) (w':World):Prop :=
 ∃ vw' ws',TbO base w' T vw' ws' st'∧Mod (tbX T vw) w w'∧∀ b ∈ tbX T vw',b ∈ tbX T vw ∨ w.heap.size ≤ b
theorem info_u64:(Tryz.prog.info? 206).map (fun i => (i.zero,i.size,i.bytes)) = some (some (.int .u64 0),1,8):=by kernel_rfl
theorem wds_any {ws:List Nat} {st st2:List Bool} (h:WdsOf ws st) (hl:st2.length ≤ 64 * ws.length) (hg:∀ y,st2.getD y false = st.getD y false):WdsOf ws st2 :=
 ⟨hl,fun i n hn => ⟨(h.2 i n hn).1,fun k hk => by rw [(h.2 i n hn).2 k hk,hg]⟩⟩
theorem ext_getD {a b:List Bool} (hl:a.length = b.length) (h:∀ y,y < a.length→a.getD y false = b.getD y false):a = b:=by
 apply List.ext_getElem hl
 intro i h1 h2
 have:=h i h1
 rw [List.getD_eq_getElem?_getD,List.getD_eq_getElem?_getD,List.getElem?_eq_getElem h1,List.getElem?_eq_getElem h2] at this
 exact this
theorem getD_map {n y:Nat} (f:Nat→Bool):((List.range n).map f).getD y false = if y < n then f y else false:=by
 rw [List.getD_eq_getElem?_getD,List.getElem?_map]
 by_cases h:y < n
 · rw [List.getElem?_range h,if_pos h];rfl
 · rw [List.getElem?_eq_none (by simpa using h),if_neg h];rfl
def sizeT (st:List Bool) (cols:Nat):List Bool:=(List.range cols).map (fun y => if y < st.length then st.getD y false else decide (y % 8 = 0))
section
variable {base:Nat} {w:World} {T:Nat} {vw:Value} {ws:List Nat} {st:List Bool}
theorem TbRes.set {w1 w2:World} {st2:List Bool} {vw1:Value} (hm:Mod (tbX T vw) w w1) (hx:∀ b ∈ tbX T vw1,b ∈ tbX T vw ∨ w.heap.size ≤ b) (h2:TbSet base w1 T vw1 st2 w2):TbRes base w T vw st2 w2:=by
 obtain ⟨ws2,ho,hm2⟩:=h2
 exact ⟨vw1,ws2,ho,hm.trans hm2 (fun b hb => hx b (by simp only [tbX,List.mem_cons];exact .inr hb)),hx⟩
theorem tfits_any (c:Int) (w:World):Calls Tryz.prog 113 #[.int .i64 c] w fun e w' => e = .returned (.bool (decide (2 ≤ c) && decide (c ≤ 1000)))∧w = w':=by
 by_cases h1:2 ≤ c
 · go_enter Tryz.func113,Tryz.ntmps113
   go_wp2
   go_ret
   simp [h1]
 · go_enter Tryz.func113,Tryz.ntmps113
   go_wp2
   go_ret
   simp;omega
theorem TbO.ne (h:TbO base w T vw ws st):T ∉ vw.ownBlock.toList:=fun hb => by
 obtain ⟨cur,hc⟩:=own_block h.own (Option.mem_toList.1 hb)
 exact block_ne h.blk hc (by decide) rfl
theorem TbO.rewords {w1:World} {v':Value} {ws':List Nat} (h:TbO base w T vw ws st) (ho:w1.ownsRow base 206 1 v' ws'.length (flat encU ws')) (hm:Mod vw.ownBlock.toList w w1) (hv:∀ b,v'.ownBlock = some b→vw.ownBlock = some b ∨ w.heap.size ≤ b) (hw:WdsOf ws' st) (hf:ws'.length ≤ 16) :
 TbO base (w1.setCell ⟨T,0,none⟩ v') T v' ws' st∧Mod (tbX T vw) w (w1.setCell ⟨T,0,none⟩ v')∧∀ b ∈ tbX T v',b ∈ tbX T vw ∨ w.heap.size ≤ b:=by
 have hT:=(hm.block T (Array.getElem?_eq_some_iff.1 h.blk).1 h.ne).trans h.blk
 have hTl:=(Array.getElem?_eq_some_iff.1 h.blk).1
 have hT2:∀ b,v'.ownBlock = some b→b ∉ [T]:=fun b hb hx => by
  rw [List.mem_singleton.1 hx] at hb
  rcases hv T hb with h1 | h1
  · exact h.ne (Option.mem_toList.2 h1)
  · omega
 have hM1:Mod [T] w1 (w1.setCell ⟨T,0,none⟩ v'):=(Mod.refl _ _).setCell (a:=⟨T,0,none⟩) (.inl (by simp)) _
 refine ⟨⟨heap_setCell_eq hT,h.hb,owns_mod ho hM1 hT2,hw,h.le,hf⟩,(hm.mono (fun b hb => by simp only [tbX,List.mem_cons];exact .inr hb)).setCell (a:=⟨T,0,none⟩) (.inl (by simp [tbX])) _,fun b hb => ?_⟩
 rcases List.mem_cons.1 hb with rfl | hb
 · exact .inl (by simp [tbX])
 · rcases hv b (Option.mem_toList.1 hb) with h1 | h1
   · exact .inl (by simp only [tbX,List.mem_cons,Option.mem_toList];exact .inr h1)
   · exact .inr h1
theorem TbO.recols {st':List Bool} (h:TbO base w T vw ws st) (hl:st'.length ≤ 64 * ws.length) (h3:st'.length ≤ 1000) (hg:∀ y,st'.getD y false = st.getD y false) :
 TbO base (w.setCell ⟨T,1,none⟩ (.int .i64 st'.length)) T vw ws st'∧Mod (tbX T vw) w (w.setCell ⟨T,1,none⟩ (.int .i64 st'.length)):=by
 have hM1:Mod [T] w (w.setCell ⟨T,1,none⟩ (.int .i64 st'.length)):=(Mod.refl _ _).setCell (a:=⟨T,1,none⟩) (.inl (by simp)) _
 exact ⟨⟨heap_setCell_eq h.blk,h.hb,owns_mod h.own hM1 (fun b hb hx => h.ne (by rw [← List.mem_singleton.1 hx];exact Option.mem_toList.2 hb)),wds_any h.wds hl hg,h3,h.few⟩,hM1.mono (fun b hb => by rw [List.mem_singleton.1 hb];simp [tbX])⟩
def TbSizePost (base:Nat) (w:World) (T:Nat) (vw:Value) (st':List Bool) (e:Ending) (w':World):Prop:=e = .returned (.int .i64 0)∧TbRes base w T vw st' w'
set_option maxHeartbeats 1600000 in
theorem tSize_ok (h:TbO base w T vw ws st) (cols:Nat) (h2:2 ≤ cols) (h3:cols ≤ 1000):Calls Tryz.prog 80 #[.pointer (some ⟨T,0,none⟩),.int .i64 cols] w (TbSizePost base w T vw (sizeT st cols)):=by
 obtain ⟨j0,hj,gz0,gz1,gz2⟩:=info_parts info_u64
 have HF:=Hd (fun w => tfits_any cols w)
 have hf:(decide (2 ≤ (cols:Int)) && decide ((cols:Int) ≤ 1000)) = true:=by simp;omega
 rw [hf] at HF
 clear hf
 obtain ⟨-,x1,-⟩:=h.cells
 have H:=Hd h
 have hle:=h.le
 have hTl:=lt_of_cell x1
 obtain ⟨was,hwas⟩:∃ was,st.length = was:=⟨_,rfl⟩
 rw [hwas] at x1 hle
 have HW:=Hd hwas
 clear h hwas
 go_enter Tryz.func80,Tryz.ntmps80
 go_wp2_with (go_at_call 113;refine (HF.out _).mono ?_;rintro e w1 ⟨rfl,rfl⟩)
 go_loopw [6] (fun s6 wr => ∃ x:Nat,s6 = .int .i64 x∧cols ≤ x∧(x ≤ was ∨ x = cols)∧∃ st1,TbSet base w T vw st1 wr∧st1.length = was∧∀ y,st1.getD y false = if cols ≤ y∧y < x then false else st.getD y false) (fun s6 _ => was - (intOf s6).toNat)
 case atStart => exact ⟨cols,rfl,Nat.le_refl _,.inr rfl,st,⟨ws,H.out,Mod.refl _ _⟩,HW.out,fun y => by rw [if_neg (by omega)]⟩
 case round =>
  obtain ⟨x,rfl,hx1,hx2,st1,hs,hsl,hsg⟩:=hrel
  have HS:=Hd hs
  have HG:=Hd hsg
  have HL:=Hd hsl
  clear hs hsg hsl
  by_cases hlt:x < was
  · have hltI:(x:Int) < (was:Int):=by omega
    obtain ⟨ws1,ho,hm⟩:=HS.out
    have HC:=Hd (tClear_any ho x)
    have HM:=Hd hm
    clear ho hm
    go_wp2_with (go_at_call 150;refine HC.out.mono ?_;rintro e w2 ⟨rfl,hs2⟩;have HS2:=Hd hs2;clear hs2)
    go_roundw
    case rel =>
     obtain ⟨ws2,ho2,hm2⟩:=HS2.out
     refine ⟨x + 1,by go_num,by omega,.inl (by omega),_,⟨ws2,ho2,HM.out.trans hm2 (fun b hb => .inl hb)⟩,?_,fun y => ?_⟩
     · unfold setT;split
       · rw [List.length_set];exact HL.out
       · exact HL.out
     · unfold setT
       rw [if_pos ⟨by omega,by rw [HL.out];omega⟩,Int.toNat_natCast,getD_set (by rw [HL.out];exact hlt),HG.out y]
       by_cases hxy:x = y
       · rw [if_pos hxy,if_pos (by omega)]
       · rw [if_neg hxy]
         by_cases hc:cols ≤ y∧y < x
         · rw [if_pos hc,if_pos (by omega)]
         · rw [if_neg hc,if_neg (by omega)]
    case measure => simp [intOf];omega
  · have hltI:¬ (x:Int) < (was:Int):=by omega
    have HG1:Hid (∀ y,st1.getD y false = if cols ≤ y then false else st.getD y false):=Hd (fun y => by
     rw [HG.out y]
     by_cases hc:cols ≤ y∧y < x
     · rw [if_pos hc,if_pos hc.1]
     · rw [if_neg hc]
       by_cases hy:cols ≤ y
       · rw [if_pos hy,getD_out (by rw [HW.out];omega)]
       · rw [if_neg hy])
    have HR0:Hid (TbRes base w T vw st1 wr):=Hd (by
     obtain ⟨ws1,ho,hm⟩:=HS.out
     exact ⟨vw,ws1,ho,hm.mono (fun b hb => by simp only [tbX,List.mem_cons];exact .inr hb),fun b hb => .inl hb⟩)
    clear HG HS
    go_wp2_with fail
    go_loopg [35] 16 (fun k _ w2 => ∃ vw' ws',TbO base w2 T vw' ws' st1∧Mod (tbX T vw) w w2∧(∀ b ∈ tbX T vw',b ∈ tbX T vw ∨ w.heap.size ≤ b)∧(16 ≤ k + ws'.length))
    case atStart =>
     obtain ⟨vw',ws',ho,hm,hx⟩:=HR0.out
     exact ⟨vw',ws',ho,hm,hx,by omega⟩
    case round =>
     obtain ⟨vw1,ws1,ho1,hm1,hx1',hk1⟩:=hrel
     obtain ⟨A1,c1,hv1⟩:=ho1.vform
     obtain ⟨⟨z0,z0f⟩,z1,z1f⟩:=ho1.cells
     rw [hv1] at z0
     have hTw:=lt_of_cell z1
     have HO1:=Hd ho1
     have HM1:=Hd hm1
     have HX1:=Hd hx1'
     obtain ⟨n1,hn1⟩:∃ n1,ws1.length = n1:=⟨_,rfl⟩
     have HN1:=Hd hn1
     rw [hn1] at z0 hk1 hv1
     have HV1:=Hd hv1
     clear ho1 hm1 hx1' hn1 hv1 z1 z1f
     by_cases hlt2:64 * n1 < cols
     · have hn16:n1 < 16:=by omega
       have hw64:IntKind.i64.wrap ((n1:Int) * 64) = (n1:Int) * 64:=IntWalk.i64_in _ (by omega)
       have hltI2:(n1:Int) * 64 < (cols:Int):=by omega
       obtain ⟨W2,hW2⟩:∃ W2,wr.alloc (.cells #[.int .u64 0] 206) = W2:=⟨_,rfl⟩
       have hb2:Below wr.heap.size wr W2:=by rw [← hW2];exact below_allocs (Below.refl _ _) _
       have HNW:=Hd (show W2.heap[wr.heap.size]? = some (.cells #[.int .u64 0] 206 (0,0)) from by rw [← hW2];exact hp_new rfl)
       have HB2:=Hd hb2
       have HOB:=Hd (show W2.ownsRow base 206 1 (.slice A1 n1 c1) n1 (flat encU ws1) from by have:=(HO1.out.below hb2).own;rw [HV1.out,HN1.out] at this;exact this)
       have hbw2:base ≤ W2.heap.size:=by have:=HO1.out.hb;have:=hb2.size;omega
       clear hb2
       go_wp2_with (refine wpList_append_g rfl (.tmp 40) (.tmp 41) 177 rfl base 206 j0 _ 1 8 Tryz.underlying177 hj gz0 gz1 gz2 rfl (by decide) (.slice A1 n1 c1) n1 (flat encU ws1) rfl HOB.out ⟨wr.heap.size,0,none⟩ 1 1 [.int .u64 0] rfl rfl ?_ ?_ ?_ ?_ ?_ ?_)
       all_goals first
        | omega
        | (simp only [maxLen];omega)
        | skip
       · intro j u hj
         rw [add_lit',Nat.zero_add]
         exact (at_ HNW.out j u (by simpa using hj)).1
       · intro u hu
         obtain rfl:=List.mem_singleton.1 hu
         rfl
       · intro v' w' ho hg hv'
         have HMG:Hid (Mod vw1.ownBlock.toList wr w'):=Hd ((Mod.of_below (X:=vw1.ownBlock.toList) HB2.out).trans (Mod.of_grown (X:=vw1.ownBlock.toList) hg (fun g hg => by rw [HV1.out,hg];simp)) (fun g hg => .inl hg))
         have HR:=Hd (HO1.out.rewords (ws':=ws1 ++ [0]) (by rw [List.length_append,HN1.out,flat_append];exact ho) HMG.out (fun b hb => (hv' b hb).imp (fun h => by rw [HV1.out];exact h) (fun h => by have:=HB2.out.size;omega)) (wds_push HO1.out.wds) (by rw [List.length_append,HN1.out];simp;omega))
         obtain ⟨y0,y0f⟩:=HMG.out.hold HO1.out.ne HO1.out.cells.1
         obtain ⟨A',c',hvf⟩:=row_form ho
         clear ho hg hv' hW2
         subst hvf
         go_wp2
         go_roundg (gk - 1)
         case rel =>
          obtain ⟨r1,r2,r3⟩:=HR.out
          refine ⟨_,ws1 ++ [0],r1,HM1.out.trans r2 HX1.out,fun b hb => ?_,by rw [List.length_append,HN1.out];simp;omega⟩
          rcases r3 b hb with h | h
          · exact HX1.out b h
          · exact .inr (Nat.le_trans HM1.out.size h)
         case measure => omega
     · have hn17:n1 ≤ 16:=by rw [← HN1.out];exact HO1.out.few
       have hw64:IntKind.i64.wrap ((n1:Int) * 64) = (n1:Int) * 64:=IntWalk.i64_in _ (by omega)
       have hltI2:¬ (n1:Int) * 64 < (cols:Int):=by omega
       obtain ⟨st2,hst2⟩:∃ st2,(List.range cols).map (fun y => st1.getD y false) = st2:=⟨_,rfl⟩
       have hl2:st2.length = cols:=by rw [← hst2];simp
       have hg2:∀ y,st2.getD y false = st1.getD y false:=fun y => by
        rw [← hst2,getD_map]
        by_cases hy:y < cols
        · rw [if_pos hy]
        · rw [if_neg hy,HG1.out y,if_pos (by omega)]
       have HRC:=Hd (HO1.out.recols (st':=st2) (by rw [hl2,HN1.out];omega) (by rw [hl2];exact h3) hg2)
       rw [hl2] at HRC
       have HL2:=Hd hl2
       have HG2:Hid (∀ y,st2.getD y false = if cols ≤ y then false else st.getD y false):=Hd (fun y => by rw [hg2 y];exact HG1.out y)
       obtain ⟨-,z1,z1f⟩:=HO1.out.cells
       clear hg2 hl2 hst2 HG1 HV1
       go_wp2_with fail
       generalize World.setCell _ _ _ = W3 at HRC ⊢
       clear z0 z0f z1 z1f
       go_loopw [7] (fun s7 w4 => ∃ x:Nat,s7 = .int .i64 x∧was ≤ x∧(x ≤ cols ∨ x = was)∧∃ st3,TbSet base W3 T vw1 st3 w4∧st3.length = cols∧∀ y,y < cols→st3.getD y false = if was ≤ y∧y < x then decide (y % 8 = 0) else st2.getD y false) (fun s7 _ => cols - (intOf s7).toNat)
       case atStart => exact ⟨was,rfl,Nat.le_refl _,.inr rfl,st2,⟨ws1,HRC.out.1,Mod.refl _ _⟩,HL2.out,fun y _ => by rw [if_neg (by omega)]⟩
       case round =>
        obtain ⟨x,rfl,hx1,hx2,st3,hs,hsl,hsg⟩:=hrel
        have HS:=Hd hs
        have HG:=Hd hsg
        have HL:=Hd hsl
        clear hs hsg hsl
        by_cases hlt3:x < cols
        · have hltI3:(x:Int) < (cols:Int):=by omega
          have h8:(x:Int).tmod 8 = ((x % 8:Nat):Int):=by rw [Int.tmod_eq_emod_of_nonneg (by omega)];omega
          by_cases hx8:x % 8 = 0
          · rw [hx8] at h8
            obtain ⟨ws3,ho,hm⟩:=HS.out
            have HC:=Hd (tSet_any ho x)
            have HM:=Hd hm
            clear ho hm
            go_wp2_with (go_at_call 151;refine HC.out.mono ?_;rintro e w5 ⟨rfl,hs2⟩;have HS2:=Hd hs2;clear hs2)
            go_roundw
            case rel =>
             obtain ⟨ws4,ho4,hm4⟩:=HS2.out
             refine ⟨x + 1,by go_num,by omega,.inl (by omega),_,⟨ws4,ho4,HM.out.trans hm4 (fun b hb => .inl hb)⟩,?_,fun y hy => ?_⟩
             · unfold setT;split
               · rw [List.length_set];exact HL.out
               · exact HL.out
             · unfold setT
               rw [if_pos ⟨by omega,by rw [HL.out];omega⟩,Int.toNat_natCast,getD_set (by rw [HL.out];exact hlt3),HG.out y hy]
               by_cases hxy:x = y
               · subst hxy;rw [if_pos rfl,if_pos (by omega),decide_eq_true hx8]
               · rw [if_neg hxy]
                 by_cases hc:was ≤ y∧y < x
                 · rw [if_pos hc,if_pos (by omega)]
                 · rw [if_neg hc,if_neg (by omega)]
            case measure => simp [intOf];omega
          · have h8':¬ (x:Int).tmod 8 = 0:=by omega
            go_wp2_with fail
            go_roundw
            case rel =>
             refine ⟨x + 1,by go_num,by omega,.inl (by omega),st3,HS.out,HL.out,fun y hy => ?_⟩
             rw [HG.out y hy]
             by_cases hxy:x = y
             · subst hxy;rw [if_neg (by omega),if_pos (by omega),decide_eq_false hx8,HG2.out x,if_neg (by omega),getD_out (by rw [HW.out];omega)]
             · by_cases hc:was ≤ y∧y < x
               · rw [if_pos hc,if_pos (by omega)]
               · rw [if_neg hc,if_neg (by omega)]
            case measure => simp [intOf];omega
        · have hltI3:¬ (x:Int) < (cols:Int):=by omega
          go_wp2
          go_ret
          have he:st3 = sizeT st cols:=by
           refine ext_getD (by rw [HL.out];simp [sizeT]) (fun y hy => ?_)
           rw [HL.out] at hy
           unfold sizeT
           rw [HG.out y hy,getD_map,if_pos hy,HW.out]
           by_cases hw:y < was
           · rw [if_neg (by omega),if_pos hw,HG2.out y,if_neg (by omega)]
           · rw [if_pos (by omega),if_neg hw]
          rw [he] at HS
          exact ⟨rfl,TbRes.set (HM1.out.trans HRC.out.2 HX1.out) HX1.out HS.out⟩
def TbNewPost (cols:Nat) (w:World) (e:Ending) (w':World):Prop:=∃ T vw ws,e = .returned (.tuple #[.pointer (some ⟨T,0,none⟩),.int .i64 0])∧TbO w.heap.size w' T vw ws (sizeT [] cols)∧Below w.heap.size w w'
set_option maxHeartbeats 1600000 in
theorem tnew_ok (cols:Nat) (w:World) (h2:2 ≤ cols) (h3:cols ≤ 1000):Calls Tryz.prog 63 #[.int .i64 cols] w (TbNewPost cols w):=by
 have HF:=Hd (fun w => tfits_any cols w)
 have hf:(decide (2 ≤ (cols:Int)) && decide ((cols:Int) ≤ 1000)) = true:=by simp;omega
 rw [hf] at HF
 clear hf
 have hO:TbO w.heap.size (w.alloc (.cells #[.slice none 0 0,.int .i64 0] 179)) w.heap.size (.slice none 0 0) [] [] :=
  ⟨hp_new rfl,Nat.le_refl _,World.ownsRow_nil _ _ _ _,⟨Nat.zero_le _,fun i n hn => by simp at hn⟩,by simp,by simp⟩
 have HS:=Hd (tSize_ok hO cols h2 h3)
 have HB:=Hd (below_allocs (Below.refl w.heap.size w) (.cells #[.slice none 0 0,.int .i64 0] 179))
 clear hO
 go_enter Tryz.func63,Tryz.ntmps63
 go_wp2_with (first
  | (go_at_call 113;refine (HF.out _).mono ?_;rintro e w1 ⟨rfl,rfl⟩)
  | (go_at_call 80;refine HS.out.mono ?_;rintro e w2 ⟨rfl,hs⟩;have HR:=Hd hs;clear hs))
 go_ret2
 obtain ⟨vw,ws,h1,hm,-⟩:=HR.out
 exact ⟨w.heap.size,vw,ws,rfl,h1,HB.out.trans (hm.below (B:=w.heap.size) (fun b hb => by simp [tbX,Value.ownBlock] at hb;omega) (by simp))⟩
end
def encCh (c:Ch):List Value:=[.int .i64 c.g0,.int .i64 c.g1,.int .i64 c.g2,.int .i64 c.g3,.int .i64 c.use,.int .i64 c.once]
def chV (c:Ch):Value:=.agg #[.int .i64 c.g0,.int .i64 c.g1,.int .i64 c.g2,.int .i64 c.g3,.int .i64 c.use,.int .i64 c.once]
theorem encCh_one:∀ c,∀ v ∈ encCh c,v.oneCell' = true:=fun c v hv => by
 simp only [encCh,List.mem_cons,List.not_mem_nil,or_false] at hv
 rcases hv with rfl | rfl | rfl | rfl | rfl | rfl <;> rfl
theorem info_ch:(Tryz.prog.info? 99).map (·.size) = some 6:=by kernel_rfl
theorem info_drawn:(Tryz.prog.info? 321).map (·.size) = some 31:=by kernel_rfl
section
variable {P:Program}
theorem results_tmp_cell {fn:Func} {u p:Tmp} {ty:TypeId} (h:fn.results = #[.tmp u,.cell p ty]) (tmps:Array Value) (w:World) :
 (results fn tmps).run P w = ((asAddr (tmps.getD p undef)).run P w).andThen fun a w1 => ((loadVar ty a).run P w1).andThen fun v w2 => .ok (.tuple #[tmps.getD u undef,v]) w2:=by
 simp only [results,h]
 simp [Sem.run_bind,Result.andThen]
theorem run_index_cell (w:World) (t e:TypeId) (n:Nat) (cs:Array Value) (k:IntKind) (i:Int) (v:Value) (h:P.underlying t = some (.array n e)) (h0:0 ≤ i) (h1:i < n) (hs:(sizeOf e).run P w = .ok 1 w) (ha:(isAgg e).run P w = .ok false w) (hv:cs.toList[i.toNat]? = some v) :
 (Instr.index t (.agg cs) (.int k i)).run P w = .ok v w:=by
 have hc:0 ≤ i∧i < (n:Int):=⟨h0,h1⟩
 have hv2:cs[i.toNat]? = some v:=by rw [← Array.getElem?_toList];exact hv
 simp [Instr.index,part,run_underlying h,asIntOf,hc,hs,ha,hv2,Result.andThen,go_sem]
theorem ret_agg {fn:Func} {p:Tmp} {ty:TypeId} {d:TypeDesc} (hr:fn.results = #[.cell p ty]) (tmps:Array Value) (w:World) (b:Nat) (cs:List Value) (hp:tmps.getD p undef = .pointer (some ⟨b,0,none⟩)) (h:w.rangeAt b 0 cs)
 (hu:P.underlying ty = some d) (hd:d.isRow = true) (hi:(P.info? ty).map (·.size) = some cs.length):(results fn tmps).run P w = .ok (.agg cs.toArray) w:=by
 rw [results_cell1 hr,hp]
 have:=run_loadVar_mid (P:=P) w b 0 ty cs _ h hu hd hi
 simp only [asAddr,Sem.run_pure,Result.andThen_ok,this]
theorem ret_tmp_agg {fn:Func} {u p:Tmp} {ty:TypeId} {d:TypeDesc} (hr:fn.results = #[.tmp u,.cell p ty]) (tmps:Array Value) (w:World) (b:Nat) (cs:List Value) (hp:tmps.getD p undef = .pointer (some ⟨b,0,none⟩)) (h:w.rangeAt b 0 cs)
 (hu:P.underlying ty = some d) (hd:d.isRow = true) (hi:(P.info? ty).map (·.size) = some cs.length):(results fn tmps).run P w = .ok (.tuple #[tmps.getD u undef,.agg cs.toArray]) w:=by
 rw [results_tmp_cell hr,hp]
 have:=run_loadVar_mid (P:=P) w b 0 ty cs _ h hu hd hi
 simp only [asAddr,Sem.run_pure,Result.andThen_ok,this]
end
theorem below_setN {B:Nat} {W w1:World} (h:Below B W w1) {b:Nat} (hb:B ≤ b):∀ (vs:List Value) (o:Nat),Below B W (w1.setCells b o vs)
 | [],_ => h
 | v :: vs,o => below_setN (h.setCell (p:=⟨b,o,none⟩) hb v) hb vs (o + 1)
theorem setC_used (c:Ch):∃ k:Nat,k < 4∧usedC c = k:=by
 unfold usedC
 split
 · next h => exact ⟨c.once.toNat,by omega,by omega⟩
 split
 · exact ⟨c.use.toNat,by omega,by omega⟩
 · exact ⟨0,by decide,rfl⟩
theorem cnew_any (w:World):Calls Tryz.prog 114 #[] w fun e w' => e = .returned (chV firstCh)∧Below w.heap.size w w':=by
 go_enter Tryz.func114,Tryz.ntmps114
 go_wp2
 exact bodyPost_ret (ret_agg rfl _ _ w.heap.size (encCh firstCh) rfl (range_new (hp_new rfl)) Tryz.underlying99 rfl info_ch) rfl ⟨rfl,below_allocs (Below.refl _ _) _⟩
theorem cused_any (c:Ch) (w:World):Calls Tryz.prog 275 #[chV c] w fun e w' => e = .returned (.int .i64 (usedC c))∧Below w.heap.size w w':=by
 obtain ⟨g0,g1,g2,g3,u,o⟩:=c
 unfold usedC chV
 simp only []
 by_cases h2:o = 2
 · subst h2
   rw [if_pos (Or.inl rfl)]
   go_enter Tryz.func275,Tryz.ntmps275
   go_wp2
   go_ret
   exact ⟨rfl,(Below.refl _ _).alloc (Nat.le_refl _) _⟩
 by_cases h3:o = 3
 · subst h3
   rw [if_pos (Or.inr rfl)]
   go_enter Tryz.func275,Tryz.ntmps275
   go_wp2
   go_ret
   exact ⟨rfl,(Below.refl _ _).alloc (Nat.le_refl _) _⟩
 have e2:(o == 2) = false:=by simpa using h2
 have e3:(o == 3) = false:=by simpa using h3
 rw [if_neg (by omega)]
 by_cases hu:0 ≤ u
 · by_cases hu3:u ≤ 3
   · rw [if_pos ⟨hu,hu3⟩]
     go_enter Tryz.func275,Tryz.ntmps275
     go_wp2
     go_ret
     exact ⟨rfl,(Below.refl _ _).alloc (Nat.le_refl _) _⟩
   · rw [if_neg (by omega)]
     go_enter Tryz.func275,Tryz.ntmps275
     go_wp2
     go_ret
     exact ⟨rfl,(Below.refl _ _).alloc (Nat.le_refl _) _⟩
 · rw [if_neg (by omega)]
   go_enter Tryz.func275,Tryz.ntmps275
   go_wp2
   go_ret
   exact ⟨rfl,(Below.refl _ _).alloc (Nat.le_refl _) _⟩
def drawnV:List Value:=[.int .i32 9670,.int .i32 9618,.int .i32 9225,.int .i32 9228,.int .i32 9229,.int .i32 9226,.int .i32 176,.int .i32 177,.int .i32 9252,.int .i32 9227,.int .i32 9496,.int .i32 9488,.int .i32 9484,.int .i32 9492,.int .i32 9532,.int .i32 9146,.int .i32 9147,.int .i32 9472,.int .i32 9148,.int .i32 9149,.int .i32 9500,.int .i32 9508,.int .i32 9524,.int .i32 9516,.int .i32 9474,.int .i32 8804,.int .i32 8805,.int .i32 960,.int .i32 8800,.int .i32 163,.int .i32 183]
theorem drawnV_get (k:Nat) (hk:k < 31):drawnV[k]? = some (.int .i32 (drawnT.getD k 0)):=by
 have e:drawnV = drawnT.map (fun r => Value.int .i32 r):=rfl
 rw [e,List.getElem?_map,List.getD_eq_getElem?_getD,List.getElem?_eq_getElem (show k < drawnT.length from hk)]
 rfl
theorem drawnV_one:∀ v ∈ drawnV,v.oneCell' = true:=by
 intro v hv
 rw [show drawnV = drawnT.map (fun r => Value.int .i32 r) from rfl] at hv
 obtain ⟨r,-,rfl⟩:=List.mem_map.1 hv
 rfl
set_option maxHeartbeats 1600000 in
theorem cdrawn_any (w:World):Calls Tryz.prog 338 #[] w fun e w' => e = .returned (.agg drawnV.toArray)∧Below w.heap.size w w':=by
 go_enter Tryz.func338,Tryz.ntmps338
 go_upto_region 1 with fail
 generalize hW:World.alloc _ _ = W
 have hb2:Below w.heap.size w W:=by rw [← hW];exact below_allocs (Below.refl _ _) _
 have hc2:W.heap[w.heap.size]? = some (.cells (List.replicate 31 (Value.int .i32 0)).toArray 321 (0,0)):=by rw [← hW];exact hp_new rfl
 refine wp_region_lit ?_
 refine wpList_valG (.agg drawnV.toArray) (by rfl) (by go_simp;rfl) ?_
 simp only [Act.put,List.setIfInBounds_toArray,List.set_cons_zero,List.set_cons_succ]
 refine wpList_store_mid rfl 321 (.tmp 0) (.tmp 1) rfl (w.heap.size) (0) (drawnV.toArray) rfl rfl ((show W.there w.heap.size 0 31 from there_new hc2)) info_drawn (all_oneCell_toArray drawnV_one) ?_
 simp only [Act.put]
 go_wp2
 have hw:=whole_setCells drawnV 0 _ W hc2 (by decide)
 exact bodyPost_ret (ret_agg rfl _ _ w.heap.size drawnV rfl (range_new hw) Tryz.underlying321 rfl info_drawn) rfl ⟨rfl,below_setN hb2 (Nat.le_refl _) _ _⟩
def ShownPost (kind r:Int) (w:World) (e:Ending) (w':World):Prop:=e = .returned (.int .i32 (shownC kind r))∧Below w.heap.size w w'
set_option maxHeartbeats 1600000 in
theorem cshown_any (kind r:Int) (w:World):Calls Tryz.prog 274 #[.int .i64 kind,.int .i32 r] w (ShownPost kind r w):=by
 have HD:=Hd (fun w => cdrawn_any w)
 unfold ShownPost shownC
 by_cases k1:kind = 65
 · subst k1
   by_cases r1:r = 35
   · subst r1
     go_enter Tryz.func274,Tryz.ntmps274
     go_wp2
     go_ret
     exact ⟨rfl,Below.refl _ _⟩
   · have e1:(r == 35) = false:=by simpa using r1
     rw [if_neg (by omega),if_neg (by omega),if_neg (by omega)]
     clear r1
     go_enter Tryz.func274,Tryz.ntmps274
     go_wp2
     go_ret
     exact ⟨rfl,Below.refl _ _⟩
 have e1:(kind == 65) = false:=by simpa using k1
 rw [if_neg (fun h => k1 h.1)]
 by_cases k2:kind = 48
 · subst k2
   by_cases r1:r = 95
   · subst r1
     clear e1
     go_enter Tryz.func274,Tryz.ntmps274
     go_wp2
     go_ret
     exact ⟨rfl,Below.refl _ _⟩
   · have e2:(r == 95) = false:=by simpa using r1
     rw [if_neg (by omega)]
     clear e1 k1
     by_cases h1:96 ≤ r
     · by_cases h2:r ≤ 126
       · rw [if_pos ⟨rfl,h1,h2⟩]
         have hk:=drawnV_get (r - 96).toNat (by omega)
         have hw:IntKind.i32.wrap (r - 96) = r - 96:=IntWalk.i32_in _ (by omega)
         have HK:=Hd hk
         clear hk
         go_enter Tryz.func274,Tryz.ntmps274
         go_wp2_with (go_at_call 338;refine (HD.out _).mono ?_;rintro e w1 ⟨rfl,hb⟩;have HB:=Hd hb;clear hb)
         rw [run_index_cell w1 _ _ 31 drawnV.toArray _ _ _ Tryz.underlying321 (by omega) (by omega) (Tryz.sizeOf21 _) (Tryz.isAgg21 _) HK.out]
         go_wp2
         go_ret
         exact ⟨rfl,HB.out⟩
       · rw [if_neg (by omega)]
         go_enter Tryz.func274,Tryz.ntmps274
         go_wp2
         go_ret
         exact ⟨rfl,Below.refl _ _⟩
     · rw [if_neg (by omega)]
       go_enter Tryz.func274,Tryz.ntmps274
       go_wp2
       go_ret
       exact ⟨rfl,Below.refl _ _⟩
 · have e2:(kind == 48) = false:=by simpa using k2
   rw [if_neg (by omega),if_neg (by omega)]
   go_enter Tryz.func274,Tryz.ntmps274
   go_wp2
   go_ret
   exact ⟨rfl,Below.refl _ _⟩
def MapPost (c:Ch) (r:Int) (w:World) (e:Ending) (w':World):Prop:=e = .returned (.tuple #[.int .i32 (mapC c r),chV (onceC c)])∧Below w.heap.size w w'
set_option maxHeartbeats 1600000 in
theorem cmap_any (c:Ch) (r:Int) (w:World):Calls Tryz.prog 180 #[chV c,.int .i32 r] w (MapPost c r w):=by
 have HU:=Hd (fun w => cused_any c w)
 have HS:=Hd (fun k w => cshown_any k r w)
 obtain ⟨k,hk,hku⟩:=setC_used c
 unfold MapPost mapC
 rw [hku] at HU ⊢
 clear hku
 obtain ⟨g0,g1,g2,g3,u,o⟩:=c
 unfold chV setC onceC at *
 simp only [] at HU ⊢
 have HX:=Hd (hp_old (o:=.cells (encCh ⟨0,0,0,0,0,0⟩).toArray 99) (hp_new (W:=w) (b:=w.heap.size) (o:=.cells (encCh ⟨g0,g1,g2,g3,u,o⟩).toArray 99) rfl))
 have HY:=Hd (hp_new (W:=w.alloc (.cells (encCh ⟨g0,g1,g2,g3,u,o⟩).toArray 99)) (b:=w.heap.size + 1) (o:=.cells (encCh ⟨0,0,0,0,0,0⟩).toArray 99) (by simp))
 have HB0:=Hd (below_allocs (below_allocs (Below.refl w.heap.size w) (.cells (encCh ⟨g0,g1,g2,g3,u,o⟩).toArray 99)) (.cells (encCh ⟨0,0,0,0,0,0⟩).toArray 99))
 obtain rfl | rfl | rfl | rfl:k = 0 ∨ k = 1 ∨ k = 2 ∨ k = 3:=by omega
 all_goals
  go_enter Tryz.func180,Tryz.ntmps180
  go_upto_region 3 with (first
   | (go_at_call 275;refine (HU.out _).mono ?_;rintro e w1 ⟨rfl,hb1⟩;have HX1:=Hd ((hb1.block _ (lt_of_heap HX.out)).trans HX.out);have HY1:=Hd ((hb1.block _ (lt_of_heap HY.out)).trans HY.out);have HB1:=Hd (below_tail HB0.out hb1);clear hb1;obtain ⟨c0,f0⟩:=at_ HX1.out 0 _ rfl;obtain ⟨c1,f1⟩:=at_ HX1.out 1 _ rfl;obtain ⟨c2,f2⟩:=at_ HX1.out 2 _ rfl;obtain ⟨c3,f3⟩:=at_ HX1.out 3 _ rfl)
   | (go_at_call 274;refine (HS.out _ _).mono ?_;rintro e w2 ⟨rfl,hb2⟩;have HX2:=Hd ((hb2.block _ (lt_of_heap HX1.out)).trans HX1.out);have HY2:=Hd ((hb2.block _ (lt_of_heap HY1.out)).trans HY1.out);have HB2:=Hd (below_tail HB1.out hb2);clear hb2 c0 f0 c1 f1 c2 f2 c3 f3;obtain ⟨c5,f5⟩:=at_ HX2.out 5 _ rfl))
  have hx3:=whole_set HX2.out 5 (.int .i64 0) rfl
  have hy3:=(heap_other (w:=w2) (b:=w.heap.size) (i:=5) (v:=.int .i64 0) (show w.heap.size + 1 ≠ w.heap.size by omega)).trans HY2.out
  have hb3:=below_set HB2.out (Nat.le_refl w.heap.size) (o:=5) (.int .i64 0)
  clear c5 f5
  generalize World.setCell _ _ _ = W3 at hx3 hy3 hb3 ⊢
  obtain ⟨x0,-⟩:=at_ hx3 0 _ rfl
  obtain ⟨x1,-⟩:=at_ hx3 1 _ rfl
  obtain ⟨x2,-⟩:=at_ hx3 2 _ rfl
  obtain ⟨x3,-⟩:=at_ hx3 3 _ rfl
  obtain ⟨x4,-⟩:=at_ hx3 4 _ rfl
  obtain ⟨x5,-⟩:=at_ hx3 5 _ rfl
  refine wp_region_u 3 (fun w' => Below W3.heap.size W3 w'∧w'.cell? ⟨w.heap.size,0,none⟩ = some (.int .i64 g0)∧w'.cell? ⟨w.heap.size,1,none⟩ = some (.int .i64 g1)∧w'.cell? ⟨w.heap.size,2,none⟩ = some (.int .i64 g2)∧w'.cell? ⟨w.heap.size,3,none⟩ = some (.int .i64 g3)∧w'.cell? ⟨w.heap.size,4,none⟩ = some (.int .i64 u)∧w'.cell? ⟨w.heap.size,5,none⟩ = some (.int .i64 0)) (by kernel_rfl) (by kernel_rfl) ?_ ?_
  · exact ⟨(Below.refl _ _).drew,x0,x1,x2,x3,x4,x5⟩
  simp only [List.take_succ_cons,List.take_zero,List.drop_succ_cons,List.drop_zero]
  repeat (
   (first
    | refine seqU_skip (by rfl) ?_
    | (refine seqU_val ?_ (by rfl) ?_ ?_;rotate_left;(focus (intro w' hS;obtain ⟨_,_,_,_,_,_,_⟩:=hS;go_simp;first | done | with_reducible rfl))))
   simp only [Act.put,List.setIfInBounds_toArray,List.set_cons_zero,List.set_cons_succ])
  refine seqU_nil (fun w' hS => ?_)
  have hy4:=(hS.1.block _ (lt_of_heap hy3)).trans hy3
  have hb4:=below_tail hb3 hS.1
  refine wpList_store_mid rfl 99 (.tmp 5) (.tmp 16) rfl (w.heap.size + 1) (0) ((encCh ⟨g0,g1,g2,g3,u,0⟩).toArray) rfl rfl ((show World.there _ (w.heap.size + 1) 0 6 from there_new hy4)) info_ch (all_oneCell_toArray (encCh_one _)) ?_
  simp only [Act.put]
  go_wp2
  have hw:=whole_setCells (encCh ⟨g0,g1,g2,g3,u,0⟩) 0 _ _ hy4 (by simp [encCh])
  exact bodyPost_ret (ret_tmp_agg rfl _ _ (w.heap.size + 1) (encCh ⟨g0,g1,g2,g3,u,0⟩) rfl (range_new hw) Tryz.underlying99 rfl info_ch) rfl ⟨rfl,below_setN hb4 (by omega) _ _⟩
def encSc (s:Sc) (P T:Nat):List Value :=
 [.int .i64 s.pen.at_.fk,.int .i64 s.pen.at_.fn,.int .i64 s.pen.at_.bk,.int .i64 s.pen.at_.bn,.int .i64 s.pen.at_.fl,
  .int .i64 s.pen.ch.g0,.int .i64 s.pen.ch.g1,.int .i64 s.pen.ch.g2,.int .i64 s.pen.ch.g3,.int .i64 s.pen.ch.use,.int .i64 s.pen.ch.once,
  .bool s.pen.put,.bool s.pen.wrap,.bool s.pen.home,
  .pointer (some ⟨P,0,none⟩),.pointer (some ⟨T,0,none⟩),.int .i64 s.y,.int .i64 s.x,.int .i64 s.top,.int .i64 s.bot,
  .int .i64 s.sp.at_.fk,.int .i64 s.sp.at_.fn,.int .i64 s.sp.at_.bk,.int .i64 s.sp.at_.bn,.int .i64 s.sp.at_.fl,
  .int .i64 s.sp.ch.g0,.int .i64 s.sp.ch.g1,.int .i64 s.sp.ch.g2,.int .i64 s.sp.ch.g3,.int .i64 s.sp.ch.use,.int .i64 s.sp.ch.once,
  .bool s.sp.put,.bool s.sp.wrap,.bool s.sp.home,.int .i64 s.sy,.int .i64 s.sx,.bool s.has,.int .i32 s.last]
structure Sv where
 S:Nat
 q:Pv
 T:Nat
 vw:Value
 ws:List Nat
structure ScO (base:Nat) (w:World) (v:Sv) (s:Sc):Prop where
 blk:w.heap[v.S]? = some (.cells (encSc s v.q.P v.T).toArray 128 (0,0))
 hb:base ≤ v.S
 page:PgO base w v.q s.pg
 tabs:TbO base w v.T v.vw v.ws s.st
def scX (v:Sv):List Nat:=v.S :: (tbX v.T v.vw ++ pgX v.q)
theorem PgO.types {base:Nat} {w:World} {q:Pv} {g:Pg} (h:PgO base w q g):∀ b ∈ pgX q,∃ cur ty,w.heap[b]? = some (.cells cur ty (0,0))∧(ty = 175 ∨ ty = 52 ∨ ty = 94 ∨ ty = 225):=by
 intro b hb
 rcases List.mem_cons.1 hb with rfl | hb
 · exact ⟨_,_,h.blk,.inl rfl⟩
 rcases List.mem_append.1 hb with hb | hb
 · obtain ⟨cur,hc⟩:=own_block h.own (Option.mem_toList.1 hb)
   exact ⟨_,_,hc,.inr (.inl rfl)⟩
 rcases List.mem_append.1 hb with hb | hb
 · obtain ⟨cur,hc⟩:=own_block h.told (Option.mem_toList.1 hb)
   exact ⟨_,_,hc,.inr (.inr (.inl rfl))⟩
 rcases List.mem_cons.1 hb with rfl | hb
 · exact ⟨_,_,h.ring.blk,.inr (.inr (.inr rfl))⟩
 · obtain ⟨cur,hc⟩:=own_block h.ring.own (Option.mem_toList.1 hb)
   exact ⟨_,_,hc,.inr (.inl rfl)⟩
theorem PgO.not {base:Nat} {w:World} {q:Pv} {g:Pg} (h:PgO base w q g) {b:Nat} {cs:Array Value} {ty:TypeId} (hb:w.heap[b]? = some (.cells cs ty (0,0))) (ht:ty ≠ 175∧ty ≠ 52∧ty ≠ 94∧ty ≠ 225):b ∉ pgX q:=fun hx => by
 obtain ⟨cur,t2,h1,h2⟩:=h.types b hx
 rw [hb,Option.some.injEq,Obj.cells.injEq] at h1
 obtain ⟨-,rfl,-⟩:=h1
 rcases h2 with h2 | h2 | h2 | h2
 · exact ht.1 h2
 · exact ht.2.1 h2
 · exact ht.2.2.1 h2
 · exact ht.2.2.2 h2
theorem TbO.types {base:Nat} {w:World} {T:Nat} {vw:Value} {ws:List Nat} {st:List Bool} (h:TbO base w T vw ws st):∀ b ∈ tbX T vw,∃ cur ty,w.heap[b]? = some (.cells cur ty (0,0))∧(ty = 179 ∨ ty = 206):=by
 intro b hb
 rcases List.mem_cons.1 hb with rfl | hb
 · exact ⟨_,_,h.blk,.inl rfl⟩
 · obtain ⟨cur,hc⟩:=own_block h.own (Option.mem_toList.1 hb)
   exact ⟨_,_,hc,.inr rfl⟩
section
variable {base:Nat} {w:World} {v:Sv} {s:Sc}
theorem ScO.np (h:ScO base w v s):v.S ∉ pgX v.q:=h.page.not h.blk (by decide)
theorem ScO.nt (h:ScO base w v s):v.S ∉ tbX v.T v.vw:=fun hx => by
 obtain ⟨cur,ty,h1,h2⟩:=h.tabs.types _ hx
 rw [h.blk,Option.some.injEq,Obj.cells.injEq] at h1
 obtain ⟨-,rfl,-⟩:=h1
 rcases h2 with h2 | h2 <;> exact absurd h2 (by decide)
theorem ScO.ntp (h:ScO base w v s):∀ b ∈ tbX v.T v.vw,b ∉ pgX v.q:=fun b hb => by
 obtain ⟨cur,ty,h1,h2⟩:=h.tabs.types _ hb
 refine h.page.not h1 ?_
 rcases h2 with rfl | rfl <;> decide
theorem ScO.lt (h:ScO base w v s):∀ b ∈ scX v,base ≤ b∧b < w.heap.size:=by
 intro b hb
 rcases List.mem_cons.1 hb with rfl | hb
 · exact ⟨h.hb,(Array.getElem?_eq_some_iff.1 h.blk).1⟩
 rcases List.mem_append.1 hb with hb | hb
 · rcases List.mem_cons.1 hb with rfl | hb
   · exact ⟨h.tabs.hb,(Array.getElem?_eq_some_iff.1 h.tabs.blk).1⟩
   · exact h.tabs.own.lt b (Option.mem_toList.1 hb)
 · exact h.page.lt b hb
theorem ScO.mod {X:List Nat} {w':World} (h:ScO base w v s) (hm:Mod X w w') (hX:NoCel w X) (hd:∀ b ∈ scX v,b ∉ X):ScO base w' v s :=
 ⟨(hm.block v.S (Array.getElem?_eq_some_iff.1 h.blk).1 (hd v.S (by simp [scX]))).trans h.blk,h.hb,h.page.mod hm hX (fun b hb => hd b (by simp [scX,hb])),h.tabs.mod hm (fun b hb => hd b (by simp [scX,hb]))⟩
theorem ScO.below {w':World} (h:ScO base w v s) (hb:Below w.heap.size w w'):ScO base w' v s:=h.mod (Mod.of_below (X:=[]) hb) (NoCel.nil w) (fun _ _ h => by cases h)
def ScRes (base:Nat) (w:World) (v:Sv) (s':Sc) (w':World):Prop :=
 ∃ v',v'.S = v.S∧v'.T = v.T∧v'.q.P = v.q.P∧ScO base w' v' s'∧Mod (scX v) w w'∧∀ b ∈ scX v',b ∈ scX v ∨ w.heap.size ≤ b
theorem ScO.res (h:ScO base w v s):ScRes base w v s w:=⟨v,rfl,rfl,rfl,h,Mod.refl _ _,fun _ hb => .inl hb⟩
theorem ScO.res_below {w':World} (h:ScO base w v s) (hb:Below w.heap.size w w'):ScRes base w v s w':=⟨v,rfl,rfl,rfl,h.below hb,Mod.of_below hb,fun _ hb => .inl hb⟩
theorem ScRes.trans {w1 w2:World} {v1:Sv} {s2:Sc} (h1:v1.S = v.S∧v1.T = v.T∧v1.q.P = v.q.P∧Mod (scX v) w w1∧∀ b ∈ scX v1,b ∈ scX v ∨ w.heap.size ≤ b) (h2:ScRes base w1 v1 s2 w2):ScRes base w v s2 w2:=by
 obtain ⟨e1,e2,e3,hm,hx⟩:=h1
 obtain ⟨v2,a1,a2,a3,a4,a5,a6⟩:=h2
 refine ⟨v2,a1.trans e1,a2.trans e2,a3.trans e3,a4,hm.trans a5 hx,fun b hb => ?_⟩
 rcases a6 b hb with h | h
 · exact hx b h
 · exact .inr (Nat.le_trans hm.size h)
theorem ScRes.pre {w1 w2:World} {s2:Sc} (hb:Below w.heap.size w w1) (h2:ScRes base w1 v s2 w2):ScRes base w v s2 w2:=ScRes.trans ⟨rfl,rfl,rfl,Mod.of_below hb,fun _ hb => .inl hb⟩ h2
theorem ScO.put {s':Sc} (h:ScO base w v s) (i:Nat) (x:Value) (he:(encSc s v.q.P v.T).set i x = encSc s' v.q.P v.T) (hp:s'.pg = s.pg) (ht:s'.st = s.st):ScO base (w.setCell ⟨v.S,i,none⟩ x) v s':=by
 have hM:Mod [v.S] w (w.setCell ⟨v.S,i,none⟩ x):=(Mod.refl _ _).setCell (a:=⟨v.S,i,none⟩) (.inl (by simp)) _
 refine ⟨?_,h.hb,?_,?_⟩
 · rw [← he]
   have:=heap_setCell_eq (o:=i) (v:=x) h.blk
   rw [List.setIfInBounds_toArray] at this
   exact this
 · rw [hp]
   exact h.page.mod hM (fun b hb cs f he => by rw [List.mem_singleton.1 hb] at he;exact block_ne h.blk he (by decide) rfl) (fun b hb hx => h.np (by rw [← List.mem_singleton.1 hx];exact hb))
 · rw [ht]
   exact h.tabs.mod hM (fun b hb hx => h.nt (by rw [← List.mem_singleton.1 hx];exact hb))
theorem ScO.mod_put (i:Nat) (x:Value):Mod (scX v) w (w.setCell ⟨v.S,i,none⟩ x):=(Mod.refl _ _).setCell (a:=⟨v.S,i,none⟩) (.inl (by simp [scX])) _
theorem ScO.paged {g':Pg} {w':World} (h:ScO base w v s) (hp:PgRes base w v.q g' w'):ScRes base w v { s with pg:=g' } w':=by
 obtain ⟨q',e1,e2,hq,hm,hx⟩:=hp
 have hS:=(hm.block v.S (Array.getElem?_eq_some_iff.1 h.blk).1 h.np).trans h.blk
 refine ⟨{ v with q:=q' },rfl,rfl,e1,⟨?_,h.hb,hq,h.tabs.mod hm h.ntp⟩,hm.mono (fun b hb => by simp [scX,hb]),fun b hb => ?_⟩
 · show w'.heap[v.S]? = some (.cells (encSc { s with pg:=g' } q'.P v.T).toArray _ _)
   rw [e1];exact hS
 · have hb2:b ∈ v.S :: (tbX v.T v.vw ++ pgX q'):=hb
   rcases List.mem_cons.1 hb2 with rfl | hb2
   · exact .inl (by simp [scX])
   rcases List.mem_append.1 hb2 with hb2 | hb2
   · exact .inl (by simp [scX,hb2])
   · rcases hx b hb2 with h1 | h1
     · exact .inl (by simp [scX,h1])
     · exact .inr h1
theorem sPage_any (h:ScO base w v s):Calls Tryz.prog 78 #[.pointer (some ⟨v.S,0,none⟩)] w fun e w' => e = .returned (.pointer (some ⟨v.q.P,0,none⟩))∧w = w':=by
 obtain ⟨x0,-⟩:=at_ h.blk 14 (.pointer (some ⟨v.q.P,0,none⟩)) rfl
 clear h
 go_enter Tryz.func78,Tryz.ntmps78
 go_wp2
 go_ret
 exact ⟨rfl,rfl⟩
theorem sCols_any (h:ScO base w v s):Calls Tryz.prog 197 #[.pointer (some ⟨v.S,0,none⟩)] w fun e w' => e = .returned (.int .i64 s.pg.cols)∧w = w':=by
 have HP:=Hd (sPage_any h)
 have HC:=Hd (pCols_any h.page)
 clear h
 go_enter Tryz.func197,Tryz.ntmps197
 go_wp2_with (first
  | (go_at_call 78;refine HP.out.mono ?_;rintro e w1 ⟨rfl,rfl⟩)
  | (go_at_call 226;refine HC.out.mono ?_;rintro e w1 ⟨rfl,rfl⟩))
 go_ret
 exact ⟨rfl,rfl⟩
theorem sRows_any (h:ScO base w v s):Calls Tryz.prog 152 #[.pointer (some ⟨v.S,0,none⟩)] w fun e w' => e = .returned (.int .i64 s.pg.scr.length)∧w = w':=by
 have HP:=Hd (sPage_any h)
 have HC:=Hd (pRows_any h.page)
 clear h
 go_enter Tryz.func152,Tryz.ntmps152
 go_wp2_with (first
  | (go_at_call 78;refine HP.out.mono ?_;rintro e w1 ⟨rfl,rfl⟩)
  | (go_at_call 145;refine HC.out.mono ?_;rintro e w1 ⟨rfl,rfl⟩))
 go_ret
 exact ⟨rfl,rfl⟩
theorem info_color:(Tryz.prog.info? 61).map (·.size) = some 2:=by kernel_rfl
theorem sBack_any (h:ScO base w v s):Calls Tryz.prog 279 #[.pointer (some ⟨v.S,0,none⟩)] w fun e w' => e = .returned (.agg #[.int .i64 s.pen.at_.bk,.int .i64 s.pen.at_.bn])∧Below w.heap.size w w':=by
 obtain ⟨x0,-⟩:=at_ h.blk 2 (.int .i64 s.pen.at_.bk) rfl
 obtain ⟨x1,-⟩:=at_ h.blk 3 (.int .i64 s.pen.at_.bn) rfl
 have hl:=lt_of_cell x0
 clear h
 go_enter Tryz.func279,Tryz.ntmps279
 go_wp2
 exact bodyPost_ret (ret_agg rfl _ _ w.heap.size [.int .i64 s.pen.at_.bk,.int .i64 s.pen.at_.bn] rfl (range_new (hp_new rfl)) Tryz.underlying61 rfl info_color) rfl ⟨rfl,below_allocs (Below.refl _ _) _⟩
theorem sIn_any (h:ScO base w v s):Calls Tryz.prog 182 #[.pointer (some ⟨v.S,0,none⟩)] w fun e w' => e = .returned (.int .i64 (inS s))∧Below w.heap.size w w':=by
 have HC:Hid (∀ w',Below w.heap.size w w'→Calls Tryz.prog 197 #[.pointer (some ⟨v.S,0,none⟩)] w' fun e w2 => e = .returned (.int .i64 s.pg.cols)∧w' = w2):=Hd (fun w' hb => sCols_any (h.below hb))
 obtain ⟨x0,-⟩:=at_ h.blk 17 (.int .i64 s.x) rfl
 have h2:=h.page.cols2
 have h3:=h.page.cols1000
 have hw:IntKind.i64.wrap ((s.pg.cols:Int) - 1) = (s.pg.cols:Int) - 1:=IntWalk.i64_in _ (by omega)
 unfold inS colsS
 clear h
 go_enter Tryz.func182,Tryz.ntmps182
 go_upto_region 1 with fail
 refine wp_region_u 8 (fun w' => Below w.heap.size w w'∧w'.cell? ⟨v.S,17,none⟩ = some (.int .i64 s.x)) (by kernel_rfl) (by kernel_rfl) ?_ ?_
 · exact ⟨(Below.refl _ _).drew,x0⟩
 simp only [List.take_succ_cons,List.take_zero,List.drop_succ_cons,List.drop_zero]
 repeat (
  (first
   | refine seqU_skip (by rfl) ?_
   | ((refine seqU_call 197 #[.pointer (some ⟨v.S,0,none⟩)] (.int .i64 s.pg.cols) (by rfl) ?_ (fun w' hS => (HC.out w' hS.1).mono fun e w2 ⟨he,hb⟩ => ⟨he,hb ▸ hS⟩) ?_;(focus (intro w2;go_simp;done))))
   | (refine seqU_val ?_ (by rfl) ?_ ?_;rotate_left;(focus (intro w' hS;obtain ⟨_,_⟩:=hS;go_simp;first | done | with_reducible rfl))))
  simp only [Act.put,List.setIfInBounds_toArray,List.set_cons_zero,List.set_cons_succ])
 refine seqU_nil (fun w' hS => ?_)
 go_wp2
 all_goals
  go_ret
  exact ⟨by simp;omega,hS.1⟩
end
end Go.Proofs.YtaefcahblmopfaaGreatDoor
