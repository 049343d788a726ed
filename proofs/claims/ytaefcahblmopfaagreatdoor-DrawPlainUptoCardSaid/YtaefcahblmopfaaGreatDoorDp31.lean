/- Joined by a tool of this claim out of smaller texts. Conditions: as stated. -/
import Derived.Test.YtaefcahblmopfaaGreatDoorDp30
import Derived.Deep.CutBlock
import Derived.Deep.DeepCutAuto
set_option linter.unusedVariables false
set_option linter.unusedSimpArgs false
set_option maxRecDepth 100000
open Go.Lib renaming hid → Hd
namespace Go.Proofs.YtaefcahblmopfaaGreatDoor
open Go.RowKit
theorem codes_len2 {a:Atr} (ha:RightA a):(joinI (codesA a)).length ≤ 126:=by
 obtain ⟨-,-,c3⟩:=codesA_ok ha
 obtain ⟨h1,h2,-⟩:=ha.parts
 have p1:=paintC_ok (m:=38) (by decide) h1
 have p2:=paintC_ok (m:=48) (by decide) h2
 have:=joinI_len _ c3
 have hf:(flagCs a.fl).length ≤ 10:=by
  unfold flagCs
  rw [List.length_map]
  exact List.length_filter_le _ _
 have:(codesA a).length ≤ 21:=by
  unfold codesA
  simp only [List.length_cons,List.length_append]
  omega
 omega
theorem turnI_len2 (on:Atr) {a:Atr} (ha:RightA a):(turnI on a).length ≤ 129:=by
 unfold turnI
 have:=codes_len2 ha
 split
 · simp
 · simp;omega
theorem putB_len4 (r:Int):(putB r).size ≤ 4:=by
 unfold putB
 split
 · repeat' split
   all_goals (first | exact (by decide:(1:Nat) ≤ 4) | exact (by decide:(2:Nat) ≤ 4) | exact (by decide:(3:Nat) ≤ 4) | exact Nat.le_refl 4)
 · decide
theorem DrawOk.at_ {c:Cl} (h:DrawOk c):RightA (atrOf c):=h.2.1
theorem DrawOk.more {c:Cl} (h:DrawOk c):c.more.size ≤ 32:=by
 rcases h.1 with ⟨-,h,-⟩ | ⟨-,⟨L,-,-,h⟩,-⟩
 · rw [h];decide
 · exact h
theorem cellI_len {c:Cl} (h:DrawOk c):(cellI c).length ≤ 36:=by
 have h1:=putB_len4 c.r
 have h2:=h.more
 unfold cellI
 rw [List.length_append,numsOf_len,numsOf_len]
 omega
theorem cellsI_len:∀ (cs:List Cl) (on:Atr),(∀ c ∈ cs,DrawOk c)→(cellsI on cs).1.length ≤ 165 * cs.length
 | [],_,_ => Nat.le_refl _
 | c :: cs,on,h => by
   have hc:=h c (List.mem_cons_self ..)
   have h1:=cellI_len hc
   have h2:=turnI_len2 on hc.at_
   have h3:=cellsI_len cs on (fun d hd => h d (List.mem_cons_of_mem _ hd))
   have h4:=cellsI_len cs (atrOf c) (fun d hd => h d (List.mem_cons_of_mem _ hd))
   unfold cellsI
   split
   · rw [List.length_cons];omega
   · simp only [List.length_append,List.length_cons];omega
theorem cellsI_snoc (c:Cl):∀ (cs:List Cl) (on:Atr),cellsI on (cs ++ [c]) = if c.half = 2 then cellsI on cs else ((cellsI on cs).1 ++ (turnI (cellsI on cs).2 (atrOf c) ++ cellI c),atrOf c)
 | [],on => by
   show cellsI on [c] = _
   unfold cellsI
   split
   · rfl
   · simp [cellsI]
 | d :: cs,on => by
   rw [List.cons_append]
   unfold cellsI
   split
   · rw [cellsI_snoc c cs on]
   · rw [cellsI_snoc c cs (atrOf d)]
     split
     · rfl
     · simp only [List.append_assoc]
theorem cells_step {cs:List Cl} {k:Nat} {c:Cl} (on:Atr) (h:cs[k]? = some c):cellsI on (cs.take (k + 1)) = if c.half = 2 then cellsI on (cs.take k) else ((cellsI on (cs.take k)).1 ++ (turnI (cellsI on (cs.take k)).2 (atrOf c) ++ cellI c),atrOf c):=by
 rw [← cellsI_snoc]
 congr 1
 obtain ⟨hk,rfl⟩:=List.getElem?_eq_some_iff.1 h
 rw [List.take_succ_eq_append_getElem hk]
def CB (base:Nat) (w:World) (A:Option Addr) (cs:List Cl):Prop:=∀ w',Below base w w'→ClsAt w' A cs
theorem CB.on {base:Nat} {w w':World} {A:Option Addr} {cs:List Cl} (h:CB base w A cs) (hb:Below base w w'):CB base w' A cs:=fun w2 h2 => h w2 (hb.trans h2)
theorem u8_nums (s:ByteArray):u8 (numsOf s) = s.data.toList:=by
 unfold u8 numsOf
 show (List.map (fun n:Int => UInt8.ofNat n.toNat) _).toArray.toList = _
 rw [List.toList_toArray,List.map_map]
 refine (List.map_congr_left (fun b _ => ?_)).trans (List.map_id _)
 show UInt8.ofNat ((b.toNat:Int)).toNat = b
 simp
section
variable {base:Nat} {w:World} {v:Pn} {on:Atr} {l:List UInt8}
set_option maxHeartbeats 3200000 in
theorem pwritten_any (h:PnO base w v on l) (hbw:base ≤ w.heap.size) (ht:TB base w) (y x:Nat) (hy:y ≤ 1000) (hx:x ≤ 1000) (A:Option Addr) (cs:List Cl) (ca:Nat) (hc:CB base w A cs) (hok:∀ c ∈ cs,DrawOk c) (hz:cs.length ≤ 1000) (hl:l.length ≤ 80000000) :
 Calls Tryz.prog 247 #[.pointer (some ⟨v.P,0,none⟩),.int .i64 y,.int .i64 x,.slice A cs.length ca] w (PnPost base w v (cellsI on cs).2 (l ++ u8 (movI y x ++ (cellsI on cs).1))):=by
 have hm1:=movI_len y x hy hx
 have HO:=Hd h
 have HM:=Hd (pmove_any h hbw ht.tab y x hy hx (by omega))
 have HT:=Hd ht
 have HBW:=Hd hbw
 have HC:=Hd hc
 have HOK:=Hd hok
 have HLZ:=Hd (And.intro hl (And.intro hm1 hz))
 clear h hbw ht hc hok hm1 hl hy hx
 go_enter Tryz.func247,Tryz.ntmps247
 go_wp2_with (go_at_call 158;(with_reducible refine HM.out.mono ?_);rintro e w1 ⟨rfl,hr⟩;have HR:=Hd hr;clear hr)
 go_loopw [16] (fun i wr => ∃ k:Nat,k ≤ cs.length∧i = .int .i64 k∧PnRes base w v (cellsI on (cs.take k)).2 (l ++ u8 (movI y x ++ (cellsI on (cs.take k)).1)) wr) (fun i _ => cs.length - (intOf i).toNat)
 case atStart => exact ⟨0,Nat.zero_le _,rfl,by rw [List.take_zero,show cellsI on [] = ([],on) from rfl,List.append_nil];exact HR.out⟩
 case round =>
  obtain ⟨k,hk,rfl,hR⟩:=hrel
  by_cases hlt:k < cs.length
  · have hB:Below base w wr:=PnRes.below HO.out HBW.out hR
    have hsz:base ≤ wr.heap.size:=Nat.le_trans HBW.out hB.size
    obtain ⟨b',off',c,rfl,hcg,hca⟩:=(HC.out wr hB).at_ hlt
    have hT:=HT.out.on hB
    have hD:=HOK.out c (List.mem_of_getElem? hcg)
    have hln:=cellsI_len (cs.take k) on (fun c hc => HOK.out c (List.mem_of_mem_take hc))
    have hlt2:(cs.take k).length ≤ 1000:=by have:=HLZ.out.2.2;rw [List.length_take];omega
    have hl1:(l ++ u8 (movI y x ++ (cellsI on (cs.take k)).1)).length ≤ 80170000:=by have:=HLZ.out;rw [List.length_append,u8_len,List.length_append];omega
    have hst:=cells_step on hcg
    have hfin:∀ w',PnRes base w v (if c.half = 2 then (cellsI on (cs.take k)).2 else atrOf c) (if c.half = 2 then l ++ u8 (movI y x ++ (cellsI on (cs.take k)).1) else l ++ u8 (movI y x ++ (cellsI on (cs.take k)).1) ++ u8 (turnI (cellsI on (cs.take k)).2 (atrOf c)) ++ u8 (numsOf (putB c.r)) ++ u8 (numsOf c.more)) w'→PnRes base w v (cellsI on (cs.take (k + 1))).2 (l ++ u8 (movI y x ++ (cellsI on (cs.take (k + 1))).1)) w':=fun w' h => by
     rw [hst]
     split
     · rename_i h2
       rw [if_pos h2,if_pos h2] at h
       exact h
     · rename_i h2
       rw [if_neg h2,if_neg h2] at h
       unfold cellI
       simp only [u8_append,List.append_assoc] at h ⊢
       exact h
    generalize (cellsI on (cs.take k)).2 = on1 at hR hfin
    generalize l ++ u8 (movI y x ++ (cellsI on (cs.take k)).1) = l1 at hR hfin hl1
    have hHO2:=HO.out
    clear hst hln hlt2 hcg
    obtain ⟨r0,r1,r2,r3,r4,r5,r6,r7⟩:=hca
    obtain ⟨cr,cm,chf,c3,c4,c5,c6,c7⟩:=c
    have hat:RightA ⟨c3,c4,c5,c6,c7⟩:=hD.at_
    have hmo:=hD.more
    have hlt3:=HO.out.lt
    simp only at r0 r1 r2 r3 r4 r5 r6 r7 hmo
    simp only [show ∀ (q:Int),atrOf ⟨cr,cm,chf,c3,c4,c5,c6,c7⟩ = ⟨c3,c4,c5,c6,c7⟩ from fun _ => rfl] at hfin
    have HFIN:=Hd hfin
    have HBC:=Hd (below_allocs (Below.refl wr.heap.size wr) (.cells #[.int .i32 cr,.string cm,.int .i64 chf,.int .i64 c3,.int .i64 c4,.int .i64 c5,.int .i64 c6,.int .i64 c7] 65))
    obtain ⟨v1,a1,a2,a3,a4,a5⟩:=hR
    have HTu:=Hd (pturn_any (a3.below HBC.out) (Nat.le_trans hsz HBC.out.size) (hT.tab.below HBC.out) ⟨c3,c4,c5,c6,c7⟩ hat (by omega))
    rw [a1] at HTu
    have HAT:=Hd hat
    have HR1:=Hd (And.intro a1 (And.intro a2 (And.intro a3 (And.intro a4 (And.intro a5 (And.intro hsz (And.intro hT (And.intro hl1 hmo))))))))
    clear hB hsz hT hD hfin hl1 a1 a2 a3 a4 a5 hat hmo hHO2 hlt3
    by_cases h2:chf = 2
    · subst h2
      go_wp2_with fail
      go_roundw
      case rel =>
       obtain ⟨a1,a2,a3,a4,a5,-⟩:=HR1.out
       exact ⟨k + 1,by omega,by go_num,HFIN.out _ (by rw [if_pos rfl,if_pos rfl];exact PnRes.post ⟨v1,a1,a2,a3,a4,a5⟩ HBC.out)⟩
      case measure => simp [intOf];omega
    · have h2b:(chf == 2) = false:=by simpa using h2
      have h2c:(chf != 2) = true:=by simpa using h2
      go_upto_region 6 with (go_at_call 157;(with_reducible refine HTu.out.mono ?_);rintro e w2 ⟨rfl,hr⟩;have HR:=Hd hr;clear hr)
      obtain ⟨a1,a2,a3,a4,a5,hsz,hT,hl1,hmo⟩:=HR1.out
      have hlt1:¬ wr.heap.size ∈ pnX v1:=fun hx => by have:=(a3.lt _ hx).2;omega
      have hs2:base ≤ wr.heap.size:=hsz
      have hB2:Below base wr w2:=by
       refine (HBC.out.mono hsz).trans (PnRes.below (a3.below HBC.out) (Nat.le_trans hsz HBC.out.size) HR.out)
      obtain ⟨v2,b1,b2,b3,b4,b5⟩:=HR.out
      have hx2:=(b4.block wr.heap.size (by rw [World.size_alloc];omega) hlt1).trans (hp_new rfl)
      have y0:=(at_ hx2 0 _ rfl).1
      have y1:=(at_ hx2 1 _ rfl).1
      have hw2:base ≤ w2.heap.size:=Nat.le_trans hsz (Nat.le_trans HBC.out.size b4.size)
      have hln2:(l1 ++ u8 (turnI on1 ⟨c3,c4,c5,c6,c7⟩)).length ≤ 80170000 + 129:=by
       have:=turnI_len2 on1 HAT.out
       rw [List.length_append,u8_len]
       omega
      have HPUT:Hid (∀ w':World,Below w2.heap.size w2 w'→Calls Tryz.prog 102 #[.int .i32 cr] w' fun e w2 => e = .returned (.string (putB cr))∧Below w'.heap.size w' w2):=Hd (fun w' _ => uput_any cr w')
      have HWR:Hid (∀ w',Below w2.heap.size w2 w'→Calls Tryz.prog 101 #[.pointer (some ⟨v.B,0,none⟩),.string (putB cr)] w' (fun e w2 => (∃ k:Int,e = .returned (.tuple #[.int .i64 k,.nilIface]))∧PnRes base w' v2 ⟨c3,c4,c5,c6,c7⟩ (l1 ++ u8 (turnI on1 ⟨c3,c4,c5,c6,c7⟩) ++ u8 (numsOf (putB cr))) w2)):=Hd (fun w' hb => by
       rw [u8_nums,← a2,← b2]
       exact (pwrite_any (b3.below hb) (Nat.le_trans hw2 hb.size) (putB cr) (by have:=putB_len4 cr;omega)).mono (fun e w2 h => ⟨⟨_,h.1⟩,h.2⟩))
      obtain ⟨⟨c0,-⟩,-⟩:=b3.facts
      rw [b1,a1,b2,a2] at c0
      have hputl:=putB_len4 cr
      generalize putB cr = pu at HPUT HWR HFIN hputl
      have H2:=Hd (And.intro b1 (And.intro b2 (And.intro b3 (And.intro b4 (And.intro b5 (And.intro hB2 (And.intro hx2 (And.intro hw2 (And.intro hln2 hputl)))))))))
      clear a1 a2 a3 a4 a5 hsz hT hl1 hlt1 hs2 hB2 b1 b2 b3 b4 b5 hx2 hw2 hln2 HTu HM hputl r0 r1 r2 r3 r4 r5 r6 r7
      refine wp_region_u 7 (fun w' => Below w2.heap.size w2 w'∧w'.cell? ⟨v.P,0,none⟩ = some (.pointer (some ⟨v.B,0,none⟩))∧w'.cell? ⟨wr.heap.size,0,none⟩ = some (.int .i32 cr)) (by kernel_rfl) (by kernel_rfl) ?_ ?_
      · exact ⟨(Below.refl _ _).drew,c0,y0⟩
      simp only [List.take_succ_cons,List.take_zero,List.drop_succ_cons,List.drop_zero]
      repeat (
       (first
        | refine seqU_skip (by rfl) ?_
        | ((refine seqU_call 102 #[.int .i32 cr] (.string pu) (by rfl) ?_ (fun w' hS => (HPUT.out w' hS.1).mono fun e w2 ⟨he,hb⟩ => ⟨he,below_tail hS.1 hb,holda hb hS.2.1,holda hb hS.2.2⟩) ?_;(focus (intro w2;go_simp;done))))
        | (refine seqU_val ?_ (by rfl) ?_ ?_;rotate_left;(focus (intro w' hS;obtain ⟨hS0,hS1,hS2⟩:=hS;go_simp;first | done | with_reducible rfl))))
       simp only [Act.put,List.setIfInBounds_toArray,List.set_cons_zero,List.set_cons_succ])
      refine seqU_nil (fun w' hS => ?_)
      have HB5:=Hd hS.1
      clear hS c0 y0 y1
      go_upto_region 7 with (go_at_call 101;(with_reducible refine (HWR.out _ HB5.out).mono ?_);rintro e w6 ⟨⟨n6,rfl⟩,hr⟩;have HR6:=Hd (PnRes.pre HB5.out hr);clear hr)
      obtain ⟨b1,b2,b3,b4,b5,hB2,hx2,hw2,hln2,hputl⟩:=H2.out
      obtain ⟨a1,a2,a3,a4,a5,hsz,hT,hl1,hmo⟩:=HR1.out
      have hlt2:¬ wr.heap.size ∈ pnX v2:=fun hx => by
       rcases b5 _ hx with h | h
       · have:=(a3.lt _ h).2;omega
       · rw [World.size_alloc] at h;omega
      obtain ⟨v3,d1,d2,d3,d4,d5⟩:=HR6.out
      have hx3:=(d4.block wr.heap.size (lt_of_heap hx2) hlt2).trans hx2
      have y1:=(at_ hx3 1 _ rfl).1
      have hw3:base ≤ w6.heap.size:=Nat.le_trans hw2 d4.size
      have HWR2:Hid (∀ w',Below w6.heap.size w6 w'→Calls Tryz.prog 101 #[.pointer (some ⟨v.B,0,none⟩),.string cm] w' (fun e w2 => (∃ k:Int,e = .returned (.tuple #[.int .i64 k,.nilIface]))∧PnRes base w' v3 ⟨c3,c4,c5,c6,c7⟩ (l1 ++ u8 (turnI on1 ⟨c3,c4,c5,c6,c7⟩) ++ u8 (numsOf pu) ++ u8 (numsOf cm)) w2)):=Hd (fun w' hb => by
       rw [u8_nums cm,← a2,← b2,← d2]
       refine (pwrite_any (d3.below hb) (Nat.le_trans hw3 hb.size) cm ?_).mono (fun e w2 h => ⟨⟨_,h.1⟩,h.2⟩)
       rw [List.length_append,u8_len,numsOf_len]
       omega)
      obtain ⟨⟨c0,-⟩,-⟩:=d3.facts
      rw [d1,b1,a1,d2,b2,a2] at c0
      have H6:=Hd (And.intro d1 (And.intro d2 (And.intro d4 d5)))
      clear a1 a2 a3 a4 a5 hsz hT hl1 hlt2 hB2 b1 b2 b3 b4 b5 hx2 hw2 hln2 hputl hx3 hw3 hmo d1 d2 d3 d4 d5
      refine wp_region_u 6 (fun w' => Below w6.heap.size w6 w'∧w'.cell? ⟨v.P,0,none⟩ = some (.pointer (some ⟨v.B,0,none⟩))∧w'.cell? ⟨wr.heap.size,1,none⟩ = some (.string cm)) (by kernel_rfl) (by kernel_rfl) ?_ ?_
      · exact ⟨(Below.refl _ _).drew,c0,y1⟩
      simp only [List.take_succ_cons,List.take_zero,List.drop_succ_cons,List.drop_zero]
      repeat (
       (first
        | refine seqU_skip (by rfl) ?_
        | (refine seqU_val ?_ (by rfl) ?_ ?_;rotate_left;(focus (intro w' hS;obtain ⟨hS0,hS1,hS2⟩:=hS;go_simp;first | done | with_reducible rfl))))
       simp only [Act.put,List.setIfInBounds_toArray,List.set_cons_zero,List.set_cons_succ])
      refine seqU_nil (fun w' hS => ?_)
      have HB7:=Hd hS.1
      clear hS c0 y1
      go_wp2_with (go_at_call 101;(with_reducible refine (HWR2.out _ HB7.out).mono ?_);rintro e w8 ⟨⟨n8,rfl⟩,hr⟩;have HR8:=Hd (PnRes.pre HB7.out hr);clear hr)
      go_roundw
      case rel =>
       obtain ⟨a1,a2,a3,a4,a5,-⟩:=HR1.out
       obtain ⟨b1,b2,b3,b4,b5,-⟩:=H2.out
       obtain ⟨d1,d2,d4,d5⟩:=H6.out
       refine ⟨k + 1,by omega,by go_num,HFIN.out _ ?_⟩
       rw [if_neg h2,if_neg h2]
       exact PnRes.trans a1 a2 a5 a4 (PnRes.pre HBC.out (PnRes.trans b1 b2 b5 b4 (PnRes.trans d1 d2 d5 d4 HR8.out)))
      case measure => simp [intOf];omega
  · obtain rfl:k = cs.length:=by omega
    rw [List.take_length] at hR
    go_wp2
    go_end0
    exact ⟨rfl,hR⟩
end
def cellZ:Array Value:=#[.int .i32 0,.string ByteArray.empty,.int .i64 0,.int .i64 0,.int .i64 0,.int .i64 0,.int .i64 0,.int .i64 0]
theorem runN_step {cs:List Cl} {x n:Nat} {c d:Cl} (hc:cs[x]? = some c) (hd:cs[x + n]? = some d) (h:runN (cs.drop x) = n + ((cs.drop (x + n)).takeWhile (sameR c)).length):runN (cs.drop x) = if sameR c d = true then (n + 1) + ((cs.drop (x + (n + 1))).takeWhile (sameR c)).length else n:=by
 obtain ⟨hx,rfl⟩:=List.getElem?_eq_some_iff.1 hd
 rw [h,List.drop_eq_getElem_cons hx,List.takeWhile_cons]
 split
 · rw [List.length_cons,show x + (n + 1) = x + n + 1 by omega]
   omega
 · rfl
theorem runN_one {cs:List Cl} {x:Nat} {c:Cl} (hc:cs[x]? = some c):runN (cs.drop x) = 1 + ((cs.drop (x + 1)).takeWhile (sameR c)).length:=by
 obtain ⟨hx,rfl⟩:=List.getElem?_eq_some_iff.1 hc
 rw [List.drop_eq_getElem_cons hx]
 show (List.takeWhile _ _).length + 1 = _
 omega
set_option maxHeartbeats 3200000 in
theorem drun_any (A:Option Addr) (cs:List Cl) (ca x:Nat) (w:World) (hc:ClsAt w A cs) (hx:x < cs.length) (hz:cs.length ≤ 1000) :
 Calls Tryz.prog 245 #[.slice A cs.length ca,.int .i64 x] w fun e w' => e = .returned (.int .i64 (runN (cs.drop x)))∧Below w.heap.size w w':=by
 obtain ⟨b,off,c,rfl,hcg,hca⟩:=hc.at_ hx
 have HC:=Hd hc
 have H1:=Hd (runN_one hcg)
 have HCG:=Hd hcg
 have HCA0:=Hd hca
 obtain ⟨R,hR⟩:∃ R,runN (cs.drop x) = R:=⟨_,rfl⟩
 rw [hR] at H1 ⊢
 have HR:=Hd hR
 clear hc hcg hca hR
 go_enter Tryz.func245,Tryz.ntmps245
 go_wp2_with fail
 go_loopw [5] (fun i wr => ∃ n:Nat,1 ≤ n∧x + n ≤ cs.length∧i = .int .i64 n∧Below w.heap.size w wr∧R = n + ((cs.drop (x + n)).takeWhile (sameR c)).length) (fun i _ => cs.length - (intOf i).toNat)
 case atStart => exact ⟨1,Nat.le_refl _,by omega,rfl,Below.refl _ _,H1.out⟩
 case round =>
  obtain ⟨n,hn1,hn,rfl,hB,hrun⟩:=hrel
  obtain ⟨q,hq⟩:∃ q:Nat,(x:Int) + n = q:=⟨x + n,by omega⟩
  have hqx:q = x + n:=by omega
  have HQX:=Hd hqx
  have hwq:IntKind.i64.wrap (q:Int) = q:=IntWalk.i64_in _ (by omega)
  by_cases hlt:q < cs.length
  · obtain ⟨d,hdg⟩:∃ d,cs[x + n]? = some d:=⟨_,List.getElem?_eq_getElem (by omega)⟩
    have HRUN:=Hd (runN_step HCG.out hdg (HR.out.trans hrun))
    have hda:ClAt wr b (off + q * 8) d:=by
     rw [hqx]
     exact ((HC.out.below hB).cell hdg)
    have hca:=HCA0.out.below hB
    have HCA:=Hd hca
    have HDA:=Hd hda
    have HBW:=Hd hB
    have HWS:Hid (wr.heap.size < wr.heap.size + 1):=Hd (Nat.lt_succ_self _)
    clear hdg hrun hB hqx
    go_upto_region 3 with fail
    go_cut [6,7] (fun s6 s7 w' => ∃ g6 g7:Nat,s6 = .pointer (some ⟨g6,0,none⟩)∧s7 = .pointer (some ⟨g7,0,none⟩)∧Below wr.heap.size wr w'∧w'.heap[g6]? = some (.cells (encCl c).toArray 65 (0,0))∧w'.heap[g7]? = some (.cells (encCl d).toArray 65 (0,0)))
    case first =>
     refine Go.RL.wp_region_l 13 (fun w' => Below wr.heap.size wr w'∧ClAt w' b (off + x * 8) c∧ClAt w' b (off + q * 8) d) (fun _ => True) (by kernel_rfl) (by kernel_rfl) ⟨(Below.refl _ _).drew,hca,hda⟩ trivial ?_
     clear hca hda
     refine Go.RL.AtL.go 0 ?_
     iterate 10 (refine Go.RL.AtK.take (o:=⟨_,_,_,_,_,_⟩) (v:=?_) (by kernel_rfl) rfl (by simp) (by kernel_rfl) (by kernel_rfl) ?_ ?_;rotate_left;(focus (refine Go.RL.Pure.val (by rfl) ?_;intro w' hI;obtain ⟨_,⟨_,_,_,_,_,_,_,_⟩,_,_,_,_,_,_,_,_⟩:=hI;go_simp;first | done | with_reducible rfl));simp only [Act.put,List.setIfInBounds_toArray,List.set_cons_zero,List.set_cons_succ])
     refine Go.RL.AtK.back ?_
     refine Go.RL.AtL.two 10 11 (o:=⟨_,_,_,_,_,_⟩) (o':=⟨_,_,_,_,_,_⟩) (fun v => ∃ g,v = .pointer (some ⟨g,0,none⟩)∧wr.heap.size ≤ g) (fun v => ∃ g,v = .pointer (some ⟨g,0,none⟩)∧wr.heap.size ≤ g) (fun v w' => ∀ g,v = .pointer (some ⟨g,0,none⟩)→w'.heap[g]? = some (.cells cellZ 65 (0,0))) (fun v w' => ∀ g,v = .pointer (some ⟨g,0,none⟩)→w'.heap[g]? = some (.cells cellZ 65 (0,0))) (by simp) (by simp) (by kernel_rfl) rfl rfl
      (Go.RL.StabL.op _ _ (by rfl) (fun w' hI hS => ?_)) (Go.RL.StabL.op _ _ (by rfl) (fun w' hI hS => ?_)) ?_ ?_
     · have hbb:=below_allocs hI.1 (.cells cellZ 65)
       exact ⟨.pointer (some ⟨w'.heap.size,0,none⟩),w'.alloc (.cells cellZ 65),by unfold cellZ;clear hI;go_simp;rfl,⟨_,rfl,hI.1.size⟩,⟨hbb,HCA.out.below hbb,HDA.out.below hbb⟩,fun g hg => by cases hg;exact hp_new rfl⟩
     · have hbb:=below_allocs hI.1 (.cells cellZ 65)
       exact ⟨.pointer (some ⟨w'.heap.size,0,none⟩),w'.alloc (.cells cellZ 65),by unfold cellZ;clear hI;go_simp;rfl,⟨_,rfl,hI.1.size⟩,⟨hbb,HCA.out.below hbb,HDA.out.below hbb⟩,fun g hg => by cases hg;exact hp_new rfl⟩
     · rintro v ⟨g,rfl,hg⟩
       simp only [Act.put,List.setIfInBounds_toArray,List.set_cons_zero,List.set_cons_succ]
       refine Go.RL.AtL.one 11 (o:=⟨_,_,_,_,_,_⟩) (fun v => ∃ g',v = .pointer (some ⟨g',0,none⟩)∧wr.heap.size ≤ g'∧g' ≠ g) (fun v w' => w'.heap[g]? = some (.cells cellZ 65 (0,0))∧∀ g',v = .pointer (some ⟨g',0,none⟩)→w'.heap[g']? = some (.cells cellZ 65 (0,0))) (by simp) (by kernel_rfl) rfl (Go.RL.StabL.op _ _ (by rfl) (fun w' hI hS => ?_)) ?_
       · have hbb:=below_allocs hI.1 (.cells cellZ 65)
         have hgl:=lt_of_heap (hS g rfl)
         exact ⟨.pointer (some ⟨w'.heap.size,0,none⟩),w'.alloc (.cells cellZ 65),by unfold cellZ;clear hI;go_simp;rfl,⟨_,rfl,hI.1.size,by omega⟩,⟨hbb,HCA.out.below hbb,HDA.out.below hbb⟩,((below_allocs (Below.refl _ _) _).block g hgl).trans (hS g rfl),fun g hg => by cases hg;exact hp_new rfl⟩
       rintro v ⟨g',rfl,hg',hgn⟩
       simp only [Act.put,List.setIfInBounds_toArray,List.set_cons_zero,List.set_cons_succ]
       have HSX:Hid (∀ w':World,(w'.heap[g]? = some (.cells cellZ 65 (0,0))∧∀ g'',Value.pointer (some ⟨g',0,none⟩) = .pointer (some ⟨g'',0,none⟩)→w'.heap[g'']? = some (.cells cellZ 65 (0,0)))→w'.heap[g]? = some (.cells cellZ 65 (0,0))∧w'.heap[g']? = some (.cells cellZ 65 (0,0))):=Hd (fun w' h => ⟨h.1,h.2 g' rfl⟩)
       have hne:g ≠ g':=by omega
       refine Go.RL.AtL.one 12 (o:=⟨none,.store 65 (.tmp 6) (.tmp 17),_,_,_,_⟩) (fun _ => True) (fun _ w' => w'.heap[g]? = some (.cells (encCl c).toArray 65 (0,0))∧w'.heap[g']? = some (.cells cellZ 65 (0,0))) (by simp) (by kernel_rfl) rfl (Go.RL.StabL.unit _ _ (by rfl) (fun w' hI hS => ?_)) ?_
       · obtain ⟨h6,h7⟩:w'.heap[g]? = some (.cells cellZ 65 (0,0))∧w'.heap[g']? = some (.cells cellZ 65 (0,0)):=HSX.out w' hS
         obtain ⟨hb,hI1,hI2⟩:=hI
         have hbb:Below wr.heap.size wr (w'.setCells g 0 (encCl c)):=below_setCells hb (by omega) _ _
         refine ⟨_,exec_store_mid 65 (.tmp 6) (.tmp 17) rfl g 0 (encCl c).toArray rfl rfl (show World.there _ g 0 8 from there_new h6) info_cell (cl_one c),trivial,⟨hbb,HCA.out.below hbb,HDA.out.below hbb⟩,?_,?_⟩
         · exact whole_setCells (encCl c) 0 cellZ.toList w' h6 (by show 8 ≤ 8;decide)
         · exact ((mod_setCellsN (X:=[g]) (.inl (List.mem_singleton.2 rfl)) (encCl c) 0 w' (Mod.refl _ _)).block g' (lt_of_heap h7) (fun h => hne (List.mem_singleton.1 h).symm)).trans h7
       rintro vS -
       simp only [Act.put]
       refine Go.RL.AtL.done (by kernel_rfl) (fun w' hI hS => ?_)
       obtain ⟨h6,h7⟩:=hS
       obtain ⟨hb,hI1,hI2⟩:=hI
       have hbb:Below wr.heap.size wr (w'.setCells g' 0 (encCl d)):=below_setCells hb (by omega) _ _
       have q6:(w'.setCells g' 0 (encCl d)).heap[g]? = some (.cells (encCl c).toArray 65 (0,0)):=((mod_setCellsN (X:=[g']) (.inl (List.mem_singleton.2 rfl)) (encCl d) 0 w' (Mod.refl _ _)).block g (lt_of_heap h6) (fun h => hne (List.mem_singleton.1 h))).trans h6
       have q7:(w'.setCells g' 0 (encCl d)).heap[g']? = some (.cells (encCl d).toArray 65 (0,0)):=whole_setCells (encCl d) 0 cellZ.toList w' h7 (by show 8 ≤ 8;decide)
       have HBB:=Hd hbb
       have HQ6:=Hd q6
       have HQ7:=Hd q7
       have HTH:Hid (World.there w' g' 0 8):=Hd (there_new h7)
       clear hI1 hI2 hb hbb q6 q7 h6 h7
       simp only [List.drop_succ_cons,List.drop_zero]
       refine wpList_store_mid rfl 65 (.tmp 7) (.tmp 23) rfl (g') (0) ((encCl d).toArray) rfl rfl (HTH.out) info_cell (cl_one d) ?_
       go_wp2_with fail
       go_meet
       exact ⟨_,_,rfl,rfl,HBB.out,HQ6.out,HQ7.out⟩
     · rintro v ⟨g,rfl,hg⟩
       simp only [Act.put,List.setIfInBounds_toArray,List.set_cons_zero,List.set_cons_succ]
       refine Go.RL.AtL.one 10 (o:=⟨_,_,_,_,_,_⟩) (fun v => ∃ g',v = .pointer (some ⟨g',0,none⟩)∧wr.heap.size ≤ g'∧g' ≠ g) (fun v w' => w'.heap[g]? = some (.cells cellZ 65 (0,0))∧∀ g',v = .pointer (some ⟨g',0,none⟩)→w'.heap[g']? = some (.cells cellZ 65 (0,0))) (by simp) (by kernel_rfl) rfl (Go.RL.StabL.op _ _ (by rfl) (fun w' hI hS => ?_)) ?_
       · have hbb:=below_allocs hI.1 (.cells cellZ 65)
         have hgl:=lt_of_heap (hS g rfl)
         exact ⟨.pointer (some ⟨w'.heap.size,0,none⟩),w'.alloc (.cells cellZ 65),by unfold cellZ;clear hI;go_simp;rfl,⟨_,rfl,hI.1.size,by omega⟩,⟨hbb,HCA.out.below hbb,HDA.out.below hbb⟩,((below_allocs (Below.refl _ _) _).block g hgl).trans (hS g rfl),fun g hg => by cases hg;exact hp_new rfl⟩
       rintro v ⟨g',rfl,hg',hgn⟩
       simp only [Act.put,List.setIfInBounds_toArray,List.set_cons_zero,List.set_cons_succ]
       have HSX:Hid (∀ w':World,(w'.heap[g]? = some (.cells cellZ 65 (0,0))∧∀ g'',Value.pointer (some ⟨g',0,none⟩) = .pointer (some ⟨g'',0,none⟩)→w'.heap[g'']? = some (.cells cellZ 65 (0,0)))→w'.heap[g']? = some (.cells cellZ 65 (0,0))∧w'.heap[g]? = some (.cells cellZ 65 (0,0))):=Hd (fun w' h => ⟨h.2 g' rfl,h.1⟩)
       have hne:g' ≠ g:=by omega
       refine Go.RL.AtL.one 12 (o:=⟨none,.store 65 (.tmp 6) (.tmp 17),_,_,_,_⟩) (fun _ => True) (fun _ w' => w'.heap[g']? = some (.cells (encCl c).toArray 65 (0,0))∧w'.heap[g]? = some (.cells cellZ 65 (0,0))) (by simp) (by kernel_rfl) rfl (Go.RL.StabL.unit _ _ (by rfl) (fun w' hI hS => ?_)) ?_
       · obtain ⟨h6,h7⟩:w'.heap[g']? = some (.cells cellZ 65 (0,0))∧w'.heap[g]? = some (.cells cellZ 65 (0,0)):=HSX.out w' hS
         obtain ⟨hb,hI1,hI2⟩:=hI
         have hbb:Below wr.heap.size wr (w'.setCells g' 0 (encCl c)):=below_setCells hb (by omega) _ _
         refine ⟨_,exec_store_mid 65 (.tmp 6) (.tmp 17) rfl g' 0 (encCl c).toArray rfl rfl (show World.there _ g' 0 8 from there_new h6) info_cell (cl_one c),trivial,⟨hbb,HCA.out.below hbb,HDA.out.below hbb⟩,?_,?_⟩
         · exact whole_setCells (encCl c) 0 cellZ.toList w' h6 (by show 8 ≤ 8;decide)
         · exact ((mod_setCellsN (X:=[g']) (.inl (List.mem_singleton.2 rfl)) (encCl c) 0 w' (Mod.refl _ _)).block g (lt_of_heap h7) (fun h => hne (List.mem_singleton.1 h).symm)).trans h7
       rintro vS -
       simp only [Act.put]
       refine Go.RL.AtL.done (by kernel_rfl) (fun w' hI hS => ?_)
       obtain ⟨h6,h7⟩:=hS
       obtain ⟨hb,hI1,hI2⟩:=hI
       have hbb:Below wr.heap.size wr (w'.setCells g 0 (encCl d)):=below_setCells hb (by omega) _ _
       have q6:(w'.setCells g 0 (encCl d)).heap[g']? = some (.cells (encCl c).toArray 65 (0,0)):=((mod_setCellsN (X:=[g]) (.inl (List.mem_singleton.2 rfl)) (encCl d) 0 w' (Mod.refl _ _)).block g' (lt_of_heap h6) (fun h => hne (List.mem_singleton.1 h))).trans h6
       have q7:(w'.setCells g 0 (encCl d)).heap[g]? = some (.cells (encCl d).toArray 65 (0,0)):=whole_setCells (encCl d) 0 cellZ.toList w' h7 (by show 8 ≤ 8;decide)
       have HBB:=Hd hbb
       have HQ6:=Hd q6
       have HQ7:=Hd q7
       have HTH:Hid (World.there w' g 0 8):=Hd (there_new h7)
       clear hI1 hI2 hb hbb q6 q7 h6 h7
       simp only [List.drop_succ_cons,List.drop_zero]
       refine wpList_store_mid rfl 65 (.tmp 7) (.tmp 23) rfl (g) (0) ((encCl d).toArray) rfl rfl (HTH.out) info_cell (cl_one d) ?_
       go_wp2_with fail
       go_meet
       exact ⟨_,_,rfl,rfl,HBB.out,HQ6.out,HQ7.out⟩
    case rest =>
     obtain ⟨g6,g7,rfl,rfl,hb2,h6,h7⟩:=hcut
     have hB3:=below_tail HBW.out hb2
     have HB3:=Hd hB3
     clear hB3 hb2 hca hda HCA HDA HBW HCA0 HC
     have a0:wc.cell? ⟨g6,0,none⟩ = some (.int .i32 c.r):=(at_ h6 0 _ rfl).1
     have a3:wc.cell? ⟨g6,3,none⟩ = some (.int .i64 c.fk):=(at_ h6 3 _ rfl).1
     have a4:wc.cell? ⟨g6,4,none⟩ = some (.int .i64 c.fn):=(at_ h6 4 _ rfl).1
     have a5:wc.cell? ⟨g6,5,none⟩ = some (.int .i64 c.bk):=(at_ h6 5 _ rfl).1
     have a6:wc.cell? ⟨g6,6,none⟩ = some (.int .i64 c.bn):=(at_ h6 6 _ rfl).1
     have a7:wc.cell? ⟨g6,7,none⟩ = some (.int .i64 c.fl):=(at_ h6 7 _ rfl).1
     have b0:wc.cell? ⟨g7,0,none⟩ = some (.int .i32 d.r):=(at_ h7 0 _ rfl).1
     have b3:wc.cell? ⟨g7,3,none⟩ = some (.int .i64 d.fk):=(at_ h7 3 _ rfl).1
     have b4:wc.cell? ⟨g7,4,none⟩ = some (.int .i64 d.fn):=(at_ h7 4 _ rfl).1
     have b5:wc.cell? ⟨g7,5,none⟩ = some (.int .i64 d.bk):=(at_ h7 5 _ rfl).1
     have b6:wc.cell? ⟨g7,6,none⟩ = some (.int .i64 d.bn):=(at_ h7 6 _ rfl).1
     have b7:wc.cell? ⟨g7,7,none⟩ = some (.int .i64 d.fl):=(at_ h7 7 _ rfl).1
     clear h6 h7
     have hsame:sameR c d = ((decide (c.r = 0) == decide (d.r = 0)) && !(decide (c.r = 0) && !eqA (atrOf c) (atrOf d))):=rfl
     have HS:=Hd hsame
     have HXI:=Hd (show ∀ m:Nat,m ≤ cs.length→(IntKind.i64.wrap (m:Int)) = m from fun m hm => IntWalk.i64_in _ (by omega))
     clear hsame
     unfold eqA atrOf at HS
     obtain ⟨cr,cm,chf,c3,c4,c5,c6,c7⟩:=c
     obtain ⟨dr,dm,dhf,d3,d4,d5,d6,d7⟩:=d
     simp only at a0 a3 a4 a5 a6 a7 b0 b3 b4 b5 b6 b7 HS
     have hgo:sameR ⟨cr,cm,chf,c3,c4,c5,c6,c7⟩ ⟨dr,dm,dhf,d3,d4,d5,d6,d7⟩ = true→R = n + 1 + ((cs.drop (x + (n + 1))).takeWhile (sameR ⟨cr,cm,chf,c3,c4,c5,c6,c7⟩)).length:=fun h => by
      have:=HRUN.out
      rw [if_pos h] at this
      exact HR.out.symm.trans this
     have hstop:sameR ⟨cr,cm,chf,c3,c4,c5,c6,c7⟩ ⟨dr,dm,dhf,d3,d4,d5,d6,d7⟩ = false→R = n:=fun h => by
      have:=HRUN.out
      rw [if_neg (by rw [h];decide)] at this
      exact HR.out.symm.trans this
     have HGO:=Hd hgo
     have HST:=Hd hstop
     clear hgo hstop HRUN
     by_cases h1:cr = 0
     · subst h1
       by_cases h2:dr = 0
       · subst h2
         by_cases h3:c3 = d3∧c4 = d4∧c5 = d5∧c6 = d6∧c7 = d7
         · obtain ⟨rfl,rfl,rfl,rfl,rfl⟩:=h3
           have HG2:=Hd (HGO.out (by rw [HS.out];simp))
           clear HGO HST HS
           go_wp2_with fail
           go_roundw
           case rel => exact ⟨n + 1,by omega,by have:=HQX.out;omega,by go_num,HB3.out,HG2.out⟩
           case measure => simp [intOf];have:=HQX.out;omega
         · have hne:(c3 == d3 && (c4 == d4 && (c5 == d5 && (c6 == d6 && (c7 == d7))))) = false:=by
            simp only [Bool.and_eq_false_iff,beq_eq_false_iff_ne]
            omega
           have HG2:=Hd (HST.out (by rw [HS.out];simp;omega))
           clear HGO HST HS
           go_wp2_with fail
           all_goals (go_ret;exact ⟨by rw [HG2.out];rfl,HB3.out⟩)
       · have hd0:(dr == 0) = false:=by simpa using h2
         have HG2:=Hd (HST.out (by rw [HS.out];simp [h2]))
         clear HGO HST HS
         go_wp2_with fail
         go_ret
         exact ⟨by rw [HG2.out];rfl,HB3.out⟩
     · have hc0:(cr == 0) = false:=by simpa using h1
       by_cases h2:dr = 0
       · subst h2
         have HG2:=Hd (HST.out (by rw [HS.out];simp [h1]))
         clear HGO HST HS
         go_wp2_with fail
         go_ret
         exact ⟨by rw [HG2.out];rfl,HB3.out⟩
       · have hd0:(dr == 0) = false:=by simpa using h2
         have HG2:=Hd (HGO.out (by rw [HS.out];simp [h1,h2]))
         clear HGO HST HS
         go_wp2_with fail
         go_roundw
         case rel => exact ⟨n + 1,by omega,by have:=HQX.out;omega,by go_num,HB3.out,HG2.out⟩
         case measure => simp [intOf];have:=HQX.out;omega
  · have hend:R = n:=by
     rw [List.drop_eq_nil_of_le (by omega)] at hrun
     exact hrun
    have HE:=Hd hend
    clear hend hrun hqx
    go_wp2_with fail
    go_ret
    exact ⟨by rw [HE.out];rfl,hB⟩
abbrev B8 (xs:List Int):List UInt8:=u8 xs
def segB (y x n:Nat) (on:Atr) (c:Cl) (cs:List Cl):List Int:=if c.r = 0 then blankI y x n on (atrOf c) else movI y x ++ (cellsI on cs).1
def segA (n:Nat) (on:Atr) (c:Cl) (cs:List Cl):Atr:=if c.r = 0 then blankA on (atrOf c) else (cellsI on cs).2
theorem seg_of {cs:List Cl} {x:Nat} {c:Cl} (y:Nat) (on:Atr) (h:cs[x]? = some c):segI y x on (cs.drop x) = (segB y x (runN (cs.drop x)) on c ((cs.drop x).take (runN (cs.drop x))),segA (runN (cs.drop x)) on c ((cs.drop x).take (runN (cs.drop x)))):=by
 obtain ⟨hx,rfl⟩:=List.getElem?_eq_some_iff.1 h
 obtain ⟨r,hr⟩:∃ r,cs.drop x = cs[x] :: r:=⟨_,List.drop_eq_getElem_cons hx⟩
 rw [hr]
 unfold segB segA blankI blankA
 show (if _ then (if _ then _ else _) else _) = _
 split
 · split <;> rfl
 · rfl
theorem runN_le {cs:List Cl} {x:Nat} (hx:x < cs.length):1 ≤ runN (cs.drop x)∧x + runN (cs.drop x) ≤ cs.length:=by
 rw [runN_one (List.getElem?_eq_getElem hx)]
 have h1:((cs.drop (x + 1)).takeWhile (sameR cs[x])).length ≤ (cs.drop (x + 1)).length:=(List.takeWhile_sublist _).length_le
 rw [List.length_drop] at h1
 omega
theorem rowI_step {cs:List Cl} {x:Nat} (k y:Nat) (on:Atr) (hx:x < cs.length):rowI (k + 1) y x on (cs.drop x) = ((segI y x on (cs.drop x)).1 ++ (rowI k y (x + runN (cs.drop x)) (segI y x on (cs.drop x)).2 (cs.drop (x + runN (cs.drop x)))).1,(rowI k y (x + runN (cs.drop x)) (segI y x on (cs.drop x)).2 (cs.drop (x + runN (cs.drop x)))).2):=by
 rw [rowI,if_neg (by rw [List.length_drop];omega),List.drop_drop]
theorem rowI_end (k y x:Nat) (on:Atr):rowI k y x on [] = ([],on):=by
 cases k with
 | zero => rfl
 | succ k => rfl
theorem blankI_len (y x n:Nat) (on:Atr) {a:Atr} (hy:y ≤ 1000) (hx:x ≤ 1000) (hn:n ≤ 1000) (ha:RightA a):(blankI y x n on a).length ≤ 154:=by
 unfold blankI
 have h1:=movI_len y x hy hx
 have h2:=turnI_len2 on ha
 have h3:=eraI_len n hn
 split
 · exact Nat.zero_le _
 · simp only [List.length_append];omega
theorem segB_len {y x n:Nat} {on:Atr} {c:Cl} {cs:List Cl} (hy:y ≤ 1000) (hx:x ≤ 1000) (hn:n ≤ 1000) (h1:1 ≤ n) (hc:DrawOk c) (hcs:∀ c ∈ cs,DrawOk c) (hl:cs.length ≤ n):(segB y x n on c cs).length ≤ 181 * n:=by
 have h1:=movI_len y x hy hx
 have h2:=cellsI_len cs on hcs
 have h3:=blankI_len y x n on hy hx hn hc.at_
 unfold segB
 split
 · omega
 · rw [List.length_append];omega
theorem rowI_len:∀ (k y x:Nat) (on:Atr) (cs:List Cl),y ≤ 1000→cs.length ≤ 1000→x ≤ cs.length→(∀ c ∈ cs,DrawOk c)→(rowI k y x on (cs.drop x)).1.length ≤ 181 * (cs.length - x)
 | 0,_,_,_,_,_,_,_,_ => Nat.zero_le _
 | k + 1,y,x,on,cs,hy,hz,hx,hok => by
   by_cases hlt:x < cs.length
   · have hn:=runN_le hlt
     rw [rowI_step k y on hlt,seg_of y on (List.getElem?_eq_getElem hlt)]
     have h1:=rowI_len k y (x + runN (cs.drop x)) (segA (runN (cs.drop x)) on cs[x] ((cs.drop x).take (runN (cs.drop x)))) cs hy hz hn.2 hok
     have h2:(segB y x (runN (cs.drop x)) on cs[x] ((cs.drop x).take (runN (cs.drop x)))).length ≤ 181 * runN (cs.drop x):=segB_len hy (by omega) (by omega) hn.1 (hok _ (List.getElem_mem hlt)) (fun c hc => hok c (List.mem_of_mem_drop (List.mem_of_mem_take hc))) (by rw [List.length_take];omega)
     simp only [List.length_append]
     omega
   · rw [List.drop_eq_nil_of_le (by omega),rowI_end]
     exact Nat.zero_le _
def RowSt (y:Nat) (on:Atr) (cs:List Cl) (x:Nat) (pre:List Int) (on1:Atr):Prop:=∃ k,cs.length ≤ x + k∧rowI cs.length y 0 on cs = (pre ++ (rowI k y x on1 (cs.drop x)).1,(rowI k y x on1 (cs.drop x)).2)∧pre.length ≤ 181 * x
theorem RowSt.start (y:Nat) (on:Atr) (cs:List Cl):RowSt y on cs 0 [] on:=⟨cs.length,by omega,by rw [List.drop_zero];rfl,Nat.zero_le _⟩
theorem RowSt.next {y:Nat} {on:Atr} {cs:List Cl} {x:Nat} {pre:List Int} {on1:Atr} {c:Cl} (h:RowSt y on cs x pre on1) (hc:cs[x]? = some c) (hy:y ≤ 1000) (hz:cs.length ≤ 1000) (hok:∀ c ∈ cs,DrawOk c) :
 RowSt y on cs (x + runN (cs.drop x)) (pre ++ segB y x (runN (cs.drop x)) on1 c ((cs.drop x).take (runN (cs.drop x)))) (segA (runN (cs.drop x)) on1 c ((cs.drop x).take (runN (cs.drop x)))):=by
 obtain ⟨k,hk,he,hp⟩:=h
 have hx:=(List.getElem?_eq_some_iff.1 hc).1
 have hn:=runN_le hx
 obtain ⟨k,rfl⟩:∃ j,k = j + 1:=⟨k - 1,by omega⟩
 refine ⟨k,by omega,?_,?_⟩
 · rw [he,rowI_step k y on1 hx,seg_of y on1 hc,List.append_assoc]
 · have h2:(segB y x (runN (cs.drop x)) on1 c ((cs.drop x).take (runN (cs.drop x)))).length ≤ 181 * runN (cs.drop x):=segB_len hy (by omega) (by omega) hn.1 (hok _ (List.mem_of_getElem? hc)) (fun c hc => hok c (List.mem_of_mem_drop (List.mem_of_mem_take hc))) (by rw [List.length_take];omega)
   rw [List.length_append]
   omega
theorem RowSt.end_ {y:Nat} {on:Atr} {cs:List Cl} {x:Nat} {pre:List Int} {on1:Atr} (h:RowSt y on cs x pre on1) (hx:cs.length ≤ x):rowI cs.length y 0 on cs = (pre,on1):=by
 obtain ⟨k,-,he,-⟩:=h
 rw [he,List.drop_eq_nil_of_le hx,rowI_end,List.append_nil]
theorem ClsAt.part {w:World} {b off:Nat} {cs:List Cl} (h:ClsAt w (some ⟨b,off,none⟩) cs) (x n:Nat):ClsAt w (some ⟨b,off + x * 8,none⟩) ((cs.drop x).take n):=fun h0 => ⟨b,off + x * 8,rfl,fun i c hc => by
 have hi:i < n:=by
  have:=(List.getElem?_eq_some_iff.1 hc).1
  rw [List.length_take] at this
  omega
 rw [List.getElem?_take_of_lt hi,List.getElem?_drop] at hc
 have:=h.cell hc
 rw [show off + x * 8 + i * 8 = off + (x + i) * 8 by omega]
 exact this⟩
section
variable {base:Nat} {w:World} {v:Pn} {on:Atr} {l:List UInt8}
set_option maxHeartbeats 3200000 in
theorem prow_any (h:PnO base w v on l) (hbw:base ≤ w.heap.size) (ht:TB base w) (y:Nat) (hy:y ≤ 1000) (A:Option Addr) (cs:List Cl) (ca:Nat) (hc:CB base w A cs) (hok:∀ c ∈ cs,DrawOk c) (hz:cs.length ≤ 1000) (hca:cs.length ≤ ca) (hl:l.length ≤ 79000000) :
 Calls Tryz.prog 156 #[.pointer (some ⟨v.P,0,none⟩),.int .i64 y,.slice A cs.length ca] w (PnPost base w v (rowI cs.length y 0 on cs).2 (l ++ u8 (rowI cs.length y 0 on cs).1)):=by
 have HO:=Hd h
 have HT:=Hd ht
 have HBW:=Hd hbw
 have HC:=Hd hc
 have HOK:=Hd hok
 have HL:=Hd (And.intro hl (And.intro hy hz))
 have HCAP:=Hd hca
 have HEND:Hid (∀ on1 pre x,RowSt y on cs x pre on1→cs.length ≤ x→(rowI cs.length y 0 on cs).2 = on1∧(rowI cs.length y 0 on cs).1 = pre):=Hd (fun on1 pre x h1 h2 => by rw [h1.end_ h2];exact ⟨rfl,rfl⟩)
 obtain ⟨RA,hRA⟩:∃ RA,(rowI cs.length y 0 on cs).2 = RA:=⟨_,rfl⟩
 obtain ⟨RB,hRB⟩:∃ RB,(rowI cs.length y 0 on cs).1 = RB:=⟨_,rfl⟩
 rw [hRA,hRB] at HEND
 rw [hRA,hRB]
 clear h hbw ht hc hok hl hRA hRB hca hy
 go_enter Tryz.func156,Tryz.ntmps156
 go_wp2_with fail
 go_loopw [6] (fun i wr => ∃ (x:Nat) (pre:List Int) (on1:Atr),x ≤ cs.length∧i = .int .i64 x∧RowSt y on cs x pre on1∧PnRes base w v on1 (l ++ B8 pre) wr) (fun i _ => cs.length - (intOf i).toNat)
 case atStart => exact ⟨0,[],on,Nat.zero_le _,rfl,RowSt.start _ _ _,by rw [show l ++ B8 [] = l from List.append_nil l];exact HO.out.res⟩
 case round =>
  obtain ⟨x,pre,on1,hx,rfl,hst,hR⟩:=hrel
  by_cases hlt:x < cs.length
  · have hB:Below base w wr:=PnRes.below HO.out HBW.out hR
    have hsz:base ≤ wr.heap.size:=Nat.le_trans HBW.out hB.size
    have hCB:=HC.out.on hB
    obtain ⟨b,off,c,rfl,hcg,-⟩:=(HC.out wr hB).at_ hlt
    have HCB:=Hd hCB
    have hT:=HT.out.on hB
    have hD:=HOK.out c (List.mem_of_getElem? hcg)
    have hn:=runN_le hlt
    have hnx:=hst.next hcg HL.out.2.1 HL.out.2.2 HOK.out
    have hpl:=hst.choose_spec.2.2
    have hsub:∀ c ∈ (cs.drop x).take (runN (cs.drop x)),DrawOk c:=fun c hc => HOK.out c (List.mem_of_mem_drop (List.mem_of_mem_take hc))
    have hsl:((cs.drop x).take (runN (cs.drop x))).length = runN (cs.drop x):=by rw [List.length_take,List.length_drop];omega
    have HRUN:=Hd (drun_any (some ⟨b,off,none⟩) cs ca x wr (hCB wr (Below.refl _ _)) hlt HL.out.2.2)
    have HPT:Hid (∀ w',Below base wr w'→CB base w' (some ⟨b,off + x * 8,none⟩) ((cs.drop x).take (runN (cs.drop x)))):=Hd (fun w' hb w2 hb2 => (hCB w2 (hb.trans hb2)).part x _)
    generalize runN (cs.drop x) = n at hn hnx hsub hsl HRUN HPT
    generalize (cs.drop x).take n = sub at hnx hsub hsl HPT
    obtain ⟨q,hq⟩:∃ q:Nat,(x:Int) + n = q:=⟨x + n,by omega⟩
    have hqx:q = x + n:=by omega
    have hwq:IntKind.i64.wrap (q:Int) = q:=IntWalk.i64_in _ (by omega)
    have HNX:=Hd hnx
    have HSUB:=Hd hsub
    have HSL:=Hd hsl
    have HN:=Hd hn
    have HQX:=Hd hqx
    have hll:(l ++ B8 pre).length ≤ 79181000:=by rw [List.length_append,u8_len];have:=HL.out.1;have:=HL.out.2.2;omega
    have HLL:=Hd hll
    have HD:=Hd hD
    have HS:=Hd hsz
    have HTT:=Hd hT
    have HRR:=Hd hR
    have HCG:=Hd hcg
    have hq1:(q:Int) ≤ ca:=by have:=HCAP.out;omega
    clear hB hsz hCB hT hD hn hnx hpl hsub hsl hqx hll hcg hst hR
    go_upto_region 3 with (go_at_call 245;(with_reducible refine HRUN.out.mono ?_);rintro e w2 ⟨rfl,hb2⟩)
    have hB2:Below base wr w2:=hb2.mono HS.out
    have hs2:base ≤ w2.heap.size:=Nat.le_trans HS.out hb2.size
    have hca2:=(HCB.out w2 hB2).cell HCG.out
    obtain ⟨v1,a1,a2,a3,a4,a5⟩:=HRR.out.post hb2
    obtain ⟨cr,cm,chf,c3,c4,c5,c6,c7⟩:=c
    obtain ⟨r0,-,-,r3,r4,r5,r6,r7⟩:=hca2
    have hat:RightA ⟨c3,c4,c5,c6,c7⟩:=HD.out.at_
    simp only at r0 r3 r4 r5 r6 r7
    have H1:=Hd (And.intro a1 (And.intro a2 (And.intro a4 a5)))
    by_cases h0:cr = 0
    · subst h0
      have HBl:=Hd (pblanks_any a3 hs2 (HTT.out.on hB2) y x n HL.out.2.1 (by have:=HL.out.2.2;omega) (by have:=HN.out;have:=HL.out.2.2;omega) ⟨c3,c4,c5,c6,c7⟩ hat (by have:=HLL.out;omega))
      rw [a1] at HBl
      clear hB2 hs2 a1 a2 a3 a4 a5 hat hb2
      go_wp2_with (go_at_call 246;(with_reducible refine HBl.out.mono ?_);rintro e w3 ⟨rfl,hr⟩;have HR3:=Hd hr;clear hr)
      go_roundw
      case rel =>
       obtain ⟨a1,a2,a4,a5⟩:=H1.out
       have hqx:=HQX.out
       refine ⟨q,_,_,by have:=HN.out;omega,by go_num,by rw [hqx];exact HNX.out,PnRes.trans a1 a2 a5 a4 ?_⟩
       have:=HR3.out
       rw [show segB y x n on1 ⟨0,cm,chf,c3,c4,c5,c6,c7⟩ sub = blankI y x n on1 ⟨c3,c4,c5,c6,c7⟩ from if_pos rfl,show segA n on1 ⟨0,cm,chf,c3,c4,c5,c6,c7⟩ sub = blankA on1 ⟨c3,c4,c5,c6,c7⟩ from if_pos rfl,show B8 (pre ++ blankI y x n on1 ⟨c3,c4,c5,c6,c7⟩) = B8 pre ++ B8 (blankI y x n on1 ⟨c3,c4,c5,c6,c7⟩) from u8_append _ _,← List.append_assoc]
       exact this
      case measure => simp [intOf];have:=HQX.out;have:=HN.out;omega
    · have hb0:(cr == 0) = false:=by simpa using h0
      have HW:=Hd (pwritten_any a3 hs2 (HTT.out.on hB2) y x HL.out.2.1 (by have:=HL.out.2.2;omega) (some ⟨b,off + x * 8,none⟩) sub (ca - x) (HPT.out w2 hB2) HSUB.out (by have:=HN.out;have:=HL.out.2.2;have:=HSL.out;omega) (by have:=HLL.out;omega))
      rw [a1,HSL.out,show n = q - x by have:=HQX.out;omega] at HW
      clear hB2 hs2 a1 a2 a3 a4 a5 hat hb2
      have hxq:(x:Int) ≤ q:=by have:=HQX.out;omega
      have hcx:¬ ca = x:=by have:=HCAP.out;omega
      go_wp2_with (go_at_call 247;(with_reducible refine HW.out.mono ?_);rintro e w3 ⟨rfl,hr⟩;have HR3:=Hd hr;clear hr)
      go_roundw
      case rel =>
       obtain ⟨a1,a2,a4,a5⟩:=H1.out
       have hqx:=HQX.out
       refine ⟨q,_,_,by have:=HN.out;omega,by go_num,by rw [hqx];exact HNX.out,PnRes.trans a1 a2 a5 a4 ?_⟩
       have:=HR3.out
       rw [show segB y x n on1 ⟨cr,cm,chf,c3,c4,c5,c6,c7⟩ sub = movI y x ++ (cellsI on1 sub).1 from if_neg h0,show segA n on1 ⟨cr,cm,chf,c3,c4,c5,c6,c7⟩ sub = (cellsI on1 sub).2 from if_neg h0,show B8 (pre ++ (movI y x ++ (cellsI on1 sub).1)) = B8 pre ++ B8 (movI y x ++ (cellsI on1 sub).1) from u8_append _ _,← List.append_assoc]
       exact this
      case measure => simp [intOf];have:=HQX.out;have:=HN.out;omega
  · obtain rfl:x = cs.length:=by omega
    obtain ⟨e1,e2⟩:=HEND.out _ _ _ hst (Nat.le_refl _)
    have HE:=Hd (And.intro e1 e2)
    have HRR:=Hd hR
    clear e1 e2 hst hR
    go_wp2
    go_end0
    obtain ⟨e1,e2⟩:=HE.out
    exact ⟨rfl,by rw [e1,e2];exact HRR.out⟩
end
end Go.Proofs.YtaefcahblmopfaaGreatDoor
