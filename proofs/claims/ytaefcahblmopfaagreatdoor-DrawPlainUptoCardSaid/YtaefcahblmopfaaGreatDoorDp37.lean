/- Joined by a tool of this claim out of smaller texts. Conditions: as stated. -/
import Derived.Test.YtaefcahblmopfaaGreatDoorDp36
set_option linter.unusedVariables false
set_option linter.unusedSimpArgs false
set_option maxRecDepth 100000
open Go.Lib renaming hid → Hd
namespace Go.Proofs.YtaefcahblmopfaaGreatDoor
open Go.RowKit
def rowT (r:Rw):ByteArray:=⟨(Lib.trimRightB (textL r.cs) 32).toArray⟩
def plainT (rows:List Rw):List UInt8:=Lib.trimRightB (Lib.join ((rows.map rowT).map (·.data.toList)) [10]) 10
theorem trim_len (l:List UInt8) (c:UInt8):(Lib.trimRightB l c).length ≤ l.length:=by
 unfold Lib.trimRightB
 have:=(List.dropWhile_sublist (fun x:UInt8 => x == c) (l:=l.reverse)).length_le
 rw [List.length_reverse] at this ⊢
 exact this
theorem join_len (M:Nat) (c:UInt8):∀ xs:List (List UInt8),(∀ x ∈ xs,x.length ≤ M)→(Lib.join xs [c]).length ≤ xs.length * (M + 1)
 | [],_ => Nat.zero_le _
 | [x],h => by
   have:=h x (List.mem_singleton.2 rfl)
   rw [Lib.join_one]
   simp only [List.length_cons,List.length_nil]
   omega
 | x :: y :: r,h => by
   have h1:=h x (List.mem_cons_self ..)
   have h2:=join_len M c (y :: r) (fun z hz => h z (List.mem_cons_of_mem _ hz))
   have e:Lib.join (x :: y :: r) [c] = x ++ ([c] ++ Lib.join (y :: r) [c]):=rfl
   rw [e]
   simp only [List.length_append,List.length_cons,List.length_nil] at h2 ⊢
   rw [Nat.add_mul,Nat.one_mul] at h2 ⊢
   rw [Nat.add_mul,Nat.one_mul]
   omega
def TxOk (rows:List Rw):Prop:=∀ r ∈ rows,r.cs.length ≤ r.cap∧r.cs.length ≤ 1000000∧(r.cs.flatMap cellT).length ≤ 100000000000
theorem rowT_len {r:Rw} (h:(r.cs.flatMap cellT).length ≤ 100000000000):(rowT r).data.toList.length ≤ 100000000000:=by
 show (Lib.trimRightB (textL r.cs) 32).length ≤ _
 exact Nat.le_trans (trim_len _ _) (Nat.le_trans (text_le _ _) h)
set_option maxHeartbeats 1600000 in
theorem sjoin_nil (sep:ByteArray) (w:World):Calls Tryz.prog 55 #[.slice none 0 0,.string sep] w fun e w' => e = .returned (.string ⟨#[]⟩)∧Below w.heap.size w w':=by
 go_enter Tryz.func55,Tryz.ntmps55
 go_wp2
 go_ret
 exact ⟨rfl,Below.refl _ _⟩
theorem strim_nil (w:World):Calls Tryz.prog 53 #[.string ⟨#[]⟩,.string ⟨#[10]⟩] w fun e w' => e = .returned (.string ⟨#[]⟩)∧w' = w:=strimR_any ⟨#[]⟩ 10 (by decide) w (by decide)
set_option maxHeartbeats 1600000 in
theorem dplain_nil (A:Option Addr) (ca:Nat) (w:World):Calls Tryz.prog 27 #[.slice A 0 ca] w fun e w' => e = .returned (.string ⟨#[]⟩)∧Below w.heap.size w w':=by
 have HJ:=Hd (fun w => sjoin_nil ⟨#[10]⟩ w)
 have HT:=Hd (fun w => strim_nil w)
 go_enter Tryz.func27,Tryz.ntmps27
 go_wp2_with fail
 go_loopw [3,8] (fun s3 s8 wr => s3 = .slice none 0 0∧s8 = .int .i64 0∧Below w.heap.size w wr) (fun _ _ _ => 0)
 case atStart => exact ⟨rfl,rfl,Below.refl _ _⟩
 case round =>
  obtain ⟨rfl,rfl,hB⟩:=hrel
  have HB:=Hd hB
  clear hB
  go_wp2_with (first
   | (go_at_call 55;(with_reducible refine (HJ.out _).mono ?_);rintro e w9 ⟨rfl,hb⟩;have HB9:=Hd (below_tail HB.out hb);clear hb)
   | (go_at_call 53;(with_reducible refine (HT.out _).mono ?_);rintro e w9 ⟨rfl,rfl⟩))
  go_ret
  exact ⟨rfl,HB9.out⟩
set_option maxHeartbeats 3200000 in
theorem dplain_pos (A:Option Addr) (rows:List Rw) (ca:Nat) (w:World) (hl:RwsAt w A rows) (h0:0 < rows.length) (hz:rows.length ≤ 400) (hok:TxOk rows) :
 Calls Tryz.prog 27 #[.slice A rows.length ca] w fun e w' => e = .returned (.string ⟨(plainT rows).toArray⟩)∧Below w.heap.size w w':=by
 obtain ⟨b,off,rfl,hr⟩:=hl h0
 obtain ⟨j0,hj,gz0,gz1,gz2⟩:=info_parts info_str1
 have HR:=Hd hr
 have HOK:=Hd hok
 obtain ⟨X,hX⟩:∃ X:Nat→List ByteArray,X = fun k => (rows.take k).map rowT:=⟨_,rfl⟩
 have HXS:Hid (∀ k r,rows[k]? = some r→X (k + 1) = X k ++ [rowT r]):=Hd (fun k r hk => by
  obtain ⟨h1,rfl⟩:=List.getElem?_eq_some_iff.1 hk
  rw [hX];simp only [];rw [List.take_succ_eq_append_getElem h1,List.map_append];rfl)
 have HX0:Hid (X 0 = []):=Hd (by rw [hX];rfl)
 have HXL:Hid ((X rows.length).length = rows.length):=Hd (by rw [hX];simp)
 have HXE:Hid ((Lib.join ((X rows.length).map (·.data.toList)) [10]).length ≤ 140737488355328∧plainT rows = Lib.trimRightB (Lib.join ((X rows.length).map (·.data.toList)) [10]) 10):=Hd (by
  rw [hX]
  simp only [List.take_length]
  refine ⟨?_,rfl⟩
  have:=join_len 100000000000 10 ((rows.map rowT).map (·.data.toList)) (fun x hx => by
   obtain ⟨y,hy,rfl⟩:=List.mem_map.1 hx
   obtain ⟨r,hr,rfl⟩:=List.mem_map.1 hy
   exact rowT_len (hok r hr).2.2)
  simp only [List.length_map] at this
  have h2:rows.length * (100000000000 + 1) ≤ 400 * (100000000000 + 1):=Nat.mul_le_mul_right _ hz
  omega)
 obtain ⟨S,hS⟩:∃ S,Lib.join ((X rows.length).map (·.data.toList)) [10] = S:=⟨_,rfl⟩
 rw [hS] at HXE
 rw [HXE.out.2]
 have HS:=Hd hS
 obtain ⟨L,hL⟩:∃ L,rows.length = L:=⟨_,rfl⟩
 rw [hL] at h0 hz HXL HS ⊢
 have HLZ:=Hd (And.intro h0 (And.intro hz hL))
 have HTR:Hid (∀ w,Calls Tryz.prog 53 #[.string ⟨S.toArray⟩,.string ⟨#[10]⟩] w fun e w' => e = .returned (.string ⟨(Lib.trimRightB S 10).toArray⟩)∧w' = w):=Hd (fun w => strimR_any ⟨S.toArray⟩ 10 (by decide) w (by
  have:(⟨S.toArray⟩:ByteArray).size = S.length:=rfl
  rw [this];have:=HXE.out.1;omega))
 clear hl hr hok hX hS hL h0 hz
 go_enter Tryz.func27,Tryz.ntmps27
 go_wp2_with fail
 go_loopw [3,8] (fun s3 s8 wr => ∃ k:Nat,s8 = .int .i64 k∧k ≤ L∧wr.ownsRow w.heap.size 9 1 s3 k (flat encSt (X k))∧Below w.heap.size w wr) (fun _ s8 _ => L - (intOf s8).toNat)
 case atStart => exact ⟨0,rfl,Nat.zero_le _,by rw [HX0.out];exact World.ownsRow_nil _ _ _ _,Below.refl _ _⟩
 case round =>
  obtain ⟨k,rfl,hk,hO,hB⟩:=hrel
  obtain ⟨bx,rfl⟩:∃ bx:Value × Unit,u3 = bx.1:=⟨(u3,()),rfl⟩
  have HO:=Hd hO
  have HB:=Hd hB
  have hwk:IntKind.i64.wrap ((k:Int) + 1) = (k:Int) + 1:=IntWalk.i64_in _ (by have:=HLZ.out.2;omega)
  clear hO hB
  by_cases hlt:k < L
  · have hltI:(k:Int) < (L:Int):=by omega
    obtain ⟨r,hget⟩:∃ r,rows[k]? = some r:=⟨_,List.getElem?_eq_getElem (by have:=HLZ.out.2.2;omega)⟩
    obtain ⟨⟨c0,c1⟩,hcl,-⟩:=(HR.out k r hget).below HB.out
    have hrk:=HOK.out r (List.mem_of_getElem? hget)
    have HXK:=Hd (HXS.out k r hget)
    obtain ⟨rA,cs,cap,cont⟩:=r
    simp only at c0 c1 hcl hrk
    have hbx:=below_allocs (Below.refl wr.heap.size wr) (.cells #[.slice rA cs.length cap,.bool cont] 52)
    have HTX:=Hd (ctext_any rA cs cap (wr.alloc (.cells #[.slice rA cs.length cap,.bool cont] 52)) (hcl.below hbx) hrk.1 hrk.2.1 hrk.2.2)
    have hxl:(textL cs).length ≤ 100000000000:=Nat.le_trans (text_le _ _) hrk.2.2
    have HT2:Hid (∀ w,Calls Tryz.prog 53 #[.string ⟨(textL cs).toArray⟩,.string ⟨#[32]⟩] w fun e w' => e = .returned (.string (rowT ⟨rA,cs,cap,cont⟩))∧w' = w):=Hd (fun w => strimR_any ⟨(textL cs).toArray⟩ 32 (by decide) w (by
     have:(⟨(textL cs).toArray⟩:ByteArray).size = (textL cs).length:=rfl
     rw [this];omega))
    obtain ⟨d,hd⟩:∃ d,rowT ⟨rA,cs,cap,cont⟩ = d:=⟨_,rfl⟩
    rw [hd] at HXK HT2
    obtain ⟨tx,htx⟩:∃ tx:ByteArray,(⟨(textL cs).toArray⟩:ByteArray) = tx:=⟨_,rfl⟩
    rw [htx] at HTX HT2
    have HBN:=Hd hbx
    have HSZ:=Hd HB.out.size
    generalize cs.length = n at c0 HTX HBN
    clear hd hget hcl hrk hxl htx hbx
    go_upto_region 5 with fail
    refine wp_region_lit ?_
    have hcell:(wr.alloc (.cells #[.slice rA n cap,.bool cont] 52)).cell? ⟨wr.heap.size,0,none⟩ = some (.slice rA n cap):=(at_ (hp_new rfl) 0 _ rfl).1
    refine wpList_valG (bx.1) (by rfl) (by rfl) ?_
    simp only [Act.put,List.setIfInBounds_toArray,List.set_cons_zero,List.set_cons_succ]
    refine wpList_valG (.pointer (some ⟨wr.heap.size,0,none⟩)) (by rfl) (by rfl) ?_
    simp only [Act.put,List.setIfInBounds_toArray,List.set_cons_zero,List.set_cons_succ]
    refine wpList_valG (.slice rA n cap) (by rfl) (by go_simp) ?_
    simp only [Act.put,List.setIfInBounds_toArray,List.set_cons_zero,List.set_cons_succ]
    refine wpList_callE rfl 54 #[.slice rA n cap] (by go_simp) (HTX.out.mono (fun e w' h => (⟨_,h.1,rfl,h.2⟩:∃ v,e = .returned v∧v = .string tx∧Below (wr.alloc (.cells #[.slice rA n cap,.bool cont] 52)).heap.size (wr.alloc (.cells #[.slice rA n cap,.bool cont] 52)) w'))) ?_
    rintro v4 w4 ⟨rfl,hb4⟩
    simp only [Act.put,List.setIfInBounds_toArray,List.set_cons_zero,List.set_cons_succ]
    refine wpList_callE rfl 53 #[.string tx,.string ⟨#[32]⟩] (by go_simp) ((HT2.out w4).mono (fun e w' h => (⟨_,h.1,rfl,h.2⟩:∃ v,e = .returned v∧v = .string d∧w' = w4))) ?_
    rintro v5 w5 ⟨rfl,rfl⟩
    simp only [Act.put,List.setIfInBounds_toArray,List.set_cons_zero,List.set_cons_succ]
    have hb5:=below_tail HBN.out hb4
    have hO5:=owns_mod HO.out (Mod.of_below (X:=[]) hb5) (fun _ _ h => by cases h)
    have HO3:=Hd (owns_mod hO5 (Mod.of_below (X:=[]) (below_allocs (Below.refl w5.heap.size w5) (.cells #[.string d] 9))) (fun _ _ h => by cases h))
    have HBX:=Hd (below_allocs (below_tail HB.out hb5) (.cells #[.string d] 9))
    have HSZ5:=Hd hb5.size
    clear hO5 hb5 hb4 hcell
    refine wpList_actG (.slice (some ⟨w5.heap.size,0,none⟩) 1 1) (w5.alloc (.cells #[.string d] 9)) (by rfl) (by go_simp) ?_
    simp only [Act.put,List.setIfInBounds_toArray,List.set_cons_zero,List.set_cons_succ]
    refine wpList_append_g (o:=⟨some 18,_,_,_,_,_⟩) rfl (.tmp 12) (.tmp 17) 109 rfl w.heap.size 9 j0 _ 1 16 Tryz.underlying109 hj gz0 gz1 gz2 rfl (by decide) bx.1 k (flat encSt (X k)) rfl HO3.out ⟨w5.heap.size,0,none⟩ 1 1 [.string d] rfl rfl (fun j u hj => by rw [add_lit',Nat.zero_add];exact (at_ (hp_new rfl) j u (by simpa using hj)).1) (encSt_one d) (by have:=HLZ.out.2;simp only [maxLen];omega) (by have:=HLZ.out.2;omega) (by have:=HSZ.out;have:=HSZ5.out;simp at *;omega) ?_
    intro v' w7 ho hg hv'
    have HO7:Hid (w7.ownsRow w.heap.size 9 1 v' (k + 1) (flat encSt (X (k + 1)))):=Hd (by rw [HXK.out,flat_append];exact ho)
    have HB7:=Hd (HBX.out.grown hg HBX.out.size (fun b hb => (World.ownsRow.lt (show World.ownsRow _ _ _ _ _ _ _ from HO3.out) b hb).1))
    simp only [Act.put,List.setIfInBounds_toArray,List.set_cons_zero,List.set_cons_succ]
    clear ho hg hv'
    go_wp2
    go_roundw
    case rel => exact ⟨k + 1,by go_num,by omega,HO7.out,HB7.out⟩
    case measure => simp [intOf];omega
  · have hltI:¬ (k:Int) < (L:Int):=by omega
    obtain rfl:k = L:=by omega
    obtain ⟨b8,c8,hv8⟩:=own_form HO.out HLZ.out.1
    obtain ⟨bv,bu⟩:=bx
    simp only at hv8
    subst hv8
    have hcc:=own_cap HO.out
    have hlt8:=World.ownsRow.lt (show World.ownsRow _ _ _ _ _ _ _ from HO.out) b8 rfl
    have hJ:=sjoin_any b8 c8 (X k) ⟨#[10]⟩ wr (fun j x hx => by
     have:=World.ownsRow.cells HO.out (g:=b8) rfl j (.string x) (flat_at1 encSt_len hx rfl)
     rw [add_lit',Nat.zero_add] at this
     exact this) hlt8.2 (by rw [HXL.out];have:=HLZ.out.2;omega) (by rw [HXL.out];exact hcc) (by have h1:=HXE.out.1;have h2:=HS.out;rw [← h2] at h1;exact h1)
    rw [HXL.out,show (⟨(Lib.join ((X k).map (·.data.toList)) (⟨#[10]⟩:ByteArray).data.toList).toArray⟩:ByteArray) = ⟨S.toArray⟩ from by rw [← HS.out]] at hJ
    have HJ:=Hd hJ
    clear hJ hcc hlt8
    go_wp2_with (first
     | (go_at_call 55;(with_reducible refine HJ.out.mono ?_);rintro e w9 ⟨rfl,hb⟩;have HB9:=Hd (below_tail HB.out hb);clear hb)
     | (go_at_call 53;(with_reducible refine (HTR.out _).mono ?_);rintro e w9 ⟨rfl,rfl⟩))
    go_ret
    exact ⟨rfl,HB9.out⟩
def exC (r:Int):Cl:=⟨r,ByteArray.empty,0,0,0,0,0,0⟩
def exR (g:Nat):Rw:=⟨some ⟨g,0,none⟩,[exC 97,exC 98],2,false⟩
theorem exC_ok {r:Int} (h:r = 97 ∨ r = 98):DrawOk (exC r):=by
 refine ⟨.inr ⟨?_,⟨[],fun r hr => (by cases hr),rfl,(show 0 ≤ 32 by decide)⟩,.inl ⟨rfl,?_⟩⟩,?_,fun h0 => ?_⟩
 · show r ≠ 0
   omega
 · rcases h with rfl | rfl <;> kernel_rfl
 · show attB 0 0 0 0 0 = true
   decide
 · exact ⟨rfl,rfl,rfl⟩
theorem exR_ok (g:Nat):RowsOk [exR g] 2:=by
 refine ⟨(show 0 < 1 by decide),(show 1 ≤ 400 by decide),by decide,by decide,fun r hr => ?_⟩
 rw [List.mem_singleton.1 hr]
 refine ⟨rfl,?_,fun c hc => ?_⟩
 · kernel_rfl
 · rcases List.mem_cons.1 hc with rfl | hc
   · exact exC_ok (.inl rfl)
   · rw [List.mem_singleton.1 hc];exact exC_ok (.inr rfl)
theorem exR_tx (g:Nat):TxOk [exR g]:=fun r hr => by
 rw [List.mem_singleton.1 hr]
 refine ⟨by show 2 ≤ 2;decide,by show 2 ≤ 1000000;decide,?_⟩
 have:((exR g).cs.flatMap cellT).length = 2:=by kernel_rfl
 omega
theorem exR_plain (g:Nat):(⟨(plainT [exR g]).toArray⟩:ByteArray) = ⟨#[97,98]⟩:=by kernel_rfl
theorem exR_at {w:World} {g:Nat} (h0:w.heap[g]? = some (.cells #[.int .i32 97,.string ByteArray.empty,.int .i64 0,.int .i64 0,.int .i64 0,.int .i64 0,.int .i64 0,.int .i64 0,.int .i32 98,.string ByteArray.empty,.int .i64 0,.int .i64 0,.int .i64 0,.int .i64 0,.int .i64 0,.int .i64 0] 65 (0,0)))
 (h1:w.heap[g + 1]? = some (.cells #[.slice (some ⟨g,0,none⟩) 2 2,.bool false] 52 (0,0))):RwsAt w (some ⟨g + 1,0,none⟩) [exR g]:=fun _ => by
 refine ⟨g + 1,0,rfl,fun i r hi => ?_⟩
 rcases i with _ | i
 · obtain rfl:exR g = r:=by simpa using hi
   refine ⟨⟨(at_ h1 0 _ rfl).1,(at_ h1 1 _ rfl).1⟩,fun _ => ⟨g,0,rfl,fun j c hj => ?_⟩,by show 2 ≤ _;omega⟩
   rcases j with _ | _ | j
   · obtain rfl:exC 97 = c:=by simpa [exR] using hj
     exact ⟨(at_ h0 0 _ rfl).1,(at_ h0 1 _ rfl).1,(at_ h0 2 _ rfl).1,(at_ h0 3 _ rfl).1,(at_ h0 4 _ rfl).1,(at_ h0 5 _ rfl).1,(at_ h0 6 _ rfl).1,(at_ h0 7 _ rfl).1⟩
   · obtain rfl:exC 98 = c:=by simpa [exR] using hj
     exact ⟨(at_ h0 8 _ rfl).1,(at_ h0 9 _ rfl).1,(at_ h0 10 _ rfl).1,(at_ h0 11 _ rfl).1,(at_ h0 12 _ rfl).1,(at_ h0 13 _ rfl).1,(at_ h0 14 _ rfl).1,(at_ h0 15 _ rfl).1⟩
   · simp [exR] at hj
 · simp at hi
set_option maxHeartbeats 1600000 in
theorem awake28_any (w:World) (ht:TabP w):Calls Tryz.prog 22 #[] w fun e w' => e = .returned (.bool true)∧Below w.heap.size w w':=by
 have HT:=Hd ht
 clear ht
 go_enter Tryz.func22,Tryz.ntmps22
 go_upto_region 2 with fail
 obtain ⟨W,hW⟩:∃ W,(w.alloc (.cells #[.int .i32 97,.string ByteArray.empty,.int .i64 0,.int .i64 0,.int .i64 0,.int .i64 0,.int .i64 0,.int .i64 0,.int .i32 98,.string ByteArray.empty,.int .i64 0,.int .i64 0,.int .i64 0,.int .i64 0,.int .i64 0,.int .i64 0] 65)).alloc (.cells #[.slice (some ⟨w.heap.size,0,none⟩) 2 2,.bool false] 52) = W:=⟨_,rfl⟩
 have hx1:W.heap[w.heap.size + 1]? = some (.cells #[.slice (some ⟨w.heap.size,0,none⟩) 2 2,.bool false] 52 (0,0)):=by rw [← hW];exact hp_new (by rw [World.size_alloc])
 have hx0:W.heap[w.heap.size]? = some (.cells #[.int .i32 97,.string ByteArray.empty,.int .i64 0,.int .i64 0,.int .i64 0,.int .i64 0,.int .i64 0,.int .i64 0,.int .i32 98,.string ByteArray.empty,.int .i64 0,.int .i64 0,.int .i64 0,.int .i64 0,.int .i64 0,.int .i64 0] 65 (0,0)):=by rw [← hW];exact ((below_allocs (Below.refl _ _) _).block _ (by rw [World.size_alloc];omega)).trans (hp_new rfl)
 have hb:Below w.heap.size w W:=by rw [← hW];exact below_allocs (below_allocs (Below.refl _ _) _) _
 change Code.wp _ _ _ _ ((w.alloc (.cells #[.int .i32 97,.string ByteArray.empty,.int .i64 0,.int .i64 0,.int .i64 0,.int .i64 0,.int .i64 0,.int .i64 0,.int .i32 98,.string ByteArray.empty,.int .i64 0,.int .i64 0,.int .i64 0,.int .i64 0,.int .i64 0,.int .i64 0] 65)).alloc (.cells #[.slice (some ⟨w.heap.size,0,none⟩) 2 2,.bool false] 52))
 rw [hW]
 have hrw:=exR_at hx0 hx1
 have HDR:Hid (Calls Tryz.prog 48 #[.slice (some ⟨w.heap.size + 1,0,none⟩) 1 1,.agg #[.int .i64 0,.int .i64 1]] W fun e w' => e = .returned (.bool true)∧Below W.heap.size W w'):=Hd (draws_any _ [exR w.heap.size] 1 2 0 1 W hrw (exR_ok _) (fun r hr => by rw [List.mem_singleton.1 hr];exact Nat.le_refl 2) (show 0 < 1 by decide) (by decide) (HT.out.below hb))
 have HPL:Hid (∀ w',Below W.heap.size W w'→Calls Tryz.prog 27 #[.slice (some ⟨w.heap.size + 1,0,none⟩) 1 1] w' fun e w2 => e = .returned (.string ⟨#[97,98]⟩)∧Below w'.heap.size w' w2):=Hd (fun w' hb2 => by
  have:=dplain_pos _ [exR w.heap.size] 1 w' (hrw.below hb2) (show 0 < 1 by decide) (show 1 ≤ 400 by decide) (exR_tx _)
  rw [exR_plain] at this
  exact this)
 have HB:=Hd hb
 clear hx0 hx1 hb hrw hW
 go_wp2_with (first
  | (go_at_call 48;(with_reducible refine HDR.out.mono ?_);rintro e w1 ⟨rfl,hb⟩;have HB1:=Hd hb;clear hb)
  | (go_at_call 27;(with_reducible refine (HPL.out _ HB1.out).mono ?_);rintro e w2 ⟨rfl,hb⟩;have HB2:=Hd (below_tail HB1.out hb);clear hb))
 go_ret
 exact ⟨rfl,HB.out.trans (HB2.out.mono HB.out.size)⟩
theorem ba_list {s:ByteArray} {l:List UInt8} (h:s.data.toList = l):s = ⟨l.toArray⟩:=by
 obtain ⟨⟨d⟩⟩:=s
 simp only at h
 rw [h]
theorem ba_size {s:ByteArray} {l:List UInt8} (h:s.data.toList = l):s.size = l.length:=by rw [← h,Array.length_toList];rfl
theorem ba_app (s t:ByteArray):(s ++ t).data.toList = s.data.toList ++ t.data.toList:=by simp
set_option maxHeartbeats 3200000 in
theorem rtext7_any (A:Option Addr) (cs:List Cl) (ca:Nat) (w:World) (hc:ClsAt w A cs) (hz:cs.length ≤ 1000000) (hb:(cs.flatMap cellT).length ≤ 100000000000) :
 Calls Tryz.prog 26 #[.slice A cs.length ca] w fun e w' => e = .returned (.string ⟨(textL cs).toArray⟩)∧Below w.heap.size w w':=by
 have hul:=usedL_le cs
 have HU:Hid (∀ w',Below w.heap.size w w'→Calls Tryz.prog 51 #[.slice A cs.length ca] w' fun e w2 => e = .returned (.int .i64 (usedL cs))∧Below w'.heap.size w' w2):=Hd (fun w' hb => rUsed_any A cs ca w' (gr_of_cls (hc.below hb)) (by omega))
 obtain ⟨T,hT⟩:∃ T,textL cs = T:=⟨_,rfl⟩
 rw [hT]
 unfold textL at hT
 generalize usedL cs = u at hul HU hT
 have HT:=Hd hT
 have HC:=Hd hc
 have HB:=Hd hb
 obtain ⟨n,hn⟩:∃ n,cs.length = n:=⟨_,rfl⟩
 rw [hn] at HU hul hz ⊢
 have HN:=Hd hn
 clear hc hb hT hn
 go_enter Tryz.func26,Tryz.ntmps26
 go_wp2_with fail
 go_loopw [3,4] (fun s3 i wr => ∃ (k:Nat) (sk:ByteArray),k ≤ u∧i = .int .i64 k∧s3 = .string sk∧Below w.heap.size w wr∧sk.data.toList = (cs.take k).flatMap cellT) (fun _ i _ => u - (intOf i).toNat)
 case atStart => exact ⟨0,_,Nat.zero_le _,rfl,rfl,Below.refl _ _,by rw [List.take_zero];rfl⟩
 case round =>
  obtain ⟨k,sk,hk,rfl,rfl,hBe,hsk⟩:=hrel
  have HBE:=Hd hBe
  have HSK:=Hd hsk
  by_cases hlt:k < u
  · obtain ⟨b',off',c,rfl,hcg,hca⟩:=(HC.out.below hBe).at_ (k:=k) (by have:=HN.out;omega)
    have hst:=text_step hcg
    have hle:=text_le cs (k + 1)
    rw [hst,List.length_append,← hsk] at hle
    rw [← hsk] at hst
    have HST:=Hd hst
    have hszk:sk.size = sk.data.toList.length:=ba_size rfl
    have HLE:=Hd (And.intro hle hszk)
    have HCA:=Hd hca
    clear hcg hst hle hszk hBe hsk hca
    go_upto_region 5 with (go_at_call 51;(with_reducible refine (HU.out _ HBE.out).mono ?_);rintro e w1 ⟨rfl,hb1⟩;have HB1:=Hd hb1;clear hb1)
    have hca:=HCA.out.below HB1.out
    obtain ⟨r0,r1,r2,r3,r4,r5,r6,r7⟩:=hca
    obtain ⟨cr,cm,chf,c3,c4,c5,c6,c7⟩:=c
    simp only at r0 r1 r2 r3 r4 r5 r6 r7
    have hbc:=below_allocs (Below.refl w1.heap.size w1) (.cells #[.int .i32 cr,.string cm,.int .i64 chf,.int .i64 c3,.int .i64 c4,.int .i64 c5,.int .i64 c6,.int .i64 c7] 65)
    have HBC:=Hd (below_tail (below_tail HBE.out HB1.out) hbc)
    have HX0:Hid ((w1.alloc (.cells #[.int .i32 cr,.string cm,.int .i64 chf,.int .i64 c3,.int .i64 c4,.int .i64 c5,.int .i64 c6,.int .i64 c7] 65)).heap[w1.heap.size]? = some (.cells #[.int .i32 cr,.string cm,.int .i64 chf,.int .i64 c3,.int .i64 c4,.int .i64 c5,.int .i64 c6,.int .i64 c7] 65 (0,0))):=Hd (hp_new rfl)
    clear hbc HCA
    by_cases h2:chf = 2 ∨ chf = 3
    · have e:cellT ⟨cr,cm,chf,c3,c4,c5,c6,c7⟩ = []:=if_pos h2
      rw [e,List.append_nil] at HST
      clear e
      rcases h2 with rfl | rfl
      · go_wp2_with fail
        go_roundw
        case rel => exact ⟨k + 1,sk,by omega,by go_num,rfl,HBC.out,HST.out.symm⟩
        case measure => simp [intOf];omega
      · go_wp2_with fail
        go_roundw
        case rel => exact ⟨k + 1,sk,by omega,by go_num,rfl,HBC.out,HST.out.symm⟩
        case measure => simp [intOf];omega
    · have h2a:(chf == 2) = false:=by simp;omega
      have h2b:(chf == 3) = false:=by simp;omega
      by_cases h0:cr = 0
      · have e:cellT ⟨cr,cm,chf,c3,c4,c5,c6,c7⟩ = [32]:=by unfold cellT;rw [if_neg h2,if_pos h0]
        rw [e] at HST HLE
        subst h0
        have hs1:¬ 9223372036854775807 < sk.size + 1:=by have h1:=HLE.out;have h3:=HB.out;omega
        have hs2:¬ 9223372036854775806 < sk.size:=by omega
        clear e h2
        go_wp2_with fail
        go_roundw
        case rel => exact ⟨k + 1,_,by omega,by go_num,rfl,HBC.out,by rw [HST.out,ba_app]⟩
        case measure => simp [intOf];omega
      · have h0b:(cr == 0) = false:=by simpa using h0
        have e:cellT ⟨cr,cm,chf,c3,c4,c5,c6,c7⟩ = (putB cr).data.toList ++ cm.data.toList:=by unfold cellT;rw [if_neg h2,if_neg h0]
        rw [e] at HST HLE
        have HPUT:=Hd (fun w => rPutB_any cr w)
        generalize putB cr = pu at HPUT HST HLE
        have hp1:pu.size = pu.data.toList.length:=ba_size rfl
        have hp2:cm.size = cm.data.toList.length:=ba_size rfl
        have hs1:¬ 9223372036854775807 < sk.size + pu.size:=by have h1:=HLE.out;have h3:=HB.out;rw [List.length_append] at h1;omega
        have hs2:¬ 9223372036854775807 < sk.size + pu.size + cm.size:=by have h1:=HLE.out;have h3:=HB.out;rw [List.length_append] at h1;omega
        clear e h2 hp1 hp2
        go_upto_region 9 with fail
        have q0:(w1.alloc (.cells #[.int .i32 cr,.string cm,.int .i64 chf,.int .i64 c3,.int .i64 c4,.int .i64 c5,.int .i64 c6,.int .i64 c7] 65)).cell? ⟨w1.heap.size,0,none⟩ = some (.int .i32 cr):=(at_ HX0.out 0 _ rfl).1
        have q1:(w1.alloc (.cells #[.int .i32 cr,.string cm,.int .i64 chf,.int .i64 c3,.int .i64 c4,.int .i64 c5,.int .i64 c6,.int .i64 c7] 65)).cell? ⟨w1.heap.size,1,none⟩ = some (.string cm):=(at_ HX0.out 1 _ rfl).1
        generalize w1.alloc (.cells #[.int .i32 cr,.string cm,.int .i64 chf,.int .i64 c3,.int .i64 c4,.int .i64 c5,.int .i64 c6,.int .i64 c7] 65) = W1 at HBC HX0 q0 q1 ⊢
        refine wp_region_n 8 (fun w' => Below W1.heap.size W1 w'∧w'.cell? ⟨w1.heap.size,0,none⟩ = some (.int .i32 cr)∧w'.cell? ⟨w1.heap.size,1,none⟩ = some (.string cm)) (by kernel_rfl) (by kernel_rfl) (fun w1 w2 hS hb => ⟨below_tail hS.1 hb,holda hb hS.2.1,holda hb hS.2.2⟩) ⟨(Below.refl _ _).drew,q0,q1⟩ ?_
        refine AtN.go 0 ?_
        iterate 3 (refine AtC.take (o:=⟨_,_,_,_,_,_⟩) (v:=?_) (by kernel_rfl) rfl (by simp) (by kernel_rfl) (by kernel_rfl) ?_ ?_;rotate_left;(focus (first | exact StabN.skip (by rfl) | (refine StabN.val (by rfl) ?_;intro w' hS;obtain ⟨_,_,_⟩:=hS;go_simp;first | done | with_reducible rfl)));simp only [Act.put,List.setIfInBounds_toArray,List.set_cons_zero,List.set_cons_succ])
        refine AtC.back ?_
        refine AtN.go 6 ?_
        iterate 2 (refine AtC.take (o:=⟨_,_,_,_,_,_⟩) (v:=?_) (by kernel_rfl) rfl (by simp) (by kernel_rfl) (by kernel_rfl) ?_ ?_;rotate_left;(focus (first | exact StabN.skip (by rfl) | (refine StabN.val (by rfl) ?_;intro w' hS;obtain ⟨_,_,_⟩:=hS;go_simp;first | done | with_reducible rfl)));simp only [Act.put,List.setIfInBounds_toArray,List.set_cons_zero,List.set_cons_succ])
        refine AtC.back ?_
        refine AtN.one 3 (o:=⟨_,_,_,_,_,_⟩) (fun v => True) (fun v w' => ∃ xs,BytesAt w' v xs∧strOfNums xs = pu) (by simp) (by kernel_rfl) rfl (fun v w1 w2 ⟨xs,hv,hr⟩ hb => ⟨xs,hv.below hb,hr⟩) (StabN.call 52 #[.int .i32 cr] _ _ (by rfl) ?_ (fun w' hS => ?_)) ?_
        · intro w'
          go_simp
        · refine (HPUT.out w').mono ?_
          rintro e w3 ⟨v,xs,rfl,hx,hs,hb⟩
          exact ⟨v,rfl,⟨trivial,xs,hx,hs⟩,hb⟩
        rintro v -
        simp only [Act.put,List.setIfInBounds_toArray,List.set_cons_zero,List.set_cons_succ]
        refine AtN.take 4 (o:=⟨_,_,_,_,_,_⟩) (v:=.string pu) (by kernel_rfl) rfl (by simp) (by kernel_rfl) (by kernel_rfl) (StabN.val (by rfl) (fun w' hS => ?_)) ?_
        · obtain ⟨-,xs,hv,hs⟩:=hS
          have hcv:=conv_bytes hv
          rw [hs] at hcv
          go_simp
        simp only [Act.put,List.setIfInBounds_toArray,List.set_cons_zero,List.set_cons_succ]
        refine AtN.take 5 (o:=⟨_,_,_,_,_,_⟩) (v:=?_) (by kernel_rfl) rfl (by simp) (by kernel_rfl) (by kernel_rfl) ?_ ?_;rotate_left
        · first | exact StabN.skip (by rfl) | (refine StabN.val (by rfl) ?_;intro w' hS;obtain ⟨⟨_,_,_⟩,_⟩:=hS;go_simp;first | done | with_reducible rfl)
        simp only [Act.put,List.setIfInBounds_toArray,List.set_cons_zero,List.set_cons_succ]
        refine AtN.done (by kernel_rfl) (fun w' hS => ?_)
        have HB9:=Hd (below_tail HBC.out hS.1.1)
        clear hS q0 q1
        simp only [List.drop_succ_cons,List.drop_zero]
        go_wp2
        go_roundw
        case rel => exact ⟨k + 1,_,by omega,by go_num,rfl,HB9.out,by rw [HST.out,ba_app,ba_app,List.append_assoc]⟩
        case measure => simp [intOf];omega
  · obtain rfl:k = u:=by omega
    rw [HT.out] at hsk
    have HE:=Hd (ba_list hsk)
    clear hBe hsk
    go_wp2_with (go_at_call 51;(with_reducible refine (HU.out _ HBE.out).mono ?_);rintro e w1 ⟨rfl,hb1⟩;have HB1:=Hd hb1;clear hb1)
    go_ret
    exact ⟨by rw [← HE.out];rfl,below_tail HBE.out HB1.out⟩
def GreatQ (l:List Rw) (w:World) (e:Ending) (w':World):Prop:=∃ b:Bool,e = .returned (.bool b)∧(b = false→l.length ≤ 400∧∀ r ∈ l,r.cs.length ≤ 400)∧Below w.heap.size w w'
theorem takeQ {l:List Rw} {k:Nat} {r:Rw} {s:Int} (hr:l[k]? = some r) (h0:0 ≤ s) (h:∀ r ∈ l.take k,(r.cs.length:Int) ≤ s):∀ q ∈ l.take (k + 1),(q.cs.length:Int) ≤ s + r.cs.length:=fun q hq => by
 obtain ⟨hk,rfl⟩:=List.getElem?_eq_some_iff.1 hr
 rw [List.take_succ_eq_append_getElem hk] at hq
 rcases List.mem_append.1 hq with h1 | h1
 · have:=h q h1;omega
 · rw [List.mem_singleton.1 h1];omega
set_option maxHeartbeats 1600000 in
theorem great28_any (A:Option Addr) (l:List Rw) (ca:Nat) (w:World) (hl:RwsAt w A l) (hz:l.length ≤ 1048576) (hcz:∀ r ∈ l,r.cs.length ≤ 1048576) :
 Calls Tryz.prog 21 #[.slice A l.length ca] w (GreatQ l w):=by
 have HL:=Hd hl
 have HC:=Hd hcz
 obtain ⟨L,hL⟩:∃ L,l.length = L:=⟨_,rfl⟩
 have HLL:=Hd hL
 rw [hL] at hz ⊢
 clear hl hcz hL
 go_enter Tryz.func21,Tryz.ntmps21
 go_wp2_with fail
 go_loopw [3,4] (fun n i wr => ∃ (k:Nat) (s:Int),k ≤ L∧i = .int .i64 k∧n = .int .i64 s∧(L:Int) ≤ s∧s ≤ 3000000∧(∀ r ∈ l.take k,(r.cs.length:Int) ≤ s)∧Below w.heap.size w wr) (fun _ i _ => L - (intOf i).toNat)
 case atStart => exact ⟨0,_,Nat.zero_le _,rfl,rfl,by omega,by omega,(fun r hr => by simp at hr),Below.refl _ _⟩
 case round =>
  obtain ⟨k,s,hk,rfl,rfl,hs1,hs2,hs3,hB⟩:=hrel
  have HS3:=Hd hs3
  have HB:=Hd hB
  clear hs3 hB
  by_cases hlt:k < L
  rotate_left
  · obtain rfl:k = L:=by omega
    go_wp2
    go_ret
    refine ⟨_,rfl,fun h => ?_,HB.out⟩
    have h:=of_decide_eq_false h
    refine ⟨by have:=HLL.out;omega,fun r hr => ?_⟩
    have:=HS3.out r (by rw [← HLL.out,List.take_length];exact hr)
    omega
  · by_cases hg:s ≤ 400
    · obtain ⟨b,off,r,rfl,hr,cr,cc,cz⟩:=HL.out.at_ (k:=k) (by have:=HLL.out;omega)
      have c0:=holda HB.out cr.1
      have hrz:=HC.out r (List.mem_of_getElem? hr)
      have HT:=Hd (takeQ hr (by omega) HS3.out)
      obtain ⟨rA,cs,cap,cont⟩:=r
      simp only at c0 hrz HT
      generalize cs.length = n at c0 hrz HT
      obtain ⟨q,hq⟩:∃ q:Int,s + n = q:=⟨_,rfl⟩
      rw [hq] at HT
      have hwq:IntKind.i64.wrap q = q:=IntWalk.i64_in _ (by omega)
      have hq1:(L:Int) ≤ q:=by omega
      have hq2:q ≤ 3000000:=by omega
      clear hr cr cc
      go_wp2
      go_roundw
      case rel => exact ⟨k + 1,q,by omega,by go_num,rfl,hq1,hq2,HT.out,HB.out⟩
      case measure => simp [intOf];omega
    · go_wp2
      go_ret
      exact ⟨_,rfl,fun h => absurd h (by simp),HB.out⟩
end Go.Proofs.YtaefcahblmopfaaGreatDoor
