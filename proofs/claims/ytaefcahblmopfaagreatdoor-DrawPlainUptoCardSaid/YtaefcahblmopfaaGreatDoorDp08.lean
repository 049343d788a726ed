/- Joined by a tool of this claim out of smaller texts. Conditions: as stated. -/
import Derived.Test.YtaefcahblmopfaaGreatDoorDp07
set_option linter.unusedVariables false
set_option linter.unusedSimpArgs false
set_option maxRecDepth 100000
open Go.Lib renaming hid → Hd
namespace Go.Proofs.YtaefcahblmopfaaGreatDoor
open Go.RowKit
theorem owns_setRow {w:World} {base g n cap:Nat} {SL:List Rh} (h:w.ownsRow base 52 2 (.slice (some ⟨g,0,none⟩) n cap) n (flat encRh SL)) {i:Nat} (hi:i < SL.length) (r:Rh) :
 ((w.setCell ⟨g,i * 2,none⟩ (.slice r.A r.cs.length r.cap)).setCell ⟨g,i * 2 + 1,none⟩ (.bool r.cont)).ownsRow base 52 2 (.slice (some ⟨g,0,none⟩) n cap) n (flat encRh (SL.set i r)):=by
 have hx:SL[i]? = some SL[i]:=List.getElem?_eq_getElem hi
 have h1:=owns_set1 h (i * 2) (.slice r.A r.cs.length r.cap)
 have h2:=owns_set1 h1 (i * 2 + 1) (.bool r.cont)
 have e1:((flat encRh SL).set (i * 2) (.slice r.A r.cs.length r.cap)).set (i * 2 + 1) (.bool r.cont) = flat encRh (SL.set i r):=by
  have a1:=flat_set1 encRh_len SL i SL[i] { r with cont:=SL[i].cont } 0 (.slice r.A r.cs.length r.cap) hx (by decide) rfl
  rw [Nat.add_zero] at a1
  rw [a1]
  have a2:=flat_set1 encRh_len (SL.set i { r with cont:=SL[i].cont }) i { r with cont:=SL[i].cont } r 1 (.bool r.cont) (by simp [List.getElem?_set_self hi]) (by decide) rfl
  rw [a2,List.set_set]
 rw [e1] at h2
 exact h2
theorem owns_row {w:World} {base g n cap:Nat} {SL:List Rh} (h:w.ownsRow base 52 2 (.slice (some ⟨g,0,none⟩) n cap) n (flat encRh SL)) {i:Nat} {r:Rh} (hr:SL[i]? = some r) :
 (w.cell? ⟨g,i * 2,none⟩ = some (.slice r.A r.cs.length r.cap)∧w.frozen? ⟨g,i * 2,none⟩ = false)∧w.cell? ⟨g,i * 2 + 1,none⟩ = some (.bool r.cont)∧w.frozen? ⟨g,i * 2 + 1,none⟩ = false:=by
 have h0:=owns_hold h (i:=i * 2 + 0) (by rw [flat_at2 encRh_len SL i r 0 hr (by decide)];rfl)
 have h1:=owns_hold h (i:=i * 2 + 1) (by rw [flat_at2 encRh_len SL i r 1 hr (by decide)];rfl)
 rw [Nat.add_zero] at h0
 exact ⟨h0,h1⟩
theorem mod_set2 {X:List Nat} {w w1:World} {b o:Nat} {u v:Value} (h:Mod X w w1) (hb:b ∈ X ∨ w.heap.size ≤ b):Mod X w ((w1.setCell ⟨b,o,none⟩ u).setCell ⟨b,o + 1,none⟩ v):=(h.setCell (a:=⟨b,o,none⟩) hb u).setCell (a:=⟨b,o + 1,none⟩) hb v
section
variable {base:Nat} {w:World} {R:Nat} {vl:Value} {SL:List Rh} {room first n:Nat} {gone:Int}
theorem RgO.slots (h:RgO base w R vl SL room first n gone) (hf:first < SL.length):∃ g c,vl = .slice (some ⟨g,0,none⟩) SL.length c∧g ≠ R∧g < w.heap.size∧R < w.heap.size:=by
 obtain ⟨g,c,rfl⟩:=own_form h.own (by omega)
 exact ⟨g,c,rfl,h.ne rfl,(h.own.lt g rfl).2,(Array.getElem?_eq_some_iff.1 h.blk).1⟩
def DropPost (base:Nat) (w:World) (R:Nat) (vl:Value) (SL:List Rh) (room first n:Nat) (gone:Int) (e:Ending) (w':World):Prop :=
 (∃ r:Rh,e = .returned (.agg #[.slice r.A r.cs.length r.cap,.bool r.cont]))∧RgO base w' R vl (SL.set first zeroRh) room (slotOf SL.length first 1) (n - 1) ((gone + 1) % 18446744073709551616)∧Mod (ringX R vl) w w'
set_option maxHeartbeats 3200000 in
theorem rdrop_any (h:RgO base w R vl SL room first n gone) (hn0:0 < n) (hg0:0 ≤ gone):Calls Tryz.prog 324 #[.pointer (some ⟨R,0,none⟩)] w (DropPost base w R vl SL room first n gone):=by
 have hf:first < SL.length:=by
  rcases h.hf with hf | ⟨-,hf⟩
  · exact hf
  · have:=h.hn;omega
 obtain ⟨g,c,hv,hgR,hgl,hRl⟩:=h.slots hf
 subst hv
 have H:=Hd h
 obtain ⟨r,hr⟩:∃ r,SL[first]? = some r:=⟨SL[first],List.getElem?_eq_getElem hf⟩
 have hnr:n ≤ 100000:=by have:=h.hn;have:=h.hm;have:=h.hroom;omega
 have hmr:SL.length ≤ 100000:=by have:=h.hm;have:=h.hroom;omega
 have hfI:(first:Int) < (SL.length:Int):=by omega
 have hw1:IntKind.i64.wrap ((n:Int) - 1) = ((n - 1:Nat):Int):=by rw [IntWalk.i64_in _ (by omega)];omega
 have hwn:IntKind.i64.wrap ((n - 1:Nat):Int) = ((n - 1:Nat):Int):=IntWalk.i64_in _ (by omega)
 have hsub:(n:Int) - 1 = ((n - 1:Nat):Int):=by omega
 have hwg:IntKind.u64.wrap (gone + 1) = (gone + 1) % 18446744073709551616:=IntKind.wrap_u64 _
 obtain ⟨W,hW⟩:∃ W,w.alloc (.cells #[.slice none 0 0,.bool false] 52) = W:=⟨_,rfl⟩
 have HB:=Hd (show Below w.heap.size w W from by rw [← hW];exact below_allocs (Below.refl _ _) _)
 have HN:=Hd (show W.heap[w.heap.size]? = some (.cells #[.slice none 0 0,.bool false] 52 (0,0)) from by rw [← hW];exact hp_new rfl)
 have hO:=h.below HB.out
 have HO:=Hd hO
 have x0:=(at_ hO.blk 0 _ rfl).1
 have x2:=(at_ hO.blk 2 _ rfl).1
 obtain ⟨⟨r0,-⟩,r1,-⟩:=owns_row hO.own hr
 clear h hO
 go_enter Tryz.func324,Tryz.ntmps324
 go_upto_region 1 with fail
 clear hW
 refine wp_region_n 11 (fun w' => Below W.heap.size W w'∧w'.cell? ⟨R,0,none⟩ = some (.slice (some ⟨g,0,none⟩) SL.length c)∧w'.cell? ⟨R,2,none⟩ = some (.int .i64 first)∧w'.cell? ⟨g,first * 2,none⟩ = some (.slice r.A r.cs.length r.cap)∧w'.cell? ⟨g,first * 2 + 1,none⟩ = some (.bool r.cont)) (by kernel_rfl) (by kernel_rfl) (fun w1 w2 hS hb => ⟨below_tail hS.1 hb,holda hb hS.2.1,holda hb hS.2.2.1,holda hb hS.2.2.2.1,holda hb hS.2.2.2.2⟩) ⟨(Below.refl _ _).drew,x0,x2,r0,r1⟩ ?_
 refine AtN.go 0 ?_
 iterate 10 (refine AtC.take (o:=⟨_,_,_,_,_,_⟩) (v:=?_) (by kernel_rfl) rfl (by simp) (by kernel_rfl) (by kernel_rfl) ?_ ?_;rotate_left;(focus (first | exact StabN.skip (by rfl) | (refine StabN.val (by rfl) ?_;intro w' hS;obtain ⟨_,_,_,_,_⟩:=hS;go_simp;first | done | with_reducible rfl)));simp only [Act.put,List.setIfInBounds_toArray,List.set_cons_zero,List.set_cons_succ])
 refine AtC.back ?_
 refine AtN.one 10 (o:=⟨_,_,_,_,_,_⟩) _ _ (by simp) (by kernel_rfl) rfl (NewP.pers 52 #[.slice none 0 0,.bool false]) (StabN.alloc W.heap.size 52 #[.slice none 0 0,.bool false] [] (by rfl) (fun w' hS => by go_simp) (fun w' hS => hS.1.size) (fun _ _ _ hx => by cases hx)) ?_
 rintro v ⟨k,rfl,hk,-⟩
 simp only [Act.put,List.setIfInBounds_toArray,List.set_cons_zero,List.set_cons_succ]
 refine AtN.done (by kernel_rfl) (fun w' hS => ?_)
 have HB1:=Hd hS.1.1
 have HK:=Hd hS.2.at_
 clear hS x0 x2 r0 r1
 have hkW:w.heap.size < k:=by have:=HN.out;have:=lt_of_heap this;omega
 obtain ⟨y0,y0f⟩:=at_ HK.out 0 _ rfl
 obtain ⟨y1,y1f⟩:=at_ HK.out 1 _ rfl
 go_upto_region 2 with fail
 have HM2:=Hd (mod_set2 (o:=0) (u:=.slice r.A r.cs.length r.cap) (v:=.bool r.cont) (Mod.of_below (X:=[]) (below_tail HB.out HB1.out)) (.inr (Nat.le_of_lt hkW)))
 have HN2:Hid (((w'.setCell ⟨k,0,none⟩ (.slice r.A r.cs.length r.cap)).setCell ⟨k,1,none⟩ (.bool r.cont)).heap[w.heap.size]? = some (.cells #[.slice none 0 0,.bool false] 52 (0,0))):=Hd (by
  rw [heap_other (by omega),heap_other (by omega)];exact (HB1.out.block _ (lt_of_heap HN.out)).trans HN.out)
 have HK2:=Hd (whole_set (whole_set (cs:=[.slice none 0 0,.bool false]) HK.out 0 (.slice r.A r.cs.length r.cap) (cs':=[.slice r.A r.cs.length r.cap,.bool false]) rfl) 1 (.bool r.cont) (cs':=[.slice r.A r.cs.length r.cap,.bool r.cont]) rfl)
 generalize World.setCell _ _ _ = W2 at HM2 HN2 HK2 ⊢
 have HO2:=Hd (H.out.mod HM2.out (NoCel.nil w) (fun _ _ h => by cases h))
 have x0:=(at_ HO2.out.blk 0 _ rfl).1
 have x2:=(at_ HO2.out.blk 2 _ rfl).1
 clear y0 y0f y1 y1f
 refine wp_region_u 10 (fun w' => Below W2.heap.size W2 w'∧w'.cell? ⟨R,0,none⟩ = some (.slice (some ⟨g,0,none⟩) SL.length c)∧w'.cell? ⟨R,2,none⟩ = some (.int .i64 first)) (by kernel_rfl) (by kernel_rfl) ?_ ?_
 · exact ⟨(Below.refl _ _).drew,x0,x2⟩
 simp only [List.take_succ_cons,List.take_zero,List.drop_succ_cons,List.drop_zero]
 repeat (
  (first
   | refine seqU_skip (by rfl) ?_
   | (refine seqU_val ?_ (by rfl) ?_ ?_;rotate_left;(focus (intro w' hS;obtain ⟨_,_,_⟩:=hS;go_simp;first | done | with_reducible rfl))))
  simp only [Act.put,List.setIfInBounds_toArray,List.set_cons_zero,List.set_cons_succ])
 refine seqU_nil (fun w' hS => ?_)
 have HB3:=Hd hS.1
 have hO3:=HO2.out.below hS.1
 obtain ⟨⟨q0,q0f⟩,q1,q1f⟩:=owns_row hO3.own hr
 have HK3:=Hd ((hS.1.block _ (lt_of_heap HK2.out)).trans HK2.out)
 have HN3:=Hd ((hS.1.block _ (lt_of_heap HN2.out)).trans HN2.out)
 have HO3:=Hd hO3
 clear hS x0 x2 hO3
 go_upto_region 3 with fail
 have HOW:=Hd (owns_setRow HO3.out.own hf zeroRh)
 have HM4:=Hd (mod_set2 (X:=ringX R (.slice (some ⟨g,0,none⟩) SL.length c)) (b:=g) (o:=first * 2) (u:=.slice none 0 0) (v:=.bool false) ((HM2.out.mono (fun _ h => by cases h)).then_below HB3.out) (.inl (by simp [ringX,Value.ownBlock])))
 have HKg:k ≠ g:=by have:=HB1.out.size;have:=HB.out.size;omega
 have HBLK:Hid (((w'.setCell ⟨g,first * 2,none⟩ (.slice none 0 0)).setCell ⟨g,first * 2 + 1,none⟩ (.bool false)).heap[R]? = some (.cells [.slice (some ⟨g,0,none⟩) SL.length c,.int .i64 room,.int .i64 first,.int .i64 n,.int .u64 gone].toArray 225 (0,0))):=Hd ((heap_other (Ne.symm hgR)).trans ((heap_other (Ne.symm hgR)).trans HO3.out.blk))
 have HK4:=Hd ((heap_other (i:=first * 2 + 1) (v:=.bool false) HKg).trans ((heap_other (i:=first * 2) (v:=.slice none 0 0) HKg).trans HK3.out))
 have hNg:w.heap.size ≠ g:=by omega
 have HN4:=Hd ((heap_other (i:=first * 2 + 1) (v:=.bool false) hNg).trans ((heap_other (i:=first * 2) (v:=.slice none 0 0) hNg).trans HN3.out))
 clear q0 q0f q1 q1f
 change Hid ((((w'.setCell ⟨g,first * 2,none⟩ (.slice none 0 0)).setCell ⟨g,first * 2 + 1,none⟩ (.bool false))).ownsRow _ _ _ _ _ _) at HOW
 generalize World.setCell _ _ _ = W4 at HOW HM4 HBLK HK4 HN4 ⊢
 have HSL:=Hd (slot_raw (range_box HBLK.out 0 _ rfl) (range_box HBLK.out 2 _ rfl) hmr (by omega) 1 (by omega))
 obtain ⟨z2,z2f⟩:=whole_at HBLK.out 2 _ rfl
 obtain ⟨z3,z3f⟩:=whole_at HBLK.out 3 _ rfl
 obtain ⟨z4,z4f⟩:=whole_at HBLK.out 4 _ rfl
 go_upto_region 6 with (go_at_call 251;refine HSL.out.mono ?_;rintro e w1 ⟨rfl,rfl⟩)
 have c2:=whole_set HBLK.out 2 (.int .i64 (slotOf SL.length first 1)) rfl
 have c3:=whole_set c2 3 (.int .i64 ((n - 1:Nat):Int)) rfl
 have C4:=Hd (whole_set c3 4 (.int .u64 ((gone + 1) % 18446744073709551616)) rfl)
 have hkR:k ≠ R:=by have:=HB1.out.size;have:=HB.out.size;omega
 have hNR:w.heap.size ≠ R:=by omega
 have HK5:=Hd ((heap_other (i:=4) (v:=.int .u64 ((gone + 1) % 18446744073709551616)) hkR).trans ((heap_other (i:=3) (v:=.int .i64 ((n - 1:Nat):Int)) hkR).trans ((heap_other (i:=2) (v:=.int .i64 (slotOf SL.length first 1)) hkR).trans HK4.out)))
 have HN5:=Hd ((heap_other (i:=4) (v:=.int .u64 ((gone + 1) % 18446744073709551616)) hNR).trans ((heap_other (i:=3) (v:=.int .i64 ((n - 1:Nat):Int)) hNR).trans ((heap_other (i:=2) (v:=.int .i64 (slotOf SL.length first 1)) hNR).trans HN4.out)))
 have HM5:=Hd ((((Mod.refl [R] W4).setCell (a:=⟨R,2,none⟩) (.inl (by simp)) (.int .i64 (slotOf SL.length first 1))).setCell (a:=⟨R,3,none⟩) (.inl (by simp)) (.int .i64 ((n - 1:Nat):Int))).setCell (a:=⟨R,4,none⟩) (.inl (by simp)) (.int .u64 ((gone + 1) % 18446744073709551616)))
 clear c2 c3 z2 z2f z3 z3f z4 z4f
 generalize World.setCell _ _ _ = W5 at C4 HK5 HN5 HM5 ⊢
 obtain ⟨a0,-⟩:=at_ HK5.out 0 _ rfl
 obtain ⟨a1,-⟩:=at_ HK5.out 1 _ rfl
 obtain ⟨b0,b0f⟩:=at_ HN5.out 0 _ rfl
 obtain ⟨b1,b1f⟩:=at_ HN5.out 1 _ rfl
 have HM6:=Hd (mod_set2 (b:=w.heap.size) (o:=0) (u:=.slice r.A r.cs.length r.cap) (v:=.bool r.cont) (HM4.out.trans HM5.out (fun x hx => .inl (by rw [List.mem_singleton.1 hx];simp [ringX]))) (.inr (Nat.le_refl _)))
 have HM7:=Hd (mod_set2 (b:=w.heap.size) (o:=0) (u:=.slice r.A r.cs.length r.cap) (v:=.bool r.cont) (HM5.out.mono (Y:=[R,w.heap.size]) (fun x hx => by rw [List.mem_singleton.1 hx];simp)) (.inl (by simp)))
 have HBLK7:=Hd ((heap_other (i:=1) (v:=.bool r.cont) (Ne.symm hNR)).trans ((heap_other (i:=0) (v:=.slice r.A r.cs.length r.cap) (Ne.symm hNR)).trans C4.out))
 go_wp2
 have hset:=set_two (u':=.slice r.A r.cs.length r.cap) (v':=.bool r.cont) ⟨b0,b0f⟩ ⟨b1,b1f⟩
 refine bodyPost_ret (ret_row rfl _ _ w.heap.size _ _ rfl hset.1.1 hset.2.1) rfl ⟨⟨r,rfl⟩,H.out.reblk HBLK7.out ?_ ?_ ?_ ?_ ?_,HM6.out⟩
 · have:=owns_mod HOW.out HM7.out (fun x hx => by simp [Value.ownBlock] at hx;subst hx;simp;omega)
   rwa [List.length_set]
 · rw [List.length_set];have:=H.out.hn;omega
 · rw [List.length_set];exact H.out.hm
 · rw [List.length_set];exact .inl (by unfold slotOf;split <;> omega)
 · intro x hx
   rw [histL_drop hf H.out.hn hn0] at hx
   have hx2:=H.out.rows x (List.mem_of_mem_drop hx)
   exact ⟨hx2.1.mod HM6.out H.out.nocel,hx2.2⟩
end
theorem made_flatG {α:Type} {enc:α→List Value} {K:Nat} (hl:∀ x,(enc x).length = K) (hK:0 < K) (z:α) (n:Nat):(madeCells (enc z).toArray (n * K)).toList = flat enc (List.replicate n z):=by
 refine List.ext_getElem? fun m => ?_
 by_cases hm:m < n * K
 · have hd:m / K < n:=(Nat.div_lt_iff_lt_mul hK).2 hm
   have h1:(List.replicate n z)[m / K]? = some z:=by rw [List.getElem?_replicate];rw [if_pos hd]
   have h2:=flat_at2 hl (List.replicate n z) (m / K) z (m % K) h1 (Nat.mod_lt _ hK)
   rw [show m / K * K + m % K = m by rw [Nat.mul_comm];exact Nat.div_add_mod m K] at h2
   rw [h2]
   have hj:m % K < (enc z).length:=by rw [hl];exact Nat.mod_lt _ hK
   unfold madeCells
   simp only [Array.toList_map,Array.toList_range,List.getElem?_map,List.getElem?_range hm,Option.map_some]
   rw [List.getElem?_eq_getElem hj]
   congr 1
   have hs:(enc z).toArray.size = K:=by rw [List.size_toArray,hl]
   rw [hs,getElem!_pos _ _ (by rw [hs];exact Nat.mod_lt _ hK)]
   simp
 · rw [List.getElem?_eq_none (by simp [size_madeCells];omega),List.getElem?_eq_none (by rw [flat_len hl,List.length_replicate];omega)]
theorem info_rowz:(Tryz.prog.info? 52).map (fun i => (i.zero,i.size,i.bytes)) = some (some (.agg #[.slice none 0 0,.bool false]),2,32):=by kernel_rfl
theorem take_set {α:Type} {H:List α} {z:α} {m i:Nat} (hi:i < H.length) (hm:i < m):(H.take i ++ List.replicate (m - i) z).set i H[i] = H.take (i + 1) ++ List.replicate (m - (i + 1)) z:=by
 rw [List.set_append_right _ _ (by rw [List.length_take];omega),List.length_take,show i - min i H.length = 0 by omega,show m - i = (m - (i + 1)) + 1 by omega,List.replicate_succ,List.set_cons_zero,List.take_succ_eq_append_getElem hi,List.append_assoc]
 rfl
section
variable {base:Nat} {w:World} {R:Nat} {vl:Value} {SL:List Rh} {room first n:Nat} {gone:Int}
def GrowPost (base:Nat) (w:World) (R:Nat) (H:List Rh) (room n:Nat) (gone:Int) (e:Ending) (w':World):Prop :=
 e = .returned (.tuple #[])∧∃ vl' m,n < m∧RgO base w' R vl' (H ++ List.replicate (m - n) zeroRh) room 0 n gone∧Mod [R] w w'∧∀ g,vl'.ownBlock = some g→w.heap.size ≤ g
set_option maxHeartbeats 3200000 in
theorem rgrow_any (h:RgO base w R vl SL room first n gone) (hfull:n = SL.length) (hlt:SL.length < room) (hbw:base ≤ w.heap.size):Calls Tryz.prog 325 #[.pointer (some ⟨R,0,none⟩)] w (GrowPost base w R (histL SL first n) room n gone):=by
 obtain ⟨j0,hj,gz0,gz1,gz2⟩:=info_parts info_rowz
 obtain ⟨A,c,hv⟩:=row_form h.own
 have hroom:=h.hroom
 obtain ⟨q,hq⟩:∃ q:Nat,q = 2 * SL.length:=⟨_,rfl⟩
 have hqI:(2:Int) * (SL.length:Int) = (q:Int):=by omega
 have hwq:IntKind.i64.wrap (q:Int) = (q:Int):=IntWalk.i64_in _ (by omega)
 obtain ⟨s1,hs1⟩:∃ s1:Nat,(if (4:Int) < (q:Int) then (q:Int) else 4) = (s1:Int):=⟨max 4 q,by omega⟩
 obtain ⟨m,hm⟩:∃ m:Nat,(if s1 < room then (s1:Int) else (room:Int)) = (m:Int):=⟨min s1 room,by omega⟩
 have hmn:n < m:=by omega
 have hmr:m ≤ room:=by omega
 have hmr2:m ≤ 100000:=by omega
 have H:=Hd h
 have x0:=(at_ h.blk 0 _ rfl).1
 have x1:=(at_ h.blk 1 _ rfl).1
 rw [hv] at x0
 have HV:=Hd hv
 have HQ:=Hd (And.intro hmn (And.intro hmr (And.intro hfull hlt)))
 clear hq h hv hfull
 go_enter Tryz.func325,Tryz.ntmps325
 go_upto_region 0 with fail
 refine wp_region_u 12 (fun w' => Below w.heap.size w w'∧w'.cell? ⟨R,0,none⟩ = some (.slice A SL.length c)∧w'.cell? ⟨R,1,none⟩ = some (.int .i64 room)) (by kernel_rfl) (by kernel_rfl) ?_ ?_
 · exact ⟨(Below.refl _ _).drew,x0,x1⟩
 simp only [List.take_succ_cons,List.take_zero,List.drop_succ_cons,List.drop_zero]
 repeat (
  (first
   | refine seqU_skip (by rfl) ?_
   | (refine seqU_val ?_ (by rfl) ?_ ?_;rotate_left;(focus (intro w' hS;obtain ⟨_,_,_⟩:=hS;go_simp;first | done | with_reducible rfl))))
  simp only [Act.put,List.setIfInBounds_toArray,List.set_cons_zero,List.set_cons_succ])
 refine seqU_nil (fun w' hS => ?_)
 have HB1:=Hd hS.1
 clear hS x0 x1
 clear hs1 hqI hwq
 have hb1:=HB1.out.size
 go_wp2_with (refine wpList_make_full _ rfl (.tmp 17) (.tmp 17) _ rfl w.heap.size 52 j0 _ 2 Tryz.underlying46 hj gz0 gz1 .i64 .i64 _ _ m rfl rfl ?_ ?_ ?_ ?_ ?_ ?_)
 all_goals first
  | rfl
  | omega
  | (simp only [maxLen];omega)
  | (rw [gz2];omega)
  | (simp;done)
  | skip
 intro w1 hown hg
 have HG:=Hd hg
 have e:=made_flatG encRh_len (by decide) zeroRh m
 have HO0:Hid (w1.ownsRow w.heap.size 52 2 (.slice (some ⟨w'.heap.size,0,none⟩) m m) m (flat encRh (List.replicate m zeroRh))):=Hd (by rw [← e];exact hown)
 clear hown hg e
 have HB2:=Hd (show Below w.heap.size w w1 from HB1.out.grown HG.out hb1 (fun k hk => by cases hk))
 have hO1:=H.out.below HB2.out
 have x3:=(at_ hO1.blk 3 _ rfl).1
 clear HG hO1
 have hg1:w.heap.size ≤ w'.heap.size:=hb1
 have hg2:=(HO0.out.lt w'.heap.size rfl).2
 generalize w'.heap.size = g1 at HO0 hg1 hg2 ⊢
 clear hm HB1 hb1
 have HH:=Hd (histL_len SL first n)
 have hnN:n ≤ 100000:=by omega
 go_wp2_with fail
 go_loopw [23] (fun s23 wr => ∃ i:Nat,s23 = .int .i64 i∧i ≤ n∧wr.ownsRow w.heap.size 52 2 (.slice (some ⟨g1,0,none⟩) m m) m (flat encRh ((histL SL first n).take i ++ List.replicate (m - i) zeroRh))∧Mod [g1] w1 wr) (fun s23 _ => n - (intOf s23).toNat)
 case atStart => exact ⟨0,rfl,Nat.zero_le _,by simpa using HO0.out,Mod.refl _ _⟩
 case round =>
  obtain ⟨i,rfl,hi,hO,hM⟩:=hrel
  have HOi:=Hd hO
  have HMi:=Hd hM
  have HMw:=Hd ((Mod.of_below (X:=[g1]) HB2.out).trans hM (fun x hx => .inl hx))
  have hNC:NoCel w1 [g1]:=fun b hb cs f he => by
   rw [List.mem_singleton.1 hb] at he
   obtain ⟨cur,hc⟩:=own_block HO0.out (g:=g1) rfl
   rw [hc] at he
   injection he with he
   injection he with _ ht
   exact absurd ht (by decide)
  have HRi:=Hd ((H.out.below HB2.out).mod hM hNC (fun x hx hX => by rw [List.mem_singleton.1 hX] at hx;have:=H.out.lt g1 hx;omega))
  clear hO hM hNC
  by_cases hlt2:i < n
  rotate_left
  · obtain rfl:i = n:=by omega
    obtain ⟨y0,y0f⟩:=at_ HRi.out.blk 0 _ rfl
    obtain ⟨y2,y2f⟩:=at_ HRi.out.blk 2 _ rfl
    have HK:=Hd (whole_set (whole_set (cs:=[vl,.int .i64 room,.int .i64 first,.int .i64 i,.int .u64 gone]) HRi.out.blk 0 (.slice (some ⟨g1,0,none⟩) m m) (cs':=[.slice (some ⟨g1,0,none⟩) m m,.int .i64 room,.int .i64 first,.int .i64 i,.int .u64 gone]) rfl) 2 (.int .i64 0) (cs':=[.slice (some ⟨g1,0,none⟩) m m,.int .i64 room,.int .i64 0,.int .i64 i,.int .u64 gone]) rfl)
    have hRl:=(H.out.lt R (by simp [ringX])).2
    have HMf:=Hd (((HMw.out.mono (Y:=[R,g1]) (fun x hx => by rw [List.mem_singleton.1 hx];simp)).setCell (a:=⟨R,0,none⟩) (.inl (by simp)) (.slice (some ⟨g1,0,none⟩) m m)).setCell (a:=⟨R,2,none⟩) (.inl (by simp)) (.int .i64 0))
    go_wp2
    go_end0
    have hl:(histL SL first i ++ List.replicate (m - i) zeroRh).length = m:=by rw [List.length_append,HH.out,List.length_replicate];omega
    have hMR:Mod [R] w ((wr.setCell ⟨R,0,none⟩ (.slice (some ⟨g1,0,none⟩) m m)).setCell ⟨R,2,none⟩ (.int .i64 0)):=(Mod.trans (X:=[R]) (Y:=[R,g1]) (Mod.refl [R] w) HMf.out (fun x hx => by
     rcases List.mem_cons.1 hx with rfl | hx
     · exact .inl (by simp)
     · rw [List.mem_singleton.1 hx];exact .inr hg1))
    refine ⟨rfl,.slice (some ⟨g1,0,none⟩) m m,m,HQ.out.1,⟨HK.out,?_,H.out.hb,H.out.hroom,by rw [hl];omega,by rw [hl];exact hmr,.inl (by rw [hl];omega),?_⟩,hMR,fun g hg => by simp [Value.ownBlock] at hg;omega⟩
    · rw [hl]
      have h1:=HOi.out
      rw [show (histL SL first i).take i = histL SL first i from List.take_of_length_le (by rw [HH.out];exact Nat.le_refl _)] at h1
      have h2:=owns_mod h1 ((Mod.refl [R] wr).setCell (a:=⟨R,0,none⟩) (.inl (by simp)) (.slice (some ⟨g1,0,none⟩) m m) |>.setCell (a:=⟨R,2,none⟩) (.inl (by simp)) (.int .i64 0)) (fun x hx => by simp [Value.ownBlock] at hx;simp;omega)
      exact owns_weaken h2 hbw
    · intro x hx
      have e:histL (histL SL first i ++ List.replicate (m - i) zeroRh) 0 i = histL SL first i:=by
       have:=histL_grown (H:=histL SL first i) (Z:=List.replicate (m - i) zeroRh)
       rwa [HH.out] at this
      rw [e] at hx
      have:=H.out.rows x hx
      exact ⟨this.1.mod hMR (fun b hb cs f he => by
       rw [List.mem_singleton.1 hb,H.out.blk] at he
       injection he with he
       injection he with _ ht
       exact absurd ht (by decide)),this.2⟩
  · have hf:first < SL.length:=by
     rcases H.out.hf with hf | ⟨-,hf⟩
     · exact hf
     · have:=H.out.hn;omega
    obtain ⟨k,hk⟩:∃ k,slotOf SL.length first i = k:=⟨_,rfl⟩
    have hkl:k < SL.length:=by rw [← hk];exact slotOf_lt hf (by have:=H.out.hn;omega)
    obtain ⟨r,hr⟩:∃ r,SL[k]? = some r:=⟨SL[k],List.getElem?_eq_getElem hkl⟩
    have hHi:(histL SL first n)[i]? = some r:=by rw [histL_at hf H.out.hn hlt2,hk,hr]
    obtain ⟨gs,cs,hvs⟩:=own_form H.out.own (by omega)
    have hownS:=HRi.out.own
    have x0:=(at_ HRi.out.blk 0 _ rfl).1
    rw [hvs] at hownS x0
    obtain ⟨⟨r0,-⟩,r1,-⟩:=owns_row hownS hr
    have x2:wr.cell? ⟨R,2,none⟩ = some (.int .i64 first):=(at_ HRi.out.blk 2 _ rfl).1
    have hfr:first ≤ 100000:=by have:=HQ.out;omega
    have hkI:(k:Int) < (SL.length:Int):=by omega
    have hiI:(i:Int) < (n:Int):=by omega
    have him:i < m:=by omega
    have himI:(i:Int) < (m:Int):=by omega
    have HHI:=Hd hHi
    clear hHi hr hownS hvs hf
    go_upto_region 5 with fail
    refine wp_region_u 12 (fun w2 => Below wr.heap.size wr w2∧w2.cell? ⟨R,0,none⟩ = some (.slice (some ⟨gs,0,none⟩) SL.length cs)∧w2.cell? ⟨gs,k * 2,none⟩ = some (.slice r.A r.cs.length r.cap)∧w2.cell? ⟨gs,k * 2 + 1,none⟩ = some (.bool r.cont)) (by kernel_rfl) (by kernel_rfl) ?_ ?_
    · exact ⟨(Below.refl _ _).drew,x0,r0,r1⟩
    simp only [List.take_succ_cons,List.take_zero,List.drop_succ_cons,List.drop_zero]
    repeat (
     (first
      | refine seqU_skip (by rfl) ?_
      | (refine seqU_call 251 #[.pointer (some ⟨R,0,none⟩),.int .i64 i] (.int .i64 k) (by rfl) ?_ (fun w2 hS => (slot_raw hS.2.1 ((Mod.of_below (X:=[]) hS.1).cell (by simp) x2) (by omega) (by omega) i (by omega)).mono (fun e w3 h => ⟨by rw [← hk];exact h.1,h.2 ▸ hS⟩)) ?_;(focus (intro w2;go_simp;done)))
      | (refine seqU_val ?_ (by rfl) ?_ ?_;rotate_left;(focus (intro w' hS;obtain ⟨_,_,_,_⟩:=hS;go_simp;first | done | with_reducible rfl))))
     simp only [Act.put,List.setIfInBounds_toArray,List.set_cons_zero,List.set_cons_succ])
    refine seqU_nil (fun w' hS => ?_)
    have HB5:=Hd hS.1
    have hO5:=owns_mod HOi.out (Mod.of_below (X:=[]) hS.1) (fun _ _ h => by cases h)
    have hil:i < ((histL SL first n).take i ++ List.replicate (m - i) zeroRh).length:=by rw [List.length_append,List.length_take,List.length_replicate];have:=HH.out;omega
    obtain ⟨zr,hzr⟩:∃ zr,((histL SL first n).take i ++ List.replicate (m - i) zeroRh)[i]? = some zr:=⟨_,List.getElem?_eq_getElem hil⟩
    obtain ⟨⟨q0,q0f⟩,q1,q1f⟩:=owns_row hO5 hzr
    have HO5:=Hd hO5
    clear hS x0 r0 r1 hO5 x2
    go_wp2
    have hset:=owns_setRow HO5.out hil r
    have hHe:r = (histL SL first n)[i]'(by rw [HH.out];exact hlt2):=by have:=(List.getElem?_eq_some_iff.1 HHI.out).2;exact this.symm
    rw [hHe,take_set (by rw [HH.out];exact hlt2) him,← hHe] at hset
    have HSET:=Hd hset
    have HM6:=Hd (mod_set2 (b:=g1) (o:=i * 2) (u:=.slice r.A r.cs.length r.cap) (v:=.bool r.cont) (HMi.out.then_below HB5.out) (.inl (by simp)))
    clear hset hHe
    go_roundw
    case rel => exact ⟨i + 1,by go_num,by omega,HSET.out,HM6.out⟩
    case measure => simp [intOf];omega
end
end Go.Proofs.YtaefcahblmopfaaGreatDoor
