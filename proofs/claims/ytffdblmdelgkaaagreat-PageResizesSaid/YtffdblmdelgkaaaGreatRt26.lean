/- Joined by a tool of this claim out of smaller texts. Conditions: as stated. -/
import Derived.Test.YtffdblmdelgkaaaGreatRt20
import Derived.LoopN
import Derived.Deep.OwnRows
set_option linter.unusedVariables false
set_option linter.unusedSimpArgs false
set_option maxRecDepth 100000
open Go.Lib renaming hid → Hd
namespace Go.Proofs.YtffdblmdelgkaaaGreat
open Go.RowKit
theorem rScalar_any (r:Int) (w:World):Calls Tryz.prog 123 #[.int .i32 r] w fun e w' => e = .returned (.bool (isScal r))∧w = w':=by
 unfold isScal
 by_cases h1:0 ≤ r <;> by_cases h2:r ≤ 1114111 <;> by_cases h3:r < 55296 <;> by_cases h4:57343 < r <;>
 · go_enter Tryz.func123,Tryz.ntmps123
   go_wp2
   go_ret
   refine ⟨?_,rfl⟩
   simp [h1,h2,h3,h4]
   try omega
def BytesAt (w:World) (v:Value) (xs:List Int):Prop:=(xs = []∧v = .slice none 0 0) ∨ ∃ g c,v = .slice (some ⟨g,0,none⟩) xs.length c∧w.heap[g]? = some (.cells (xs.map (Value.int .u8)).toArray 5 (0,0))
def BytesPost (b:ByteArray) (w:World) (e:Ending) (w':World):Prop:=∃ v xs,e = .returned v∧BytesAt w' v xs∧strOfNums xs = b∧Below w.heap.size w w'
theorem info_byte:(Tryz.prog.info? 5).map (fun i => (i.zero,i.size,i.bytes)) = some (some (.int .u8 0),1,1):=by kernel_rfl
theorem made_bytes (n:Nat):madeCells #[Value.int .u8 0] n = (List.replicate n (Value.int .u8 0)).toArray:=by
 have h:=made_flatG (enc:=fun v:Value => [v]) (K:=1) (fun _ => rfl) (by decide) (Value.int .u8 0) n
 rw [Nat.mul_one] at h
 refine Array.ext' (h.trans ?_)
 clear h
 induction n with
 | zero => rfl
 | succ n ih =>
   rw [List.replicate_succ]
   show Value.int .u8 0 :: flat _ (List.replicate n (Value.int .u8 0)) = _
   rw [ih]
theorem make_bytes (n:Nat) (h:n ≤ 1000) (W:World):Sem.run Tryz.prog (Instr.makeSlice 110 (.int .i64 (n:Int)) (.int .i64 (n:Int))) W = .ok (.slice (some ⟨W.heap.size,0,none⟩) n n) (W.alloc (.cells (List.replicate n (Value.int .u8 0)).toArray 5)):=by
 rw [← made_bytes]
 exact run_make_row' 110 5 (.int .u8 0) 1 Tryz.underlying110 info_byte rfl .i64 .i64 n (by omega) (by omega) W
set_option maxHeartbeats 1600000 in
theorem rPutB_any (r:Int) (w:World):Calls Tryz.prog 74 #[.int .i32 r] w (BytesPost (putB r) w):=by
 have HS:=Hd (fun w => rScalar_any r w)
 cases hs:isScal r with
 | false =>
   have HV:=Hd (show putB r = ByteArray.empty from by unfold putB;rw [hs];rfl)
   rw [hs] at HS
   clear hs
   go_enter Tryz.func74,Tryz.ntmps74
   go_wp2_with (go_at_call 123;refine (HS.out _).mono ?_;rintro e w1 ⟨rfl,rfl⟩)
   go_ret
   exact ⟨_,[],rfl,.inl ⟨rfl,rfl⟩,by rw [HV.out];rfl,Below.refl _ _⟩
 | true =>
   rw [hs] at HS
   have hr:0 ≤ r∧r ≤ 1114111:=by unfold isScal at hs;simp at hs;omega
   obtain ⟨hr0,hr1⟩:=hr
   by_cases hA:r < 128
   · have HV:=Hd (show putB r = ⟨#[r.toNat.toUInt8]⟩ from by unfold putB;rw [hs,if_pos rfl,if_pos hA])
     clear hs
     have hA1:¬ 127 < r:=by omega
     have hA2:¬ 2047 < r:=by omega
     have hA3:¬ 65535 < r:=by omega
     go_enter Tryz.func74,Tryz.ntmps74
     go_wp2_with (go_at_call 123;refine (HS.out _).mono ?_;rintro e w1 ⟨rfl,rfl⟩)
     refine wp_loop_rounds 4 ?_
     rw [rounds_succ];go_wp2
     rw [rounds_succ];go_wp2
     rw [rounds_succ];go_wp2
     rw [rounds_succ];go_wp2
     go_ret
     exact ⟨_,[r],rfl,.inr ⟨w.heap.size + 1,1,rfl,hp_new (by simp)⟩,by rw [HV.out];rfl,below_allocs (below_allocs (Below.refl _ _) _) _⟩
   by_cases hB:r < 2048
   · have HV:=Hd (show putB r = ⟨#[(192 + r / 64).toNat.toUInt8,(128 + r % 64).toNat.toUInt8]⟩ from by unfold putB;rw [hs,if_pos rfl,if_neg (show ¬ r < 0x80 from hA),if_pos hB])
     clear hs
     have hmk:∀ W:World,Sem.run Tryz.prog (Instr.makeSlice 110 (.int .i64 2) (.int .i64 2)) W = .ok (.slice (some ⟨W.heap.size,0,none⟩) 2 2) (W.alloc (.cells #[.int .u8 0,.int .u8 0] 5)):=fun W => make_bytes 2 (by omega) W
     have hA1:127 < r:=by omega
     have hA2:¬ 2047 < r:=by omega
     have hA3:¬ 65535 < r:=by omega
     go_enter Tryz.func74,Tryz.ntmps74
     go_wp2_with (go_at_call 123;refine (HS.out _).mono ?_;rintro e w1 ⟨rfl,rfl⟩)
     refine wp_loop_rounds 4 ?_
     rw [rounds_succ];go_wp2
     rw [rounds_succ];go_wp2
     rw [rounds_succ];go_wp2
     rw [rounds_succ];go_wp2
     refine wp_loop_rounds 2 ?_
     rw [rounds_succ];go_wp2
     rw [rounds_succ];go_wp2
     go_ret
     exact ⟨_,[192 + r / 64,128 + r % 64],rfl,.inr ⟨w.heap.size + 1,2,rfl,hp_old (hp_new (by simp))⟩,by rw [HV.out];rfl,below_allocs (below_allocs (below_allocs (Below.refl _ _) _) _) _⟩
   by_cases hC:r < 65536
   · have HV:=Hd (show putB r = ⟨#[(224 + r / 4096).toNat.toUInt8,(128 + r / 64 % 64).toNat.toUInt8,(128 + r % 64).toNat.toUInt8]⟩ from by unfold putB;rw [hs,if_pos rfl,if_neg (show ¬ r < 0x80 from hA),if_neg (show ¬ r < 0x800 from hB),if_pos hC])
     clear hs
     have hmk:∀ W:World,Sem.run Tryz.prog (Instr.makeSlice 110 (.int .i64 3) (.int .i64 3)) W = .ok (.slice (some ⟨W.heap.size,0,none⟩) 3 3) (W.alloc (.cells #[.int .u8 0,.int .u8 0,.int .u8 0] 5)):=fun W => make_bytes 3 (by omega) W
     have hA1:127 < r:=by omega
     have hA2:2047 < r:=by omega
     have hA3:¬ 65535 < r:=by omega
     have hdd:r / 64 / 64 = r / 4096:=by omega
     go_enter Tryz.func74,Tryz.ntmps74
     go_wp2_with (go_at_call 123;refine (HS.out _).mono ?_;rintro e w1 ⟨rfl,rfl⟩)
     refine wp_loop_rounds 4 ?_
     rw [rounds_succ];go_wp2
     rw [rounds_succ];go_wp2
     rw [rounds_succ];go_wp2
     rw [rounds_succ];go_wp2
     refine wp_loop_rounds 3 ?_
     rw [rounds_succ];go_wp2
     rw [rounds_succ];go_wp2
     rw [rounds_succ];go_wp2
     go_ret
     exact ⟨_,[224 + r / 4096,128 + r / 64 % 64,128 + r % 64],rfl,.inr ⟨w.heap.size + 1,3,rfl,hp_old (hp_new (by simp))⟩,by rw [HV.out];rfl,below_allocs (below_allocs (below_allocs (Below.refl _ _) _) _) _⟩
   have HV:=Hd (show putB r = ⟨#[(240 + r / 262144).toNat.toUInt8,(128 + r / 4096 % 64).toNat.toUInt8,(128 + r / 64 % 64).toNat.toUInt8,(128 + r % 64).toNat.toUInt8]⟩ from by unfold putB;rw [hs,if_pos rfl,if_neg (show ¬ r < 0x80 from hA),if_neg (show ¬ r < 0x800 from hB),if_neg (show ¬ r < 0x10000 from hC)])
   clear hs
   have hmk:∀ W:World,Sem.run Tryz.prog (Instr.makeSlice 110 (.int .i64 4) (.int .i64 4)) W = .ok (.slice (some ⟨W.heap.size,0,none⟩) 4 4) (W.alloc (.cells #[.int .u8 0,.int .u8 0,.int .u8 0,.int .u8 0] 5)):=fun W => make_bytes 4 (by omega) W
   have hA1:127 < r:=by omega
   have hA2:2047 < r:=by omega
   have hA3:65535 < r:=by omega
   have hdd:r / 64 / 64 = r / 4096:=by omega
   have hdd2:r / 4096 / 64 = r / 262144:=by omega
   go_enter Tryz.func74,Tryz.ntmps74
   go_wp2_with (go_at_call 123;refine (HS.out _).mono ?_;rintro e w1 ⟨rfl,rfl⟩)
   refine wp_loop_rounds 4 ?_
   rw [rounds_succ];go_wp2
   rw [rounds_succ];go_wp2
   rw [rounds_succ];go_wp2
   rw [rounds_succ];go_wp2
   refine wp_loop_rounds 4 ?_
   rw [rounds_succ];go_wp2
   rw [rounds_succ];go_wp2
   rw [rounds_succ];go_wp2
   rw [rounds_succ];go_wp2
   go_ret
   exact ⟨_,[240 + r / 262144,128 + r / 4096 % 64,128 + r / 64 % 64,128 + r % 64],rfl,.inr ⟨w.heap.size + 1,4,rfl,hp_old (hp_new (by simp))⟩,by rw [HV.out];rfl,below_allocs (below_allocs (below_allocs (Below.refl _ _) _) _) _⟩
theorem BytesAt.below {w w':World} {v:Value} {xs:List Int} (h:BytesAt w v xs) (hb:Below w.heap.size w w'):BytesAt w' v xs:=by
 rcases h with h | ⟨g,c,hv,hg⟩
 · exact .inl h
 · exact .inr ⟨g,c,hv,(hb.block g (lt_of_heap hg)).trans hg⟩
theorem conv_bytes {w:World} {v:Value} {xs:List Int} (h:BytesAt w v xs):(convert 110 9 v).run Tryz.prog w = .ok (.string (strOfNums xs)) w:=by
 rcases h with ⟨rfl,rfl⟩ | ⟨g,c,rfl,hg⟩
 · kernel_rfl
 · exact conv_at xs xs.length c g w 5 hg rfl
def hitB (k:Nat) (h:Int) (j:Nat):Bool:=decide (j = k) || (decide (j = k + 1) && decide (h = 1)) || (decide (j + 1 = k) && decide (h = 2))
def markK (o:List Cl) (k:Nat) (h:Int) (m:ByteArray) (i:Nat):List Cl:=o.mapIdx (fun j c => if decide (j < i) && hitB k h j then withMore m c else c)
theorem markK_len (o:List Cl) (k:Nat) (h:Int) (m:ByteArray) (i:Nat):(markK o k h m i).length = o.length:=by unfold markK;simp
theorem markK_zero (o:List Cl) (k:Nat) (h:Int) (m:ByteArray):markK o k h m 0 = o:=by
 unfold markK
 refine List.ext_getElem (by simp) (fun j h1 h2 => ?_)
 simp
theorem markK_hit (o:List Cl) (k:Nat) (h:Int) (m:ByteArray) (i:Nat) (hh:hitB k h i = true):(markK o k h m i).modify i (withMore m) = markK o k h m (i + 1):=by
 unfold markK
 refine List.ext_getElem (by simp) (fun j h1 h2 => ?_)
 rw [List.getElem_modify]
 simp only [List.getElem_mapIdx]
 by_cases hj:i = j
 · subst hj;simp [hh]
 · rw [if_neg hj]
   by_cases h3:j < i
   · simp [h3,show j < i + 1 by omega]
   · simp [h3,show ¬ j < i + 1 by omega]
theorem markK_miss (o:List Cl) (k:Nat) (h:Int) (m:ByteArray) (i:Nat) (hh:hitB k h i = false):markK o k h m i = markK o k h m (i + 1):=by
 unfold markK
 refine List.ext_getElem (by simp) (fun j h1 h2 => ?_)
 simp only [List.getElem_mapIdx]
 by_cases hj:i = j
 · subst hj;simp [hh]
 · by_cases h3:j < i
   · simp [h3,show j < i + 1 by omega]
   · simp [h3,show ¬ j < i + 1 by omega]
theorem markK_all (o:List Cl) (k:Nat) (h:Int) (m:ByteArray) (hk:k < o.length) (h2:h = 2→1 ≤ k) :
 markK o k h m o.length = (if h = 1 then o.modify (k + 1) (withMore m) else if h = 2 then o.modify (k - 1) (withMore m) else o).modify k (withMore m):=by
 refine List.ext_getElem (by
  rw [markK_len,List.length_modify]
  split
  · simp
  split
  · simp
  · rfl) (fun j q1 q2 => ?_)
 have hj:j < o.length:=by rwa [markK_len] at q1
 unfold markK hitB
 simp only [List.getElem_mapIdx,List.getElem_modify]
 by_cases e1:h = 1
 · subst e1
   simp only [if_pos,List.getElem_modify]
   by_cases a1:j = k
   · subst a1;simp [hj]
   by_cases a2:j = k + 1
   · subst a2;simp [hj]
   · simp [hj,a1,a2,show ¬ k = j by omega,show ¬ k + 1 = j by omega]
 by_cases e2:h = 2
 · subst e2
   have h1k:=h2 rfl
   simp only [if_neg e1,if_pos,List.getElem_modify]
   by_cases a1:j = k
   · subst a1;simp [hj,show ¬ j - 1 = j by omega]
   by_cases a2:j + 1 = k
   · simp [hj,a2,show k - 1 = j by omega,show ¬ k = j by omega]
   · simp [hj,a1,a2,show ¬ k = j by omega,show ¬ k - 1 = j by omega]
 · simp only [if_neg e1,if_neg e2]
   by_cases a1:j = k
   · subst a1;simp [hj]
   · simp [hj,a1,e1,e2,show ¬ k = j by omega]
theorem markK_half (o:List Cl) (k:Nat) (h:Int) (m:ByteArray) (i:Nat) {j:Nat} {c:Cl} (hc:o[j]? = some c):∃ c',(markK o k h m i)[j]? = some c'∧c'.half = c.half:=by
 obtain ⟨hlt,he⟩:=List.getElem?_eq_some_iff.1 hc
 refine ⟨_,List.getElem?_eq_getElem (by rw [markK_len];exact hlt),?_⟩
 unfold markK
 simp only [List.getElem_mapIdx]
 split
 · rw [he];rfl
 · rw [he]
set_option maxHeartbeats 3200000 in
theorem rMark_any (A:Option Addr) (l:List Cl) (ca:Nat) (x r:Int) (w:World) (hl:GrAt encCl 8 w A l) (h0:0 < l.length) (hz:l.length ≤ 10000) (hf:Fine l) :
 Calls Tryz.prog 33 #[.slice A l.length ca,.int .i64 x,.int .i32 r] w (WithPost (markL l x r) w):=by
 have HM:=Hd (rMend_n A l l.length ca w hl rfl h0 hz)
 have HW:=Hd (fun w => rOf_any r w)
 have HU:=Hd (fun w => rPutB_any r w)
 have HM2:=Hd (fun (g cap base:Nat) (o:List Cl) (w':World) (h:CrO w' base g cap o) (hn:o.length = l.length) => rMend_n (some ⟨g,0,none⟩) o l.length cap w' h.gr hn h0 hz)
 have HML:=Hd (mendL_len l)
 have HPL:=Hd (markL_O l x r)
 have HPN:=Hd (markL_len l x r)
 have hM:Fine (mendL l):=hf.mend
 have hH:=mend_halves l
 generalize markL l x r = GO at HPL HPN ⊢
 have hid:mendL (mendL l) = mendL l:=mendL_idem l
 generalize hOO:mendL l = O at HM HML HPL hM hH hid
 have HZ:=Hd hz
 have H0:=Hd h0
 have HID:=Hd hid
 clear hl hf hOO hid
 by_cases hx0:x < 0
 · have HV:=Hd (show O = GO from by
    rw [← HPL.out,show markO O x r = O from by
     unfold markO
     split
     · rfl
     · rw [if_pos (Or.inl hx0)]]
    exact HID.out.symm)
   clear hH hM
   go_enter Tryz.func33,Tryz.ntmps33
   go_wp2_with (go_at_call 70;(with_reducible refine HM.out.mono ?_);rintro e w1 ⟨g,cap,rfl,hc,hb⟩;have HC:=Hd hc;have HB1:=Hd hb;clear hc hb)
   go_ret
   rw [← HV.out]
   exact ⟨g,cap,by rw [HML.out];rfl,HC.out,HB1.out⟩
 obtain ⟨k,rfl⟩:∃ k:Nat,x = (k:Int):=⟨x.toNat,by omega⟩
 by_cases hxl:(l.length:Int) ≤ (k:Int)
 · have HV:=Hd (show O = GO from by
    rw [← HPL.out,show markO O k r = O from by unfold markO;rw [Int.toNat_natCast,List.getElem?_eq_none (by rw [HML.out];omega)]]
    exact HID.out.symm)
   clear hH hM
   go_enter Tryz.func33,Tryz.ntmps33
   go_wp2_with (go_at_call 70;(with_reducible refine HM.out.mono ?_);rintro e w1 ⟨g,cap,rfl,hc,hb⟩;have HC:=Hd hc;have HB1:=Hd hb;clear hc hb)
   go_ret
   rw [← HV.out]
   exact ⟨g,cap,by rw [HML.out];rfl,HC.out,HB1.out⟩
 have hkl:k < l.length:=by omega
 have hd0:decide ((k:Int) < 0) = false:=decide_eq_false (by omega)
 have hd1:decide (l.length ≤ k) = false:=decide_eq_false (by omega)
 have hklI:(k:Int) < (l.length:Int):=by omega
 have HKO:Hid (k < O.length):=Hd (by rw [HML.out];exact hkl)
 obtain ⟨c,hc⟩:∃ c,O[k]? = some c:=⟨O[k]'(HKO.out),List.getElem?_eq_getElem HKO.out⟩
 have HV0:Hid (markO O k r = if (k:Int) < 0 ∨ c.r = 0 ∨ widOf r ≠ 0 ∨ 32 < (c.more ++ putB r).size then O else (if c.half = 1 then O.modify (k + 1) (withMore (c.more ++ putB r)) else if c.half = 2 then O.modify (k - 1) (withMore (c.more ++ putB r)) else O).modify k (withMore (c.more ++ putB r))):=Hd (by unfold markO;rw [Int.toNat_natCast,hc])
 have HH:=Hd (hH k c hc)
 have hm32:c.more.size ≤ 32:=hM c (List.mem_of_getElem? hc)
 have hp32:(putB r).size ≤ 32:=putB_size r
 generalize markO O k r = RES at HV0 HPL
 have HCC:=Hd hc
 clear hH hM hc
 by_cases hr0:c.r = 0
 · have hr0b:(c.r == 0) = true:=beq_iff_eq.2 hr0
   have HV:=Hd (show O = GO from by
    rw [← HPL.out,HV0.out,if_pos (.inr (.inl hr0))]
    exact HID.out.symm)
   go_enter Tryz.func33,Tryz.ntmps33
   go_wp2_with (go_at_call 70;(with_reducible refine HM.out.mono ?_);rintro e w1 ⟨g,cap,rfl,hc,hb⟩;have q0:w1.cell? ⟨g,k * 8,none⟩ = some (.int .i32 c.r):=hc.range HCC.out 0 _ rfl;have HC:=Hd hc;have HB1:=Hd hb;clear hc hb)
   go_ret
   rw [← HV.out]
   exact ⟨g,cap,by rw [HML.out];rfl,HC.out,HB1.out⟩
 have hr0b:(c.r == 0) = false:=beq_eq_false_iff_ne.2 hr0
 have HC0:=Hd hr0
 generalize hwd:widOf r = wd at HW HV0
 by_cases hw0:wd = 0
 rotate_left
 · have hw0b:(wd == 0) = false:=beq_eq_false_iff_ne.2 hw0
   clear hwd
   have HV:=Hd (show O = GO from by
    rw [← HPL.out,HV0.out,if_pos (.inr (.inr (.inl hw0)))]
    exact HID.out.symm)
   go_enter Tryz.func33,Tryz.ntmps33
   go_wp2_with (first
    | (go_at_call 70;(with_reducible refine HM.out.mono ?_);rintro e w1 ⟨g,cap,rfl,hc,hb⟩;have q0:w1.cell? ⟨g,k * 8,none⟩ = some (.int .i32 c.r):=hc.range HCC.out 0 _ rfl;have HC:=Hd hc;have HB1:=Hd hb;clear hc hb)
    | (go_at_call 71;refine (HW.out _).mono ?_;rintro e w2 ⟨rfl,hb⟩;have HC2:=Hd (HC.out.below hb);have HB2:=Hd (below_tail HB1.out hb);clear hb))
   go_ret
   rw [← HV.out]
   exact ⟨g,cap,by rw [HML.out];rfl,HC2.out,HB2.out⟩
 subst hw0
 clear hwd
 generalize putB r = pr at HU HV0 hp32
 obtain ⟨m,hm⟩:∃ m,c.more ++ pr = m:=⟨_,rfl⟩
 rw [hm] at HV0
 have hsz:¬ 9223372036854775807 < c.more.size + pr.size:=by omega
 clear hm32 hp32
 go_enter Tryz.func33,Tryz.ntmps33
 go_upto_region 4 with (first
  | (go_at_call 70;(with_reducible refine HM.out.mono ?_);rintro e w1 ⟨g,cap,rfl,hc,hb⟩;have q0:w1.cell? ⟨g,k * 8,none⟩ = some (.int .i32 c.r):=hc.range HCC.out 0 _ rfl;have HC:=Hd hc;have HB1:=Hd hb;clear hc hb)
  | (go_at_call 71;refine (HW.out _).mono ?_;rintro e w2 ⟨rfl,hb⟩;have HC2:=Hd (HC.out.below hb);have HB2:=Hd (below_tail HB1.out hb);clear hb q0)
  | fail)
 have q1:w2.cell? ⟨g,k * 8 + 1,none⟩ = some (.string c.more):=HC2.out.range HCC.out 1 _ rfl
 refine wp_region_n 8 (fun w' => Below w2.heap.size w2 w'∧w'.cell? ⟨g,k * 8 + 1,none⟩ = some (.string c.more)) (by kernel_rfl) (by kernel_rfl) (fun w1 w2 hS hb => ⟨below_tail hS.1 hb,holda hb hS.2⟩) ⟨(Below.refl _ _).drew,q1⟩ ?_
 refine AtN.go 0 ?_
 iterate 6 (refine AtC.take (o:=⟨_,_,_,_,_,_⟩) (v:=?_) (by kernel_rfl) rfl (by simp) (by kernel_rfl) (by kernel_rfl) ?_ ?_;rotate_left;(focus (first | exact StabN.skip (by rfl) | (refine StabN.val (by rfl) ?_;intro w' hS;obtain ⟨_,_⟩:=hS;go_simp;first | done | with_reducible rfl)));simp only [Act.put,List.setIfInBounds_toArray,List.set_cons_zero,List.set_cons_succ])
 refine AtC.back ?_
 refine AtN.one 6 (o:=⟨_,_,_,_,_,_⟩) (fun v => True) (fun v w' => ∃ xs,BytesAt w' v xs∧strOfNums xs = pr) (by simp) (by kernel_rfl) rfl (fun v w1 w2 ⟨xs,hv,hr⟩ hb => ⟨xs,hv.below hb,hr⟩) (StabN.call 74 #[.int .i32 r] _ _ (by rfl) ?_ (fun w' hS => ?_)) ?_
 · intro w'
   go_simp
 · refine (HU.out w').mono ?_
   rintro e w3 ⟨v,xs,rfl,hx,hs,hb⟩
   exact ⟨v,rfl,⟨trivial,xs,hx,hs⟩,hb⟩
 rintro v -
 simp only [Act.put,List.setIfInBounds_toArray,List.set_cons_zero,List.set_cons_succ]
 refine AtN.take 7 (o:=⟨_,_,_,_,_,_⟩) (v:=.string pr) (by kernel_rfl) rfl (by simp) (by kernel_rfl) (by kernel_rfl) (StabN.val (by rfl) (fun w' hS => ?_)) ?_
 · obtain ⟨-,xs,hv,hs⟩:=hS
   have hcv:=conv_bytes hv
   rw [hs] at hcv
   go_simp
 simp only [Act.put,List.setIfInBounds_toArray,List.set_cons_zero,List.set_cons_succ]
 refine AtN.done (by kernel_rfl) (fun w' hS => ?_)
 have HB3:=Hd (below_tail HB2.out hS.1.1)
 have HC3:=Hd (HC2.out.below hS.1.1)
 have HMM:=Hd hm
 have w4:=hS.1.2
 clear hS q1
 by_cases hbig:32 < m.size
 · have hbI:(32:Int) < (m.size:Int):=by omega
   have HV:=Hd (show O = GO from by
    rw [← HPL.out,HV0.out,if_pos (.inr (.inr (.inr hbig)))]
    exact HID.out.symm)
   go_wp2
   go_ret
   rw [← HV.out]
   exact ⟨g,cap,by rw [HML.out];rfl,HC3.out,HB3.out⟩
 have hbI:¬ (32:Int) < (m.size:Int):=by omega
 have HV:=Hd (show RES = markK O k c.half m O.length from by
  rw [HV0.out,if_neg (by have:=HC0.out;simp;omega),markK_all O k c.half m HKO.out HH.out.2])
 clear hbig HV0 hr0 hr0b
 go_wp2_with fail
 clear hsz hm w4
 go_loopw [9] (fun s9 wr => ∃ (i:Nat) (o:List Cl),s9 = .int .i64 i∧i ≤ l.length∧o = markK O k c.half m i∧CrO wr w.heap.size g cap o∧Mod [g] w' wr) (fun s9 _ => l.length - (intOf s9).toNat)
 case atStart => exact ⟨0,O,rfl,Nat.zero_le _,(markK_zero _ _ _ _).symm,HC3.out,Mod.refl _ _⟩
 case round =>
  obtain ⟨i,o,rfl,hi,ho,hO,hMd⟩:=hrel
  have HO:=Hd hO
  have HMd:=Hd hMd
  have HE:=Hd ho
  have HOL:Hid (o.length = l.length):=Hd (by rw [ho,markK_len,HML.out])
  have HBM:=Hd (HB3.out.trans (hMd.below (fun x hx => by rw [List.mem_singleton.1 hx];exact HC3.out.lt.1) HB3.out.size))
  clear hO hMd ho
  by_cases hlt:i < l.length
  rotate_left
  · have hge:¬ (i:Int) < (l.length:Int):=by omega
    have hO':=HO.out
    rw [HE.out,show i = O.length by rw [HML.out];omega,← HV.out] at hO'
    have HM3:=Hd (HM2.out _ _ _ _ _ hO' (by rw [HV.out,markK_len,HML.out]))
    clear hO'
    go_wp2_with (go_at_call 70;refine HM3.out.mono ?_;rintro e w4 ⟨g',cap',rfl,hc,hb⟩;have HC4:=Hd hc;have HB4:=Hd hb;clear hc hb)
    go_ret
    have hO2:=HC4.out
    rw [HPL.out] at hO2
    exact ⟨g',cap',by rw [HPN.out];rfl,owns_weaken hO2 HBM.out.size,below_tail HBM.out HB4.out⟩
  · have hltI:(i:Int) < (l.length:Int):=by omega
    have HI:=Hd hlt
    obtain ⟨c',hc',hh'⟩:=markK_half O k c.half m i HCC.out
    rw [← HE.out] at hc'
    have q2:wr.cell? ⟨g,k * 8 + 2,none⟩ = some (.int .i64 c.half):=by rw [← hh'];exact HO.out.range hc' 2 _ rfl
    clear hc' hh'
    obtain ⟨k1,hk1⟩:∃ k1:Nat,k1 = k + 1:=⟨_,rfl⟩
    have hk1I:(k:Int) + 1 = (k1:Int):=by omega
    have hwk1:IntKind.i64.wrap (k1:Int) = (k1:Int):=IntWalk.i64_in _ (by omega)
    obtain ⟨k2,hk2⟩:∃ k2:Int,k2 = (k:Int) - 1:=⟨_,rfl⟩
    have hk2I:(k:Int) - 1 = k2:=hk2.symm
    have hwk2:IntKind.i64.wrap k2 = k2:=IntWalk.i64_in _ (by omega)
    have HK12:=Hd (And.intro hk1 hk2)
    obtain ⟨d,hd⟩:∃ d,o[i]? = some d:=⟨_,List.getElem?_eq_getElem (by rw [HOL.out];exact hlt)⟩
    obtain ⟨dm,hdm⟩:=HO.out.holdMore hd
    clear hd hk1 hk2
    obtain ⟨ib,hib⟩:∃ ib:Int,ib = (i:Int):=⟨_,rfl⟩
    have e0:((i:Int) == (k:Int)) = decide (i = k):=by rw [Bool.eq_iff_iff];simp;omega
    have e1:((i:Int) == (k1:Int)) = decide (i = k + 1):=by rw [Bool.eq_iff_iff];have:=HK12.out.1;simp;omega
    have e2:((i:Int) == k2) = decide (i + 1 = k):=by rw [Bool.eq_iff_iff];have:=HK12.out.2;simp;omega
    have e3:(c.half == 1) = decide (c.half = 1):=by rw [Bool.eq_iff_iff];simp
    have e4:(c.half == 2) = decide (c.half = 2):=by rw [Bool.eq_iff_iff];simp
    have HHB:Hid (hitB k c.half i = (decide (i = k) || (decide (i = k + 1) && decide (c.half = 1)) || (decide (i + 1 = k) && decide (c.half = 2)))):=Hd rfl
    generalize decide (i = k) = b0 at e0 HHB
    generalize decide (i = k + 1) = b1 at e1 HHB
    generalize decide (i + 1 = k) = b2 at e2 HHB
    generalize decide (c.half = 1) = b3 at e3 HHB
    generalize decide (c.half = 2) = b4 at e4 HHB
    clear hib hlt
    cases b0 <;> cases b1 <;> cases b2 <;> cases b3 <;> cases b4
    all_goals
     go_wp2
     go_roundw
     case rel => first
      | exact ⟨i + 1,_,by go_num,HI.out,by rw [HE.out];exact markK_miss _ _ _ _ _ HHB.out,HO.out,HMd.out⟩
      | exact ⟨i + 1,_,by go_num,HI.out,(by rw [HE.out];exact markK_hit _ _ _ _ _ HHB.out),HO.out.more (by rw [HOL.out];exact HI.out) m |>.len (by simp),HMd.out.setCell (a:=⟨g,i * 8 + 1,none⟩) (.inl (by simp)) (.string m)⟩
     case measure => have:=HI.out;simp [intOf];omega
end Go.Proofs.YtffdblmdelgkaaaGreat
