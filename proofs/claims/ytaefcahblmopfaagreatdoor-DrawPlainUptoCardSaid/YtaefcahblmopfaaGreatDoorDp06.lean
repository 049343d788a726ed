/- Joined by a tool of this claim out of smaller texts. Conditions: as stated. -/
import Derived.Test.YtaefcahblmopfaaGreatDoorDp05
import Derived.Laws.BytesArg
import Derived.Laws.BitsAllLaws
import Derived.Below
set_option linter.unusedVariables false
set_option linter.unusedSimpArgs false
set_option maxRecDepth 100000
open Go.Lib renaming hid → Hd
namespace Go.Proofs.YtaefcahblmopfaaGreatDoor
open Go.RowKit
theorem scalar_any (r:Int) (w:World):Calls Tryz.prog 170 #[.int .i32 r] w fun e w' => e = .returned (.bool (isScal r))∧w = w':=by
 unfold isScal
 by_cases h1:0 ≤ r <;> by_cases h2:r ≤ 1114111 <;> by_cases h3:r < 55296 <;>
 · go_enter Tryz.func170,Tryz.ntmps170
   go_wp2
   go_ret
   refine ⟨?_,rfl⟩
   simp [h1,h2,h3]
   try omega
def tailV (r:Int):Nat→Int
 | 0 => 128 + r % 64
 | 1 => 128 + r / 64 % 64
 | _ => 128 + r / 4096 % 64
theorem tail1_any (r:Int) (k g:Nat) (hk:k ≤ 2) (h0:0 ≤ r) (h1:r ≤ 1114111) (w:World) (hg:w.cell? ⟨g,0,none⟩ = some (.int .i32 r)):Calls Tryz.prog 169 #[.int .i64 k,.pointer (some ⟨g,0,none⟩)] w fun e w' => e = .returned (.int .u8 (tailV r k))∧w = w':=by
 rcases k with _ | _ | _ | k
 · go_enter Tryz.func169,Tryz.ntmps169
   go_wp2
   go_ret
   exact ⟨rfl,rfl⟩
 · go_enter Tryz.func169,Tryz.ntmps169
   go_wp2
   go_ret
   exact ⟨rfl,rfl⟩
 · go_enter Tryz.func169,Tryz.ntmps169
   go_wp2
   go_ret
   exact ⟨rfl,rfl⟩
 · omega
theorem or_lead (h i:Nat) (x:Int) (hh:h < 256) (hx0:0 ≤ x) (hx1:x < 256) (hd:h % 2 ^ i = 0) (hx:x.toNat < 2 ^ i):bits .or .u8 (h:Int) x = h + x:=by
 rw [u8_or _ _ (by omega) (by omega) hx0 hx1,Int.toNat_natCast,nat_join i _ _ hd hx]
 omega
theorem conv_at (xs:List Int) (n c g:Nat) (w:World) (t:TypeId) (h:w.heap[g]? = some (.cells (xs.map (Value.int .u8)).toArray t (0,0))) (hn:xs.length = n) :
 (convert 23 9 (.slice (some ⟨g,0,none⟩) n c)).run Tryz.prog w = .ok (.string (strOfNums xs)) w:=by
 refine run_convert_bytes_arg w 23 5 Tryz.underlying23 Tryz.underlying5 g 0 n c xs hn (fun i hi => ?_) 9 Tryz.underlying9
 rw [Nat.zero_add]
 refine (at_ h i _ ?_).1
 rw [List.getElem?_toArray,List.getElem?_map,List.getElem?_eq_getElem (by omega)]
 simp [List.getD,List.getElem?_eq_getElem (show i < xs.length by omega)]
set_option maxHeartbeats 1600000 in
theorem uput_any (r:Int) (w:World):Calls Tryz.prog 102 #[.int .i32 r] w fun e w' => e = .returned (.string (putB r))∧Below w.heap.size w w':=by
 have HS:=Hd (fun w => scalar_any r w)
 cases hs:isScal r with
 | false =>
   have HV:=Hd (show putB r = ByteArray.empty from by unfold putB;rw [hs];rfl)
   rw [hs] at HS
   clear hs
   go_enter Tryz.func102,Tryz.ntmps102
   go_wp2_with (go_at_call 170;refine (HS.out _).mono ?_;rintro e w1 ⟨rfl,rfl⟩)
   go_ret
   rw [HV.out]
   exact ⟨rfl,below_allocs (Below.refl _ _) _⟩
 | true =>
   rw [hs] at HS
   have hr:0 ≤ r∧r ≤ 1114111:=by unfold isScal at hs;simp at hs;omega
   obtain ⟨hr0,hr1⟩:=hr
   by_cases hA:r < 128
   · have HV:=Hd (show putB r = ⟨#[r.toNat.toUInt8]⟩ from by unfold putB;rw [hs,if_pos rfl,if_pos hA])
     clear hs
     have hcv:=conv_at [r] 1 1 (w.heap.size + 1) ((w.alloc (.cells #[.int .i32 r] 21)).alloc (.cells #[.int .u8 r] 5)) 5 (hp_new (by simp)) rfl
     go_enter Tryz.func102,Tryz.ntmps102
     go_wp2_with (go_at_call 170;refine (HS.out _).mono ?_;rintro e w1 ⟨rfl,rfl⟩)
     go_ret
     rw [HV.out]
     exact ⟨rfl,below_allocs (below_allocs (Below.refl _ _) _) _⟩
   have x0:(w.alloc (.cells #[.int .i32 r] 21)).cell? ⟨w.heap.size,0,none⟩ = some (.int .i32 r):=(at_ (hp_new rfl) 0 _ rfl).1
   have HX0:=Hd x0
   have HB0:=Hd (below_allocs (Below.refl w.heap.size w) (.cells #[.int .i32 r] 21))
   clear x0
   have HT:Hid (∀ (k:Nat),k ≤ 2→∀ (w2:World),w2.cell? ⟨w.heap.size,0,none⟩ = some (.int .i32 r)→Calls Tryz.prog 169 #[.int .i64 k,.pointer (some ⟨w.heap.size,0,none⟩)] w2 fun e w' => e = .returned (.int .u8 (tailV r k))∧w2 = w'):=Hd (fun k hk w2 h => tail1_any r k w.heap.size hk hr0 hr1 w2 h)
   by_cases hB:r < 2048
   · have HV:=Hd (show putB r = ⟨#[(192 + r / 64).toNat.toUInt8,(128 + r % 64).toNat.toUInt8]⟩ from by unfold putB;rw [hs,if_pos rfl,if_neg (show ¬ r < 0x80 from hA),if_pos hB])
     clear hs
     have hw8:IntKind.u8.wrap (r / 64) = r / 64:=by rw [IntKind.wrap_u8'];omega
     have hor:bits .or .u8 192 (r / 64) = 192 + r / 64:=or_lead 192 5 (r / 64) (by omega) (by omega) (by omega) (by decide) (by omega)
     go_enter Tryz.func102,Tryz.ntmps102
     go_upto_region 7 with (go_at_call 170;refine (HS.out _).mono ?_;rintro e w1 ⟨rfl,rfl⟩)
     generalize World.alloc _ _ = W at HX0 HB0 ⊢
     have x0:=HX0.out
     refine wp_region_u 6 (fun w' => Below W.heap.size W w'∧w'.cell? ⟨w.heap.size,0,none⟩ = some (.int .i32 r)) (by kernel_rfl) (by kernel_rfl) ?_ ?_
     · exact ⟨(Below.refl _ _).drew,x0⟩
     simp only [List.take_succ_cons,List.take_zero,List.drop_succ_cons,List.drop_zero]
     repeat (
      (first
       | refine seqU_skip (by rfl) ?_
       | (refine seqU_call 169 #[.int .i64 0,.pointer (some ⟨w.heap.size,0,none⟩)] (.int .u8 (128 + r % 64)) (by rfl) ?_ (fun w' hS => (HT.out 0 (by omega) w' hS.2).mono (fun e w'' h => ⟨h.1,h.2 ▸ hS⟩)) ?_;(focus (intro w2;go_simp;done)))
       | (refine seqU_val ?_ (by rfl) ?_ ?_;rotate_left;(focus (intro w' hS;obtain ⟨_,_⟩:=hS;go_simp;first | done | with_reducible rfl))))
      simp only [Act.put,List.setIfInBounds_toArray,List.set_cons_zero,List.set_cons_succ])
     refine seqU_nil (fun w' hS => ?_)
     have HB1:=Hd (below_tail HB0.out hS.1)
     have hcv:=conv_at [192 + r / 64,128 + r % 64] 2 2 w'.heap.size (w'.alloc (.cells #[.int .u8 (192 + r / 64),.int .u8 (128 + r % 64)] 5)) 5 (hp_new rfl) rfl
     clear hS x0 hw8 hor
     go_wp2
     go_ret
     rw [HV.out]
     exact ⟨rfl,below_allocs HB1.out _⟩
   by_cases hC:r < 65536
   · have HV:=Hd (show putB r = ⟨#[(224 + r / 4096).toNat.toUInt8,(128 + r / 64 % 64).toNat.toUInt8,(128 + r % 64).toNat.toUInt8]⟩ from by unfold putB;rw [hs,if_pos rfl,if_neg (show ¬ r < 0x80 from hA),if_neg (show ¬ r < 0x800 from hB),if_pos hC])
     clear hs
     have hw8:IntKind.u8.wrap (r / 4096) = r / 4096:=by rw [IntKind.wrap_u8'];omega
     have hor:bits .or .u8 224 (r / 4096) = 224 + r / 4096:=or_lead 224 4 (r / 4096) (by omega) (by omega) (by omega) (by decide) (by omega)
     go_enter Tryz.func102,Tryz.ntmps102
     go_upto_region 9 with (go_at_call 170;refine (HS.out _).mono ?_;rintro e w1 ⟨rfl,rfl⟩)
     generalize World.alloc _ _ = W at HX0 HB0 ⊢
     have x0:=HX0.out
     refine wp_region_u 8 (fun w' => Below W.heap.size W w'∧w'.cell? ⟨w.heap.size,0,none⟩ = some (.int .i32 r)) (by kernel_rfl) (by kernel_rfl) ?_ ?_
     · exact ⟨(Below.refl _ _).drew,x0⟩
     simp only [List.take_succ_cons,List.take_zero,List.drop_succ_cons,List.drop_zero]
     repeat (
      (first
       | refine seqU_skip (by rfl) ?_
       | (refine seqU_call 169 #[.int .i64 1,.pointer (some ⟨w.heap.size,0,none⟩)] (.int .u8 (128 + r / 64 % 64)) (by rfl) ?_ (fun w' hS => (HT.out 1 (by omega) w' hS.2).mono (fun e w'' h => ⟨h.1,h.2 ▸ hS⟩)) ?_;(focus (intro w2;go_simp;done)))
       | (refine seqU_call 169 #[.int .i64 0,.pointer (some ⟨w.heap.size,0,none⟩)] (.int .u8 (128 + r % 64)) (by rfl) ?_ (fun w' hS => (HT.out 0 (by omega) w' hS.2).mono (fun e w'' h => ⟨h.1,h.2 ▸ hS⟩)) ?_;(focus (intro w2;go_simp;done)))
       | (refine seqU_val ?_ (by rfl) ?_ ?_;rotate_left;(focus (intro w' hS;obtain ⟨_,_⟩:=hS;go_simp;first | done | with_reducible rfl))))
      simp only [Act.put,List.setIfInBounds_toArray,List.set_cons_zero,List.set_cons_succ])
     refine seqU_nil (fun w' hS => ?_)
     have HB1:=Hd (below_tail HB0.out hS.1)
     have hcv:=conv_at [224 + r / 4096,128 + r / 64 % 64,128 + r % 64] 3 3 w'.heap.size (w'.alloc (.cells #[.int .u8 (224 + r / 4096),.int .u8 (128 + r / 64 % 64),.int .u8 (128 + r % 64)] 5)) 5 (hp_new rfl) rfl
     clear hS x0 hw8 hor
     go_wp2
     go_ret
     rw [HV.out]
     exact ⟨rfl,below_allocs HB1.out _⟩
   · have HV:=Hd (show putB r = ⟨#[(240 + r / 262144).toNat.toUInt8,(128 + r / 4096 % 64).toNat.toUInt8,(128 + r / 64 % 64).toNat.toUInt8,(128 + r % 64).toNat.toUInt8]⟩ from by unfold putB;rw [hs,if_pos rfl,if_neg (show ¬ r < 0x80 from hA),if_neg (show ¬ r < 0x800 from hB),if_neg (show ¬ r < 0x10000 from hC)])
     clear hs
     have hw8:IntKind.u8.wrap (r / 262144) = r / 262144:=by rw [IntKind.wrap_u8'];omega
     have hor:bits .or .u8 240 (r / 262144) = 240 + r / 262144:=or_lead 240 3 (r / 262144) (by omega) (by omega) (by omega) (by decide) (by omega)
     go_enter Tryz.func102,Tryz.ntmps102
     go_upto_region 10 with (go_at_call 170;refine (HS.out _).mono ?_;rintro e w1 ⟨rfl,rfl⟩)
     generalize World.alloc _ _ = W at HX0 HB0 ⊢
     have x0:=HX0.out
     refine wp_region_u 10 (fun w' => Below W.heap.size W w'∧w'.cell? ⟨w.heap.size,0,none⟩ = some (.int .i32 r)) (by kernel_rfl) (by kernel_rfl) ?_ ?_
     · exact ⟨(Below.refl _ _).drew,x0⟩
     simp only [List.take_succ_cons,List.take_zero,List.drop_succ_cons,List.drop_zero]
     repeat (
      (first
       | refine seqU_skip (by rfl) ?_
       | (refine seqU_call 169 #[.int .i64 2,.pointer (some ⟨w.heap.size,0,none⟩)] (.int .u8 (128 + r / 4096 % 64)) (by rfl) ?_ (fun w' hS => (HT.out 2 (by omega) w' hS.2).mono (fun e w'' h => ⟨h.1,h.2 ▸ hS⟩)) ?_;(focus (intro w2;go_simp;done)))
       | (refine seqU_call 169 #[.int .i64 1,.pointer (some ⟨w.heap.size,0,none⟩)] (.int .u8 (128 + r / 64 % 64)) (by rfl) ?_ (fun w' hS => (HT.out 1 (by omega) w' hS.2).mono (fun e w'' h => ⟨h.1,h.2 ▸ hS⟩)) ?_;(focus (intro w2;go_simp;done)))
       | (refine seqU_call 169 #[.int .i64 0,.pointer (some ⟨w.heap.size,0,none⟩)] (.int .u8 (128 + r % 64)) (by rfl) ?_ (fun w' hS => (HT.out 0 (by omega) w' hS.2).mono (fun e w'' h => ⟨h.1,h.2 ▸ hS⟩)) ?_;(focus (intro w2;go_simp;done)))
       | (refine seqU_val ?_ (by rfl) ?_ ?_;rotate_left;(focus (intro w' hS;obtain ⟨_,_⟩:=hS;go_simp;first | done | with_reducible rfl))))
      simp only [Act.put,List.setIfInBounds_toArray,List.set_cons_zero,List.set_cons_succ])
     refine seqU_nil (fun w' hS => ?_)
     have HB1:=Hd (below_tail HB0.out hS.1)
     have hcv:=conv_at [240 + r / 262144,128 + r / 4096 % 64,128 + r / 64 % 64,128 + r % 64] 4 4 w'.heap.size (w'.alloc (.cells #[.int .u8 (240 + r / 262144),.int .u8 (128 + r / 4096 % 64),.int .u8 (128 + r / 64 % 64),.int .u8 (128 + r % 64)] 5)) 5 (hp_new rfl) rfl
     clear hS x0 hw8 hor
     go_wp2
     go_ret
     rw [HV.out]
     exact ⟨rfl,below_allocs HB1.out _⟩
def markO (o:List Cl) (x r:Int):List Cl :=
 match o[x.toNat]? with
 | none => o
 | some c =>
   if x < 0 ∨ c.r = 0 ∨ widOf r ≠ 0 ∨ 32 < (c.more ++ putB r).size then o
   else
    let m:=c.more ++ putB r
    let o1:=if c.half = 1 then o.modify (x.toNat + 1) (withMore m) else if c.half = 2 then o.modify (x.toNat - 1) (withMore m) else o
    o1.modify x.toNat (withMore m)
theorem markO_len (o:List Cl) (x r:Int):(markO o x r).length = o.length:=by
 unfold markO
 split
 · rfl
 split
 · rfl
 · simp only [List.length_modify]
   split
   · simp
   split <;> simp
theorem markL_O (l:List Cl) (x r:Int):mendL (markO (mendL l) x r) = markL l x r:=by
 unfold markO markL
 simp only []
 cases (mendL l)[x.toNat]? with
 | none => exact mendL_idem l
 | some c =>
   simp only []
   split
   · exact mendL_idem l
   · rfl
theorem mend_halves:∀ (l:List Cl) (k:Nat) (c:Cl),(mendL l)[k]? = some c→(c.half = 1→k + 1 < (mendL l).length)∧(c.half = 2→1 ≤ k)
 | [],k,c,h => by simp [mendL] at h
 | [d],k,c,h => by
   rw [mendL_one] at h ⊢
   split at h
   · next hd =>
     have:k = 0:=by have:=(List.getElem?_eq_some_iff.1 h).1;simpa using this
     subst this
     simp at h
     subst h
     exact ⟨fun e => by omega,fun e => by omega⟩
   · have:k = 0:=by have:=(List.getElem?_eq_some_iff.1 h).1;simpa using this
     subst this
     simp at h
     subst h
     exact ⟨fun e => by simp [emptyC,emptyA,mkCl] at e,fun e => by simp [emptyC,emptyA,mkCl] at e⟩
 | d :: e :: l,k,c,h => by
   rw [mendL_cons] at h ⊢
   split at h
   · next hd =>
     rw [if_pos hd]
     match k with
     | 0 =>
       simp at h
       subst h
       exact ⟨fun e => by omega,fun e => by omega⟩
     | k + 1 =>
       have:=mend_halves (e :: l) k c (by simpa using h)
       exact ⟨fun h => by have:=this.1 h;simp;omega,fun h => by omega⟩
   · next hd =>
     rw [if_neg hd]
     split at h
     · next hp =>
       rw [if_pos hp]
       match k with
       | 0 =>
         simp at h
         subst h
         refine ⟨fun e => by simp,fun e => ?_⟩
         unfold pairB at hp
         simp only [Bool.and_eq_true,decide_eq_true_eq] at hp
         omega
       | 1 =>
         simp at h
         subst h
         refine ⟨fun e => ?_,fun e => by omega⟩
         unfold pairB at hp
         simp only [Bool.and_eq_true,decide_eq_true_eq] at hp
         omega
       | k + 2 =>
         have:=mend_halves l k c (by simpa using h)
         exact ⟨fun h => by have:=this.1 h;simp;omega,fun h => by omega⟩
     · next hp =>
       rw [if_neg hp]
       match k with
       | 0 =>
         simp at h
         subst h
         exact ⟨fun e => by simp [emptyC,emptyA,mkCl] at e,fun e => by simp [emptyC,emptyA,mkCl] at e⟩
       | k + 1 =>
         have:=mend_halves (e :: l) k c (by simpa using h)
         exact ⟨fun h => by have:=this.1 h;simp;omega,fun h => by omega⟩
theorem CrO.more {w:World} {base g cap:Nat} {l:List Cl} (h:CrO w base g cap l) {i:Nat} (hi:i < l.length) (m:ByteArray) :
 CrO (w.setCell ⟨g,i * 8 + 1,none⟩ (.string m)) base g cap (l.modify i (withMore m)):=by
 have h1:=owns_set1 h (i * 8 + 1) (.string m)
 have hc:l[i]? = some l[i]:=List.getElem?_eq_getElem hi
 rw [flat_set1 encCl_len l i l[i] (withMore m l[i]) 1 (.string m) hc (by decide) rfl] at h1
 unfold CrO
 rw [List.length_modify,show l.modify i (withMore m) = l.set i (withMore m l[i]) from by
  haveI:Inhabited Cl:=⟨zeroC⟩
  rw [List.modify_eq_set];simp [hc]]
 exact h1
theorem putB_size (r:Int):(putB r).size ≤ 32:=by
 unfold putB
 split
 · split
   · exact (by decide:1 ≤ 32)
   split
   · exact (by decide:2 ≤ 32)
   split
   · exact (by decide:3 ≤ 32)
   · exact (by decide:4 ≤ 32)
 · exact Nat.zero_le _
theorem CrO.holdMore {w:World} {base g cap:Nat} {l:List Cl} (h:CrO w base g cap l) {i:Nat} {c:Cl} (hc:l[i]? = some c):w.cell? ⟨g,i * 8 + 1,none⟩ = some (.string c.more)∧w.frozen? ⟨g,i * 8 + 1,none⟩ = false :=
 owns_hold h (i:=i * 8 + 1) (by rw [flat_at2 encCl_len l i c 1 hc (by decide)];rfl)
theorem CrO.len {w:World} {base g cap:Nat} {l:List Cl} {n:Nat} (h:CrO w base g cap l) (hn:l.length = n):w.ownsRow base 65 8 (.slice (some ⟨g,0,none⟩) n cap) n (flat encCl l):=by subst hn;exact h
set_option maxHeartbeats 3200000 in
theorem mark1_any (base g cap:Nat) (o:List Cl) (bx br:Nat) (x r:Int) (w:World) (h:CrO w base g cap o) (hz:o.length ≤ 10000) (hx:w.cell? ⟨bx,0,none⟩ = some (.int .i64 x)) (hr:w.cell? ⟨br,0,none⟩ = some (.int .i32 r)) (hb1:bx < base) (hb2:br < base)
 (hM:∀ c ∈ o,c.more.size ≤ 32) (hH:∀ (k:Nat) (c:Cl),o[k]? = some c→(c.half = 1→k + 1 < o.length)∧(c.half = 2→1 ≤ k)) :
 Calls Tryz.prog 378 #[.slice (some ⟨g,0,none⟩) o.length cap,.pointer (some ⟨bx,0,none⟩),.pointer (some ⟨br,0,none⟩)] w (MendPost base g cap (markO o x r) w):=by
 have HW:=Hd (fun w => widOf_any r w)
 have HU:=Hd (fun w => uput_any r w)
 have H:=Hd h
 have hgb:=h.lt
 have HX:=Hd hx
 have HR:=Hd hr
 by_cases hx0:x < 0
 · have HV:=Hd (show markO o x r = o from by
    unfold markO
    split
    · rfl
    · rw [if_pos (Or.inl hx0)])
   clear h hH hM
   go_enter Tryz.func378,Tryz.ntmps378
   go_wp2
   go_end0
   rw [HV.out]
   exact H.out.mend_post
 obtain ⟨k,rfl⟩:∃ k:Nat,x = (k:Int):=⟨x.toNat,by omega⟩
 by_cases hxl:(o.length:Int) ≤ (k:Int)
 · have HV:=Hd (show markO o k r = o from by unfold markO;rw [Int.toNat_natCast,List.getElem?_eq_none (by omega)])
   clear h hH hM
   go_enter Tryz.func378,Tryz.ntmps378
   go_wp2
   go_end0
   rw [HV.out]
   exact H.out.mend_post
 have hkl:k < o.length:=by omega
 have hklI:(k:Int) < (o.length:Int):=by omega
 obtain ⟨c,hc⟩:∃ c,o[k]? = some c:=⟨o[k],List.getElem?_eq_getElem hkl⟩
 have HRG:=Hd (h.range hc)
 have q0:w.cell? ⟨g,k * 8,none⟩ = some (.int .i32 c.r):=HRG.out 0 _ rfl
 have HV0:Hid (markO o k r = if (k:Int) < 0 ∨ c.r = 0 ∨ widOf r ≠ 0 ∨ 32 < (c.more ++ putB r).size then o else (if c.half = 1 then o.modify (k + 1) (withMore (c.more ++ putB r)) else if c.half = 2 then o.modify (k - 1) (withMore (c.more ++ putB r)) else o).modify k (withMore (c.more ++ putB r))):=Hd (by unfold markO;rw [Int.toNat_natCast,hc])
 have HH:=Hd (hH k c hc)
 have hm32:c.more.size ≤ 32:=hM c (List.mem_of_getElem? hc)
 have hp32:(putB r).size ≤ 32:=putB_size r
 generalize markO o k r = RES at HV0
 have HC:=Hd hc
 clear hH hM h hc
 by_cases hr0:c.r = 0
 · have hr0b:(c.r == 0) = true:=beq_iff_eq.2 hr0
   go_enter Tryz.func378,Tryz.ntmps378
   go_wp2
   go_end0
   rw [HV0.out,if_pos (.inr (.inl hr0))]
   exact H.out.mend_post
 have hr0b:(c.r == 0) = false:=beq_eq_false_iff_ne.2 hr0
 have HC0:=Hd hr0
 generalize hwd:widOf r = wd at HW HV0
 by_cases hw0:wd = 0
 rotate_left
 · have hw0b:(wd == 0) = false:=beq_eq_false_iff_ne.2 hw0
   clear hwd
   go_enter Tryz.func378,Tryz.ntmps378
   go_wp2_with (go_at_call 162;refine (HW.out _).mono ?_;rintro e w1 ⟨rfl,hb⟩;have HB:=Hd hb;clear hb)
   go_end0
   rw [HV0.out,if_pos (.inr (.inr (.inl hw0)))]
   exact ⟨rfl,H.out.below HB.out,Mod.of_below HB.out⟩
 subst hw0
 clear hwd
 generalize putB r = pr at HU HV0 hp32
 obtain ⟨m,hm⟩:∃ m,c.more ++ pr = m:=⟨_,rfl⟩
 rw [hm] at HV0
 have hsz:¬ 9223372036854775807 < c.more.size + pr.size:=by omega
 clear hm32 hp32
 go_enter Tryz.func378,Tryz.ntmps378
 go_upto_region 1 with (go_at_call 162;refine (HW.out _).mono ?_;rintro e w1 ⟨rfl,hb⟩;have HB:=Hd hb;have x1:=holda hb HX.out;have r1:=holda hb HR.out;have m1:w1.cell? ⟨g,k * 8 + 1,none⟩ = some (.string c.more):=range_below HRG.out hb 1 _ rfl;clear hx hr hb q0)
 clear hx0 hxl hr0 hr0b
 refine wp_region_u 8 (fun w' => Below w1.heap.size w1 w'∧w'.cell? ⟨bx,0,none⟩ = some (.int .i64 k)∧w'.cell? ⟨br,0,none⟩ = some (.int .i32 r)∧w'.cell? ⟨g,k * 8 + 1,none⟩ = some (.string c.more)) (by kernel_rfl) (by kernel_rfl) ?_ ?_
 · exact ⟨(Below.refl _ _).drew,x1,r1,m1⟩
 simp only [List.take_succ_cons,List.take_zero,List.drop_succ_cons,List.drop_zero]
 repeat (
  (first
   | refine seqU_skip (by rfl) ?_
   | (refine seqU_call 102 #[.int .i32 r] (.string pr) (by rfl) ?_ (fun w' hS => (HU.out w').mono (fun e w'' h => ⟨h.1,below_tail hS.1 h.2,holda h.2 hS.2.1,holda h.2 hS.2.2.1,holda h.2 hS.2.2.2⟩)) ?_;(focus (intro w2;go_simp;done)))
   | (refine seqU_val ?_ (by rfl) ?_ ?_;rotate_left;(focus (intro w' hS;obtain ⟨_,_,_,_⟩:=hS;go_simp;first | done | with_reducible rfl))))
  simp only [Act.put,List.setIfInBounds_toArray,List.set_cons_zero,List.set_cons_succ])
 refine seqU_nil (fun w' hS => ?_)
 have HB2:=Hd (below_tail HB.out hS.1)
 have x2:=hS.2.1
 have h2:w'.cell? ⟨g,k * 8 + 2,none⟩ = some (.int .i64 c.half):=range_below HRG.out HB2.out 2 _ rfl
 clear hS x1 r1 m1
 have HO:=Hd (H.out.below HB2.out)
 clear HRG H
 have HM:=Hd hm
 have wv:=Mod.of_below (X:=[g]) HB2.out
 have HMB:=Hd wv
 clear wv hm
 by_cases hbig:32 < m.size
 · have hbI:(32:Int) < (m.size:Int):=by omega
   go_wp2
   go_end0
   rw [HV0.out,if_pos (.inr (.inr (.inr hbig)))]
   exact ⟨rfl,HO.out,HMB.out⟩
 have hbI:¬ (32:Int) < (m.size:Int):=by omega
 have HNB:=Hd hbig
 clear hbig hsz
 obtain ⟨km,hkm⟩:=HO.out.holdMore (i:=k) (c:=c) HC.out
 by_cases h1:c.half = 1
 · have hj1:=HH.out.1 h1
   obtain ⟨j,hj⟩:∃ j:Nat,j = k + 1:=⟨_,rfl⟩
   have HJ:=Hd hj
   have hjI:(k:Int) + 1 = (j:Int):=by omega
   have hwj:IntKind.i64.wrap (j:Int) = (j:Int):=IntWalk.i64_in _ (by omega)
   have hjl:(j:Int) < (o.length:Int):=by omega
   have hjN:j < o.length:=by omega
   obtain ⟨d,hd⟩:∃ d,o[j]? = some d:=⟨o[j],List.getElem?_eq_getElem hjN⟩
   obtain ⟨dm,hdm⟩:=HO.out.holdMore hd
   have h1b:(c.half == 1) = true:=beq_iff_eq.2 h1
   clear hd hj km hkm
   rw [h1] at h2
   go_upto_region 8 with fail
   have HO2:=Hd (HO.out.more hjN m)
   have HM2:=Hd (HMB.out.setCell (a:=⟨g,j * 8 + 1,none⟩) (.inl (by simp)) (.string m))
   have X2:=Hd (HM2.out.cell (by simp;omega) HX.out)
   have HC2:Hid ((o.modify j (withMore m))[k]? = some c):=Hd (by rw [List.getElem?_modify,HC.out];have:=HJ.out;simp [show j ≠ k by omega])
   generalize World.setCell _ _ _ = W2 at HO2 HM2 X2 ⊢
   obtain ⟨em,hem⟩:=HO2.out.holdMore HC2.out
   have x3:=X2.out
   clear x2 h2 dm hdm
   go_wp2
   go_end0
   rw [HV0.out,if_neg (by have:=HNB.out;have:=HC0.out;simp;omega),if_pos h1,← HJ.out]
   exact ⟨rfl,HO2.out.more (by rw [List.length_modify];exact hkl) m |>.len (by simp),HM2.out.setCell (a:=⟨g,k * 8 + 1,none⟩) (.inl (by simp)) (.string m)⟩
 have h1b:(c.half == 1) = false:=beq_eq_false_iff_ne.2 h1
 by_cases h22:c.half = 2
 · have hj1:=HH.out.2 h22
   obtain ⟨j,hj⟩:∃ j:Nat,j = k - 1:=⟨_,rfl⟩
   have HJ:=Hd hj
   have hjI:(k:Int) - 1 = (j:Int):=by omega
   have hjS:k - 1 = j:=hj.symm
   have hwj:IntKind.i64.wrap (j:Int) = (j:Int):=IntWalk.i64_in _ (by omega)
   have hjl:(j:Int) < (o.length:Int):=by omega
   have hjN:j < o.length:=by omega
   obtain ⟨d,hd⟩:∃ d,o[j]? = some d:=⟨o[j],List.getElem?_eq_getElem hjN⟩
   obtain ⟨dm,hdm⟩:=HO.out.holdMore hd
   have h2b:(c.half == 2) = true:=beq_iff_eq.2 h22
   clear hd hj km hkm
   rw [h22] at h2
   go_upto_region 8 with fail
   have HO2:=Hd (HO.out.more hjN m)
   have HM2:=Hd (HMB.out.setCell (a:=⟨g,j * 8 + 1,none⟩) (.inl (by simp)) (.string m))
   have X2:=Hd (HM2.out.cell (by simp;omega) HX.out)
   have HC2:Hid ((o.modify j (withMore m))[k]? = some c):=Hd (by rw [List.getElem?_modify,HC.out];have:=HJ.out;simp [show j ≠ k by omega])
   generalize World.setCell _ _ _ = W2 at HO2 HM2 X2 ⊢
   obtain ⟨em,hem⟩:=HO2.out.holdMore HC2.out
   have x3:=X2.out
   clear x2 h2 dm hdm
   go_wp2
   go_end0
   rw [HV0.out,if_neg (by have:=HNB.out;have:=HC0.out;simp;omega),if_neg h1,if_pos h22,← HJ.out]
   exact ⟨rfl,HO2.out.more (by rw [List.length_modify];exact hkl) m |>.len (by simp),HM2.out.setCell (a:=⟨g,k * 8 + 1,none⟩) (.inl (by simp)) (.string m)⟩
 have h2b:(c.half == 2) = false:=beq_eq_false_iff_ne.2 h22
 go_wp2
 go_end0
 rw [HV0.out,if_neg (by have:=HNB.out;have:=HC0.out;simp;omega),if_neg h1,if_neg h22]
 exact ⟨rfl,HO.out.more hkl m,HMB.out.setCell (a:=⟨g,k * 8 + 1,none⟩) (.inl (by simp)) (.string m)⟩
def Fine (l:List Cl):Prop:=∀ c ∈ l,c.more.size ≤ 32
theorem fine_empty (c:Cl):(emptyC c).more.size ≤ 32:=Nat.zero_le _
theorem Fine.mend:∀ {l:List Cl},Fine l→Fine (mendL l)
 | [],h => h
 | [c],h => by
   rw [mendL_one]
   split
   · exact h
   · intro d hd;rw [List.mem_singleton.1 hd];exact fine_empty c
 | c :: d :: l,h => by
   rw [mendL_cons]
   have hc:=h c (by simp)
   have hd:=h d (by simp)
   have h1:Fine (d :: l):=fun x hx => h x (by simp [List.mem_cons.1 hx])
   have h2:Fine l:=fun x hx => h x (by simp [hx])
   have i1:=Fine.mend h1
   have i2:=Fine.mend h2
   split
   · intro x hx
     rcases List.mem_cons.1 hx with rfl | hx
     · exact hc
     · exact i1 x hx
   split
   · intro x hx
     rcases List.mem_cons.1 hx with rfl | hx
     · exact hc
     rcases List.mem_cons.1 hx with rfl | hx
     · exact hd
     · exact i2 x hx
   · intro x hx
     rcases List.mem_cons.1 hx with rfl | hx
     · exact fine_empty c
     · exact i1 x hx
theorem Fine.set {l:List Cl} (h:Fine l) (i:Nat) {c:Cl} (hc:c.more.size ≤ 32):Fine (l.set i c):=fun x hx => by
 rcases List.mem_or_eq_of_mem_set hx with hx | rfl
 · exact h x hx
 · exact hc
theorem Fine.append {l m:List Cl} (h:Fine l) (h2:Fine m):Fine (l ++ m):=fun x hx => by
 rcases List.mem_append.1 hx with hx | hx
 · exact h x hx
 · exact h2 x hx
theorem Fine.take {l:List Cl} (h:Fine l) (n:Nat):Fine (l.take n):=fun x hx => h x (List.mem_of_mem_take hx)
theorem Fine.drop {l:List Cl} (h:Fine l) (n:Nat):Fine (l.drop n):=fun x hx => h x (List.mem_of_mem_drop hx)
theorem fine_rep (n:Nat) (b:Col):Fine (List.replicate n (blankC b)):=fun x hx => by rw [(List.mem_replicate.1 hx).2];exact Nat.zero_le _
theorem Fine.wipe {l:List Cl} (h:Fine l) (off n:Nat) (b:Col):Fine (wipeO l off n b):=((h.take _).append (fine_rep _ _)).append (h.drop _)
theorem Fine.put {l:List Cl} (h:Fine l) (x r:Int) (a:Atr):Fine (putL l x r a):=by
 rw [← putL_O]
 refine Fine.mend ?_
 unfold putO
 have hz:∀ hf,(mkCl r ByteArray.empty hf a).more.size ≤ 32:=fun _ => Nat.zero_le _
 split
 · exact h.mend.set _ (hz _)
 split
 · exact (h.mend.set _ (hz _)).set _ (hz _)
 · exact h.mend
theorem Fine.close {l:List Cl} (h:Fine l):Fine (closeL l):=(h.mend.set _ (show padC.more.size ≤ 32 from Nat.zero_le _)).mend
theorem Fine.erase {l:List Cl} (h:Fine l) (x y:Int) (b:Col):Fine (eraseL l x y b):=by
 unfold eraseL
 rw [wipeL_O]
 unfold eraseO
 split
 · exact (h.mend.wipe _ _ _).mend
 · exact h.mend.mend
theorem Fine.insert {l:List Cl} (h:Fine l) (x n:Int) (b:Col):Fine (insertL l x n b):=by
 rw [← insertL_O]
 refine Fine.mend ?_
 unfold insertO
 split
 · exact h.mend
 · exact ((h.mend.take _).append ((h.mend.drop _).take _)).wipe _ _ _
theorem mem_modify' {α:Type} {f:α→α} {y:α} {l:List α} {i:Nat} (h:y ∈ l.modify i f):y ∈ l ∨ ∃ x,y = f x:=by
 rcases mem_modify h with h | ⟨x,-,e⟩
 · exact .inl h
 · exact .inr ⟨x,e⟩
theorem Fine.mod {l:List Cl} (h:Fine l) (i:Nat) {m:ByteArray} (hm:m.size ≤ 32):Fine (l.modify i (withMore m)):=fun x hx => by
 rcases mem_modify' hx with hx | ⟨y,rfl⟩
 · exact h x hx
 · exact hm
theorem Fine.mark {l:List Cl} (h:Fine l) (x r:Int):Fine (markL l x r):=by
 rw [← markL_O]
 refine Fine.mend ?_
 unfold markO
 split
 · exact h.mend
 · split
   · exact h.mend
   · next hc =>
     have hm:=Nat.not_lt.1 (fun hh => hc (.inr (.inr (.inr hh))))
     simp only []
     refine Fine.mod ?_ _ hm
     split
     · exact h.mend.mod _ hm
     split
     · exact h.mend.mod _ hm
     · exact h.mend
set_option maxHeartbeats 3200000 in
theorem cMark_any (A:Option Addr) (l:List Cl) (ca:Nat) (x r:Int) (w:World) (hl:GrAt encCl 8 w A l) (h0:0 < l.length) (hz:l.length ≤ 10000) (hf:Fine l) :
 Calls Tryz.prog 340 #[.slice A l.length ca,.int .i64 x,.int .i32 r] w (WithPost (markL l x r) w):=by
 have hb0:Below w.heap.size w ((w.alloc (.cells #[.int .i64 x] 3)).alloc (.cells #[.int .i32 r] 21)):=below_allocs (below_allocs (Below.refl w.heap.size w) _) _
 have hp0:((w.alloc (.cells #[.int .i64 x] 3)).alloc (.cells #[.int .i32 r] 21)).heap[w.heap.size]? = some (.cells #[.int .i64 x] 3 (0,0)):=hp_old (hp_new rfl)
 have hp1:((w.alloc (.cells #[.int .i64 x] 3)).alloc (.cells #[.int .i32 r] 21)).heap[w.heap.size + 1]? = some (.cells #[.int .i32 r] 21 (0,0)):=hp_new (by simp)
 have HB0:=Hd hb0
 have HW:=Hd (cwith_any A l ca 378 #[.pointer (some ⟨w.heap.size,0,none⟩),.pointer (some ⟨w.heap.size + 1,0,none⟩)] (fun o => markO o x r) ((w.alloc (.cells #[.int .i64 x] 3)).alloc (.cells #[.int .i32 r] 21)) (hl.below hb0) h0 hz (by rw [markO_len,mendL_len]) (fun args w => by kernel_rfl) (fun g cap w' hc hb => by
  have:=mark1_any _ g cap (mendL l) _ _ x r w' hc (by rw [mendL_len];exact hz) (holda hb (range_box hp0 0 _ rfl)) (holda hb (range_box hp1 0 _ rfl)) (by simp <;> omega) (by simp <;> omega) hf.mend (fun k c hk => mend_halves l k c hk)
  rwa [mendL_len] at this))
 have HL:=Hd (markL_O l x r)
 rw [HL.out] at HW
 clear hl hb0 hp0 hp1
 go_enter Tryz.func340,Tryz.ntmps340
 go_wp2_with (go_at_call 104;refine HW.out.mono ?_;intro e w1 hp;obtain ⟨g,cap,rfl,hc,hb⟩:=WithPost.rebase HB0.out hp;have HC:=Hd hc;clear hc hp)
 go_ret
 exact ⟨g,cap,rfl,HC.out,hb⟩
end Go.Proofs.YtaefcahblmopfaaGreatDoor
namespace Go
open Go.RowKit
section
variable {P:Program} {ops:Array Oper} {md:Region.Mode}
def Pers (S:World→Prop):Prop:=∀ w w',S w→Below w.heap.size w w'→S w'
theorem Pers.and {S T:World→Prop} (h:Pers S) (k:Pers T):Pers (fun w => S w∧T w):=fun w w' hS hb => ⟨h w w' hS.1 hb,k w w' hS.2 hb⟩
def upN (P:Program) (w:World) (n:Nat) (dst:Option Tmp) (V:Value→World→Prop):Result Next→Prop
 | .ok (.value u) w' => ∃ v,samePut n dst u v∧V v w'∧Below w.heap.size w w'
 | .ok .skip w' => ∃ v,samePut n dst undef v∧V v w'∧Below w.heap.size w w'
 | .ok (.enter f args) w' => Calls P f args w' fun e w'' => match e with
    | .returned u => ∃ v,samePut n dst u v∧V v w''∧Below w.heap.size w w''
    | _ => False
 | .ok (.row row args) w' => Rows P row args w' fun u w'' => ∃ v,samePut n dst u v∧V v w''∧Below w.heap.size w w''
 | _ => False
def StabN (P:Program) (ops:Array Oper) (S:World→Prop) (o:Oper) (V:Value→World→Prop) (a:Act):Prop :=
 (Region.wanted o (yielded ops a.tmps) = true∧∀ w,S w→upN P w a.tmps.size o.dst V ((execOp a.eval o).run P w)) ∨
 (Region.wanted o (yielded ops a.tmps) = false∧∀ w,S w→V undef w)
theorem StabN.of_same {S:World→Prop} {o:Oper} {V:Value→World→Prop} {a a':Act} (hy:StabN P ops S o V a) (he:execOp a'.eval o = execOp a.eval o)
 (hw:Region.wanted o (yielded ops a'.tmps) = Region.wanted o (yielded ops a.tmps)) (hs:a'.tmps.size = a.tmps.size):StabN P ops S o V a':=by
 unfold StabN at *
 rw [he,hw,hs]
 exact hy
theorem StabN.strengthen {S T:World→Prop} {o:Oper} {V:Value→World→Prop} {a:Act} (h:∀ w,T w→S w) (hy:StabN P ops S o V a):StabN P ops T o V a:=by
 rcases hy with ⟨hw,hv⟩ | ⟨hw,hv⟩
 · exact .inl ⟨hw,fun w hT => hv w (h w hT)⟩
 · exact .inr ⟨hw,fun w hT => hv w (h w hT)⟩
theorem StabN.wpOp {S:World→Prop} {Q:Exit→Act→World→Prop} {i:Nat} {o:Oper} {V:Value→World→Prop} {a:Act} (hi:ops[i]? = some o) (hp:Pers S) (hy:StabN P ops S o V a)
 {K:Act→World→Prop} {w:World} (hS:S w) (h:∀ v w',S w'→V v w'→K (a.put o.dst v) w'):wpOp P ops Q i K a w:=by
 unfold Go.wpOp
 simp only [hi]
 rcases hy with ⟨hw,hv⟩ | ⟨hw,hv⟩
 · simp only [hw,if_true,Oper.wp]
   refine .inl ?_
   have hv:=hv w hS
   generalize (execOp a.eval o).run P w = r at *
   cases r with
   | ok n w' =>
     cases n <;> simp only [upN,Oper.upon] at hv ⊢
     case value u => obtain ⟨v,h1,h2,h3⟩:=hv;rw [h1 a rfl];exact h _ _ (hp _ _ hS h3) h2
     case skip => obtain ⟨v,h1,h2,h3⟩:=hv;rw [h1 a rfl];exact h _ _ (hp _ _ hS h3) h2
     case enter f args =>
      refine Calls.mono hv fun e w'' he => ?_
      cases e with
      | returned u => obtain ⟨v,h1,h2,h3⟩:=he;simp only;rw [h1 a rfl];exact h _ _ (hp _ _ hS h3) h2
      | panicked c => exact he.elim
      | outgrown => exact he.elim
     case row row args => exact Rows.mono hv fun u w'' he => (by obtain ⟨v,h1,h2,h3⟩:=he;rw [h1 a rfl];exact h _ _ (hp _ _ hS h3) h2)
   | halt x w' => exact hv.elim
 · simp only [hw,Bool.false_eq_true,if_false];exact h _ _ hS (hv w hS)
def AT (A:Value→Prop) (T:Value→World→Prop):Value→World→Prop:=fun v w => A v∧T v w
def wpUN (P:Program) (md:Region.Mode) (ops:Array Oper) (n:Nat) (L:Array Bool→Act→(World→Prop)→Prop):Nat→Array Bool→Act→(World→Prop)→Prop
 | 0,listed,a,S => L listed a S
 | f + 1,listed,a,S =>
   Region.ready md ops listed ≠ []∧∀ i ∈ Region.ready md ops listed,i < n∧∃ o A T,ops[i]? = some o∧(∀ v,Pers (T v))∧StabN P ops S o (AT A T) a ∧
    ∀ v,A v→wpUN P md ops n L f (listed.setIfInBounds i true) (a.put o.dst v) (fun w => S w∧T v w)
theorem wpAny_of_headN {n g:Nat} {L:Array Bool→Act→(World→Prop)→Prop} {Q':Exit→Act→World→Prop} (hL:∀ listed a S,L listed a S→∀ w,S w→wpAny P md ops Q' g listed a w) :
 ∀ (f:Nat) (listed:Array Bool) (a:Act) (S:World→Prop),Pers S→wpUN P md ops n L f listed a S→∀ w,S w→wpAny P md ops Q' (f + g) listed a w
 | 0,listed,a,S,_,h,w,hS => by rw [Nat.zero_add];exact hL _ _ _ h w hS
 | f + 1,listed,a,S,hp,h,w,hS => by
   rw [show f + 1 + g = (f + g) + 1 by omega]
   refine ⟨fun h0 => absurd h0 h.1,fun i hi => ?_⟩
   obtain ⟨_,o,A,T,ho,hT,hy,hr⟩:=h.2 i hi
   exact hy.wpOp ho hp hS (fun v w' hS' hV' => wpAny_of_headN hL f _ _ _ (hp.and (hT v)) (hr v hV'.1) w' ⟨hS',hV'.2⟩)
def LeafOk (L:Array Bool→Act→(World→Prop)→Prop):Prop:=∀ listed a (S T:World→Prop),(∀ w,T w→S w)→L listed a S→L listed a T
theorem wpUN.weaken {n:Nat} {L:Array Bool→Act→(World→Prop)→Prop} (hLk:LeafOk L):∀ (f:Nat) (listed:Array Bool) (a:Act) (S T:World→Prop),(∀ w,T w→S w)→wpUN P md ops n L f listed a S→wpUN P md ops n L f listed a T
 | 0,listed,a,S,T,h,hh => hLk listed a S T h hh
 | f + 1,listed,a,S,T,h,hh => by
   refine ⟨hh.1,fun i hi => ?_⟩
   obtain ⟨hn,o,A,V,ho,hV,hy,hr⟩:=hh.2 i hi
   exact ⟨hn,o,A,V,ho,hV,hy.strengthen h,fun v hv => wpUN.weaken hLk f _ _ _ _ (fun w ⟨h1,h2⟩ => ⟨h w h1,h2⟩) (hr v hv)⟩
def Any:Value→World→Prop:=fun _ _ => True
theorem Any.pers (u:Value):Pers (Any u):=fun _ _ _ _ => trivial
theorem wpUN_first {n i:Nat} {oi:Oper} {v:Value} {L:Array Bool→Act→(World→Prop)→Prop} (hLk:LeafOk L) (hi:ops[i]? = some oi) (hsel:∀ (j:Nat) (o:Oper) cs b,ops[j]? = some o→o.op ≠ .select cs b)
 (hs:Region.sinkB md ops n = true) (hc:Region.chainB md ops n = true) (hn:n < ops.size) (hin:i < n)
 (hdone:∀ listed a S,L listed a S→∀ j ∈ Region.ready md ops listed,n ≤ j) :
 ∀ (f:Nat) (listed:Array Bool) (a:Act) (S:World→Prop),HeadInv md ops n listed →
  (∀ j oj,ops[j]? = some oj→j ≠ i→listed.getD j true = false→(∀ e ∈ oj.after,Region.binds md e = true→e.on ≠ i)→oi.apart ops oj = true) →
  i ∈ Region.ready md ops listed→StabN P ops S oi (AT (· = v) Any) a →
  wpUN P md ops n L f (listed.setIfInBounds i true) (a.put oi.dst v) S→wpUN P md ops n L (f + 1) listed a S:=by
 intro f
 induction f with
 | zero =>
   intro listed a S inv _ hr hy H
   have hun:=(mem_ready.1 hr).1
   refine ⟨fun h => (by rw [h] at hr;cases hr),fun j hj => ?_⟩
   have hjn:j < n:=by
    rcases Nat.lt_or_ge j n with h | h
    · exact h
    · exact absurd hj (tail_waits hs hc hn inv _ i rfl hin hun j h)
   refine ⟨hjn,?_⟩
   by_cases hji:j = i
   · subst hji
     exact ⟨oi,_,_,hi,Any.pers,hy,fun u hu => by subst hu;exact hLk _ _ S _ (fun w h => h.1) H⟩
   · have:=hdone _ _ _ H j (ready_mono hj hji)
     omega
 | succ f ih =>
   intro listed a S inv hfree hr hy H
   have hun:=(mem_ready.1 hr).1
   refine ⟨fun h => (by rw [h] at hr;cases hr),fun j hj => ?_⟩
   have hjn:j < n:=by
    rcases Nat.lt_or_ge j n with h | h
    · exact h
    · exact absurd hj (tail_waits hs hc hn inv _ i rfl hin hun j h)
   refine ⟨hjn,?_⟩
   by_cases hji:j = i
   · subst hji
     exact ⟨oi,_,_,hi,Any.pers,hy,fun u hu => by subst hu;exact wpUN.weaken hLk _ _ _ S _ (fun w h => h.1) H⟩
   · obtain ⟨_,oj',A,T,hoj',hT,hyj,Hj⟩:=H.2 j (ready_mono hj hji)
     obtain ⟨hjun,oj,hoj,hall⟩:=mem_ready.1 hj
     obtain rfl:oj' = oj:=Option.some.inj (hoj'.symm.trans hoj)
     have hnot:∀ e ∈ oj'.after,Region.binds md e = true→e.on ≠ i:=fun e he hb heq => by
      have h1:=hall e he hb
      rw [heq,getD_both hun] at h1
      cases h1
     obtain ⟨h1,h2,h3⟩:=Oper.apart_spec (hfree j oj' hoj hji hjun hnot)
     have hsi:=fun cs b => hsel i oi cs b hi
     have hsj:=fun cs b => hsel j oj' cs b hoj
     have hyj':StabN P ops S oj' (AT A T) a:=hyj.of_same (execOp_put oj' hsj a oi.dst v h1).symm (wanted_put oj' a oi.dst v h1).symm (Act.put_size _ _ _).symm
     have hfree':∀ k ok,ops[k]? = some ok→k ≠ i→(listed.setIfInBounds j true).getD k true = false →
      (∀ e ∈ ok.after,Region.binds md e = true→e.on ≠ i)→oi.apart ops ok = true:=fun k ok hk hki hun hno => by
      refine hfree k ok hk hki ?_ hno
      by_cases hjk:j = k
      · subst hjk;exact hjun
      · rw [getD_set_ne true hjk] at hun;exact hun
     refine ⟨oj',A,T,hoj,hT,hyj',fun u hu => ?_⟩
     have hyi':StabN P ops (fun w => S w∧T u w) oi (AT (· = v) Any) (a.put oj'.dst u):=(hy.of_same (execOp_put oi hsi a oj'.dst u h3) (wanted_put oi a oj'.dst u h3) (Act.put_size _ _ _)).strengthen (fun w h => h.1)
     refine ih (listed.setIfInBounds j true) _ _ (inv.set hj hjn) hfree' (ready_mono hr (Ne.symm hji)) hyi' ?_
     rw [Array.setIfInBounds_comm _ _ hji,← Act.put_comm a v u h2]
     exact Hj u hu
def tailN (P:Program) (ops:Array Oper) (Q:Exit→Act→World→Prop) (n:Nat):Array Bool→Act→(World→Prop)→Prop:=fun listed a S =>
 Region.seqB .any ops (ops.size - n) n listed = true∧∀ w,S w→wpList P ops Q (ops.toList.drop n) a w
theorem tailN_ok {Q:Exit→Act→World→Prop} {n:Nat}:LeafOk (tailN P ops Q n):=fun _ _ _ _ h hh => ⟨hh.1,fun w hw => hh.2 w (h w hw)⟩
structure AtN (P:Program) (ops:Array Oper) (Q:Exit→Act→World→Prop) (n:Nat) (f:Nat) (listed:Array Bool) (a:Act) (S:World→Prop):Prop where
 h:HeadInv .any ops n listed→wpUN P .any ops n (tailN P ops Q n) f listed a S
variable {Q:Exit→Act→World→Prop} {S:World→Prop} {a:Act} {listed:Array Bool} {n f:Nat}
def Region.tailB (ops:Array Oper) (n:Nat):Bool:=Region.noSelect ops && decide (n < ops.size) && Region.sinkB .any ops n && Region.chainB .any ops n
theorem AtN.take (i:Nat) {o:Oper} {v:Value} (hB:Region.tailB ops n = true) (hi:ops[i]? = some o) (hin:(i < n) = True) (hf:Region.free .any ops listed i = true) (hr:(Region.ready .any ops listed).contains i = true)
 (hy:StabN P ops S o (AT (· = v) Any) a) (h:AtN P ops Q n f (listed.setIfInBounds i true) (a.put o.dst v) S):AtN P ops Q n (f + 1) listed a S:=⟨fun inv => by
 simp only [Region.tailB,Bool.and_eq_true,decide_eq_true_eq] at hB
 obtain ⟨⟨⟨hsel,hn⟩,hs⟩,hc⟩:=hB
 have hr':i ∈ Region.ready .any ops listed:=by simpa using hr
 have hin':i < n:=by rw [hin];trivial
 exact wpUN_first tailN_ok hi (Region.noSelect_spec hsel) hs hc hn hin' (fun listed a S hL => seqB_ready hL.1) f listed a S inv (Region.free_spec hi hf) hr' hy (h.h (inv.set hr' hin'))⟩
def AtC (c:Nat) (P:Program) (ops:Array Oper) (Q:Exit→Act→World→Prop) (n:Nat) (f:Nat) (listed:Array Bool) (a:Act) (S:World→Prop):Prop:=c ≤ c∧AtN P ops Q n f listed a S
theorem AtN.go (c:Nat) (h:AtC c P ops Q n f listed a S):AtN P ops Q n f listed a S:=h.2
theorem AtC.back {c:Nat} (h:AtN P ops Q n f listed a S):AtC c P ops Q n f listed a S:=⟨Nat.le_refl c,h⟩
theorem AtC.take {i:Nat} {o:Oper} {v:Value} (hB:Region.tailB ops n = true) (hi:ops[i]? = some o) (hin:(i < n) = True) (hf:Region.free .any ops listed i = true) (hr:(Region.ready .any ops listed).contains i = true)
 (hy:StabN P ops S o (AT (· = v) Any) a) (h:AtC (i + 1) P ops Q n f (listed.setIfInBounds i true) (a.put o.dst v) S):AtC i P ops Q n (f + 1) listed a S:=⟨Nat.le_refl i,AtN.take i hB hi hin hf hr hy h.2⟩
theorem AtN.one (i:Nat) {o:Oper} (A:Value→Prop) (T:Value→World→Prop) (hin:(i < n) = True) (hr:Region.ready .any ops listed = [i]) (hi:ops[i]? = some o) (hT:∀ v,Pers (T v))
 (hy:StabN P ops S o (AT A T) a) (h:∀ v,A v→AtN P ops Q n f (listed.setIfInBounds i true) (a.put o.dst v) (fun w => S w∧T v w)):AtN P ops Q n (f + 1) listed a S:=⟨fun inv => by
 have hin':i < n:=by rw [hin];trivial
 refine ⟨by rw [hr];simp,fun j hj => ?_⟩
 have hj':=hj
 rw [hr] at hj
 obtain rfl:j = i:=by simpa using hj
 exact ⟨hin',o,A,T,hi,hT,hy,fun v hv => (h v hv).h (inv.set hj' hin')⟩⟩
theorem AtN.done (hB:Region.seqB .any ops (ops.size - n) n listed = true) (h:∀ w,S w→wpList P ops Q (ops.toList.drop n) a w):AtN P ops Q n 0 listed a S:=⟨fun _ => ⟨hB,h⟩⟩
theorem wp_region_n {id:Nat} {w:World} (n:Nat) (S:World→Prop) (hm:P.follows .mixedOrders = true) (hB:Region.tailB ops n = true) (hp:Pers S) (hS:S w.drew)
 (h:AtN P ops Q n n (Array.replicate ops.size false) a S):(Code.region id ops true).wp P Q a w:=by
 simp only [Region.tailB,Bool.and_eq_true,decide_eq_true_eq] at hB
 obtain ⟨⟨⟨hsel,hn⟩,hs⟩,hc⟩:=hB
 have inv0:HeadInv .any ops n (Array.replicate ops.size false) :=
  ⟨by simp,fun j oj _ hl => (by rw [getD_replicate_false] at hl;cases hl),fun t _ ht => getD_in (by simpa using ht) (getD_replicate_false _ _)⟩
 refine wp_region_any hm ?_
 have:=wpAny_of_headN (Q':=Q) (g:=ops.size - n) (fun listed a' S hL w' hS' => by
  have:=wpAny_of_seq (md:=.any) (Q':=Q) (ops.toList.drop n) n listed a' w' (fun j => by simp [List.getElem?_drop]) (by simpa using hL.1) (hL.2 w' hS')
  simpa using this) _ _ _ _ hp (h.h inv0) w.drew hS
 rw [show n + (ops.size - n) = ops.size by omega] at this
 exact this
theorem StabN.val {o:Oper} {v:Value} (hw:Region.wanted o (yielded ops a.tmps) = true) (h:∀ w,S w→(execOp a.eval o).run P w = .ok (.value v) w):StabN P ops S o (AT (· = v) Any) a :=
 .inl ⟨hw,fun w hS => by rw [h w hS];exact ⟨v,samePut.rfl',⟨rfl,trivial⟩,Below.refl _ _⟩⟩
theorem StabN.call {o:Oper} (f:FuncId) (args:Array Value) (A:Value→Prop) (T:Value→World→Prop) (hw:Region.wanted o (yielded ops a.tmps) = true) (h:∀ w,(execOp a.eval o).run P w = .ok (.enter f args) w)
 (hc:∀ w,S w→Calls P f args w fun e w' => ∃ v,e = .returned v∧(A v∧T v w')∧Below w.heap.size w w'):StabN P ops S o (AT A T) a :=
 .inl ⟨hw,fun w hS => by
  rw [h w]
  refine (hc w hS).mono fun e w' ⟨v,he,hv,hb⟩ => ?_
  rw [he]
  exact ⟨v,samePut.rfl',hv,hb⟩⟩
theorem StabN.call1 {o:Oper} (f:FuncId) (args:Array Value) (v:Value) (hw:Region.wanted o (yielded ops a.tmps) = true) (h:∀ w,(execOp a.eval o).run P w = .ok (.enter f args) w)
 (hc:∀ w,S w→Calls P f args w fun e w' => e = .returned v∧Below w.heap.size w w'):StabN P ops S o (AT (· = v) Any) a :=
 StabN.call f args _ _ hw h (fun _ hS => (hc _ hS).mono fun _ _ ⟨he,hb⟩ => ⟨v,he,⟨rfl,trivial⟩,hb⟩)
theorem StabN.new {o:Oper} (A:Value→Prop) (T:Value→World→Prop) (hw:Region.wanted o (yielded ops a.tmps) = true)
 (h:∀ w,S w→∃ v w',(execOp a.eval o).run P w = .ok (.value v) w'∧A v∧T v w'∧Below w.heap.size w w'):StabN P ops S o (AT A T) a :=
 .inl ⟨hw,fun w hS => by
  obtain ⟨v,w',hr,hA,hT,hb⟩:=h w hS
  rw [hr];exact ⟨v,samePut.rfl',⟨hA,hT⟩,hb⟩⟩
def NewP (t:TypeId) (cs:Array Value):Value→World→Prop:=fun v w => ∃ g,v = .pointer (some ⟨g,0,none⟩)∧w.heap[g]? = some (.cells cs t (0,0))
theorem lt_of_heap {w:World} {g:Nat} {o:Obj} (h:w.heap[g]? = some o):g < w.heap.size:=by
 rcases Nat.lt_or_ge g w.heap.size with hlt | hge
 · exact hlt
 · rw [Array.getElem?_eq_none hge] at h;cases h
theorem NewP.pers (t:TypeId) (cs:Array Value) (v:Value):Pers (NewP t cs v):=fun _ _ ⟨g,hv,hh⟩ hb => ⟨g,hv,(hb.block g (lt_of_heap hh)).trans hh⟩
theorem NewP.at_ {t:TypeId} {cs:Array Value} {g:Nat} {w:World} (h:NewP t cs (.pointer (some ⟨g,0,none⟩)) w):w.heap[g]? = some (.cells cs t (0,0)):=by
 obtain ⟨g',e,hh⟩:=h
 injection e with e
 injection e with e
 injection e with e1 _ _
 rw [e1];exact hh
theorem StabN.alloc {o:Oper} (base:Nat) (t:TypeId) (cs:Array Value) (avoid:List Nat) (hw:Region.wanted o (yielded ops a.tmps) = true)
 (h:∀ w,S w→(execOp a.eval o).run P w = .ok (.value (.pointer (some ⟨w.heap.size,0,none⟩))) (w.alloc (.cells cs t))) (hb:∀ w,S w→base ≤ w.heap.size) (hav:∀ w,S w→∀ x ∈ avoid,x < w.heap.size) :
 StabN P ops S o (AT (fun v => ∃ g,v = .pointer (some ⟨g,0,none⟩)∧base ≤ g∧∀ x ∈ avoid,g ≠ x) (NewP t cs)) a :=
 StabN.new _ _ hw fun w hS => ⟨_,_,h w hS,⟨_,rfl,hb w hS,fun x hx => Nat.ne_of_gt (hav w hS x hx)⟩,⟨_,rfl,by
  show (w.heap.push _)[w.heap.size]? = _
  simp⟩,(Below.refl _ _).alloc (Nat.le_refl _) _⟩
end
end Go
