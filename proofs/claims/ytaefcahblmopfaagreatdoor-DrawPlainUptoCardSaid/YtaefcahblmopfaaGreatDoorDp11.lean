/- Joined by a tool of this claim out of smaller texts. Conditions: as stated. -/
import Derived.Test.YtaefcahblmopfaaGreatDoorDp10
import Derived.Laws.Shifts
set_option linter.unusedVariables false
set_option linter.unusedSimpArgs false
set_option maxRecDepth 100000
open Go.Lib renaming hid → Hd
namespace Go.Proofs.YtaefcahblmopfaaGreatDoor
open Go.RowKit
def encU (n:Nat):List Value:=[.int .u64 n]
theorem encU_len:∀ n,(encU n).length = 1:=fun _ => rfl
theorem flat_u {ws:List Nat} {k n:Nat} (h:ws[k]? = some n):(flat encU ws)[k]? = some (.int .u64 n):=by
 have:=flat_at2 encU_len ws k n 0 h (by decide)
 rw [Nat.mul_one,Nat.add_zero] at this
 exact this
theorem owns_addr {w:World} {base:Nat} {e:TypeId} {size n cap:Nat} {A:Option Addr} {xs:List Value} (h:w.ownsRow base e size (.slice A n cap) n xs) (hn:0 < n):∃ g,A = some ⟨g,0,none⟩:=by
 obtain ⟨-,h2 | ⟨g',cap',cur,hv,-⟩⟩:=h
 · have:=h2.1;injection this with h1 h3;omega
 · injection hv with h1
   exact ⟨g',h1⟩
theorem pow_u64 {j:Nat} (h:j < 64):2 ^ j < 18446744073709551616:=Nat.lt_of_lt_of_le (Nat.pow_lt_pow_right (by decide) h:2 ^ j < 2 ^ 64) (by decide)
theorem run_shl1 (P:Program) (w:World) {x j:Nat} (h:x % 64 = j):(Op.shift .shl .u64 1 .i64 ((x:Int).tmod 64)).run P w = .ok (.int .u64 ((2 ^ j:Nat):Int)) w:=by
 have hj:j < 64:=by omega
 have e:(x:Int).tmod 64 = (j:Int):=by rw [Int.tmod_eq_emod_of_nonneg (by omega)];omega
 have hp:2 ^ j < 2 ^ 64:=Nat.pow_lt_pow_right (by decide) hj
 rw [e,shift_shl_any _ _ _ _ (by omega),Int.toNat_natCast,Int.one_mul]
 show Result.ok (Value.int .u64 (IntKind.u64.wrap (2 ^ min j 64))) w = _
 rw [show min j 64 = j by omega,IntKind.wrap_u64]
 have e2:(2:Int) ^ j = ((2 ^ j:Nat):Int):=by simp
 have hp2:2 ^ j < 18446744073709551616:=Nat.lt_of_lt_of_le hp (by decide)
 have h3:((2 ^ j:Nat):Int) % 18446744073709551616 = ((2 ^ j:Nat):Int):=Int.emod_eq_of_lt (Int.natCast_nonneg _) (show ((2 ^ j:Nat):Int) < 18446744073709551616 from Int.ofNat_lt.2 hp2)
 rw [e2,h3]
structure TbO (base:Nat) (w:World) (T:Nat) (vw:Value) (ws:List Nat) (st:List Bool):Prop where
 blk:w.heap[T]? = some (.cells #[vw,.int .i64 st.length] 179 (0,0))
 hb:base ≤ T
 own:w.ownsRow base 206 1 vw ws.length (flat encU ws)
 wds:WdsOf ws st
 le:st.length ≤ 1000
 few:ws.length ≤ 16
def tbX (T:Nat) (vw:Value):List Nat:=T :: vw.ownBlock.toList
section
variable {base:Nat} {w:World} {T:Nat} {vw:Value} {ws:List Nat} {st:List Bool}
theorem TbO.cells (h:TbO base w T vw ws st):(w.cell? ⟨T,0,none⟩ = some vw∧w.frozen? ⟨T,0,none⟩ = false)∧w.cell? ⟨T,1,none⟩ = some (.int .i64 st.length)∧w.frozen? ⟨T,1,none⟩ = false:=⟨at_ h.blk 0 _ rfl,at_ h.blk 1 _ rfl⟩
theorem TbO.vform (h:TbO base w T vw ws st):∃ A c,vw = .slice A ws.length c:=row_form h.own
theorem TbO.mod {X:List Nat} {w':World} (h:TbO base w T vw ws st) (hm:Mod X w w') (hd:∀ b ∈ tbX T vw,b ∉ X):TbO base w' T vw ws st :=
 ⟨(hm.block T (Array.getElem?_eq_some_iff.1 h.blk).1 (hd T (by simp [tbX]))).trans h.blk,h.hb,owns_mod h.own hm (fun b hb => hd b (by simp [tbX,hb])),h.wds,h.le,h.few⟩
theorem TbO.below {w':World} (h:TbO base w T vw ws st) (hb:Below w.heap.size w w'):TbO base w' T vw ws st:=h.mod (Mod.of_below (X:=[]) hb) (fun _ _ h => by cases h)
theorem tCols_any (h:TbO base w T vw ws st):Calls Tryz.prog 326 #[.pointer (some ⟨T,0,none⟩)] w fun e w' => e = .returned (.int .i64 st.length)∧w = w':=by
 obtain ⟨-,x1,-⟩:=h.cells
 clear h
 go_enter Tryz.func326,Tryz.ntmps326
 go_wp2
 go_ret
 exact ⟨rfl,rfl⟩
theorem tIn_any (h:TbO base w T vw ws st) (x:Int):Calls Tryz.prog 244 #[.pointer (some ⟨T,0,none⟩),.int .i64 x] w fun e w' => e = .returned (.bool (decide (0 ≤ x) && decide (x < st.length)))∧w = w':=by
 have HR:=Hd (tCols_any h)
 clear h
 by_cases hy:0 ≤ x
 · go_enter Tryz.func244,Tryz.ntmps244
   go_wp2_with (go_at_call 326;refine HR.out.mono ?_;rintro e w1 ⟨rfl,rfl⟩)
   go_ret
   simp [hy]
 · go_enter Tryz.func244,Tryz.ntmps244
   go_wp2_with (go_at_call 326;refine HR.out.mono ?_;rintro e w1 ⟨rfl,rfl⟩)
   go_ret
   simp;omega
def TbSet (base:Nat) (w:World) (T:Nat) (vw:Value) (st':List Bool) (w':World):Prop:=∃ ws',TbO base w' T vw ws' st'∧Mod vw.ownBlock.toList w w'
theorem TbO.setW {g c k n:Nat} {st':List Bool} (h:TbO base w T vw ws st) (hv:vw = .slice (some ⟨g,0,none⟩) ws.length c) (hk:k < ws.length) (hw:WdsOf (ws.set k n) st') (hl:st'.length = st.length):TbSet base w T vw st' (w.setCell ⟨g,k,none⟩ (.int .u64 n)):=by
 have hown:=h.own
 rw [hv] at hown
 have h1:=owns_set1 hown (k * 1 + 0) (.int .u64 n)
 rw [flat_set1 encU_len ws k ws[k] n 0 (.int .u64 n) (List.getElem?_eq_getElem hk) (by decide) rfl,Nat.mul_one,Nat.add_zero] at h1
 have hM:Mod vw.ownBlock.toList w (w.setCell ⟨g,k,none⟩ (.int .u64 n)):=(Mod.refl _ _).setCell (a:=⟨g,k,none⟩) (.inl (by rw [hv];simp [Value.ownBlock])) _
 refine ⟨ws.set k n,⟨?_,h.hb,by rw [List.length_set,hv];exact h1,hw,by rw [hl];exact h.le,by rw [List.length_set];exact h.few⟩,hM⟩
 rw [hl]
 refine (hM.block T (Array.getElem?_eq_some_iff.1 h.blk).1 (fun hb => ?_)).trans h.blk
 obtain ⟨cur,hc⟩:=own_block h.own (Option.mem_toList.1 hb)
 exact block_ne h.blk hc (by decide) rfl
theorem TbSet.trans {w1 w2:World} {st':List Bool} (h:TbSet base w1 T vw st' w2) (hb:Below w.heap.size w w1):TbSet base w T vw st' w2:=by
 obtain ⟨ws',h1,h2⟩:=h
 exact ⟨ws',h1,(Mod.of_below hb).trans h2 (fun b hb => .inl hb)⟩
def TbSetPost (base:Nat) (w:World) (T:Nat) (vw:Value) (st':List Bool) (e:Ending) (w':World):Prop:=e = .returned (.tuple #[])∧TbSet base w T vw st' w'
set_option maxHeartbeats 1600000 in
theorem tSet_in (h:TbO base w T vw ws st) (x:Nat) (hx:x < st.length):Calls Tryz.prog 151 #[.pointer (some ⟨T,0,none⟩),.int .i64 x] w (TbSetPost base w T vw (st.set x true)):=by
 have HIN:=Hd (tIn_any h x)
 have hin:(decide (0 ≤ (x:Int)) && decide ((x:Int) < st.length)) = true:=by simp;omega
 rw [hin] at HIN
 clear hin
 obtain ⟨⟨x0,-⟩,-⟩:=h.cells
 obtain ⟨A,c,hv⟩:=h.vform
 obtain ⟨wd,hwd,hlt,hbit⟩:=wds_word h.wds hx
 have hl:=(List.getElem?_eq_some_iff.1 hwd).1
 have hle:=h.le
 have hown:=h.own
 rw [hv] at hown x0
 obtain ⟨g,rfl⟩:∃ g,A = some ⟨g,0,none⟩:=owns_addr hown (by omega)
 obtain ⟨y,yf⟩:=owns_hold hown (i:=x / 64) (v:=.int .u64 wd) (flat_u hwd)
 have hwds:=h.wds
 generalize hk:x / 64 = k at *
 have hq:IntKind.i64.wrap ((x:Int) / 64) = (k:Int):=by rw [IntWalk.i64_in _ (by omega)];omega
 have hkl:(k:Int) < (ws.length:Int):=by omega
 obtain ⟨j,hj⟩:∃ j,x % 64 = j:=⟨_,rfl⟩
 have hsh:=fun w' => run_shl1 Tryz.prog w' hj
 have hor:=u64_or_nat wd (2 ^ j) hlt (pow_u64 (show j < 64 by omega))
 go_enter Tryz.func151,Tryz.ntmps151
 go_upto_region 1 with (go_at_call 244;refine HIN.out.mono ?_;rintro e w1 ⟨rfl,rfl⟩)
 refine wp_region_u 13 (fun w' => Below w.heap.size w w'∧w'.cell? ⟨T,0,none⟩ = some (.slice (some ⟨g,0,none⟩) ws.length c)∧w'.cell? ⟨g,k,none⟩ = some (.int .u64 wd)) (by kernel_rfl) (by kernel_rfl) ?_ ?_
 · exact ⟨(Below.refl _ _).drew,x0,y⟩
 simp only [List.take_succ_cons,List.take_zero,List.drop_succ_cons,List.drop_zero]
 repeat (
  (first
   | refine seqU_skip (by rfl) ?_
   | (refine seqU_val ?_ (by rfl) ?_ ?_;rotate_left;(focus (intro w' hS;obtain ⟨_,_,_⟩:=hS;go_simp;first | done | with_reducible rfl))))
  simp only [Act.put,List.setIfInBounds_toArray,List.set_cons_zero,List.set_cons_succ])
 refine seqU_nil (fun w' hS => ?_)
 have hO:=h.below hS.1
 have hown2:=hO.own
 rw [hv] at hown2
 obtain ⟨z,zf⟩:=owns_hold hown2 (i:=k) (v:=.int .u64 wd) (flat_u hwd)
 go_wp2
 go_end0
 have e2:(2:Int) ^ j = ((2 ^ j:Nat):Int):=by simp
 rw [e2,hor]
 have hs:=wds_set hO.wds hx (hk.symm ▸ hwd)
 rw [hk,hj] at hs
 exact ⟨rfl,(hO.setW hv (by omega) hs (by simp)).trans hS.1⟩
theorem tSet_out (h:TbO base w T vw ws st) (x:Int) (hx:x < 0 ∨ (st.length:Int) ≤ x):Calls Tryz.prog 151 #[.pointer (some ⟨T,0,none⟩),.int .i64 x] w (TbSetPost base w T vw st):=by
 have HIN:=Hd (tIn_any h x)
 have hin:(decide (0 ≤ x) && decide (x < st.length)) = false:=by simp;omega
 rw [hin] at HIN
 have H:=Hd h
 clear hin hx h
 go_enter Tryz.func151,Tryz.ntmps151
 go_wp2_with (go_at_call 244;refine HIN.out.mono ?_;rintro e w1 ⟨rfl,rfl⟩)
 go_end0
 exact ⟨rfl,ws,H.out,Mod.refl _ _⟩
def setT (st:List Bool) (x:Int) (b:Bool):List Bool:=if 0 ≤ x∧x < st.length then st.set x.toNat b else st
theorem tSet_any (h:TbO base w T vw ws st) (x:Int):Calls Tryz.prog 151 #[.pointer (some ⟨T,0,none⟩),.int .i64 x] w (TbSetPost base w T vw (setT st x true)):=by
 unfold setT
 by_cases hx:0 ≤ x∧x < st.length
 · obtain ⟨k,rfl⟩:=Int.eq_ofNat_of_zero_le hx.1
   rw [if_pos hx,Int.toNat_natCast]
   exact tSet_in h k (by omega)
 · rw [if_neg hx]
   exact tSet_out h x (by omega)
set_option maxHeartbeats 1600000 in
theorem tClear_in (h:TbO base w T vw ws st) (x:Nat) (hx:x < st.length):Calls Tryz.prog 150 #[.pointer (some ⟨T,0,none⟩),.int .i64 x] w (TbSetPost base w T vw (st.set x false)):=by
 have HIN:=Hd (tIn_any h x)
 have hin:(decide (0 ≤ (x:Int)) && decide ((x:Int) < st.length)) = true:=by simp;omega
 rw [hin] at HIN
 clear hin
 obtain ⟨⟨x0,-⟩,-⟩:=h.cells
 obtain ⟨A,c,hv⟩:=h.vform
 obtain ⟨wd,hwd,hlt,hbit⟩:=wds_word h.wds hx
 have hl:=(List.getElem?_eq_some_iff.1 hwd).1
 have hle:=h.le
 have hown:=h.own
 rw [hv] at hown x0
 obtain ⟨g,rfl⟩:∃ g,A = some ⟨g,0,none⟩:=owns_addr hown (by omega)
 obtain ⟨y,yf⟩:=owns_hold hown (i:=x / 64) (v:=.int .u64 wd) (flat_u hwd)
 have hwds:=h.wds
 generalize hk:x / 64 = k at *
 have hq:IntKind.i64.wrap ((x:Int) / 64) = (k:Int):=by rw [IntWalk.i64_in _ (by omega)];omega
 have hkl:(k:Int) < (ws.length:Int):=by omega
 obtain ⟨j,hj⟩:∃ j,x % 64 = j:=⟨_,rfl⟩
 have hsh:=fun w' => run_shl1 Tryz.prog w' hj
 have hor:=u64_andNot_nat wd (2 ^ j) hlt (pow_u64 (show j < 64 by omega))
 go_enter Tryz.func150,Tryz.ntmps150
 go_upto_region 1 with (go_at_call 244;refine HIN.out.mono ?_;rintro e w1 ⟨rfl,rfl⟩)
 refine wp_region_u 13 (fun w' => Below w.heap.size w w'∧w'.cell? ⟨T,0,none⟩ = some (.slice (some ⟨g,0,none⟩) ws.length c)∧w'.cell? ⟨g,k,none⟩ = some (.int .u64 wd)) (by kernel_rfl) (by kernel_rfl) ?_ ?_
 · exact ⟨(Below.refl _ _).drew,x0,y⟩
 simp only [List.take_succ_cons,List.take_zero,List.drop_succ_cons,List.drop_zero]
 repeat (
  (first
   | refine seqU_skip (by rfl) ?_
   | (refine seqU_val ?_ (by rfl) ?_ ?_;rotate_left;(focus (intro w' hS;obtain ⟨_,_,_⟩:=hS;go_simp;first | done | with_reducible rfl))))
  simp only [Act.put,List.setIfInBounds_toArray,List.set_cons_zero,List.set_cons_succ])
 refine seqU_nil (fun w' hS => ?_)
 have hO:=h.below hS.1
 have hown2:=hO.own
 rw [hv] at hown2
 obtain ⟨z,zf⟩:=owns_hold hown2 (i:=k) (v:=.int .u64 wd) (flat_u hwd)
 go_wp2
 go_end0
 have e2:(2:Int) ^ j = ((2 ^ j:Nat):Int):=by simp
 rw [e2,hor]
 have hs:=wds_clear hO.wds hx (hk.symm ▸ hwd)
 rw [hk,hj] at hs
 exact ⟨rfl,(hO.setW hv (by omega) hs (by simp)).trans hS.1⟩
theorem tClear_out (h:TbO base w T vw ws st) (x:Int) (hx:x < 0 ∨ (st.length:Int) ≤ x):Calls Tryz.prog 150 #[.pointer (some ⟨T,0,none⟩),.int .i64 x] w (TbSetPost base w T vw st):=by
 have HIN:=Hd (tIn_any h x)
 have hin:(decide (0 ≤ x) && decide (x < st.length)) = false:=by simp;omega
 rw [hin] at HIN
 have H:=Hd h
 clear hin hx h
 go_enter Tryz.func150,Tryz.ntmps150
 go_wp2_with (go_at_call 244;refine HIN.out.mono ?_;rintro e w1 ⟨rfl,rfl⟩)
 go_end0
 exact ⟨rfl,ws,H.out,Mod.refl _ _⟩
theorem tClear_any (h:TbO base w T vw ws st) (x:Int):Calls Tryz.prog 150 #[.pointer (some ⟨T,0,none⟩),.int .i64 x] w (TbSetPost base w T vw (setT st x false)):=by
 unfold setT
 by_cases hx:0 ≤ x∧x < st.length
 · obtain ⟨k,rfl⟩:=Int.eq_ofNat_of_zero_le hx.1
   rw [if_pos hx,Int.toNat_natCast]
   exact tClear_in h k (by omega)
 · rw [if_neg hx]
   exact tClear_out h x (by omega)
end
end Go.Proofs.YtaefcahblmopfaaGreatDoor
