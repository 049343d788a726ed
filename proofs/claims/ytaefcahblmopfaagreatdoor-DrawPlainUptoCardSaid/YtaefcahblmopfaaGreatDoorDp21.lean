/- Joined by a tool of this claim out of smaller texts. Conditions: as stated. -/
import Derived.Test.YtaefcahblmopfaaGreatDoorDp20
import Derived.Laws.RangeString
set_option linter.unusedVariables false
set_option linter.unusedSimpArgs false
set_option maxRecDepth 100000
open Go.Lib renaming hid → Hd
namespace Go.Proofs.YtaefcahblmopfaaGreatDoor
open Go.RowKit
def Digs (xs:List Int):Prop:=∀ x ∈ xs,48 ≤ x∧x < 58
def accNz (xs:List Int):Int:=xs.foldl (fun n c => min (n * 10 + (c - 48)) 65535) 0
theorem accNz_snoc (xs:List Int) (c:Int):accNz (xs ++ [c]) = min (accNz xs * 10 + (c - 48)) 65535:=by simp [accNz]
theorem acc_in:∀ (xs:List Int) (a:Int),Digs xs→0 ≤ a∧a ≤ 65535→0 ≤ xs.foldl (fun n c => min (n * 10 + (c - 48)) 65535) a∧xs.foldl (fun n c => min (n * 10 + (c - 48)) 65535) a ≤ 65535
 | [],_,_,h => h
 | c :: xs,a,hd,h => acc_in xs _ (fun x hx => hd x (List.mem_cons_of_mem _ hx)) (by have:=hd c (List.mem_cons_self ..);show 0 ≤ min (a * 10 + (c - 48)) 65535∧min (a * 10 + (c - 48)) 65535 ≤ 65535;omega)
theorem accNz_in (xs:List Int) (h:Digs xs):0 ≤ accNz xs∧accNz xs ≤ 65535:=acc_in xs 0 h (by omega)
theorem str_at {xs:List Int} {k:Nat} (hk:k < xs.length) {a b:Int} (hx:a ≤ xs[k]∧xs[k] < b) (h0:0 ≤ a:=by omega) (h1:b ≤ 256:=by omega):(a ≤ xs[k]∧xs[k] < b)∧∀ h:k < (strOfNums xs).size,(((((strOfNums xs)[k]'h).toNat:Nat):Int) = xs[k]):=⟨hx,fun h => by
 have e:(strOfNums xs)[k]'h = UInt8.ofNat (xs[k]).toNat:=by
  show (strOfNums xs).data[k] = _
  simp [strOfNums]
 rw [e,UInt8.toNat_ofNat']
 omega⟩
theorem str_empty (xs:List Int):(strOfNums xs).toList.isEmpty = xs.isEmpty:=by
 rw [Lib.toList_data,str_data]
 cases xs <;> rfl
set_option maxHeartbeats 1600000 in
theorem pvalue_any (xs:List Int) (hx:Digs xs) (hz:xs.length ≤ 1000) (w:World):Calls Tryz.prog 272 #[.string (strOfNums xs)] w fun e w' => e = .returned (.int .i64 (valN xs))∧w = w':=by
 unfold valN
 by_cases h0:xs.length = 0
 · rw [if_pos h0]
   obtain rfl:=List.eq_nil_of_length_eq_zero h0
   have he:=str_empty []
   simp only [List.isEmpty_nil] at he
   go_enter Tryz.func272,Tryz.ntmps272
   go_wp2
   go_ret
   exact ⟨rfl,rfl⟩
 rw [if_neg h0]
 show Calls _ _ _ _ fun e w' => e = .returned (.int .i64 (accNz xs))∧w = w'
 have HX:=Hd hx
 have hs:(strOfNums xs).size = xs.length:=str_size xs
 have he:(strOfNums xs).toList.isEmpty = false:=by rw [str_empty];cases xs with | nil => exact absurd rfl h0 | cons a l => rfl
 have HA:=Hd (fun k (hk:k < xs.length) => str_at hk (hx _ (List.getElem_mem hk)))
 go_enter Tryz.func272,Tryz.ntmps272
 go_wp2_with fail
 go_loopw [3,4] (fun s3 s4 wr => ∃ k:Nat,s4 = .int .i64 k∧k ≤ xs.length∧s3 = .int .i64 (accNz (xs.take k))∧wr = w) (fun _ s4 _ => xs.length - (intOf s4).toNat)
 case atStart => exact ⟨0,rfl,Nat.zero_le _,rfl,rfl⟩
 case round =>
  obtain ⟨k,rfl,hk,rfl,rfl⟩:=hrel
  by_cases hlt:k < xs.length
  · obtain ⟨h2,h3⟩:=HA.out k hlt
    have h4:=accNz_in (xs.take k) (fun x hx => HX.out x (List.mem_of_mem_take hx))
    have h5:accNz (xs.take (k + 1)) = min (accNz (xs.take k) * 10 + (xs[k] - 48)) 65535:=by rw [List.take_succ_eq_append_getElem hlt,accNz_snoc]
    have hwk:IntKind.i64.wrap ((k:Int) + 1) = (k:Int) + 1:=IntWalk.i64_in _ (by omega)
    generalize xs[k] = c at h2 h3 h5
    have H5:=Hd h5
    generalize accNz (xs.take k) = n1 at h4 H5 ⊢
    have hw1:IntKind.i64.wrap (n1 * 10) = n1 * 10:=IntWalk.i64_in _ (by omega)
    have hw2:IntKind.u8.wrap (c - 48) = c - 48:=IntWalk.u8_in _ (by omega)
    have hw3:IntKind.i64.wrap (c - 48) = c - 48:=IntWalk.i64_in _ (by omega)
    have hw4:IntKind.i64.wrap (n1 * 10 + (c - 48)) = n1 * 10 + (c - 48):=IntWalk.i64_in _ (by omega)
    have hltI:(k:Int) < (xs.length:Int):=by omega
    have H3:=Hd h3
    clear h3 h5
    go_wp2
    refine ⟨⟨k + 1,rfl,hlt,?_,trivial⟩,by simp [intOf];omega⟩
    rw [H5.out,H3.out]
    congr 1
    split <;> omega
  · have hltI:¬ (k:Int) < (xs.length:Int):=by omega
    obtain rfl:k = xs.length:=by omega
    rw [List.take_length]
    go_wp2
    go_ret
    exact ⟨rfl,rfl⟩
def iterPos (w:World):Nat:=match w.heap.back? with | some (.stringIter _ p) => p | _ => 0
theorem iterPos_iter (w:World) (s:ByteArray) (k:Nat):iterPos (w.iter s k) = k:=by unfold iterPos World.iter World.alloc;simp
theorem phead1_any (c:Int) (hc:48 ≤ c∧c < 60) (w:World):Calls Tryz.prog 337 #[.int .i32 c] w fun e w' => e = .returned (.bool false)∧w = w':=by
 have h1:¬ c < 48:=by omega
 have h2:c ≤ 57 ∨ c = 58 ∨ c = 59:=by omega
 rcases h2 with h2 | rfl | rfl
 · have h2':¬ 57 < c:=by omega
   go_enter Tryz.func337,Tryz.ntmps337
   go_wp2
   go_ret
   exact ⟨rfl,rfl⟩
 · go_enter Tryz.func337,Tryz.ntmps337
   go_wp2
   go_ret
   exact ⟨rfl,rfl⟩
 · go_enter Tryz.func337,Tryz.ntmps337
   go_wp2
   go_ret
   exact ⟨rfl,rfl⟩
set_option maxHeartbeats 1600000 in
theorem indexFunc_any (xs:List Int) (hx:∀ x ∈ xs,48 ≤ x∧x < 60) (hz:xs.length ≤ 1000) (w:World):Calls Tryz.prog 377 #[.string (strOfNums xs),.func (.func 337) #[] #[],.bool true] w fun e w' => e = .returned (.int .i64 (-1))∧Below w.heap.size w w':=by
 have HA:=Hd (fun k (hk:k < xs.length) => str_at hk (hx _ (List.getElem_mem hk)))
 have HH:=Hd (fun c (hc:48 ≤ c∧c < 60) w => phead1_any c hc w)
 have hs:(strOfNums xs).size = xs.length:=str_size xs
 go_enter Tryz.func377,Tryz.ntmps377
 go_wp2_with fail
 go_loopw [11] (fun _ wr => ∃ k:Nat,k ≤ xs.length∧wr = w.iter (strOfNums xs) k) (fun _ wr => xs.length - iterPos wr)
 case atStart => exact ⟨0,Nat.zero_le _,rfl⟩
 case round =>
  obtain ⟨k,hk,rfl⟩:=hrel
  by_cases hlt:k < xs.length
  · obtain ⟨h2,h3⟩:=HA.out k hlt
    have h4:=h3 (by omega)
    have hnx:=fun ty => run_next_ascii (P:=Tryz.prog) w (strOfNums xs) k ty (by omega) (by omega)
    generalize hq:(((strOfNums xs)[k]'(by omega)).toNat:Int) = q at hnx h4
    go_wp2_with (go_at_call 337;refine (HH.out _ ?_ _).mono ?_;rotate_left;rintro e w1 ⟨rfl,rfl⟩)
    · exact ⟨⟨k + 1,hlt,rfl⟩,by rw [iterPos_iter,iterPos_iter];omega⟩
    · exact h2
  · have hnx:=fun ty => run_next_end (P:=Tryz.prog) w (strOfNums xs) k ty (by omega)
    go_wp2
    go_ret
    exact ⟨rfl,below_allocs (Below.refl _ _) _⟩
theorem phead_any (xs:List Int) (hx:∀ x ∈ xs,48 ≤ x∧x < 60) (hz:xs.length ≤ 1000) (w:World):Calls Tryz.prog 268 #[.string (strOfNums xs)] w fun e w' => e = .returned (.bool true)∧Below w.heap.size w w':=by
 have HI:=Hd (indexFunc_any xs hx hz w)
 have HF:Hid (Calls Tryz.prog 336 #[.string (strOfNums xs),.func (.func 337) #[] #[]] w fun e w' => e = .returned (.int .i64 (-1))∧Below w.heap.size w w'):=Hd (by
  go_enter Tryz.func336,Tryz.ntmps336
  go_wp2_with (go_at_call 377;(with_reducible refine HI.out.mono ?_);rintro e w1 ⟨rfl,hb⟩)
  go_ret
  exact ⟨rfl,hb⟩)
 go_enter Tryz.func268,Tryz.ntmps268
 go_wp2_with (go_at_call 336;(with_reducible refine HF.out.mono ?_);rintro e w1 ⟨rfl,hb⟩)
 go_ret
 exact ⟨rfl,hb⟩
theorem cutI_eq (c:Int) (xs:List Int) (n:Nat):partsN c (n + 1) xs = (cutI c xs).1 :: (if (cutI c xs).2.2 then partsN c n (cutI c xs).2.1 else []):=by
 unfold cutI
 conv => lhs;unfold partsN
 by_cases h:c ∈ xs
 · rw [if_pos h,if_pos h];rfl
 · rw [if_neg h,if_neg h];rfl
theorem cutI_mem (c:Int) (xs:List Int):(∀ x ∈ (cutI c xs).1,x ∈ xs∧x ≠ c)∧(∀ x ∈ (cutI c xs).2.1,x ∈ xs)∧(cutI c xs).1.length ≤ xs.length∧(cutI c xs).2.1.length ≤ xs.length:=by
 unfold cutI
 by_cases h:c ∈ xs
 · rw [if_pos h]
   refine ⟨fun x hx => ⟨(List.takeWhile_sublist _).subset hx,?_⟩,fun x hx => ?_,(List.takeWhile_sublist _).length_le,?_⟩
   · have:∀ (l:List Int),x ∈ l.takeWhile (· ≠ c)→x ≠ c:=fun l => by
      induction l with
      | nil => intro h;cases h
      | cons y l ih =>
        intro h
        by_cases e:y = c
        · rw [List.takeWhile_cons_of_neg (by simpa using e)] at h;cases h
        · rw [List.takeWhile_cons_of_pos (by simpa using e)] at h
          rcases List.mem_cons.1 h with rfl | h
          · exact e
          · exact ih h
     exact this xs hx
   · exact (List.dropWhile_sublist _).subset (List.mem_of_mem_drop hx)
   · rw [List.length_drop];exact Nat.le_trans (Nat.sub_le _ _) (List.dropWhile_sublist _).length_le
 · rw [if_neg h]
   exact ⟨fun x hx => ⟨hx,fun e => h (e ▸ hx)⟩,fun x hx => absurd hx (by simp),Nat.le_refl _,Nat.zero_le _⟩
set_option maxHeartbeats 3200000 in
theorem peach_any (f:FuncId) (cv:Value) (c:UInt8) (m:Nat) (hm:m ≤ 1000) (xs:List Int) (hx:BysI xs) (hz:xs.length ≤ 1000) (I:List (List Int)→World→Prop)
 (hf:∀ (args:Array Value) (w:World),(callFunc f args).run Tryz.prog w = .ok (.enter f args) w)
 (hI:∀ pre part W,I pre W→(∀ x ∈ part,x ∈ xs∧x ≠ (c.toNat:Int))→part.length ≤ xs.length→pre.length < m→Calls Tryz.prog f #[.string (strOfNums part),cv] W fun e W' => e = .returned (.tuple #[])∧I (pre ++ [part]) W')
 (hb:∀ pre W W',I pre W→Below W.heap.size W W'→I pre W') (w:World) (h0:I [] w) :
 Calls Tryz.prog 269 #[.string (strOfNums xs),.string ⟨#[c]⟩,.int .i64 m,.func (.func f) #[] #[cv]] w fun e w' => e = .returned (.tuple #[])∧I (partsN c.toNat m xs) w':=by
 have HI:=Hd hI
 have HB:=Hd hb
 have HC:Hid (∀ rest w,(∀ x ∈ rest,x ∈ xs)→rest.length ≤ xs.length→Calls Tryz.prog 307 #[.string (strOfNums rest),.string ⟨#[c]⟩] w (CutPost c.toNat rest w)):=Hd (fun rest w h1 h2 => cut_any c rest (fun x hr => hx x (h1 x hr)) (by omega) w)
 have HZ:=Hd hz
 have H0:=Hd h0
 clear hI hb hx hz h0
 go_enter Tryz.func269,Tryz.ntmps269
 go_wp2_with fail
 go_loopw [0,8] (fun s0 s8 wr => ∃ (k:Nat) (rest:List Int) (pre:List (List Int)),s8 = .int .i64 k∧k ≤ m∧s0 = .string (strOfNums rest)∧I pre wr∧pre.length = k∧partsN c.toNat m xs = pre ++ partsN c.toNat (m - k) rest∧(∀ x ∈ rest,x ∈ xs)∧rest.length ≤ xs.length) (fun _ s8 _ => m - (intOf s8).toNat)
 case atStart => exact ⟨0,xs,[],rfl,Nat.zero_le _,rfl,H0.out,rfl,rfl,fun _ h => h,Nat.le_refl _⟩
 case round =>
  obtain ⟨k,rest,pre,rfl,hk,rfl,hI,hl,hP,hr,hrl⟩:=hrel
  by_cases hlt:k < m
  · have hltI:(k:Int) < (m:Int):=by omega
    have hwk:IntKind.i64.wrap ((k:Int) + 1) = (k:Int) + 1:=IntWalk.i64_in _ (by omega)
    have hP2:partsN c.toNat (m - k) rest = (cutI c.toNat rest).1 :: (if (cutI c.toNat rest).2.2 then partsN c.toNat (m - (k + 1)) (cutI c.toNat rest).2.1 else []):=by
     rw [show m - k = (m - (k + 1)) + 1 by omega];exact cutI_eq _ _ _
    obtain ⟨q1,q2,q3,q4⟩:=cutI_mem (c.toNat:Int) rest
    have HCr:=Hd (HC.out rest wr hr hrl)
    unfold CutPost at HCr
    rw [hP2] at hP
    generalize cutI (c.toNat:Int) rest = q at HCr q1 q2 q3 q4 hP
    obtain ⟨p1,p2,more⟩:=q
    simp only at q1 q2 q3 q4 hP
    have HCf:Hid (∀ W,I pre W→Calls Tryz.prog f #[.string (strOfNums p1),cv] W fun e W' => e = .returned (.tuple #[])∧I (pre ++ [p1]) W'):=Hd (fun W hW => HI.out pre p1 W hW (fun x hx => ⟨hr x (q1 x hx).1,(q1 x hx).2⟩) (Nat.le_trans q3 hrl) (by omega))
    have hfc:=hf #[.string (strOfNums p1),cv]
    have HP:=Hd hP
    have HIp:=Hd hI
    have HQ:=Hd (And.intro (fun x hx => hr x (q2 x hx)) (Nat.le_trans q4 hrl))
    clear hP hP2 hI q1 q2 q3 q4 hr hrl
    cases more with
    | true =>
      go_wp2_with (first
       | (go_at_call 307;(with_reducible refine HCr.out.mono ?_);rintro e w1 ⟨rfl,hb⟩;have HI1:=Hd (HB.out _ _ _ HIp.out hb);clear hb)
       | ((with_reducible refine (HCf.out _ HI1.out).mono ?_);rintro e w2 ⟨rfl,hi⟩;have HI2:=Hd hi;clear hi))
      go_roundw
      case rel => exact ⟨k + 1,p2,pre ++ [p1],by go_num,by omega,rfl,HI2.out,by simp [hl],by rw [HP.out];simp,HQ.out.1,HQ.out.2⟩
      case measure => simp [intOf];omega
    | false =>
      go_wp2_with (first
       | (go_at_call 307;(with_reducible refine HCr.out.mono ?_);rintro e w1 ⟨rfl,hb⟩;have HI1:=Hd (HB.out _ _ _ HIp.out hb);clear hb)
       | ((with_reducible refine (HCf.out _ HI1.out).mono ?_);rintro e w2 ⟨rfl,hi⟩;have HI2:=Hd hi;clear hi))
      have h1:=HP.out
      simp only [Bool.false_eq_true,if_false] at h1
      exact bodyPost_ret (results_none rfl _ _ _) rfl ⟨rfl,by rw [h1];exact HI2.out⟩
  · have hltI:¬ (k:Int) < (m:Int):=by omega
    obtain rfl:k = m:=by omega
    have h1:I (partsN c.toNat k xs) wr:=by rw [hP,Nat.sub_self];show I (pre ++ []) wr;rw [List.append_nil];exact hI
    have H1:=Hd h1
    clear hP h1
    go_wp2
    exact bodyPost_end (results_none rfl _ _ _) rfl ⟨rfl,H1.out⟩
theorem info_intZ:(Tryz.prog.info? 3).map (fun i => (i.zero,i.size,i.bytes)) = some (some (.int .i64 0),1,8):=by kernel_rfl
theorem info_intsZ:(Tryz.prog.info? 241).map (fun i => (i.zero,i.size,i.bytes)) = some (some (.slice none 0 0),1,24):=by kernel_rfl
structure LI (lb:Nat) (W0:World) (ns:List Int) (W:World):Prop where
 b:Below lb W0 W
 v:∃ lv,W.heap[lb]? = some (.cells #[lv] 241 (0,0))∧W.ownsRow lb 3 1 lv ns.length (flat encZ ns)
theorem LI.below {lb:Nat} {W0 W W':World} {ns:List Int} (h:LI lb W0 ns W) (hb:Below W.heap.size W W'):LI lb W0 ns W':=by
 obtain ⟨lv,h1,h2⟩:=h.v
 have hl:=lt_of_heap h1
 exact ⟨h.b.trans (hb.mono (Nat.le_of_lt hl)),lv,(hb.block lb hl).trans h1,owns_mod h2 (Mod.of_below (X:=[]) hb) (fun _ _ h => by cases h)⟩
set_option maxHeartbeats 1600000 in
theorem parse11_any (lb:Nat) (W0 W:World) (ns part:List Int) (h:LI lb W0 ns W) (hd:Digs part) (hz:part.length ≤ 1000) (hn:ns.length ≤ 1000):Calls Tryz.prog 271 #[.string (strOfNums part),.pointer (some ⟨lb,0,none⟩)] W fun e W' => e = .returned (.tuple #[])∧LI lb W0 (ns ++ [valN part]) W':=by
 obtain ⟨j0,hj,gz0,gz1,gz2⟩:=info_parts info_intZ
 have HV:=Hd (fun w => pvalue_any part hd hz w)
 obtain ⟨lv,h1,h2⟩:=h.v
 obtain ⟨A,cap,rfl⟩:=row_form h2
 have HB:=Hd h.b
 have H1:=Hd h1
 have H2:=Hd h2
 have hl:=lt_of_heap h1
 have c0:=(at_ h1 0 _ rfl).1
 have hne:∀ g,(Value.slice A ns.length cap).ownBlock = some g→g ≠ lb:=fun g hg e => by
  obtain ⟨cur,hc⟩:=own_block h2 hg
  rw [e,h1,Option.some.injEq,Obj.cells.injEq] at hc
  exact absurd hc.2.1 (by decide)
 have HN:=Hd hne
 generalize valN part = n at HV ⊢
 clear h h1 h2 hne hd hz
 go_enter Tryz.func271,Tryz.ntmps271
 go_upto_region 0 with fail
 refine wp_region_n 4 (fun w2 => Below W.heap.size W w2∧w2.cell? ⟨lb,0,none⟩ = some (.slice A ns.length cap)) (by kernel_rfl) (by kernel_rfl) (fun w1 w2 hS hb => ⟨below_tail hS.1 hb,holda hb hS.2⟩) ⟨(Below.refl _ _).drew,c0⟩ ?_
 refine AtN.go 0 ?_
 iterate 2 (refine AtC.take (o:=⟨_,_,_,_,_,_⟩) (v:=?_) (by kernel_rfl) rfl (by simp) (by kernel_rfl) (by kernel_rfl) ?_ ?_;rotate_left;(focus (first | exact StabN.skip (by rfl) | (refine StabN.val (by rfl) ?_;intro w' hS;obtain ⟨_,_⟩:=hS;go_simp;first | done | with_reducible rfl)));simp only [Act.put,List.setIfInBounds_toArray,List.set_cons_zero,List.set_cons_succ])
 refine AtC.back ?_
 refine AtN.take 2 (o:=⟨_,_,_,_,_,_⟩) (v:=.int .i64 n) (by kernel_rfl) rfl (by simp) (by kernel_rfl) (by kernel_rfl) (StabN.call1 272 #[.string (strOfNums part)] (.int .i64 n) (by rfl) (by intro w';go_simp;done) (fun w' hS => (HV.out w').mono (fun e w3 h => ⟨h.1,h.2 ▸ Below.refl _ _⟩))) ?_
 simp only [Act.put,List.setIfInBounds_toArray,List.set_cons_zero,List.set_cons_succ]
 refine AtN.one 3 (o:=⟨_,_,_,_,_,_⟩) (fun v => ∃ k,v = .slice (some ⟨k,0,none⟩) 1 1) (fun v w' => ∃ k,v = .slice (some ⟨k,0,none⟩) 1 1∧w'.heap[k]? = some (.cells #[.int .i64 n] 3 (0,0))) (by simp) (by kernel_rfl) rfl (fun v w1 w2 ⟨k,hv,hk⟩ hb => ⟨k,hv,(hb.block k (lt_of_heap hk)).trans hk⟩) (StabN.new _ _ (by rfl) (fun w' hS => ?_)) ?_
 · exact ⟨.slice (some ⟨w'.heap.size,0,none⟩) 1 1,w'.alloc (.cells #[.int .i64 n] 3),by go_simp,⟨_,rfl⟩,⟨_,rfl,hp_new rfl⟩,below_allocs (Below.refl _ _) _⟩
 rintro v ⟨kb,rfl⟩
 simp only [Act.put,List.setIfInBounds_toArray,List.set_cons_zero,List.set_cons_succ]
 refine AtN.done (by kernel_rfl) (fun w' hS => ?_)
 obtain ⟨⟨hb1,-⟩,kb',hvk,hkb⟩:=hS
 simp only [Value.slice.injEq,Option.some.injEq,Addr.mk.injEq,and_true] at hvk
 subst hvk
 have HB1:=Hd hb1
 have HKB:=Hd hkb
 have H21:=Hd (owns_mod H2.out (Mod.of_below (X:=[]) hb1) (fun _ _ h => by cases h))
 have H11:=Hd ((hb1.block lb hl).trans H1.out)
 clear hb1 hkb c0
 simp only [List.drop_succ_cons,List.drop_zero]
 refine wpList_append_g rfl (.tmp 3) (.tmp 6) 241 rfl lb 3 j0 _ 1 8 Tryz.underlying241 hj gz0 gz1 gz2 rfl (by decide) (.slice A ns.length cap) ns.length (flat encZ ns) rfl H21.out ⟨kb,0,none⟩ 1 1 (encZ n) rfl rfl ?_ (encZ_one _) ?_ ?_ ?_ ?_
 all_goals first
  | omega
  | (simp only [maxLen];omega)
  | exact Nat.le_trans (Nat.le_of_lt hl) HB1.out.size
  | skip
 · intro j u hj
   rw [add_lit',Nat.zero_add]
   exact (at_ HKB.out j u (by simpa [encZ] using hj)).1
 · intro v' w3 ho hg hv'
   obtain ⟨A4,c4,hv4⟩:=row_form ho
   subst hv4
   have hlw:w3.heap[lb]? = _:=(hg.block lb (Nat.lt_of_lt_of_le hl HB1.out.size) (fun e => HN.out lb e.symm rfl)).trans H11.out
   obtain ⟨d0,e0⟩:=at_ hlw 0 _ rfl
   have HLW:=Hd hlw
   have HO:=Hd ho
   have HG:Hid (w'.grownBy w3 (Value.slice A ns.length cap).ownBlock):=Hd hg
   have HV':Hid (∀ g,(Value.slice A4 (ns.length + 1) c4).ownBlock = some g→(Value.slice A ns.length cap).ownBlock = some g ∨ w'.heap.size ≤ g):=Hd hv'
   clear ho hg hv' hlw
   go_wp2
   refine bodyPost_end (results_none rfl _ _ _) rfl ⟨rfl,⟨?_,.slice A4 (ns.length + 1) c4,?_,?_⟩⟩
   · have h3:Below lb W0 w':=HB.out.trans (HB1.out.mono (Nat.le_of_lt hl))
     exact (h3.grown HG.out (Nat.le_trans (Nat.le_of_lt hl) HB1.out.size) (fun k hk => (World.ownsRow.lt H2.out k hk).1)).setCell (p:=⟨lb,0,none⟩) (Nat.le_refl _) _
   · have:=heap_setCell_eq (o:=0) (v:=.slice A4 (ns.length + 1) c4) HLW.out
     exact this
   · have h4:=owns_mod HO.out ((Mod.refl [lb] w3).setCell (a:=⟨lb,0,none⟩) (.inl (by simp)) (.slice A4 (ns.length + 1) c4)) (fun g hg hx => by
      rcases HV'.out g hg with h5 | h5
      · exact HN.out g h5 (List.mem_singleton.1 hx)
      · have:=HB1.out.size;have:=List.mem_singleton.1 hx;omega)
     rw [List.length_append,flat_append]
     exact h4
theorem gr_of_ownZ {α:Type} {enc:α→List Value} {K:Nat} (hl:∀ x,(enc x).length = K) {w:World} {base:Nat} {e:TypeId} {A:Option Addr} {n c:Nat} {X:List α} (h:w.ownsRow base e K (.slice A n c) X.length (flat enc X)):GrAt enc K w A X:=fun h0 => by
 obtain ⟨g,c',hv⟩:=own_form h h0
 simp only [Value.slice.injEq] at hv
 obtain ⟨rfl,rfl,rfl⟩:=hv
 refine ⟨g,0,rfl,fun i x hi j v hj => ?_⟩
 rw [Nat.zero_add]
 exact (owns_hold h (i:=i * K + j) (by rw [flat_at2 hl X i x j hi (by have:=(List.getElem?_eq_some_iff.1 hj).1;rw [hl] at this;exact this)];exact hj)).1
def grpN (s:List Int):List Int:=(partsN 58 8 s).map valN
theorem partsN_len (c:Int):∀ (n:Nat) (xs:List Int),(partsN c n xs).length ≤ n
 | 0,_ => by unfold partsN;simp
 | n + 1,xs => by
   rw [cutI_eq]
   have:=partsN_len c n (cutI c xs).2.1
   split <;> simp
   omega
theorem grpN_len (s:List Int):1 ≤ (grpN s).length∧(grpN s).length ≤ 8:=by
 unfold grpN
 rw [List.length_map]
 exact ⟨by rw [cutI_eq];simp,partsN_len _ _ _⟩
structure OI (ob:Nat) (W0:World) (pre:List (List Int)) (W:World):Prop where
 b:Below ob W0 W
 v:∃ ov H,W.heap[ob]? = some (.cells #[ov] 81 (0,0))∧H.length = pre.length∧gsOf H = pre.map grpN∧W.ownsRow ob 241 1 ov H.length (flat encGh H)∧∀ h ∈ H,∃ b,h.A = some ⟨b,0,none⟩∧GrAt encZ 1 W h.A h.g∧h.g.length ≤ h.cap∧h.g.length ≤ 8∧ob ≤ b∧TyB W b 3∧b ≠ ob∧ov.ownBlock ≠ some b
theorem OI.below {ob:Nat} {W0 W W':World} {pre:List (List Int)} (h:OI ob W0 pre W) (hb:Below W.heap.size W W'):OI ob W0 pre W':=by
 obtain ⟨ov,H,h1,h2,h3,h4,h5⟩:=h.v
 have hl:=lt_of_heap h1
 exact ⟨h.b.trans (hb.mono (Nat.le_of_lt hl)),ov,H,(hb.block ob hl).trans h1,h2,h3,owns_mod h4 (Mod.of_below (X:=[]) hb) (fun _ _ h => by cases h),fun x hx => by
  obtain ⟨b,a1,a2,a3,a4,a5,a6,a7⟩:=h5 x hx
  exact ⟨b,a1,a2.below hb,a3,a4,a5,a6.mod (Mod.of_below (X:=[]) hb) (fun h => by cases h),a7⟩⟩
set_option maxHeartbeats 3200000 in
theorem parse1_any (ob:Nat) (W0 W:World) (pre:List (List Int)) (part:List Int) (h:OI ob W0 pre W) (hd:∀ x ∈ part,48 ≤ x∧x < 59) (hz:part.length ≤ 1000) (hn:pre.length ≤ 1000):Calls Tryz.prog 270 #[.string (strOfNums part),.pointer (some ⟨ob,0,none⟩)] W fun e W' => e = .returned (.tuple #[])∧OI ob W0 (pre ++ [part]) W':=by
 obtain ⟨j0,hj,gz0,gz1,gz2⟩:=info_parts info_intsZ
 obtain ⟨lb,hlb⟩:∃ lb,W.heap.size = lb:=⟨_,rfl⟩
 obtain ⟨W1,hW1⟩:∃ W1,W.alloc (.cells #[.slice none 0 0] 241) = W1:=⟨_,rfl⟩
 have hb1:Below W.heap.size W W1:=by rw [← hW1];exact below_allocs (Below.refl _ _) _
 have hs1:W1.heap.size = lb + 1:=by rw [← hW1,← hlb];exact World.size_alloc _ _
 have hLI:LI lb W1 [] W1:=⟨Below.refl _ _,.slice none 0 0,by rw [← hW1];exact hp_new hlb,World.ownsRow_nil W1 lb 3 1⟩
 have HEa:Hid (Calls Tryz.prog 269 #[.string (strOfNums part),.string ⟨#[58]⟩,.int .i64 8,.func (.func 271) #[] #[.pointer (some ⟨lb,0,none⟩)]] W1 fun e w' => e = .returned (.tuple #[])∧LI lb W1 (grpN part) w'):=Hd (peach_any 271 (.pointer (some ⟨lb,0,none⟩)) 58 8 (by omega) part (fun x hx => by have:=hd x hx;omega) hz (fun p W' => LI lb W1 (p.map valN) W') (fun args w => by kernel_rfl)
  (fun p q W' hI h1 h2 h3 => by
    have:=parse11_any lb W1 W' (p.map valN) q hI (fun x hx => by have h5:=hd x (h1 x hx).1;have h6:=(h1 x hx).2;have h7:¬ x = 58:=fun e => h6 (by rw [e];rfl);omega) (by omega) (by simp;omega)
    rw [List.map_append]
    exact this) (fun p W' W2 hI hb => hI.below hb) W1 hLI)
 have HO:=Hd h
 have HB1:=Hd hb1
 have HLB:=Hd hlb
 have HS1:=Hd hs1
 clear h hd hz hb1 hs1 hLI
 go_enter Tryz.func270,Tryz.ntmps270
 go_upto_region 2 with (go_at_call 269;(with_reducible refine HEa.out.mono ?_);rintro e w2 ⟨rfl,hi⟩;have HI:=Hd hi;clear hi)
 have hLI:LI lb W1 (grpN part) w2:=HI.out
 have hb2:Below lb W w2:=by
  have:=HB1.out
  rw [HLB.out] at this
  exact this.trans hLI.b
 have hO2:OI ob W0 pre w2:=HO.out.below (by rw [HLB.out];exact hb2)
 obtain ⟨lv,hl1,hl2⟩:=hLI.v
 obtain ⟨gb,cg,rfl⟩:=own_form hl2 (by have:=(grpN_len part).1;omega)
 obtain ⟨ov,H,o1,o2,o3,o4,o5⟩:=hO2.v
 obtain ⟨A,cap,rfl⟩:=row_form o4
 have hlO:=lt_of_heap o1
 have hobW:ob < lb:=by
  obtain ⟨ov',H',o1',-⟩:=HO.out.v
  have:=lt_of_heap o1'
  rw [HLB.out] at this
  exact this
 have c0:=(at_ o1 0 _ rfl).1
 have c1:=(at_ hl1 0 _ rfl).1
 have hgr:GrAt encZ 1 w2 (some ⟨gb,0,none⟩) (grpN part):=gr_of_ownZ encZ_len (n:=(grpN part).length) hl2
 have hcg:(grpN part).length ≤ cg:=by
  rcases hl2.2 with ⟨e1,-⟩ | ⟨g,c,cur,e1,-,-,e4,-⟩
  · cases e1
  · injection e1 with e1 e5 e6;omega
 have hgb:=World.ownsRow.lt hl2 gb rfl
 have HG:=Hd (And.intro hgr (And.intro hcg (And.intro (grpN_len part).2 (And.intro hgb.1 (show TyB w2 gb 3 from own_block hl2 (g:=gb) rfl)))))
 have hne:∀ g,(Value.slice A H.length cap).ownBlock = some g→g ≠ ob∧g ≠ gb:=fun g hg => by
  obtain ⟨cur,hc⟩:=own_block o4 hg
  obtain ⟨cur2,hc2⟩:=own_block hl2 (g:=gb) rfl
  refine ⟨fun e => ?_,fun e => ?_⟩
  · rw [e,o1,Option.some.injEq,Obj.cells.injEq] at hc
    exact absurd hc.2.1 (by decide)
  · rw [e,hc2,Option.some.injEq,Obj.cells.injEq] at hc
    exact absurd hc.2.1 (by decide)
 have HN:=Hd hne
 have HO1:=Hd o1
 have HO2:=Hd (And.intro o2 o3)
 have HO4:=Hd o4
 have HO5:=Hd o5
 have HBB:=Hd hO2.b
 have hn2:H.length ≤ 1000:=by rw [o2];exact hn
 generalize hgl:(grpN part).length = gl at c1
 have HGL:=Hd hgl
 clear hLI hO2 hl1 hl2 o1 o2 o3 o4 o5 hgr hcg hgb hne hgl hb2
 refine wp_region_lit ?_
 refine wpList_valG (.slice A H.length cap) (by rfl) (by go_simp) ?_
 simp only [Act.put,List.setIfInBounds_toArray,List.set_cons_zero,List.set_cons_succ]
 refine wpList_valG (.slice (some ⟨gb,0,none⟩) gl cg) (by rfl) (by go_simp) ?_
 simp only [Act.put,List.setIfInBounds_toArray,List.set_cons_zero,List.set_cons_succ]
 refine wpList_actG (.slice (some ⟨w2.heap.size,0,none⟩) 1 1) (w2.alloc (.cells #[.slice (some ⟨gb,0,none⟩) gl cg] 241)) (by rfl) (by go_simp) ?_
 simp only [Act.put,List.setIfInBounds_toArray,List.set_cons_zero,List.set_cons_succ]
 have hbA:Below w2.heap.size w2 (w2.alloc (.cells #[.slice (some ⟨gb,0,none⟩) gl cg] 241)):=below_allocs (Below.refl _ _) _
 have HBA:=Hd hbA
 have H4A:=Hd (owns_mod HO4.out (Mod.of_below (X:=[]) hbA) (fun _ _ h => by cases h))
 have HSA:=Hd (World.size_alloc w2 (.cells #[.slice (some ⟨gb,0,none⟩) gl cg] 241))
 have HNA:=Hd (hp_new (W:=w2) (o:=.cells #[.slice (some ⟨gb,0,none⟩) gl cg] 241) rfl)
 have HOA:=Hd ((hbA.block ob hlO).trans HO1.out)
 generalize w2.alloc (.cells #[.slice (some ⟨gb,0,none⟩) gl cg] 241) = wA at hbA HBA H4A HSA HNA HOA ⊢
 clear hbA
 refine wpList_append_g rfl (.tmp 7) (.tmp 9) 81 rfl ob 241 j0 _ 1 24 Tryz.underlying81 hj gz0 gz1 gz2 rfl (by decide) (.slice A H.length cap) H.length (flat encGh H) rfl H4A.out ⟨w2.heap.size,0,none⟩ 1 1 [.slice (some ⟨gb,0,none⟩) gl cg] rfl rfl ?_ ?_ ?_ ?_ ?_ ?_
 all_goals first
  | omega
  | (simp only [maxLen];omega)
  | exact Nat.le_trans (Nat.le_of_lt hlO) HBA.out.size
  | skip
 · intro j u hj
   rw [add_lit',Nat.zero_add]
   exact (at_ HNA.out j u (by simpa using hj)).1
 · intro u hu
   rw [List.mem_singleton.1 hu]
   rfl
 · intro v' w3 ho hg hv'
   obtain ⟨A4,c4,hv4⟩:=row_form ho
   subst hv4
   have hlw:w3.heap[ob]? = _:=(hg.block ob (Nat.lt_of_lt_of_le hlO HBA.out.size) (fun e => (HN.out ob e.symm).1 rfl)).trans HOA.out
   obtain ⟨d0,e0⟩:=at_ hlw 0 _ rfl
   have HLW:=Hd hlw
   have HOw:=Hd ho
   have HGw:Hid (wA.grownBy w3 (Value.slice A H.length cap).ownBlock):=Hd hg
   have HV':Hid (∀ g,(Value.slice A4 (H.length + 1) c4).ownBlock = some g→(Value.slice A H.length cap).ownBlock = some g ∨ wA.heap.size ≤ g):=Hd hv'
   clear ho hg hv' hlw c0 c1
   go_wp2
   refine bodyPost_end (results_none rfl _ _ _) rfl ⟨rfl,⟨?_,.slice A4 (H.length + 1) c4,H ++ [⟨some ⟨gb,0,none⟩,grpN part,cg⟩],?_,?_,?_,?_,fun x hx => ?_⟩⟩
   · exact ((HBB.out.trans (HBA.out.mono (Nat.le_of_lt hlO))).grown HGw.out (Nat.le_trans (Nat.le_of_lt hlO) HBA.out.size) (fun k hk => (World.ownsRow.lt HO4.out k hk).1)).setCell (p:=⟨ob,0,none⟩) (Nat.le_refl _) _
   · have:=heap_setCell_eq (o:=0) (v:=.slice A4 (H.length + 1) c4) HLW.out
     exact this
   · rw [List.length_append,List.length_append,HO2.out.1];rfl
   · unfold gsOf at *
     rw [List.map_append,List.map_append]
     have:=HO2.out.2
     unfold gsOf at this
     rw [this];rfl
   · have h4:=owns_mod HOw.out ((Mod.refl [ob] w3).setCell (a:=⟨ob,0,none⟩) (.inl (by simp)) (.slice A4 (H.length + 1) c4)) (fun g hg hx => by
      rcases HV'.out g hg with h5 | h5
      · exact (HN.out g h5).1 (List.mem_singleton.1 hx)
      · have:=HBA.out.size;have:=List.mem_singleton.1 hx;omega)
     rw [List.length_append,flat_append]
     have e:flat encGh [⟨some ⟨gb,0,none⟩,grpN part,cg⟩] = [.slice (some ⟨gb,0,none⟩) gl cg]:=by rw [← HGL.out];rfl
     rw [e]
     exact h4
   · have hkeep:∀ b (g:List Int),GrAt encZ 1 w2 (some ⟨b,0,none⟩) g→TyB w2 b 3→b ≠ ob→(Value.slice A H.length cap).ownBlock ≠ some b→GrAt encZ 1 (w3.setCell ⟨ob,0,none⟩ (.slice A4 (H.length + 1) c4)) (some ⟨b,0,none⟩) g∧TyB (w3.setCell ⟨ob,0,none⟩ (.slice A4 (H.length + 1) c4)) b 3∧(Value.slice A4 (H.length + 1) c4).ownBlock ≠ some b:=fun b g h1 h2 h3 h4 => by
      have hm:Mod ((Value.slice A H.length cap).ownBlock.toList) wA w3:=Mod.of_grown HGw.out (fun g hg => by simp [hg])
      refine ⟨gr_mod (gr_mod (h1.below HBA.out) hm (fun hx => h4 (Option.mem_toList.1 hx))) ((Mod.refl [ob] w3).setCell (a:=⟨ob,0,none⟩) (.inl (by simp)) _) (fun hx => h3 (List.mem_singleton.1 hx)),?_,fun e => ?_⟩
      · exact ((h2.mod (Mod.of_below (X:=[]) HBA.out) (fun h => by cases h)).mod hm (fun hx => h4 (Option.mem_toList.1 hx))).mod ((Mod.refl [ob] w3).setCell (a:=⟨ob,0,none⟩) (.inl (by simp)) _) (fun hx => h3 (List.mem_singleton.1 hx))
      · rcases HV'.out b e with h5 | h5
        · exact h4 h5
        · have:=HBA.out.size;have:=h2.lt;omega
     rcases List.mem_append.1 hx with hx | hx
     · obtain ⟨b,a1,a2,a3,a4,a5,a6,a7,a8⟩:=HO5.out x hx
       rw [a1] at a2
       obtain ⟨k1,k2,k3⟩:=hkeep b x.g a2 a6 a7 a8
       exact ⟨b,a1,by rw [a1];exact k1,a3,a4,a5,k2,a7,k3⟩
     · rw [List.mem_singleton.1 hx]
       obtain ⟨g1,g2,g3,g4,g5⟩:=HG.out
       have hgo:gb ≠ ob:=by omega
       obtain ⟨k1,k2,k3⟩:=hkeep gb (grpN part) g1 g5 hgo (fun e => (HN.out gb e).2 rfl)
       exact ⟨gb,rfl,k1,g2,g3,by omega,k2,hgo,k3⟩
def ParsePost (xs:List Int) (w:World) (e:Ending) (w':World):Prop:=∃ A H ca,e = .returned (.tuple #[.slice A H.length ca,.bool true])∧gsOf H = numsN xs∧H.length ≤ ca∧(H.length ≤ 32∧∀ h ∈ H,h.g.length ≤ 8)∧GnAt w' w.heap.size A H∧Below w.heap.size w w'
theorem OI.post {ob:Nat} {W0 W:World} {pre:List (List Int)} (h:OI ob W0 pre W):∃ A H ca,W.heap[ob]? = some (.cells #[.slice A H.length ca] 81 (0,0))∧gsOf H = pre.map grpN∧H.length ≤ ca∧H.length = pre.length∧(∀ h ∈ H,h.g.length ≤ 8)∧GnAt W ob A H:=by
 obtain ⟨ov,H,h1,h2,h3,h4,h5⟩:=h.v
 obtain ⟨A,cap,rfl⟩:=row_form h4
 refine ⟨A,H,cap,h1,h3,?_,h2,fun x hx => ?_,fun hn => ?_,⟨gr_of_ownZ encGh_len h4,fun x hx => ?_⟩,fun x hx _ => ?_⟩
 · rcases h4.2 with ⟨e1,e2⟩ | ⟨g,c,cur,e1,-,-,e4,-⟩
   · omega
   · injection e1 with e1 e5 e6;omega
 · obtain ⟨b,a1,a2,a3,a4,-⟩:=h5 x hx
   exact a4
 · obtain ⟨g,c,he⟩:=own_form h4 (List.length_pos_iff.2 hn)
   obtain rfl:A = some ⟨g,0,none⟩:=by injection he
   exact ⟨g,0,rfl,(World.ownsRow.lt h4 g rfl).1,own_block h4 (g:=g) rfl⟩
 · obtain ⟨b,a1,a2,a3,-⟩:=h5 x hx
   exact ⟨a2,a3⟩
 · obtain ⟨b,a1,a2,a3,a4,a5,a6,-⟩:=h5 x hx
   exact ⟨b,0,a1,a5,a6⟩
set_option maxHeartbeats 3200000 in
theorem pparse_any (xs:List Int) (hx:∀ x ∈ xs,48 ≤ x∧x < 60) (hz:xs.length ≤ 1000) (w:World):Calls Tryz.prog 175 #[.string (strOfNums xs)] w (ParsePost xs w):=by
 have HH:=Hd (phead_any xs hx hz w)
 have HE:Hid (∀ (W:World) (ob:Nat),W.heap.size = ob→Calls Tryz.prog 269 #[.string (strOfNums xs),.string ⟨#[59]⟩,.int .i64 32,.func (.func 270) #[] #[.pointer (some ⟨ob,0,none⟩)]] (W.alloc (.cells #[.slice none 0 0] 81)) fun e w' => e = .returned (.tuple #[])∧OI ob (W.alloc (.cells #[.slice none 0 0] 81)) (partsN 59 32 xs) w'):=Hd (fun W ob ho => by
  have h0:OI ob (W.alloc (.cells #[.slice none 0 0] 81)) [] (W.alloc (.cells #[.slice none 0 0] 81)):=⟨Below.refl _ _,.slice none 0 0,[],hp_new ho,rfl,rfl,World.ownsRow_nil _ ob 241 1,fun h hh => by cases hh⟩
  exact peach_any 270 (.pointer (some ⟨ob,0,none⟩)) 59 32 (by omega) xs (fun x h => by have:=hx x h;omega) hz (fun p W' => OI ob (W.alloc (.cells #[.slice none 0 0] 81)) p W') (fun args w => by kernel_rfl)
   (fun p q W' hI h1 h2 h3 => parse1_any ob _ W' p q hI (fun x hx2 => by have h5:=hx x (h1 x hx2).1;have h6:=(h1 x hx2).2;have h7:¬ x = 59:=fun e => h6 (by rw [e];rfl);omega) (by omega) (by omega)) (fun p W' W2 hI hb => hI.below hb) _ h0)
 clear hx hz
 go_enter Tryz.func175,Tryz.ntmps175
 go_upto_region 3 with (go_at_call 268;(with_reducible refine HH.out.mono ?_);rintro e w1 ⟨rfl,hb⟩;have HB:=Hd hb;clear hb)
 have HE1:=Hd (HE.out w1 _ rfl)
 go_upto_region 5 with (go_at_call 269;(with_reducible refine HE1.out.mono ?_);rintro e w2 ⟨rfl,hi⟩;have HI:=Hd hi;clear hi)
 obtain ⟨A,H,ca,h1,h2,h3,h4,h5,h6⟩:=HI.out.post
 have c0:=(at_ h1 0 _ rfl).1
 have hb2:Below w.heap.size w w2:=(below_allocs HB.out (.cells #[.slice none 0 0] 81)).trans (HI.out.b.mono HB.out.size)
 have HP:Hid (ParsePost xs w (.returned (.tuple #[.slice A H.length ca,.bool true])) w2):=Hd ⟨A,H,ca,rfl,h2,h3,⟨by rw [h4];exact partsN_len _ _ _,h5⟩,h6.weaken HB.out.size,hb2⟩
 clear h1 h2 h3 h4 h5 h6 hb2
 go_wp2
 go_ret2
 exact HP.out
theorem info_event8:(Tryz.prog.info? 83).map (·.size) = some 8:=by kernel_rfl
theorem evB_at {b:Nat} {W:World} {cs:List Value} (h:W.heap[b]? = some (.cells cs.toArray 83 (0,0))) (hl:cs.length = 8):W.there b 0 8:=fun j hj => by
 have:=there_new h j (by rw [List.size_toArray,hl];exact hj)
 exact this
set_option maxHeartbeats 3200000 in
theorem whole_says:WholeSays:=by
 intro base w v p k c h hok
 obtain ⟨⟨c0,-⟩,⟨c1,-⟩,-,-,-,-,-,-,-⟩:=h.blk.facts
 obtain ⟨A0,cap0,hv0⟩:=row_form (h.row 0 (by omega))
 obtain ⟨A1,cap1,hv1⟩:=row_form (h.row 1 (by omega))
 obtain ⟨A2,cap2,hv2⟩:=row_form (h.row 2 (by omega))
 have HP:=Hd (fun w => pparse_any p.head (fun x hx => hok.head.2 x hx) (by have:=hok.head.1;omega) w)
 have HO:=Hd h
 obtain ⟨W,hW⟩:∃ W,w.alloc (.cells #[.int .i64 0,.int .i32 0,.int .u8 0,.int .u8 0,.slice none 0 0,.string ⟨#[]⟩,.string ⟨#[]⟩,.bool false] 83) = W:=⟨_,rfl⟩
 have hb0:Below w.heap.size w W:=by rw [← hW];exact below_allocs (Below.refl _ _) _
 have hs0:W.heap.size = w.heap.size + 1:=by rw [← hW];exact World.size_alloc _ _
 have hn0:W.heap[w.heap.size]? = some (.cells #[.int .i64 0,.int .i32 0,.int .u8 0,.int .u8 0,.slice none 0 0,.string ⟨#[]⟩,.string ⟨#[]⟩,.bool false] 83 (0,0)):=by rw [← hW];exact hp_new rfl
 have hcv:(convert 23 9 (.slice A0 (p.r 0).length cap0)).run Tryz.prog W = .ok (.string (strOfNums p.head)) W:=by rw [← hv0];exact conv_own ((h.below hb0).row 0 (by omega))
 have d1:=holda hb0 c1
 rw [hv0] at d1
 have HB0:=Hd hb0
 have HN0:=Hd hn0
 have HS0:=Hd hs0
 generalize (p.r 0).length = n0 at d1 hcv
 clear h hok hb0 hn0 hs0 c0 c1 hv0
 go_enter Tryz.func116,Tryz.ntmps116
 go_upto_region 2 with (go_at_call 175;(with_reducible refine (HP.out _).mono ?_);rintro e w2 ⟨A,H,ca,rfl,g1,g2,g3,g4,g5⟩;have HG:=Hd (And.intro g1 (And.intro g2 (And.intro g3 g4)));have HB5:=Hd g5;clear g1 g2 g3 g4 g5)
 have HB2:=Hd (below_tail HB0.out HB5.out)
 have hO2:=HO.out.below HB2.out
 obtain ⟨⟨c0,-⟩,-,⟨c2,-⟩,⟨c3,-⟩,-,-,⟨c6,-⟩,-,-⟩:=hO2.blk.facts
 have HCV1:Hid (∀ w',Below w2.heap.size w2 w'→(convert 23 9 (.slice A1 (p.r 1).length cap1)).run Tryz.prog w' = .ok (.string (strOfNums p.inter)) w'):=Hd (fun w' hb => by rw [← hv1];exact conv_own ((hO2.below hb).row 1 (by omega)))
 have HCV2:Hid (∀ w',Below w2.heap.size w2 w'→(convert 23 9 (.slice A2 (p.r 2).length cap2)).run Tryz.prog w' = .ok (.string (strOfNums p.text)) w'):=Hd (fun w' hb => by rw [← hv2];exact conv_own ((hO2.below hb).row 2 (by omega)))
 rw [hv1] at c2
 rw [hv2] at c3
 have HN2:=Hd ((HB5.out.block w.heap.size (lt_of_heap HN0.out)).trans HN0.out)
 generalize (p.r 1).length = n1 at c2 HCV1
 generalize (p.r 2).length = n2 at c3 HCV2
 generalize hrb:w.heap.size = rb at HN2 ⊢
 have HRB:=Hd hrb
 clear hO2 hv1 hv2 hrb d1 hcv
 refine wp_region_u 25 (fun w' => Below w2.heap.size w2 w'∧w'.cell? ⟨v.P,0,none⟩ = some (.int .u8 p.pre)∧w'.cell? ⟨v.P,2,none⟩ = some (.slice A1 n1 cap1)∧w'.cell? ⟨v.P,3,none⟩ = some (.slice A2 n2 cap2)∧w'.cell? ⟨v.P,6,none⟩ = some (.bool p.cut)∧(convert 23 9 (.slice A1 n1 cap1)).run Tryz.prog w' = .ok (.string (strOfNums p.inter)) w'∧(convert 23 9 (.slice A2 n2 cap2)).run Tryz.prog w' = .ok (.string (strOfNums p.text)) w') (by kernel_rfl) (by kernel_rfl) ?_ ?_
 · exact ⟨(Below.refl _ _).drew,c0,c2,c3,c6,HCV1.out _ ((Below.refl _ _).drew),HCV2.out _ ((Below.refl _ _).drew)⟩
 simp only [List.take_succ_cons,List.take_zero,List.drop_succ_cons,List.drop_zero]
 repeat (
  (first
   | refine seqU_skip (by rfl) ?_
   | (refine seqU_val ?_ (by rfl) ?_ ?_;rotate_left;(focus (intro w' hS;obtain ⟨_,_,_,_,_,_,_⟩:=hS;go_simp;first | done | with_reducible rfl))))
  simp only [Act.put,List.setIfInBounds_toArray,List.set_cons_zero,List.set_cons_succ])
 refine seqU_nil (fun w' hS => ?_)
 have HBS:=Hd hS.1
 have hn3:=(HBS.out.block rb (lt_of_heap HN2.out)).trans HN2.out
 have HN3:=Hd hn3
 have HT:=Hd (evB_at (cs:=[.int .i64 0,.int .i32 0,.int .u8 0,.int .u8 0,.slice none 0 0,.string ⟨#[]⟩,.string ⟨#[]⟩,.bool false]) hn3 rfl)
 clear hS hn3 c0 c2 c3 c6
 refine wpList_valG (.agg #[.int .i64 k,.int .i32 0,.int .u8 c,.int .u8 p.pre,.slice A H.length ca,.string (strOfNums p.inter),.string (strOfNums p.text),.bool p.cut]) (by rfl) (by go_simp) ?_
 simp only [Act.put,List.setIfInBounds_toArray,List.set_cons_zero,List.set_cons_succ]
 refine wpList_store_mid rfl 83 (.tmp 6) (.tmp 44) rfl (rb) (0) (#[.int .i64 k,.int .i32 0,.int .u8 c,.int .u8 p.pre,.slice A H.length ca,.string (strOfNums p.inter),.string (strOfNums p.text),.bool p.cut]) rfl rfl (HT.out) info_event8 (all_oneCell_toArray (encEx_one ⟨wholeP p k c,A,H,ca⟩)) ?_
 simp only [Act.put]
 have hfin:=whole_setCells (b:=rb) (t:=83) [.int .i64 k,.int .i32 0,.int .u8 c,.int .u8 p.pre,.slice A H.length ca,.string (strOfNums p.inter),.string (strOfNums p.text),.bool p.cut] 0 [.int .i64 0,.int .i32 0,.int .u8 0,.int .u8 0,.slice none 0 0,.string ⟨#[]⟩,.string ⟨#[]⟩,.bool false] w' HN3.out (Nat.le_refl 8)
 have HF:=Hd hfin
 clear hfin
 go_wp2
 have hm:Mod [rb] w' (w'.setCells rb 0 [.int .i64 k,.int .i32 0,.int .u8 c,.int .u8 p.pre,.slice A H.length ca,.string (strOfNums p.inter),.string (strOfNums p.text),.bool p.cut]):=mod_setCellsN (.inl (by simp)) [.int .i64 k,.int .i32 0,.int .u8 c,.int .u8 p.pre,.slice A H.length ca,.string (strOfNums p.inter),.string (strOfNums p.text),.bool p.cut] 0 _ (Mod.refl _ _)
 obtain ⟨g1,g2,g3,g4⟩:=HG.out
 have hlo:w.heap.size ≤ W.heap.size:=by have:=HS0.out;omega
 refine bodyPost_ret (ret_agg rfl _ _ rb [.int .i64 k,.int .i32 0,.int .u8 c,.int .u8 p.pre,.slice A H.length ca,.string (strOfNums p.inter),.string (strOfNums p.text),.bool p.cut] rfl (range_new HF.out) Tryz.underlying83 rfl info_event8) rfl ⟨⟨wholeP p k c,A,H,ca⟩,rfl,rfl,⟨g1,g2,g3,?_⟩,below_setN (below_tail HB2.out HBS.out) (Nat.le_of_eq HRB.out) [.int .i64 k,.int .i32 0,.int .u8 c,.int .u8 p.pre,.slice A H.length ca,.string (strOfNums p.inter),.string (strOfNums p.text),.bool p.cut] 0⟩
 exact ((g4.below HBS.out).mod hm (fun b hb => .inl (by rw [List.mem_singleton.1 hb,← HRB.out];have:=HS0.out;omega))).weaken hlo
section
variable {base:Nat} {w:World} {v:Tv} {t:Tm}
theorem TmO.facts (h:TmO base w v t):w.cell? ⟨v.M,0,none⟩ = some (.pointer (some ⟨v.z.P,0,none⟩))∧w.cell? ⟨v.M,1,none⟩ = some (.pointer (some ⟨v.a.S,0,none⟩))∧w.cell? ⟨v.M,2,none⟩ = some (.pointer (some ⟨v.b.S,0,none⟩))∧(w.cell? ⟨v.M,3,none⟩ = some (.int .i64 (if t.use then 1 else 0))∧w.frozen? ⟨v.M,3,none⟩ = false)∧(w.cell? ⟨v.M,4,none⟩ = some (.int .u32 t.modes)∧w.frozen? ⟨v.M,4,none⟩ = false)∧(w.cell? ⟨v.M,5,none⟩ = some (.string t.title)∧w.frozen? ⟨v.M,5,none⟩ = false)∧(w.cell? ⟨v.M,6,none⟩ = some v.ba∧w.frozen? ⟨v.M,6,none⟩ = false)∧(w.cell? ⟨v.M,7,none⟩ = some v.bf∧w.frozen? ⟨v.M,7,none⟩ = false)∧(w.cell? ⟨v.M,8,none⟩ = some v.vc∧w.frozen? ⟨v.M,8,none⟩ = false) :=
 ⟨(at_ h.blk 0 _ rfl).1,(at_ h.blk 1 _ rfl).1,(at_ h.blk 2 _ rfl).1,at_ h.blk 3 _ rfl,at_ h.blk 4 _ rfl,at_ h.blk 5 _ rfl,at_ h.blk 6 _ rfl,at_ h.blk 7 _ rfl,at_ h.blk 8 _ rfl⟩
def TmPost (base:Nat) (w:World) (v:Tv) (t':Tm) (e:Ending) (w':World):Prop:=e = .returned (.tuple #[])∧TmRes base w v t' w'
theorem tScreen_any (h:TmO base w v t):Calls Tryz.prog 11 #[.pointer (some ⟨v.M,0,none⟩)] w fun e w' => e = .returned (.pointer (some ⟨(curV v t).S,0,none⟩))∧Below w.heap.size w w':=by
 obtain ⟨-,c1,c2,⟨c3,-⟩,-⟩:=h.facts
 unfold curV
 clear h
 by_cases hu:t.use = true
 · rw [if_pos hu] at c3 ⊢
   clear hu
   go_enter Tryz.func11,Tryz.ntmps11
   go_upto_region 3 with fail
   refine wp_region_u 7 (fun w' => Below w.heap.size w w'∧w'.cell? ⟨v.M,2,none⟩ = some (.pointer (some ⟨v.b.S,0,none⟩))∧w'.cell? ⟨v.M,3,none⟩ = some (.int .i64 1)) (by kernel_rfl) (by kernel_rfl) ?_ ?_
   · exact ⟨(Below.refl _ _).drew,c2,c3⟩
   simp only [List.take_succ_cons,List.take_zero,List.drop_succ_cons,List.drop_zero]
   repeat (
    (first
     | refine seqU_skip (by rfl) ?_
     | (refine seqU_val ?_ (by rfl) ?_ ?_;rotate_left;(focus (intro w' hS;obtain ⟨_,_,_⟩:=hS;go_simp;first | done | with_reducible rfl))))
    simp only [Act.put,List.setIfInBounds_toArray,List.set_cons_zero,List.set_cons_succ])
   refine seqU_nil (fun w' hS => ?_)
   obtain ⟨hb,d2,d3⟩:=hS
   go_wp2
   go_ret
   exact ⟨rfl,hb⟩
 · rw [if_neg hu] at c3 ⊢
   clear hu
   go_enter Tryz.func11,Tryz.ntmps11
   go_upto_region 3 with fail
   refine wp_region_u 7 (fun w' => Below w.heap.size w w'∧w'.cell? ⟨v.M,1,none⟩ = some (.pointer (some ⟨v.a.S,0,none⟩))∧w'.cell? ⟨v.M,3,none⟩ = some (.int .i64 0)) (by kernel_rfl) (by kernel_rfl) ?_ ?_
   · exact ⟨(Below.refl _ _).drew,c1,c3⟩
   simp only [List.take_succ_cons,List.take_zero,List.drop_succ_cons,List.drop_zero]
   repeat (
    (first
     | refine seqU_skip (by rfl) ?_
     | (refine seqU_val ?_ (by rfl) ?_ ?_;rotate_left;(focus (intro w' hS;obtain ⟨_,_,_⟩:=hS;go_simp;first | done | with_reducible rfl))))
    simp only [Act.put,List.setIfInBounds_toArray,List.set_cons_zero,List.set_cons_succ])
   refine seqU_nil (fun w' hS => ?_)
   obtain ⟨hb,d2,d3⟩:=hS
   go_wp2
   go_ret
   exact ⟨rfl,hb⟩
theorem tFirst_any (h:TmO base w v t):Calls Tryz.prog 12 #[.pointer (some ⟨v.M,0,none⟩)] w fun e w' => e = .returned (.pointer (some ⟨v.a.S,0,none⟩))∧w = w':=by
 obtain ⟨-,c1,-⟩:=h.facts
 clear h
 go_enter Tryz.func12,Tryz.ntmps12
 go_wp2
 go_ret
 exact ⟨rfl,rfl⟩
theorem TmO.does {s':Sc} {w1 w2:World} (h:TmO base w v t) (hb:Below w.heap.size w w1) (hs:ScRes base w1 (curV v t) s' w2):TmRes base w v (putT t s') w2:=TmRes.pre hb ((h.below hb).did hs)
set_option maxHeartbeats 1600000 in
theorem tprint_any (h:TmO base w v t) (hi:ScI (curT t)) (ht:(curT t).pg.told.length ≤ 900000) (k r b p:Int) (A:Option Addr) (n c:Nat) (s1 s2:ByteArray) (ct:Bool) :
 Calls Tryz.prog 72 #[.pointer (some ⟨v.M,0,none⟩),.agg #[.int .i64 k,.int .i32 r,.int .u8 b,.int .u8 p,.slice A n c,.string s1,.string s2,.bool ct]] w (TmPost base w v (doT t (fun s => printS s r))):=by
 obtain ⟨W,hW⟩:∃ W,w.alloc (.cells #[.int .i64 k,.int .i32 r,.int .u8 b,.int .u8 p,.slice A n c,.string s1,.string s2,.bool ct] 83) = W:=⟨_,rfl⟩
 have hb0:Below w.heap.size w W:=by rw [← hW];exact below_allocs (Below.refl _ _) _
 have hn0:W.heap[w.heap.size]? = some (.cells #[.int .i64 k,.int .i32 r,.int .u8 b,.int .u8 p,.slice A n c,.string s1,.string s2,.bool ct] 83 (0,0)):=by rw [← hW];exact hp_new rfl
 have d1:=(at_ hn0 1 _ rfl).1
 have HS:Hid (∀ w',Below W.heap.size W w'→Calls Tryz.prog 11 #[.pointer (some ⟨v.M,0,none⟩)] w' fun e w2 => e = .returned (.pointer (some ⟨(curV v t).S,0,none⟩))∧Below w'.heap.size w' w2):=Hd (fun w' hb => tScreen_any (h.below (below_tail hb0 hb)))
 have HP:Hid (∀ w',Below W.heap.size W w'→Calls Tryz.prog 121 #[.pointer (some ⟨(curV v t).S,0,none⟩),.int .i32 r] w' (ScPost base w' (curV v t) (printS (curT t) r))):=Hd (fun w' hb => sPrint_any ((h.below (below_tail hb0 hb)).cur) hi ht r)
 have HO:=Hd h
 have HB0:=Hd hb0
 clear h hi ht hb0 hn0
 go_enter Tryz.func72,Tryz.ntmps72
 go_upto_region 1 with fail
 refine wp_region_u 4 (fun w' => Below W.heap.size W w'∧w'.cell? ⟨w.heap.size,1,none⟩ = some (.int .i32 r)) (by kernel_rfl) (by kernel_rfl) ?_ ?_
 · exact ⟨(Below.refl _ _).drew,d1⟩
 simp only [List.take_succ_cons,List.take_zero,List.drop_succ_cons,List.drop_zero]
 repeat (
  (first
   | refine seqU_skip (by rfl) ?_
   | ((refine seqU_call 11 #[.pointer (some ⟨v.M,0,none⟩)] (.pointer (some ⟨(curV v t).S,0,none⟩)) (by rfl) ?_ (fun w' hS => (HS.out w' hS.1).mono fun e w2 ⟨he,hb⟩ => ⟨he,below_tail hS.1 hb,holda hb hS.2⟩) ?_;(focus (intro w2;go_simp;done))))
   | (refine seqU_val ?_ (by rfl) ?_ ?_;rotate_left;(focus (intro w' hS;obtain ⟨_,_⟩:=hS;go_simp;first | done | with_reducible rfl))))
  simp only [Act.put,List.setIfInBounds_toArray,List.set_cons_zero,List.set_cons_succ])
 refine seqU_nil (fun w' hS => ?_)
 have HB1:=Hd hS.1
 clear hS
 go_wp2_with (go_at_call 121;(with_reducible refine (HP.out _ HB1.out).mono ?_);rintro e w2 ⟨rfl,hr⟩;have HR:=Hd hr;clear hr)
 go_end0
 exact ⟨rfl,HO.out.does (below_tail HB0.out HB1.out) HR.out⟩
end
end Go.Proofs.YtaefcahblmopfaaGreatDoor
