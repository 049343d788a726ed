/- Joined by a tool of this claim out of smaller texts. Conditions: as stated. -/
import Derived.Test.YtffdblmdelgkaaaGreatRt21
set_option linter.unusedVariables false
set_option linter.unusedSimpArgs false
set_option maxRecDepth 100000
open Go.Lib renaming hid → Hd
namespace Go.Proofs.YtffdblmdelgkaaaGreat
open Go.RowKit
set_option maxHeartbeats 3200000 in
theorem rcount_any (A:Option Addr) (L:List Rh) (ca:Nat) (w:World) (hl:GrAt encRh 2 w A L) (hr:∀ r ∈ L,RcAt w r) (hz:L.length ≤ 1000000) :
 Calls Tryz.prog 141 #[.slice A L.length ca] w (fun e w' => e = .returned (.int .i64 (cntL (L.map roOf)))∧w = w'):=by
 have HL:=Hd hl
 have HR:=Hd hr
 have hN:∀ k,cntL ((L.map roOf).take k) ≤ k * 10000:=cnt_le (fun r h => (hr r h).1)
 have HN:=Hd hN
 obtain ⟨m,hm⟩:∃ m,L.length = m:=⟨_,rfl⟩
 have HM:=Hd hm
 rw [hm] at hz ⊢
 clear hl hr hm hN
 go_enter Tryz.func141,Tryz.ntmps141
 go_wp2_with fail
 go_loopw [3,4] (fun s3 s4 wr => ∃ i:Nat,s4 = .int .i64 i∧i ≤ m∧s3 = .int .i64 (cntL ((L.map roOf).take i))∧wr = w) (fun _ s4 _ => m - (intOf s4).toNat)
 case atStart => exact ⟨0,rfl,Nat.zero_le _,rfl,rfl⟩
 case round =>
  obtain ⟨i,rfl,hi,rfl,rfl⟩:=hrel
  by_cases hlt:i < m
  rotate_left
  · have hge:¬ (i:Int) < (m:Int):=by omega
    have hie:i = m:=by omega
    have HIE:=Hd hie
    clear hie
    go_wp2
    go_ret
    exact ⟨by rw [HIE.out,List.take_of_length_le (by simp [HM.out])];rfl,rfl⟩
  · have hltI:(i:Int) < (m:Int):=by omega
    have hil:i < L.length:=by rw [HM.out];exact hlt
    obtain ⟨b,off,r,rfl,hx,hcell⟩:=HL.out.at_ hil
    have hRC:=HR.out r (List.mem_of_getElem? hx)
    have HRC:=Hd hRC
    have hxm:(L.map roOf)[i]? = some (roOf r):=by rw [List.getElem?_map,hx];rfl
    have HFT:=Hd (cntL_take_succ hxm)
    have c0:=hcell 0 _ rfl
    simp only [Nat.add_zero] at c0
    obtain ⟨p,hp⟩:∃ p,p = cntL ((L.map roOf).take i):=⟨_,rfl⟩
    have hpz:p ≤ 10000000000:=by have:=HN.out i;rw [hp];omega
    rw [← hp] at HFT ⊢
    obtain ⟨n,hn⟩:∃ n,r.cs.length = n:=⟨_,rfl⟩
    have hn10:n ≤ 10000:=by rw [← hn];exact hRC.1
    rw [hn] at c0
    have HRN:=Hd hn
    have hwi:IntKind.i64.wrap ((i:Int) + 1) = (i:Int) + 1:=IntWalk.i64_in _ (by omega)
    clear hx hxm hcell hil hp hn hRC
    go_wp2_with fail
    go_loopw [3,5] (fun s3 s5 wq => ∃ k:Nat,s5 = .int .i64 k∧k ≤ n∧s3 = .int .i64 ((p + ((r.cs.take k).filter nPad).length:Nat):Int)∧wq = wr) (fun _ s5 _ => n - (intOf s5).toNat)
    case atStart => exact ⟨0,rfl,Nat.zero_le _,by simp,rfl⟩
    case round =>
     obtain ⟨k,rfl,hk,rfl,rfl⟩:=hrel
     by_cases hlt2:k < n
     rotate_left
     · have hge:¬ (k:Int) < (n:Int):=by omega
       have hke:k = n:=by omega
       have HKE:=Hd hke
       clear hke
       go_wp2
       go_roundw
       case rel => exact ⟨i + 1,by go_num,by omega,by rw [HFT.out,HKE.out,← HRN.out,List.take_length];rfl,trivial⟩
       case measure => simp [intOf];omega
     · have hlt2I:(k:Int) < (n:Int):=by omega
       have hkl:k < r.cs.length:=by rw [HRN.out];exact hlt2
       obtain ⟨b2,off2,c,hA2,hc2,hcell2⟩:=HRC.out.2.2.1.at_ hkl
       have HFK:=Hd (filter_take hc2)
       have d2:=hcell2 2 _ rfl
       have hfl:((r.cs.take k).filter nPad).length ≤ k:=Nat.le_trans (List.length_filter_le _ _) (by rw [List.length_take];omega)
       obtain ⟨q,hq⟩:∃ q,q = p + ((r.cs.take k).filter nPad).length:=⟨_,rfl⟩
       have HQ:=Hd hq
       have hqz:q ≤ 20000000000:=by omega
       rw [← hq]
       have hwk:IntKind.i64.wrap ((k:Int) + 1) = (k:Int) + 1:=IntWalk.i64_in _ (by omega)
       have hwq:IntKind.i64.wrap ((q:Int) + 1) = (q:Int) + 1:=IntWalk.i64_in _ (by omega)
       rw [hA2] at c0
       clear hA2 hc2 hcell2 hkl hfl hq
       by_cases hh:c.half = 3
       · have hhb:(c.half == 3) = true:=by simp [hh]
         have HH:=Hd hh
         clear hh
         go_wp2
         go_roundw
         case rel => exact ⟨k + 1,by go_num,by omega,by rw [HFK.out,if_pos HH.out,List.append_nil,HQ.out],trivial⟩
         case measure => simp [intOf];omega
       · have hhb:(c.half == 3) = false:=by simp [hh]
         have HH:=Hd hh
         clear hh
         go_wp2
         go_roundw
         case rel => exact ⟨k + 1,by go_num,by omega,by rw [HFK.out,if_neg HH.out,List.length_append,← Nat.add_assoc,← HQ.out];go_num,trivial⟩
         case measure => simp [intOf];omega
theorem rcount_part (b off:Nat) (L:List Rh) (w:World) (hl:GrAt encRh 2 w (some ⟨b,off,none⟩) L) (hr:∀ r ∈ L,RcAt w r) (hz:L.length ≤ 1000000) (a n ca:Nat) (ha:a + n ≤ L.length) :
 Calls Tryz.prog 141 #[.slice (some ⟨b,off + a * 2,none⟩) n ca] w (fun e w' => e = .returned (.int .i64 (cntL (((L.map roOf).drop a).take n)))∧w = w'):=by
 have h:=rcount_any (some ⟨b,off + a * 2,none⟩) ((L.drop a).take n) ca w (hl.sub a n) (fun r h => hr r (List.mem_of_mem_drop (List.mem_of_mem_take h))) (by rw [List.length_take,List.length_drop];omega)
 rw [List.length_take,List.length_drop,Nat.min_eq_left (by omega)] at h
 simpa only [List.map_take,List.map_drop] using h
theorem rfits_any (cols:Nat) (w:World) (hc:2 ≤ cols) (hc2:cols ≤ 1000):Calls Tryz.prog 107 #[.int .i64 cols] w (fun e w' => e = .returned (.bool true)∧w = w'):=by
 have h1:2 ≤ (cols:Int):=by omega
 have h2:(cols:Int) ≤ 1000:=by omega
 go_enter Tryz.func107,Tryz.ntmps107
 go_wp2
 go_ret
 exact ⟨rfl,rfl⟩
def lineL (L:List Ro):Nat→Nat
 | 0 => 0
 | i + 1 => if (L.getD (i + 1) ⟨[],false⟩).cont then lineL L i else i + 1
set_option maxHeartbeats 3200000 in
theorem rline_any (A:Option Addr) (L:List Rh) (ca i:Nat) (w:World) (hl:GrAt encRh 2 w A L) (hi:i < L.length) (hz:L.length ≤ 1000000) :
 Calls Tryz.prog 108 #[.slice A L.length ca,.int .i64 i] w (fun e w' => e = .returned (.int .i64 (lineL (L.map roOf) i))∧w = w'):=by
 have HL:=Hd hl
 obtain ⟨m,hm⟩:∃ m,L.length = m:=⟨_,rfl⟩
 have HM:=Hd hm
 rw [hm] at hz hi ⊢
 clear hl hm
 go_enter Tryz.func108,Tryz.ntmps108
 go_wp2_with fail
 go_loopw [1] (fun s1 wr => ∃ k:Nat,s1 = .int .i64 k∧k ≤ i∧lineL (L.map roOf) k = lineL (L.map roOf) i∧wr = w) (fun s1 _ => (intOf s1).toNat)
 case atStart => exact ⟨i,rfl,Nat.le_refl _,rfl,rfl⟩
 case round =>
  obtain ⟨k,rfl,hk,hu,rfl⟩:=hrel
  have HU:=Hd hu
  by_cases h0:k = 0
  · subst h0
    clear hu
    go_wp2
    go_ret
    exact ⟨by rw [← HU.out];rfl,rfl⟩
  · obtain ⟨k1,rfl⟩:∃ k1,k = k1 + 1:=⟨k - 1,by omega⟩
    obtain ⟨n1,hn1⟩:∃ n1,n1 = k1 + 1:=⟨_,rfl⟩
    have h0I:0 < (n1:Int):=by omega
    have hs:(n1:Int) - 1 = (k1:Int):=by omega
    have hkl:n1 < L.length:=by have:=HM.out;omega
    have hkI:(n1:Int) < (m:Int):=by have:=HM.out;omega
    obtain ⟨b,off,r,rfl,hc,hcell⟩:=HL.out.at_ hkl
    have hwk:IntKind.i64.wrap (k1:Int) = (k1:Int):=IntWalk.i64_in _ (by omega)
    have hgd:(L.map roOf).getD (k1 + 1) ⟨[],false⟩ = roOf r:=by rw [← hn1,List.getD_eq_getElem?_getD,List.getElem?_map,hc];rfl
    have HT:Hid (lineL (L.map roOf) (k1 + 1) = if r.cont then lineL (L.map roOf) k1 else k1 + 1):=Hd (by rw [lineL,hgd];rfl)
    have c1:=hcell 1 _ rfl
    rw [← hn1] at hu hk ⊢
    rw [← hn1] at HT HU
    have HN1:=Hd hn1
    clear hu hc hcell hn1 h0 hkl hgd
    cases hr:r.cont with
    | true =>
      rw [hr] at c1
      have HR:=Hd hr
      clear hr
      go_wp2
      go_roundw
      case rel => exact ⟨k1,by go_num,by have:=HN1.out;omega,by rw [← HU.out,HT.out,if_pos HR.out],trivial⟩
      case measure => simp [intOf];have:=HN1.out;omega
    | false =>
      rw [hr] at c1
      have HR:=Hd hr
      clear hr
      go_wp2
      go_ret
      exact ⟨by rw [← HU.out,HT.out,if_neg (by rw [HR.out];decide)];rfl,rfl⟩
theorem cnt_one {L:List Ro} {k:Nat} {r:Ro} (h:L[k]? = some r):cntL ((L.drop k).take 1) = roSize r:=by
 have hk:=(List.getElem?_eq_some_iff.1 h).1
 have:L.drop k = r :: L.drop (k + 1):=by
  rw [List.drop_eq_getElem_cons hk,(List.getElem?_eq_some_iff.1 h).2]
 rw [this]
 simp [cntL]
theorem cnt_big {L:List Rh} {w:World} (hr:∀ r ∈ L,RcAt w r) (k:Nat) (hk:k ≤ 1000000):cntL ((L.map roOf).take k) ≤ 10000000000:=by
 have:=cnt_le (N:=10000) (fun r h => (hr r h).1) k
 omega
set_option maxHeartbeats 3200000 in
theorem roffset_any (b off:Nat) (L:List Rh) (ca:Nat) (y x:Int) (w:World) (hl:GrAt encRh 2 w (some ⟨b,off,none⟩) L) (hr:∀ r ∈ L,RcAt w r) (h0:0 < L.length) (hz:L.length ≤ 1000000) (hca:L.length ≤ ca) (hx:-9223372036854775808 ≤ x∧x ≤ 9223372036854775807) :
 Calls Tryz.prog 111 #[.slice (some ⟨b,off,none⟩) L.length ca,.agg #[.int .i64 y,.int .i64 x]] w (fun e w' => e = .returned (.int .i64 (offP (L.map roOf) y x))∧Below w.heap.size w w'):=by
 have HAB:=Hd (below_allocs (Below.refl w.heap.size w) (.cells #[.int .i64 y,.int .i64 x] 57))
 have HC:Hid (∀ a n ca',a + n ≤ L.length→Calls Tryz.prog 141 #[.slice (some ⟨b,off + a * 2,none⟩) n ca'] (w.alloc (.cells #[.int .i64 y,.int .i64 x] 57)) (fun e w' => e = .returned (.int .i64 (cntL (((L.map roOf).drop a).take n)))∧(w.alloc (.cells #[.int .i64 y,.int .i64 x] 57)) = w')) :=
  Hd (fun a n ca' ha => rcount_part b off L _ (hl.below HAB.out) (fun r h => (hr r h).below HAB.out) hz a n ca' ha)
 have hne:¬ L.map roOf = []:=fun h => by rw [List.map_eq_nil_iff] at h;rw [h] at h0;simp at h0
 unfold offP
 rw [List.length_map]
 by_cases hy:y < 0
 · rw [if_pos (.inl hy)]
   clear hl hr HC
   go_enter Tryz.func111,Tryz.ntmps111
   go_wp2
   go_ret
   exact ⟨rfl,HAB.out⟩
 rw [if_neg (fun h => h.elim hy hne)]
 by_cases hc:(L.length:Int) ≤ y
 · rw [if_pos hc]
   have HC2:=Hd (HC.out 0 L.length ca (by omega))
   rw [List.drop_zero,List.take_of_length_le (by simp),Nat.zero_mul,Nat.add_zero] at HC2
   clear hl hr HC
   go_enter Tryz.func111,Tryz.ntmps111
   go_wp2_with (go_at_call 141;(with_reducible refine HC2.out.mono ?_);rintro e w6 ⟨rfl,rfl⟩)
   go_ret
   exact ⟨rfl,HAB.out⟩
 rw [if_neg hc]
 obtain ⟨k,rfl⟩:∃ k:Nat,y = k:=⟨y.toNat,by omega⟩
 have hkl:k < L.length:=by omega
 have hrow:(L.map roOf)[k]? = some (roOf L[k]):=by rw [List.getElem?_map,List.getElem?_eq_getElem hkl];rfl
 have hgd:(L.map roOf).getD k ⟨[],false⟩ = roOf L[k]:=by rw [List.getD_eq_getElem?_getD,hrow];rfl
 rw [Int.toNat_natCast,hgd]
 have HC1:=Hd (HC.out k 1 (ca - k) (by omega))
 have HC2:=Hd (HC.out 0 k ca (by omega))
 rw [cnt_one hrow] at HC1
 rw [List.drop_zero,Nat.zero_mul,Nat.add_zero] at HC2
 have hpz:=cnt_big hr k (by omega)
 have hzz:roSize (roOf L[k]) ≤ 10000:=Nat.le_trans (roSize_le _) (hr _ (List.getElem_mem hkl)).1
 obtain ⟨p,hp⟩:∃ p,p = cntL ((L.map roOf).take k):=⟨_,rfl⟩
 obtain ⟨z,hz2⟩:∃ z,z = roSize (roOf L[k]):=⟨_,rfl⟩
 rw [← hp] at HC2 hpz ⊢
 rw [← hz2] at HC1 hzz ⊢
 have hwk:IntKind.i64.wrap ((k:Int) + 1) = (k:Int) + 1:=IntWalk.i64_in _ (by omega)
 have hkc:k + 1 ≤ ca:=by omega
 have hkI:(k:Int) < (L.length:Int):=by omega
 obtain ⟨q,hq⟩:∃ q:Nat,q = min x.toNat z:=⟨_,rfl⟩
 rw [← hq]
 have hwr:IntKind.i64.wrap ((p:Int) + (q:Int)) = (p:Int) + (q:Int):=IntWalk.i64_in _ (by omega)
 have z0:=(at_ (hp_new (W:=w) (b:=w.heap.size) (o:=.cells #[.int .i64 (k:Int),.int .i64 x] 57) rfl) 0 _ rfl).1
 have z1:=(at_ (hp_new (W:=w) (b:=w.heap.size) (o:=.cells #[.int .i64 (k:Int),.int .i64 x] 57) rfl) 1 _ rfl).1
 have hsz:w.heap.size < (w.alloc (.cells #[.int .i64 (k:Int),.int .i64 x] 57)).heap.size:=by simp
 by_cases hx0:x < 0
 · obtain rfl:q = 0:=by omega
   clear hl hr HC hrow hgd hp hz2 hq hc hne
   go_enter Tryz.func111,Tryz.ntmps111
   go_wp2_with (go_at_call 141;first | ((with_reducible refine HC1.out.mono ?_);rintro e w6 ⟨rfl,rfl⟩) | ((with_reducible refine HC2.out.mono ?_);rintro e w6 ⟨rfl,rfl⟩))
   go_ret
   exact ⟨rfl,HAB.out⟩
 obtain ⟨x1,rfl⟩:∃ x1:Nat,x = x1:=⟨x.toNat,by omega⟩
 by_cases hx1:(z:Int) < (x1:Int)
 · obtain rfl:q = z:=by omega
   clear hl hr HC hrow hgd hp hz2 hq hc hne
   go_enter Tryz.func111,Tryz.ntmps111
   go_wp2_with (go_at_call 141;first | ((with_reducible refine HC1.out.mono ?_);rintro e w6 ⟨rfl,rfl⟩) | ((with_reducible refine HC2.out.mono ?_);rintro e w6 ⟨rfl,rfl⟩))
   go_ret
   exact ⟨rfl,HAB.out⟩
 · obtain rfl:q = x1:=by omega
   clear hl hr HC hrow hgd hp hz2 hq hc hne
   go_enter Tryz.func111,Tryz.ntmps111
   go_wp2_with (go_at_call 141;first | ((with_reducible refine HC1.out.mono ?_);rintro e w6 ⟨rfl,rfl⟩) | ((with_reducible refine HC2.out.mono ?_);rintro e w6 ⟨rfl,rfl⟩))
   go_ret
   exact ⟨rfl,HAB.out⟩
set_option maxHeartbeats 3200000 in
theorem rplace_any (b off:Nat) (L:List Rh) (ca o:Nat) (w:World) (hl:GrAt encRh 2 w (some ⟨b,off,none⟩) L) (hr:∀ r ∈ L,RcAt w r) (h0:0 < L.length) (hz:L.length ≤ 1000000) (hca:L.length ≤ ca) (ho:o ≤ 1000000000000) :
 Calls Tryz.prog 112 #[.slice (some ⟨b,off,none⟩) L.length ca,.int .i64 o] w (fun e w' => e = .returned (.agg #[.int .i64 (plP (L.map roOf) o).1,.int .i64 (plP (L.map roOf) o).2])∧Below w.heap.size w w'):=by
 obtain ⟨W0,hW0⟩:∃ W0,W0 = w.alloc (.cells #[.int .i64 0,.int .i64 0] 57):=⟨_,rfl⟩
 have hB0:Below w.heap.size w W0:=by rw [hW0];exact below_allocs (Below.refl _ _) _
 have cp:W0.heap[w.heap.size]? = some (.cells #[.int .i64 0,.int .i64 0] 57 (0,0)):=by rw [hW0];exact hp_new rfl
 have HB0:=Hd hB0
 have HW0:=Hd hW0.symm
 have HCP:=Hd cp
 have HC:Hid (∀ a n ca',a + n ≤ L.length→Calls Tryz.prog 141 #[.slice (some ⟨b,off + a * 2,none⟩) n ca'] W0 (fun e w' => e = .returned (.int .i64 (cntL (((L.map roOf).drop a).take n)))∧W0 = w')) :=
  Hd (fun a n ca' ha => rcount_part b off L _ (hl.below hB0) (fun r h => (hr r h).below hB0) hz a n ca' ha)
 have HC0:Hid (∀ n ca',n ≤ L.length→Calls Tryz.prog 141 #[.slice (some ⟨b,off,none⟩) n ca'] W0 (fun e w' => e = .returned (.int .i64 (cntL ((L.map roOf).take n)))∧W0 = w')) :=
  Hd (fun n ca' ha => by have:=HC.out 0 n ca' (by omega);rwa [List.drop_zero,Nat.zero_mul,Nat.add_zero] at this)
 have HBIG:=Hd (fun k hk => cnt_big hr k hk)
 have hne:¬ L.map roOf = []:=fun h => by rw [List.map_eq_nil_iff] at h;rw [h] at h0;simp at h0
 have HFS:Hid (∀ k,k < L.length→(cntL ((L.map roOf).take (k + 1)) ≤ o ↔ k < firstGt (L.map roOf) o)):=Hd (fun k hk => firstGt_spec (L.map roOf) o (by rw [List.length_map];exact hk))
 have hfl:=firstGt_le (L.map roOf) o
 rw [List.length_map] at hfl
 have HAPP:Hid (∀ k,cntL (L.map roOf) = cntL ((L.map roOf).take k) + cntL ((L.map roOf).drop k)):=Hd (fun k => by rw [← cntL_append,List.take_append_drop])
 unfold plP
 rw [if_neg hne,List.length_map]
 obtain ⟨M,hM⟩:∃ M,M = L.map roOf:=⟨_,rfl⟩
 rw [← hM] at HC HC0 HBIG HFS hfl HAPP ⊢
 have HML:Hid (M.take L.length = M):=Hd (by rw [List.take_of_length_le];rw [hM];simp)
 obtain ⟨t,ht⟩:∃ t,t = firstGt M o:=⟨_,rfl⟩
 rw [← ht] at HFS hfl ⊢
 obtain ⟨m,hm⟩:∃ m,m = L.length:=⟨_,rfl⟩
 rw [← hm] at HC HC0 HFS hfl HML h0 hz hca ⊢
 have ho0:¬ (o:Int) < 0:=by omega
 obtain ⟨R,hR⟩:∃ R:Nat × Nat,R = (if t < m then (t,o - cntL (M.take t)) else (m - 1,min o (cntL M) - cntL (M.take (m - 1)))):=⟨_,rfl⟩
 rw [← hR]
 have HR:=Hd hR
 clear hR
 clear hl hr hne hB0 hW0 cp hM hm ht
 go_enter Tryz.func112,Tryz.ntmps112
 go_upto_region 1 with fail
 rw [HW0.out]
 go_wp2_with fail
 go_loopw [5] (fun s5 wr => ∃ k:Nat,s5 = .int .i64 k∧k ≤ t∧wr = W0) (fun s5 _ => m - (intOf s5).toNat)
 case atStart => exact ⟨0,rfl,Nat.zero_le _,rfl⟩
 case round =>
  obtain ⟨k,rfl,hk,rfl⟩:=hrel
  by_cases hlt:k < m
  rotate_left
  · have hge:¬ (k:Int) < (m:Int):=by omega
    obtain rfl:k = m:=by omega
    obtain rfl:k = t:=by omega
    have hm0:((k:Int) == 0) = false:=beq_eq_false_iff_ne.2 (by omega)
    obtain ⟨n,rfl⟩:∃ n,k = n + 1:=⟨k - 1,by omega⟩
    have h1:=(HFS.out n (by omega)).2 (by omega)
    rw [HML.out] at h1
    have h2:=HAPP.out n
    have h3:=HBIG.out n (by omega)
    have hR:=HR.out
    rw [if_neg (by omega),show n + 1 - 1 = n by omega] at hR
    obtain ⟨m1,hm1⟩:∃ m1,m1 = n + 1:=⟨_,rfl⟩
    have HCD:=Hd (HC.out n 1 (ca - n) (by omega))
    have HCT:=Hd (HC0.out n ca (by omega))
    rw [show (M.drop n).take 1 = M.drop n from by
     rw [List.take_of_length_le]
     have:=congrArg List.length HML.out
     rw [List.length_take] at this
     rw [List.length_drop];omega] at HCD
    obtain ⟨p,hp⟩:∃ p,p = cntL (M.take n):=⟨_,rfl⟩
    obtain ⟨u,hu⟩:∃ u,u = cntL (M.drop n):=⟨_,rfl⟩
    rw [← hp,← hu] at h2
    rw [← hp] at HCT h3
    rw [← hu] at HCD
    obtain ⟨c,hc⟩:∃ c,c = min o (cntL M) - cntL (M.take n):=⟨_,rfl⟩
    rw [← hc] at hR
    rw [← hp] at hc
    have hpz:p ≤ 10000000000:=h3
    have hs:((m1:Nat):Int) - 1 = (n:Int):=by omega
    have hwn:IntKind.i64.wrap (n:Int) = (n:Int):=IntWalk.i64_in _ (by omega)
    have hcu:c = u:=by omega
    have hup:p + u ≤ o:=by omega
    have hd:(o:Int) - (p:Int) = ((o - p:Nat):Int):=by omega
    have hwd:IntKind.i64.wrap ((o - p:Nat):Int) = ((o - p:Nat):Int):=IntWalk.i64_in _ (by omega)
    obtain ⟨y0,y0f⟩:=at_ HCP.out 0 _ rfl
    obtain ⟨y1,y1f⟩:=at_ HCP.out 1 _ rfl
    have hnca:n ≤ ca:=by omega
    have hnm:n ≤ m1:=by omega
    have hm1n:m1 - n = 1:=by omega
    have hm1c:m1 ≤ ca:=by omega
    rw [← hm1] at hge hm0 ⊢
    rw [hcu] at hR
    have HRV:=Hd hR
    clear hR
    have HM1:=Hd hm1
    clear h1 h2 h3 hp hu hc hcu hm1 hlt hk hfl h0 hz
    by_cases hgt:(u:Int) < ((o - p:Nat):Int)
    · go_wp2_with (go_at_call 141;first | ((with_reducible refine HCD.out.mono ?_);rintro e w6 ⟨rfl,rfl⟩) | ((with_reducible refine HCT.out.mono ?_);rintro e w6 ⟨rfl,rfl⟩))
      have HB6:=below_set (below_set HB0.out (show w.heap.size ≤ w.heap.size by omega) (o:=0) (.int .i64 (n:Int))) (show w.heap.size ≤ w.heap.size by omega) (o:=1) (.int .i64 (u:Int))
      have hset:=set_two (u':=.int .i64 (n:Int)) (v':=.int .i64 (u:Int)) ⟨y0,y0f⟩ ⟨y1,y1f⟩
      exact bodyPost_ret (ret_pos rfl _ _ w.heap.size _ _ rfl hset.1.1 hset.2.1) rfl ⟨by rw [HRV.out],HB6⟩
    · have hue:u = o - p:=by omega
      clear hgt
      have hgt:¬ (u:Int) < ((o - p:Nat):Int):=by omega
      have HUE:=Hd hue
      clear hue
      go_wp2_with (go_at_call 141;first | ((with_reducible refine HCD.out.mono ?_);rintro e w6 ⟨rfl,rfl⟩) | ((with_reducible refine HCT.out.mono ?_);rintro e w6 ⟨rfl,rfl⟩))
      have HB6:=below_set (below_set HB0.out (show w.heap.size ≤ w.heap.size by omega) (o:=0) (.int .i64 (n:Int))) (show w.heap.size ≤ w.heap.size by omega) (o:=1) (.int .i64 ((o - p:Nat):Int))
      have hset:=set_two (u':=.int .i64 (n:Int)) (v':=.int .i64 ((o - p:Nat):Int)) ⟨y0,y0f⟩ ⟨y1,y1f⟩
      exact bodyPost_ret (ret_pos rfl _ _ w.heap.size _ _ rfl hset.1.1 hset.2.1) rfl ⟨by rw [HRV.out,HUE.out],HB6⟩
  · have hltI:(k:Int) < (m:Int):=by omega
    have hwk:IntKind.i64.wrap ((k:Int) + 1) = (k:Int) + 1:=IntWalk.i64_in _ (by omega)
    have hkc:k + 1 ≤ ca:=by omega
    have HCT1:=Hd (HC0.out (k + 1) ca (by omega))
    have HCT:=Hd (HC0.out k ca (by omega))
    have hiff:=HFS.out k hlt
    have hqz:=HBIG.out (k + 1) (by omega)
    have hpz:=HBIG.out k (by omega)
    have hmon:=cntL_mono M (show k ≤ k + 1 by omega)
    obtain ⟨q,hq⟩:∃ q,q = cntL (M.take (k + 1)):=⟨_,rfl⟩
    rw [← hq] at HCT1 hiff hqz hmon
    by_cases hkt:k < t
    · have hle:¬ (o:Int) < (q:Int):=by have:=hiff.2 hkt;omega
      clear hq hiff hmon hpz HCT
      go_wp2_with (go_at_call 141;((with_reducible refine HCT1.out.mono ?_);rintro e w6 ⟨rfl,rfl⟩))
      go_roundw
      case rel => exact ⟨k + 1,by go_num,by omega,trivial⟩
      case measure => simp [intOf];omega
    · obtain rfl:k = t:=by omega
      have hle:(o:Int) < (q:Int):=by have:=fun h => hkt (hiff.1 h);omega
      have hR:=HR.out
      rw [if_pos hlt] at hR
      have hpo:cntL (M.take k) ≤ o:=by
       by_cases h:k = 0
       · rw [h];simp [cntL]
       · have:=(HFS.out (k - 1) (by omega)).2 (by omega)
         rwa [show k - 1 + 1 = k by omega] at this
      obtain ⟨p,hp⟩:∃ p,p = cntL (M.take k):=⟨_,rfl⟩
      rw [← hp] at HCT hpz hpo hR
      have HRV:=Hd hR
      clear hR
      have hd:(o:Int) - (p:Int) = ((o - p:Nat):Int):=by omega
      have hwd:IntKind.i64.wrap ((o - p:Nat):Int) = ((o - p:Nat):Int):=IntWalk.i64_in _ (by omega)
      obtain ⟨y0,y0f⟩:=at_ HCP.out 0 _ rfl
      obtain ⟨y1,y1f⟩:=at_ HCP.out 1 _ rfl
      clear hq hiff hmon hp hkt hk
      go_wp2_with (go_at_call 141;first | ((with_reducible refine HCT1.out.mono ?_);rintro e w6 ⟨rfl,rfl⟩) | ((with_reducible refine HCT.out.mono ?_);rintro e w6 ⟨rfl,rfl⟩))
      have HB6:=below_set (below_set HB0.out (show w.heap.size ≤ w.heap.size by omega) (o:=0) (.int .i64 (k:Int))) (show w.heap.size ≤ w.heap.size by omega) (o:=1) (.int .i64 ((o - p:Nat):Int))
      have hset:=set_two (u':=.int .i64 (k:Int)) (v':=.int .i64 ((o - p:Nat):Int)) ⟨y0,y0f⟩ ⟨y1,y1f⟩
      exact bodyPost_ret (ret_pos rfl _ _ w.heap.size _ _ rfl hset.1.1 hset.2.1) rfl ⟨by rw [HRV.out],HB6⟩
end Go.Proofs.YtffdblmdelgkaaaGreat
