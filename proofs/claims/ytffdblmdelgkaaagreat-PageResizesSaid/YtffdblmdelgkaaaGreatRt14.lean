/- Joined by a tool of this claim out of smaller texts. Conditions: as stated. -/
import Derived.Test.YtffdblmdelgkaaaGreatRt09
import Derived.Test.YtffdblmdelgkaaaGreatRt11
import Derived.RegionTactic
set_option linter.unusedVariables false
set_option linter.unusedSimpArgs false
set_option maxRecDepth 100000
open Go.Lib renaming hid → Hd
namespace Go.Proofs.YtffdblmdelgkaaaGreat
open Go.RowKit Go.Shelf Go.Sort
def encN (n:Nat):List Value:=[.int .i64 n]
theorem encN_len:∀ n,(encN n).length = 1:=fun _ => rfl
theorem encN_one:∀ n,∀ v ∈ encN n,v.oneCell' = true:=fun n v hv => by
 simp only [encN,List.mem_singleton] at hv
 subst hv;rfl
theorem flat_encN (X:List Nat):flat encN X = X.map (fun n:Nat => Value.int .i64 (n:Int)):=by
 induction X with
 | nil => rfl
 | cons x X ih => rw [show flat encN (x :: X) = encN x ++ flat encN X from rfl,ih];rfl
theorem info_intz:(Tryz.prog.info? 3).map (fun i => (i.zero,i.size,i.bytes)) = some (some (.int .i64 0),1,8):=by kernel_rfl
def SumPost (L:List Ro) (w:World) (e:Ending) (w':World):Prop:=∃ g cap,e = .returned (.slice (some ⟨g,0,none⟩) L.length cap)∧w'.ownsRow w.heap.size 3 1 (.slice (some ⟨g,0,none⟩) L.length cap) L.length (flat encN (sumsL L))∧Below w.heap.size w w'
theorem roSize_le (r:Rh):roSize (roOf r) ≤ r.cs.length:=List.length_filter_le _ _
theorem cnt_le {L:List Rh} {N:Nat} (h:∀ r ∈ L,r.cs.length ≤ N):∀ k,cntL ((L.map roOf).take k) ≤ k * N:=by
 induction L with
 | nil => intro k;simp [cntL]
 | cons r L ih =>
   intro k
   cases k with
   | zero => simp [cntL]
   | succ k =>
     have h1:=ih (fun x hx => h x (by simp [hx])) k
     have h2:=roSize_le r
     have h3:=h r (by simp)
     simp only [List.map_cons,List.take_succ_cons,cntL,List.map_cons,List.sum_cons,Nat.succ_mul] at h1 ⊢
     omega
set_option maxHeartbeats 3200000 in
theorem fsums_any (A:Option Addr) (L:List Rh) (ca:Nat) (w:World) (hl:GrAt encRh 2 w A L) (hr:∀ r ∈ L,RcAt w r) (h0:0 < L.length) (hz:L.length ≤ 1000000) :
 Calls Tryz.prog 101 #[.slice A L.length ca] w (SumPost (L.map roOf) w):=by
 obtain ⟨j0,hj,gz0,gz1,gz2⟩:=info_parts info_intz
 have HL:=Hd hl
 have HR:=Hd hr
 have HSZ:=Hd (fun (r:Rh) (w':World) (h:RcAt w' r) => fsize_any r w' h.2.2.1 (by have:=h.1;omega))
 have HCN:=Hd (cnt_le (L:=L) (N:=10000) (fun r h => (hr r h).1))
 obtain ⟨m,hm⟩:∃ m,L.length = m:=⟨_,rfl⟩
 have HM:=Hd hm
 rw [hm] at h0 hz ⊢
 clear hl hr hm
 go_enter Tryz.func101,Tryz.ntmps101
 go_wp2_with (refine wpList_make_full _ rfl (.tmp 8) (.tmp 8) _ rfl w.heap.size 3 j0 _ 1 Tryz.underlying122 hj gz0 gz1 .i64 .i64 _ _ m rfl rfl ?_ ?_ ?_ ?_ ?_ ?_)
 all_goals first
  | rfl
  | omega
  | (simp only [maxLen];omega)
  | (rw [gz2];omega)
  | (simp;done)
  | skip
 intro w1 hown hg
 have HG:=Hd hg
 have e:=made_flatG encN_len (by decide) 0 m
 rw [Nat.mul_one] at e
 have HO0:Hid (w1.ownsRow w.heap.size 3 1 (.slice (some ⟨w.heap.size,0,none⟩) m m) m (flat encN (List.replicate m 0))):=Hd (by rw [← e];exact hown)
 clear hown hg e
 have HB2:=Hd (show Below w.heap.size w w1 from (Below.refl _ _).grown HG.out (Nat.le_refl _) (fun k hk => by cases hk))
 have hg2:=(HO0.out.lt w.heap.size rfl).2
 generalize hg1e:w.heap.size = g1 at HO0 hg2 HB2 ⊢
 have HG1:=Hd hg1e
 clear hg1e
 go_wp2_with fail
 go_loopw [4,12] (fun s4 s12 wr => ∃ i:Nat,s12 = .int .i64 i∧i ≤ m∧s4 = .int .i64 (cntL ((L.map roOf).take i))∧wr.ownsRow g1 3 1 (.slice (some ⟨g1,0,none⟩) m m) m (flat encN ((sumsL (L.map roOf)).take i ++ List.replicate (m - i) 0))∧Mod [g1] w1 wr) (fun _ s12 _ => m - (intOf s12).toNat)
 case atStart => exact ⟨0,rfl,Nat.zero_le _,rfl,by simpa using HO0.out,Mod.refl _ _⟩
 case round =>
  obtain ⟨i,rfl,hi,rfl,hO,hM⟩:=hrel
  have HOi:=Hd hO
  have hMB:Below g1 w1 wr:=hM.below (fun x hx => by rw [List.mem_singleton.1 hx];exact Nat.le_refl _) (Nat.le_of_lt hg2)
  have HMB:=Hd (HB2.out.trans hMB)
  have HMi:=Hd hM
  clear hO hM hMB
  by_cases hlt:i < m
  rotate_left
  · have hge:¬ (i:Int) < (m:Int):=by omega
    have hie:i = m:=by omega
    have HIE:=Hd hie
    clear hie
    go_wp2
    go_ret
    have h1:=HOi.out
    rw [HIE.out,Nat.sub_self,List.replicate_zero,List.append_nil,List.take_of_length_le (by rw [sumsL_len,List.length_map,HM.out];exact Nat.le_refl _)] at h1
    refine ⟨g1,m,by rw [List.length_map,HM.out];rfl,by rw [List.length_map,HM.out,HG1.out];exact h1,by rw [HG1.out];exact HMB.out⟩
  · have hltI:(i:Int) < (m:Int):=by omega
    have hil:i < L.length:=by rw [HM.out];exact hlt
    obtain ⟨b,off,r,rfl,hx,hcell⟩:=(HL.out.below (by rw [HG1.out];exact HMB.out)).at_ hil
    have HRC:=Hd ((HR.out r (List.mem_of_getElem? hx)).below (by rw [HG1.out];exact HMB.out))
    have hxm:(L.map roOf)[i]? = some (roOf r):=by rw [List.getElem?_map,hx];rfl
    have HCT:=Hd (cntL_take_succ hxm)
    have hcn:=HCN.out (i + 1)
    rw [HCT.out] at hcn
    have c0:=hcell 0 _ rfl
    have c1:=hcell 1 _ rfl
    simp only [Nat.add_zero] at c0
    obtain ⟨q,hq⟩:∃ q,q = cntL ((L.map roOf).take i):=⟨_,rfl⟩
    obtain ⟨q2,hq2⟩:∃ q2,q2 = q + roSize (roOf r):=⟨_,rfl⟩
    rw [← hq,← hq2] at hcn
    have HQ:=Hd hq
    have HQ2:=Hd hq2
    rw [← hq]
    obtain ⟨sz,hsz⟩:∃ sz,sz = roSize (roOf r):=⟨_,rfl⟩
    have hqs:(q:Int) + (sz:Int) = (q2:Int):=by omega
    have hwq:IntKind.i64.wrap (q2:Int) = (q2:Int):=IntWalk.i64_in _ (by omega)
    have hwi:IntKind.i64.wrap ((i:Int) + 1) = (i:Int) + 1:=IntWalk.i64_in _ (by omega)
    have hba:=below_allocs (Below.refl wr.heap.size wr) (.cells #[.slice r.A r.cs.length r.cap,.bool r.cont] 50)
    have HS:=Hd (HSZ.out r _ (HRC.out.below hba))
    have HBA:=Hd hba
    rw [← hsz] at HS
    have HSZE:=Hd hsz
    clear hx hxm hcell hil hq hq2 hcn hsz hba
    go_upto_region 7 with (go_at_call 134;(with_reducible refine HS.out.mono ?_);rintro e w6 ⟨rfl,hb⟩;have HB6:=Hd (below_tail HBA.out hb);clear hb c0 c1)
    have HO6:=Hd (owns_mod HOi.out (Mod.of_below (X:=[]) HB6.out) (fun _ _ h => by cases h))
    have hXi:(flat encN ((sumsL (L.map roOf)).take i ++ List.replicate (m - i) 0))[i]? = some (.int .i64 ((0:Nat):Int)):=by
     rw [flat_encN,List.getElem?_map,List.getElem?_append_right (by rw [List.length_take];omega),List.getElem?_replicate,if_pos (by rw [List.length_take,sumsL_len,List.length_map,HM.out];omega)]
     rfl
    obtain ⟨y0,y0f⟩:=owns_hold HO6.out hXi
    have HO7:Hid ((w6.setCell ⟨g1,i,none⟩ (.int .i64 q2)).ownsRow g1 3 1 (.slice (some ⟨g1,0,none⟩) m m) m (flat encN ((sumsL (L.map roOf)).take (i + 1) ++ List.replicate (m - (i + 1)) 0))):=Hd (by
     have h1:=owns_set1 HO6.out i (.int .i64 q2)
     have hil:i < (sumsL (L.map roOf)).length:=by rw [sumsL_len,List.length_map,HM.out];exact hlt
     have hget:(sumsL (L.map roOf))[i] = q2:=by
      have h2:=sumsL_at (rows:=L.map roOf) (k:=i) (by rw [List.length_map,HM.out];exact hlt)
      rw [List.getElem?_eq_getElem hil] at h2
      rw [Option.some.inj h2,HCT.out,HQ2.out,HQ.out]
     have h3:=take_set (z:=0) hil hlt
     rw [hget] at h3
     rw [← h3,flat_encN,List.map_set,← flat_encN]
     exact h1)
    have HM7:=Hd (((Mod.of_below (X:=[g1]) HB6.out).setCell (a:=⟨g1,i,none⟩) (.inl (by simp)) (.int .i64 q2)))
    have HMi7:=Hd (HMi.out.trans HM7.out (fun x hx => .inl hx))
    go_wp2
    go_roundw
    case rel => exact ⟨i + 1,by go_num,by omega,by rw [HCT.out,← HQ.out,← HSZE.out];go_num,HO7.out,HMi7.out⟩
    case measure => simp [intOf];omega
theorem fahead_any (A:Option Addr) (L:List Ro) (ca y:Nat) (w:World) (hl:GrAt encN 1 w A (sumsL L)) (hy:y ≤ L.length) (hz:L.length ≤ 1000000) :
 Calls Tryz.prog 137 #[.slice A L.length ca,.int .i64 y] w (fun e w' => e = .returned (.int .i64 (cntL (L.take y)))∧w = w'):=by
 by_cases h0:y = 0
 · subst h0
   have hI:((0:Nat):Int) ≤ 0:=by omega
   clear hl
   go_enter Tryz.func137,Tryz.ntmps137
   go_wp2
   go_ret
   exact ⟨rfl,rfl⟩
 · obtain ⟨k,rfl⟩:∃ k,y = k + 1:=⟨y - 1,by omega⟩
   have hkS:k < (sumsL L).length:=by rw [sumsL_len];omega
   obtain ⟨b,off,n,rfl,hn,hcell⟩:=hl.at_ hkS
   rw [sumsL_at (rows:=L) (k:=k) (by omega)] at hn
   obtain rfl:=Option.some.inj hn
   have c0:=hcell 0 _ rfl
   obtain ⟨m,hm⟩:∃ m,m = k + 1:=⟨_,rfl⟩
   have HM:=Hd hm
   rw [← hm] at hy c0 ⊢
   have hI:¬ (m:Int) ≤ 0:=by omega
   have hs:(m:Int) - 1 = (k:Int):=by omega
   have hwk:IntKind.i64.wrap (k:Int) = (k:Int):=IntWalk.i64_in _ (by omega)
   have hkI:(k:Int) < (L.length:Int):=by omega
   simp only [Nat.add_zero,Nat.mul_one] at c0
   clear hl hcell hn hm h0 hkS
   go_enter Tryz.func137,Tryz.ntmps137
   go_wp2
   go_ret
   exact ⟨rfl,rfl⟩
set_option maxHeartbeats 3200000 in
theorem foffset_any (A:Option Addr) (L:List Ro) (ca:Nat) (y x:Int) (w:World) (hl:GrAt encN 1 w A (sumsL L)) (hz:L.length ≤ 1000000) (hbig:cntL L ≤ 1000000000000) (hx:-9223372036854775808 ≤ x∧x ≤ 9223372036854775807) :
 Calls Tryz.prog 103 #[.slice A L.length ca,.agg #[.int .i64 y,.int .i64 x]] w (fun e w' => e = .returned (.int .i64 (offP L y x))∧Below w.heap.size w w'):=by
 have HAB:=Hd (below_allocs (Below.refl w.heap.size w) (.cells #[.int .i64 y,.int .i64 x] 57))
 unfold offP
 by_cases h0:y < 0 ∨ L = []
 · rw [if_pos h0]
   by_cases hy:y < 0
   · clear hl h0
     go_enter Tryz.func103,Tryz.ntmps103
     go_wp2
     go_ret
     exact ⟨rfl,HAB.out⟩
   · have hL:L.length = 0:=by rcases h0 with h | h;exact absurd h hy;rw [h];rfl
     rw [hL]
     clear hl h0 hL
     go_enter Tryz.func103,Tryz.ntmps103
     go_wp2
     go_ret
     exact ⟨rfl,HAB.out⟩
 rw [if_neg h0]
 have hLl:0 < L.length:=by
  cases L with
  | nil => exact absurd (.inr rfl) h0
  | cons a l => simp
 have hy0:¬ y < 0:=fun h => h0 (.inl h)
 have hL0:¬ (L.length:Int) = 0:=by omega
 have hL0b:((L.length:Int) == 0) = false:=beq_eq_false_iff_ne.2 hL0
 by_cases hc:(L.length:Int) ≤ y
 · rw [if_pos hc]
   obtain ⟨k,hk⟩:∃ k,L.length = k + 1:=⟨L.length - 1,by omega⟩
   have hkS:k < (sumsL L).length:=by rw [sumsL_len];omega
   obtain ⟨b,off,n,rfl,hn,hcell⟩:=hl.at_ hkS
   rw [sumsL_at (rows:=L) (k:=k) (by omega),← hk,List.take_length] at hn
   obtain rfl:=Option.some.inj hn
   have c0:=hcell 0 _ rfl
   simp only [Nat.add_zero,Nat.mul_one] at c0
   have c0':=holda HAB.out c0
   have hs:(L.length:Int) - 1 = (k:Int):=by omega
   have hwk:IntKind.i64.wrap (k:Int) = (k:Int):=IntWalk.i64_in _ (by omega)
   have hkI:(k:Int) < (L.length:Int):=by omega
   clear hl hcell hn h0 hk c0 hkS
   go_enter Tryz.func103,Tryz.ntmps103
   go_wp2
   go_ret
   exact ⟨rfl,HAB.out⟩
 · rw [if_neg hc]
   obtain ⟨k,rfl⟩:∃ k:Nat,y = k:=⟨y.toNat,by omega⟩
   have hkl:k < L.length:=by omega
   have hkS:k < (sumsL L).length:=by rw [sumsL_len];omega
   obtain ⟨b,off,n,rfl,hn,hcell⟩:=hl.at_ hkS
   rw [sumsL_at hkl] at hn
   obtain rfl:=Option.some.inj hn
   have hrow:L[k]? = some L[k]:=List.getElem?_eq_getElem hkl
   have hct:=cntL_take_succ hrow
   have hgd:L.getD k ⟨[],false⟩ = L[k]:=by rw [List.getD_eq_getElem?_getD,hrow];rfl
   rw [Int.toNat_natCast,hgd]
   have hm1:=cntL_mono L (show k + 1 ≤ L.length by omega)
   rw [List.take_length] at hm1
   have c0:=hcell 0 _ rfl
   simp only [Nat.add_zero,Nat.mul_one] at c0
   have HGR:=Hd (hl.below HAB.out)
   have c1:=holda HAB.out c0
   have HAH:=Hd (fahead_any _ L ca k _ HGR.out (by omega) hz)
   obtain ⟨p,hp⟩:∃ p,p = cntL (L.take k):=⟨_,rfl⟩
   obtain ⟨z,hzz⟩:∃ z,z = roSize L[k]:=⟨_,rfl⟩
   rw [hct,← hp,← hzz] at c1
   rw [← hp] at HAH
   rw [← hp,← hzz]
   rw [hct,← hp,← hzz] at hm1
   obtain ⟨s,hs⟩:∃ s,s = p + z:=⟨_,rfl⟩
   rw [← hs] at c1 hm1
   have hd:(s:Int) - (p:Int) = (z:Int):=by omega
   have hwz:IntKind.i64.wrap (z:Int) = (z:Int):=IntWalk.i64_in _ (by omega)
   have hyk:¬ (L.length:Int) ≤ (k:Int):=hc
   have hkI:(k:Int) < (L.length:Int):=by omega
   obtain ⟨r,hr⟩:∃ r:Nat,r = p + min x.toNat z:=⟨_,rfl⟩
   have HR:=Hd hr
   have hrI:(p:Int) + (min (max 0 x) (z:Int)) = (r:Int):=by omega
   have hwr:IntKind.i64.wrap (r:Int) = (r:Int):=IntWalk.i64_in _ (by omega)
   have hy0':¬ (k:Int) < 0:=by omega
   rw [← hr]
   clear hl h0 hcell hkS hn hrow hct hgd hs hp hzz hm1 hr c0 hc
   go_enter Tryz.func103,Tryz.ntmps103
   go_upto_region 6 with (go_at_call 137;(with_reducible refine HAH.out.mono ?_);rintro e w6 ⟨rfl,rfl⟩)
   have z0:=(at_ (hp_new (W:=w) (b:=w.heap.size) (o:=.cells #[.int .i64 (k:Int),.int .i64 x] 57) rfl) 0 _ rfl).1
   have z1:=(at_ (hp_new (W:=w) (b:=w.heap.size) (o:=.cells #[.int .i64 (k:Int),.int .i64 x] 57) rfl) 1 _ rfl).1
   clear HGR HAH
   generalize World.alloc _ _ = W at HAB c1 z0 z1 ⊢
   refine wp_region_u 12 (fun w' => Below W.heap.size W w'∧w'.cell? ⟨w.heap.size,0,none⟩ = some (.int .i64 (k:Int))∧w'.cell? ⟨w.heap.size,1,none⟩ = some (.int .i64 x)∧w'.cell? ⟨b,off + k,none⟩ = some (.int .i64 (s:Int))) (by kernel_rfl) (by kernel_rfl) ?_ ?_
   · exact ⟨(Below.refl _ _).drew,z0,z1,c1⟩
   simp only [List.take_succ_cons,List.take_zero,List.drop_succ_cons,List.drop_zero]
   repeat (
    (first
     | refine seqU_skip (by rfl) ?_
     | (refine seqU_val ?_ (by rfl) ?_ ?_;rotate_left;(focus (intro w' hS;obtain ⟨_,_,_,_⟩:=hS;go_simp;first | done | with_reducible rfl))))
    simp only [Act.put,List.setIfInBounds_toArray,List.set_cons_zero,List.set_cons_succ])
   refine seqU_nil (fun w' hS => ?_)
   have HB:=Hd (below_tail HAB.out hS.1)
   clear hS c1 z0 z1
   go_wp2
   go_ret
   exact ⟨rfl,HB.out⟩
set_option maxHeartbeats 1600000 in
theorem fplace1_any (bs bo:Nat) (A:Option Addr) (L:List Ro) (ca off i:Nat) (W:World) (hi:i < L.length) (_hz:L.length ≤ 1000000)
 (ha:W.cell? ⟨bs,0,none⟩ = some (.slice A L.length ca)) (hx:W.cell? ⟨bo,0,none⟩ = some (.int .i64 off)) (hc:GrAt encN 1 W A (sumsL L)) :
 Calls Tryz.prog 136 (#[.int .i64 i] ++ #[.pointer (some ⟨bs,0,none⟩),.pointer (some ⟨bo,0,none⟩)]) W fun e w' => e = .returned (.bool (decide (off < cntL (L.take (i + 1)))))∧∃ q,w' = W.drewN q:=by
 have hkS:i < (sumsL L).length:=by rw [sumsL_len];omega
 obtain ⟨b,o,n,rfl,hn,hcell⟩:=hc.at_ hkS
 rw [sumsL_at (rows:=L) (k:=i) (by omega)] at hn
 obtain rfl:=Option.some.inj hn
 have c0:=hcell 0 _ rfl
 simp only [Nat.add_zero,Nat.mul_one] at c0
 have hiz:(i:Int) < (L.length:Int):=by omega
 clear hc hn hcell hkS
 go_enter Tryz.func136,Tryz.ntmps136
 go_wp2
 go_region
 all_goals go_wp2
 all_goals go_ret
 all_goals exact ⟨by first | rfl | simp,1,rfl⟩
theorem firstGt_le (L:List Ro) (off:Nat):firstGt L off ≤ L.length:=by
 unfold firstGt
 have:=List.countP_le_length (p:=fun k => decide (cntL (L.take (k + 1)) ≤ off)) (l:=List.range L.length)
 rwa [List.length_range] at this
theorem info_posz:(Tryz.prog.info? 57).map (·.size) = some 2:=by kernel_rfl
theorem ret_pos {fn:Func} {p:Tmp} (hr:fn.results = #[.cell p 57]) (tmps:Array Value) (w:World) (b:Nat) (u v:Value) (hp:tmps.getD p undef = .pointer (some ⟨b,0,none⟩)) (h0:w.cell? ⟨b,0,none⟩ = some u) (h1:w.cell? ⟨b,1,none⟩ = some v) :
 (results fn tmps).run Tryz.prog w = .ok (.agg #[u,v]) w:=by
 rw [results_cell1 hr,hp]
 have:=run_loadVar_mid (P:=Tryz.prog) w b 0 57 [u,v] _ (fun j x hj => by
  rw [Nat.zero_add]
  match j,hj with
  | 0,hj => simp at hj;subst hj;exact h0
  | 1,hj => simp at hj;subst hj;exact h1) Tryz.underlying57 rfl info_posz
 simp only [asAddr,Sem.run_pure,Result.andThen_ok,this]
set_option maxHeartbeats 3200000 in
theorem fplace_any (A:Option Addr) (L:List Ro) (ca off:Nat) (w:World) (hl:GrAt encN 1 w A (sumsL L)) (h0:0 < L.length) (hz:L.length ≤ 1000000) (hbig:cntL L ≤ 1000000000000) (ho:off ≤ 1000000000000) :
 Calls Tryz.prog 102 #[.slice A L.length ca,.int .i64 off] w (fun e w' => e = .returned (.agg #[.int .i64 (plP L off).1,.int .i64 (plP L off).2])∧Below w.heap.size w w'):=by
 obtain ⟨W0,hW0⟩:∃ W0,W0 = ((w.alloc (.cells #[.slice A L.length ca] 122)).alloc (.cells #[.int .i64 off] 3)).alloc (.cells #[.int .i64 0,.int .i64 0] 57):=⟨_,rfl⟩
 have hsize:W0.heap.size = w.heap.size + 1 + 1 + 1:=by rw [hW0];simp
 have hB0:Below w.heap.size w W0:=by rw [hW0];exact below_allocs (below_allocs (below_allocs (Below.refl _ _) _) _) _
 have ca0:W0.cell? ⟨w.heap.size,0,none⟩ = some (.slice A L.length ca):=by rw [hW0];exact (at_ (hp_old (hp_old (hp_new rfl))) 0 _ rfl).1
 have cx:W0.cell? ⟨w.heap.size + 1,0,none⟩ = some (.int .i64 off):=by rw [hW0];exact (at_ (hp_old (hp_new (by simp))) 0 _ rfl).1
 have cxb:W0.heap[w.heap.size + 1]? = some (.cells #[.int .i64 off] 3 (0,0)):=by rw [hW0];exact hp_old (hp_new (by simp))
 have cp:W0.heap[w.heap.size + 1 + 1]? = some (.cells #[.int .i64 0,.int .i64 0] 57 (0,0)):=by rw [hW0];exact hp_new (by simp)
 have hl0:=hl.below hB0
 have eg:∀ args w,(callFunc 136 args).run Tryz.prog w = .ok (.enter 136 args) w:=enters_of Tryz.func136 (by kernel_rfl) rfl
 have hS:=Any.sort_Search Tryz.search 136 #[.pointer (some ⟨w.heap.size,0,none⟩),.pointer (some ⟨w.heap.size + 1,0,none⟩)] L.length (fun i => decide (off < cntL (L.take (i + 1)))) W0 eg (by omega)
  (fun m os i hi => (fplace1_any w.heap.size (w.heap.size + 1) A L ca off i _ hi hz (cell_grown (by simp [hsize];omega) ca0 m os) (cell_grown (by simp [hsize]) cx m os) (hl0.below (below_grown_sl _ W0 m os (Nat.le_refl _)))).mono
    fun _ _ ⟨he,q,hq⟩ => ⟨he,q,#[],by rw [hq,grow_empty]⟩) (fun a b hab hb h => by have:=cntL_mono L (show a + 1 ≤ b + 1 by omega);simp only [decide_eq_true_eq] at h ⊢;omega)
 have hcnt:(List.range L.length).countP (fun i => !decide (off < cntL (L.take (i + 1)))) = firstGt L off:=by
  unfold firstGt
  congr 1
  funext k
  by_cases h:off < cntL (L.take (k + 1))
  · simp [h,Nat.not_le.2 h]
  · simp [h,Nat.not_lt.1 h]
 rw [hcnt] at hS
 change Calls Tryz.prog 135 _ _ _ at hS
 have HS:=Hd hS
 have HAH:Hid (∀ y w',y ≤ L.length→Below w.heap.size w w'→Calls Tryz.prog 137 #[.slice A L.length ca,.int .i64 y] w' (fun e w'' => e = .returned (.int .i64 (cntL (L.take y)))∧w' = w'')):=Hd (fun y w' hy hb => fahead_any A L ca y w' (hl.below hb) hy hz)
 have HGR:=Hd hl0
 have HB0:=Hd hB0
 have HSZ:=Hd hsize
 have CA:=Hd ca0
 have CX:=Hd cx
 have HCX:=Hd cxb
 have CP:=Hd cp
 have HL0:Hid (0 < L.length∧L ≠ []):=Hd ⟨h0,fun h => by rw [h] at h0;simp at h0⟩
 have hmax:max (0:Int) (off:Int) = (off:Int):=by omega
 have hL0:¬ (L.length:Int) = 0:=by omega
 have hL0b:((L.length:Int) == 0) = false:=beq_eq_false_iff_ne.2 hL0
 have hfl:=firstGt_le L off
 have hmf:∀ (fn:Fn) (first cap:Array Value) (w:World),(Instr.makeFunc fn first cap).run Tryz.prog w = .ok (.func fn first cap) w:=fun _ _ _ _ => rfl
 unfold plP
 rw [if_neg HL0.out.2]
 obtain ⟨r,hr⟩:∃ r,r = firstGt L off:=⟨_,rfl⟩
 rw [← hr] at HS hfl ⊢
 have HR:=Hd hr
 have HW0:=Hd hW0
 clear hl hl0 ca0 cx cxb cp hS hcnt eg hr hB0 hsize hW0 h0
 by_cases hlt:r < L.length
 · rw [if_pos hlt]
   have hne:((r:Int) == (L.length:Int)) = false:=beq_eq_false_iff_ne.2 (by omega)
   have hrI:(r:Int) < (L.length:Int):=by omega
   obtain ⟨p,hp⟩:∃ p,p = cntL (L.take r):=⟨_,rfl⟩
   have hpo:p ≤ off:=by
    have h2:=HR.out
    by_cases hr0:r = 0
    · rw [hp,hr0];simp [cntL]
    · have:=(firstGt_spec L off (k:=r - 1) (by omega)).2 (by rw [← h2];omega)
      rw [show r - 1 + 1 = r by omega] at this
      rw [hp];exact this
   have hd:(off:Int) - (p:Int) = ((off - p:Nat):Int):=by omega
   have hwd:IntKind.i64.wrap ((off - p:Nat):Int) = ((off - p:Nat):Int):=IntWalk.i64_in _ (by omega)
   have HAH2:=Hd (fun w' hb => HAH.out r w' (by omega) hb)
   rw [← hp] at HAH2 ⊢
   clear hp
   go_enter Tryz.func102,Tryz.ntmps102
   go_upto_region 8 with (go_at_call 135;rw [← HW0.out];refine HS.out.mono ?_;rintro e w' ⟨rfl,q,os,rfl⟩;have k0:=cell_grown (by simp [HSZ.out];try omega) CA.out q os;have k1:=cell_grown (by simp [HSZ.out];try omega) CX.out q os;have HB1:=Hd (below_grown_sl W0.heap.size W0 q os (Nat.le_refl _));have HP1:=Hd ((HB1.out.block _ (lt_of_heap CP.out)).trans CP.out);generalize Go.Sort.grow _ _ = W1 at k0 k1 HB1 HP1 ⊢)
   refine wp_region_u 6 (fun w' => Below W1.heap.size W1 w'∧w'.cell? ⟨w.heap.size,0,none⟩ = some (.slice A L.length ca)∧w'.cell? ⟨w.heap.size + 1,0,none⟩ = some (.int .i64 (off:Int))) (by kernel_rfl) (by kernel_rfl) ?_ ?_
   · exact ⟨(Below.refl _ _).drew,k0,k1⟩
   simp only [List.take_succ_cons,List.take_zero,List.drop_succ_cons,List.drop_zero]
   repeat (
    (first
     | refine seqU_skip (by rfl) ?_
     | ((refine seqU_call 137 #[.slice A L.length ca,.int .i64 (r:Int)] (.int .i64 (p:Int)) (by rfl) ?_ (fun w' hS => (HAH2.out w' (below_tail HB0.out (below_tail HB1.out hS.1))).mono fun e w2 ⟨he,hw⟩ => ⟨he,hw ▸ hS⟩) ?_;(focus (intro w2;go_simp;done))))
     | (refine seqU_val ?_ (by rfl) ?_ ?_;rotate_left;(focus (intro w' hS;obtain ⟨_,_,_⟩:=hS;go_simp;first | done | with_reducible rfl))))
    simp only [Act.put,List.setIfInBounds_toArray,List.set_cons_zero,List.set_cons_succ])
   refine seqU_nil (fun w' hS => ?_)
   have HB2:=Hd (below_tail HB0.out (below_tail HB1.out hS.1))
   have HP2:=Hd ((hS.1.block _ (lt_of_heap HP1.out)).trans HP1.out)
   obtain ⟨y0,y0f⟩:=at_ HP2.out 0 _ rfl
   obtain ⟨y1,y1f⟩:=at_ HP2.out 1 _ rfl
   clear hS k0 k1
   go_wp2
   have HB3:=below_set (below_set HB2.out (show w.heap.size ≤ w.heap.size + 1 + 1 by omega) (o:=0) (.int .i64 (r:Int))) (show w.heap.size ≤ w.heap.size + 1 + 1 by omega) (o:=1) (.int .i64 ((off - p:Nat):Int))
   have hset:=set_two (u':=.int .i64 (r:Int)) (v':=.int .i64 ((off - p:Nat):Int)) ⟨y0,y0f⟩ ⟨y1,y1f⟩
   exact bodyPost_ret (ret_pos rfl _ _ (w.heap.size + 1 + 1) _ _ rfl hset.1.1 hset.2.1) rfl ⟨rfl,HB3⟩
 · rw [if_neg hlt]
   have hre:r = L.length:=by omega
   have heq:((r:Int) == (L.length:Int)) = true:=by simp [hre]
   have hreI:(r:Int) = (L.length:Int):=by omega
   obtain ⟨k,hk⟩:∃ k,k = L.length - 1:=⟨_,rfl⟩
   have hkL:k < L.length:=by have:=HL0.out.1;omega
   have hkS:k < (sumsL L).length:=by rw [sumsL_len];exact hkL
   obtain ⟨b,o,n,hA,hn,hcell⟩:=HGR.out.at_ hkS
   rw [sumsL_at (rows:=L) (k:=k) hkL,show k + 1 = L.length by omega,List.take_length] at hn
   obtain rfl:=Option.some.inj hn
   have c0:=hcell 0 _ rfl
   simp only [Nat.add_zero,Nat.mul_one] at c0
   have hs:(r:Int) - 1 = (k:Int):=by omega
   have hwk:IntKind.i64.wrap (k:Int) = (k:Int):=IntWalk.i64_in _ (by omega)
   have hkI:(k:Int) < (L.length:Int):=by omega
   obtain ⟨p,hp⟩:∃ p,p = cntL (L.take k):=⟨_,rfl⟩
   have hpm:=cntL_mono L (show k ≤ L.length by omega)
   rw [List.take_length,← hp] at hpm
   obtain ⟨t,ht⟩:∃ t,t = min off (cntL L):=⟨_,rfl⟩
   have hpo:p ≤ t:=by
    have h2:=(firstGt_spec L off hkL).2 (by rw [← HR.out];omega)
    rw [show k + 1 = L.length by omega,List.take_length] at h2
    omega
   have htI:min (off:Int) (cntL L:Int) = (t:Int):=by omega
   have hto:t ≤ 1000000000000:=by omega
   have hd:(t:Int) - (p:Int) = ((t - p:Nat):Int):=by omega
   have hwd:IntKind.i64.wrap ((t - p:Nat):Int) = ((t - p:Nat):Int):=IntWalk.i64_in _ (by omega)
   have HAH2:=Hd (fun w' hb => HAH.out k w' (by omega) hb)
   rw [← hp] at HAH2
   rw [← hk,← hp,← ht]
   subst hA
   have HRE:=Hd hreI
   clear hp hkS hn hcell hk hkL hre hreI hpm hpo ht hto
   go_enter Tryz.func102,Tryz.ntmps102
   go_upto_region 7 with (go_at_call 135;rw [← HW0.out];refine HS.out.mono ?_;rintro e w' ⟨rfl,q,os,rfl⟩;have k0:=cell_grown (by simp [HSZ.out];try omega) CA.out q os;have k1:=cell_grown (by simp [HSZ.out];try omega) CX.out q os;have HB1:=Hd (below_grown_sl W0.heap.size W0 q os (Nat.le_refl _));have HP1:=Hd ((HB1.out.block _ (lt_of_heap CP.out)).trans CP.out);generalize Go.Sort.grow _ _ = W1 at k0 k1 HB1 HP1 ⊢)
   have c1:=holda HB1.out c0
   refine wp_region_u 6 (fun w' => Below W1.heap.size W1 w'∧w'.cell? ⟨w.heap.size,0,none⟩ = some (.slice (some ⟨b,o,none⟩) L.length ca)∧w'.cell? ⟨w.heap.size + 1,0,none⟩ = some (.int .i64 (off:Int))∧w'.cell? ⟨b,o + k,none⟩ = some (.int .i64 (cntL L:Int))) (by kernel_rfl) (by kernel_rfl) ?_ ?_
   · exact ⟨(Below.refl _ _).drew,k0,k1,c1⟩
   simp only [List.take_succ_cons,List.take_zero,List.drop_succ_cons,List.drop_zero]
   repeat (
    (first
     | refine seqU_skip (by rfl) ?_
     | (refine seqU_val ?_ (by rfl) ?_ ?_;rotate_left;(focus (intro w' hS;obtain ⟨_,_,_,_⟩:=hS;go_simp;first | done | with_reducible rfl))))
    simp only [Act.put,List.setIfInBounds_toArray,List.set_cons_zero,List.set_cons_succ])
   refine seqU_nil (fun w' hS => ?_)
   have HX1:=Hd ((HB1.out.block _ (lt_of_heap HCX.out)).trans HCX.out)
   have HX2:=Hd ((hS.1.block _ (lt_of_heap HX1.out)).trans HX1.out)
   have HP2:=Hd ((hS.1.block _ (lt_of_heap HP1.out)).trans HP1.out)
   obtain ⟨k2,k2f⟩:=at_ HX2.out 0 _ rfl
   have HB2:=Hd (below_set (below_tail HB0.out (below_tail HB1.out hS.1)) (show w.heap.size ≤ w.heap.size + 1 by omega) (o:=0) (.int .i64 (t:Int)))
   have HK3:=Hd (whole_set (cs:=[.int .i64 (off:Int)]) HX2.out 0 (.int .i64 (t:Int)) (cs':=[.int .i64 (t:Int)]) rfl)
   have HS3:=Hd ((Mod.refl [w.heap.size + 1] w').setCell (a:=⟨w.heap.size + 1,0,none⟩) (.inl (by simp)) (.int .i64 (t:Int)) |>.cell (by simp) hS.2.1)
   have HP3:=Hd ((heap_other (i:=0) (v:=.int .i64 (t:Int)) (show w.heap.size + 1 + 1 ≠ w.heap.size + 1 by omega)).trans HP2.out)
   clear hS k0 k1 c1
   go_upto_region 8 with fail
   clear k2 k2f
   generalize World.setCell _ _ _ = W4 at HB2 HK3 HS3 HP3 ⊢
   have k0:=HS3.out
   have k1:=(at_ HK3.out 0 _ rfl).1
   refine wp_region_u 6 (fun w' => Below W4.heap.size W4 w'∧w'.cell? ⟨w.heap.size,0,none⟩ = some (.slice (some ⟨b,o,none⟩) L.length ca)∧w'.cell? ⟨w.heap.size + 1,0,none⟩ = some (.int .i64 (t:Int))) (by kernel_rfl) (by kernel_rfl) ?_ ?_
   · exact ⟨(Below.refl _ _).drew,k0,k1⟩
   simp only [List.take_succ_cons,List.take_zero,List.drop_succ_cons,List.drop_zero]
   repeat (
    (first
     | refine seqU_skip (by rfl) ?_
     | ((refine seqU_call 137 #[.slice (some ⟨b,o,none⟩) L.length ca,.int .i64 (k:Int)] (.int .i64 (p:Int)) (by rfl) ?_ (fun w' hS => (HAH2.out w' (below_tail HB2.out hS.1)).mono fun e w2 ⟨he,hw⟩ => ⟨he,hw ▸ hS⟩) ?_;(focus (intro w2;go_simp;done))))
     | (refine seqU_val ?_ (by rfl) ?_ ?_;rotate_left;(focus (intro w' hS;obtain ⟨_,_,_⟩:=hS;go_simp;first | done | with_reducible rfl))))
    simp only [Act.put,List.setIfInBounds_toArray,List.set_cons_zero,List.set_cons_succ])
   refine seqU_nil (fun w' hS => ?_)
   have HB5:=Hd (below_tail HB2.out hS.1)
   have HP5:=Hd ((hS.1.block _ (lt_of_heap HP3.out)).trans HP3.out)
   obtain ⟨y0,y0f⟩:=at_ HP5.out 0 _ rfl
   obtain ⟨y1,y1f⟩:=at_ HP5.out 1 _ rfl
   clear hS k0 k1
   go_wp2
   have HB6:=below_set (below_set HB5.out (show w.heap.size ≤ w.heap.size + 1 + 1 by omega) (o:=0) (.int .i64 (k:Int))) (show w.heap.size ≤ w.heap.size + 1 + 1 by omega) (o:=1) (.int .i64 ((t - p:Nat):Int))
   have hset:=set_two (u':=.int .i64 (k:Int)) (v':=.int .i64 ((t - p:Nat):Int)) ⟨y0,y0f⟩ ⟨y1,y1f⟩
   exact bodyPost_ret (ret_pos rfl _ _ (w.heap.size + 1 + 1) _ _ rfl hset.1.1 hset.2.1) rfl ⟨rfl,HB6⟩
end Go.Proofs.YtffdblmdelgkaaaGreat
