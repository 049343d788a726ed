/- Joined by a tool of this claim out of smaller texts. Conditions: as stated. -/
import Derived.Test.YtaefcahblmopfaaGreatDoorDp29
set_option linter.unusedVariables false
set_option linter.unusedSimpArgs false
set_option maxRecDepth 100000
open Go.Lib renaming hid → Hd
namespace Go.Proofs.YtaefcahblmopfaaGreatDoor
open Go.RowKit
theorem flag_ands:∀ f:Fin 1024,∀ k:Fin 10,(decide (bits .and .i64 (f.val:Int) (flagsT.getD k.val (0,0)).2 = 0)) = !(hasF (f.val:Int) (flagsT.getD k.val (0,0)).2):=by decide +kernel
def flagV:List Value:=[.int .i64 1,.int .i64 1,.int .i64 2,.int .i64 2,.int .i64 3,.int .i64 4,.int .i64 4,.int .i64 8,.int .i64 5,.int .i64 16,.int .i64 7,.int .i64 32,.int .i64 8,.int .i64 64,.int .i64 9,.int .i64 128,.int .i64 21,.int .i64 256,.int .i64 53,.int .i64 512]
theorem flagV_at:∀ k:Fin 10,flagV[2 * k.val]? = some (.int .i64 (((flagsT.getD k.val (0,0)).1:Nat):Int))∧flagV[2 * k.val + 1]? = some (.int .i64 (flagsT.getD k.val (0,0)).2):=fun k => by
 have:k.val = 0 ∨ k.val = 1 ∨ k.val = 2 ∨ k.val = 3 ∨ k.val = 4 ∨ k.val = 5 ∨ k.val = 6 ∨ k.val = 7 ∨ k.val = 8 ∨ k.val = 9:=by omega
 rcases this with h | h | h | h | h | h | h | h | h | h <;> (rw [h];exact ⟨rfl,rfl⟩)
def flagK (f:Int) (k:Nat):List Nat:=0 :: (((flagsT.take k).filter (fun x => hasF f x.2)).map (·.1))
theorem flagK_step (f:Int) (k:Nat) (hk:k < 10):flagK f (k + 1) = if hasF f (flagsT.getD k (0,0)).2 then flagK f k ++ [(flagsT.getD k (0,0)).1] else flagK f k:=by
 unfold flagK
 have hl:k < flagsT.length:=hk
 rw [List.take_succ_eq_append_getElem hl,List.filter_append,List.map_append]
 have e:flagsT.getD k (0,0) = flagsT[k]:=by rw [List.getD_eq_getElem?_getD,List.getElem?_eq_getElem hl];rfl
 rw [e]
 cases h:hasF f flagsT[k].2 with
 | true => rw [if_pos rfl];simp [List.filter,h]
 | false => rw [if_neg (by decide)];simp [List.filter,h]
theorem flagK_len (f:Int) (k:Nat) (hk:k ≤ 10):0 < (flagK f k).length∧(flagK f k).length ≤ 11:=by
 unfold flagK
 have:=List.length_filter_le (fun x:Nat × Int => hasF f x.2) (flagsT.take k)
 have h2:(flagsT.take k).length ≤ 10:=by rw [List.length_take];exact Nat.le_trans (Nat.min_le_right _ _) (by decide)
 simp only [List.length_cons,List.length_map]
 omega
theorem ints_append (a b:List Nat):ints (a ++ b) = ints a ++ ints b:=by unfold ints;rw [List.map_append]
theorem ints_len (a:List Nat):(ints a).length = a.length:=by unfold ints;rw [List.length_map]
theorem flat_encZ (xs:List Int):flat encZ xs = xs.map (Value.int .i64):=by
 induction xs with
 | nil => rfl
 | cons x xs ih => show encZ x ++ flat encZ xs = _;rw [ih];rfl
theorem gr_news {w:World} {A:Option Addr} {xs:List Int} (h:GrAt encZ 1 w A xs) (h0:0 < xs.length):∃ ad,A = some ad∧∀ j u,(flat encZ xs)[j]? = some u→w.cell? (ad.add j) = some u:=by
 obtain ⟨g,off,rfl,hx⟩:=h h0
 refine ⟨⟨g,off,none⟩,rfl,fun j u hj => ?_⟩
 rw [flat_encZ,List.getElem?_map] at hj
 cases hxj:xs[j]? with
 | none => rw [hxj] at hj;cases hj
 | some x =>
   rw [hxj] at hj
   have:=hx j x hxj 0 u hj
   rw [Nat.mul_one,Nat.add_zero] at this
   rw [add_lit']
   exact this
section
variable {w:World}
set_option maxHeartbeats 6400000 in
theorem atext_any (a:Atr) (ha:RightA a) (ht:TabP w) :
 Calls Tryz.prog 233 #[.agg #[.int .i64 a.fk,.int .i64 a.fn,.int .i64 a.bk,.int .i64 a.bn,.int .i64 a.fl]] w fun e w' => e = .returned (.string (strOfNums (joinI (codesA a))))∧Below w.heap.size w w':=by
 obtain ⟨j0,hj,gz0,gz1,gz2⟩:=info_parts info_int
 have HR:=Hd (fun w' => aRight_any a.fk a.fn a.bk a.bn a.fl ha w')
 obtain ⟨hc1,hc2,hf0,hf1,-⟩:=ha.parts
 have HP1:Hid (∀ w',Calls Tryz.prog 316 #[.agg #[.int .i64 a.fk,.int .i64 a.fn],.int .i64 38] w' (fun e w2 => ∃ v,e = .returned v∧∃ (A:Option Addr) (c:Nat),v = .slice A (paintC a.fk a.fn 38).length c∧GrAt encZ 1 w2 A (ints (paintC a.fk a.fn 38))∧Below w'.heap.size w' w2)):=Hd (fun w' => (apaint_any a.fk a.fn 38 (by decide) hc1 w').mono (fun e w2 ⟨A,c,h1,h2⟩ => ⟨_,h1,A,c,rfl,h2⟩))
 have HP2:Hid (∀ w',Calls Tryz.prog 316 #[.agg #[.int .i64 a.bk,.int .i64 a.bn],.int .i64 48] w' (fun e w2 => ∃ v,e = .returned v∧∃ (A:Option Addr) (c:Nat),v = .slice A (paintC a.bk a.bn 48).length c∧GrAt encZ 1 w2 A (ints (paintC a.bk a.bn 48))∧Below w'.heap.size w' w2)):=Hd (fun w' => (apaint_any a.bk a.bn 48 (by decide) hc2 w').mono (fun e w2 ⟨A,c,h1,h2⟩ => ⟨_,h1,A,c,rfl,h2⟩))
 have HQ1:=Hd (paintC_ok (m:=38) (by decide) hc1).1
 have HQ2:=Hd (paintC_ok (m:=48) (by decide) hc2).1
 have HAnd:Hid (∀ k:Nat,k < 10→(decide (bits .and .i64 a.fl (flagsT.getD k (0,0)).2 = 0)) = !(hasF a.fl (flagsT.getD k (0,0)).2)):=Hd (fun k hk => by
  have:=flag_ands ⟨a.fl.toNat,by omega⟩ ⟨k,hk⟩
  rwa [show (((⟨a.fl.toNat,by omega⟩:Fin 1024).val:Nat):Int) = a.fl from by show ((a.fl.toNat:Nat):Int) = a.fl;omega] at this)
 have hok:=codesA_ok ha
 have HT:=Hd ht
 have hcodes:codesA a = flagK a.fl 10 ++ (paintC a.fk a.fn 38 ++ paintC a.bk a.bn 48):=rfl
 have HOK:=Hd hok
 have HCd:=Hd hcodes
 clear ht hok hcodes hc1 hc2 hf0 hf1 ha
 obtain ⟨W0,hW0⟩:∃ W0,w.alloc (.cells #[.int .i64 a.fk,.int .i64 a.fn,.int .i64 a.bk,.int .i64 a.bn,.int .i64 a.fl] 63) = W0:=⟨_,rfl⟩
 have HB0:Hid (Below w.heap.size w W0):=Hd (by rw [← hW0];exact below_allocs (Below.refl _ _) _)
 have HN0:Hid (W0.heap[w.heap.size]? = some (.cells #[.int .i64 a.fk,.int .i64 a.fn,.int .i64 a.bk,.int .i64 a.bn,.int .i64 a.fl] 63 (0,0))):=Hd (by rw [← hW0];exact hp_new rfl)
 have d0:W0.cell? ⟨w.heap.size,0,none⟩ = some (.int .i64 a.fk):=(at_ HN0.out 0 _ rfl).1
 have d1:W0.cell? ⟨w.heap.size,1,none⟩ = some (.int .i64 a.fn):=(at_ HN0.out 1 _ rfl).1
 have d2:W0.cell? ⟨w.heap.size,2,none⟩ = some (.int .i64 a.bk):=(at_ HN0.out 2 _ rfl).1
 have d3:W0.cell? ⟨w.heap.size,3,none⟩ = some (.int .i64 a.bn):=(at_ HN0.out 3 _ rfl).1
 have d4:W0.cell? ⟨w.heap.size,4,none⟩ = some (.int .i64 a.fl):=(at_ HN0.out 4 _ rfl).1
 obtain ⟨sR,hsR⟩:∃ sR,strOfNums (joinI (codesA a)) = sR:=⟨_,rfl⟩
 rw [hsR]
 have HSR:=Hd hsR
 obtain ⟨fk,fn,bk,bn,fl⟩:=a
 simp only at HR HP1 HP2 HQ1 HQ2 HAnd HOK HCd HSR HN0 d0 d1 d2 d3 d4 hW0 ⊢
 clear hsR
 go_enter Tryz.func233,Tryz.ntmps233
 go_wp2_with (go_at_call 93;(with_reducible refine (HR.out _).mono ?_);rintro e w1 ⟨rfl,hb⟩;have HB1:=Hd hb;clear hb d0 d1 d2 d3 d4)
 rename World => W1
 clear hW0
 obtain ⟨W3,hW3⟩:∃ W3,(W1.alloc (.cells #[.int .i64 0] 3)).alloc (.cells flagV.toArray 263) = W3:=⟨_,rfl⟩
 have HTB:Hid (W3.heap[W1.heap.size + 1]? = some (.cells flagV.toArray 263 (0,0))):=Hd (by rw [← hW3];exact hp_new (by simp))
 have HRW:Hid (W3.heap[W1.heap.size]? = some (.cells #[.int .i64 0] 3 (0,0))):=Hd (by rw [← hW3];exact hp_old (hp_new rfl))
 have HB3:Hid (Below W1.heap.size W1 W3):=Hd (by rw [← hW3];exact below_allocs (below_allocs (Below.refl _ _) _) _)
 rw [show (W1.alloc (.cells #[.int .i64 0] 3)).alloc (.cells #[.int .i64 1,.int .i64 1,.int .i64 2,.int .i64 2,.int .i64 3,.int .i64 4,.int .i64 4,.int .i64 8,.int .i64 5,.int .i64 16,.int .i64 7,.int .i64 32,.int .i64 8,.int .i64 64,.int .i64 9,.int .i64 128,.int .i64 21,.int .i64 256,.int .i64 53,.int .i64 512] 263) = W3 from hW3]
 clear hW3
 have HBX:Hid (∀ wr,Below W1.heap.size W1 wr→wr.heap[w.heap.size]? = some (.cells #[.int .i64 fk,.int .i64 fn,.int .i64 bk,.int .i64 bn,.int .i64 fl] 63 (0,0))):=Hd (fun wr hb => by
  have h1:=(HB1.out.block _ (lt_of_heap HN0.out)).trans HN0.out
  exact (hb.block _ (lt_of_heap h1)).trans h1)
 have HBW:=Hd (below_tail HB0.out HB1.out)
 clear HB0 HB1 HN0 HR
 obtain ⟨rb,hrb⟩:∃ rb,W1.heap.size = rb:=⟨_,rfl⟩
 obtain ⟨tb,htb⟩:∃ tb,rb + 1 = tb:=⟨_,rfl⟩
 rw [hrb] at HTB HRW HB3 HBX ⊢
 rw [htb] at HTB ⊢
 have HRB:=Hd hrb
 have HTB':=Hd htb
 clear hrb htb
 have hrow0:W3.ownsRow rb 3 1 (.slice (some ⟨rb,0,none⟩) 1 1) 1 [.int .i64 0]:=⟨rfl,.inr ⟨rb,1,#[.int .i64 0],rfl,Nat.le_refl _,HRW.out,Nat.le_refl _,by decide,by decide,rfl⟩⟩
 have HRow:=Hd hrow0
 clear hrow0
 go_loopw [3,5,22] (fun s3 _ s22 wr => ∃ k:Nat,s22 = .int .i64 k∧k ≤ 10∧wr.ownsRow rb 3 1 s3 (flagK fl k).length (flat encZ (ints (flagK fl k)))∧(∀ g,s3.ownBlock = some g→g ≠ tb)∧wr.heap[tb]? = some (.cells flagV.toArray 263 (0,0))∧Below rb W1 wr) (fun _ _ s22 _ => 10 - (intOf s22).toNat)
 case atStart => exact ⟨0,rfl,by decide,HRow.out,fun g hg => by obtain rfl:rb = g:=by simpa [Value.ownBlock] using hg
                                                                have:=HTB'.out;omega,HTB.out,HB3.out⟩
 case round =>
  obtain ⟨k,rfl,hk,hO,hne,htab,hB⟩:=hrel
  obtain ⟨bx,rfl⟩:∃ bx:Value × Unit,u3 = bx.1:=⟨(u3,()),rfl⟩
  have HO:=Hd hO
  have HNe:=Hd hne
  have HTab:=Hd htab
  have HB:=Hd hB
  have hwk:IntKind.i64.wrap ((k:Int) + 1) = (k:Int) + 1:=IntWalk.i64_in _ (by omega)
  clear hO hne htab hB
  by_cases hlt:k < 10
  · have hltI:(k:Int) < 10:=by omega
    obtain ⟨fv0,fv1⟩:=flagV_at ⟨k,hlt⟩
    have hand:=HAnd.out k hlt
    have hstep:=flagK_step fl k hlt
    have hlen:=flagK_len fl k (by omega)
    simp only at fv0 fv1
    obtain ⟨cd,hcd⟩:∃ cd,(flagsT.getD k (0,0)).1 = cd:=⟨_,rfl⟩
    obtain ⟨fg,hfg⟩:∃ fg,(flagsT.getD k (0,0)).2 = fg:=⟨_,rfl⟩
    rw [hcd] at fv0 hstep
    rw [hfg] at fv1 hand hstep
    have hc0:wr.cell? ⟨tb,k * 2,none⟩ = some (.int .i64 (cd:Nat)):=(at_ HTab.out (k * 2) _ (by rw [List.getElem?_toArray,Nat.mul_comm];exact fv0)).1
    have hc1:wr.cell? ⟨tb,k * 2 + 1,none⟩ = some (.int .i64 fg):=(at_ HTab.out (k * 2 + 1) _ (by rw [List.getElem?_toArray,Nat.mul_comm];exact fv1)).1
    have hx4:wr.cell? ⟨w.heap.size,4,none⟩ = some (.int .i64 fl):=(at_ (HBX.out wr HB.out) 4 _ rfl).1
    have HStep:=Hd hstep
    have HLen:=Hd hlen
    clear fv0 fv1 hcd hfg hstep hlen
    obtain ⟨q,hq⟩:∃ q,bits .and .i64 fl fg = q:=⟨_,rfl⟩
    rw [hq] at hand
    have HSZ:Hid (rb ≤ wr.heap.size):=Hd (by have:=HB.out.size;have:=HB3.out.size;have:=lt_of_heap HTab.out;have:=HTB'.out;omega)
    go_upto_region 7 with fail
    have hb5:=below_allocs (Below.refl wr.heap.size wr) (.cells #[.int .i64 (cd:Nat),.int .i64 fg] 263)
    have hn5:=hp_new (W:=wr) (o:=.cells #[.int .i64 (cd:Nat),.int .i64 fg] 263) rfl
    have e0:=(at_ hn5 0 (.int .i64 (cd:Nat)) rfl).1
    have e1:=(at_ hn5 1 (.int .i64 fg) rfl).1
    have x4:=holda hb5 hx4
    have HO5:=Hd (owns_mod HO.out (Mod.of_below (X:=[]) hb5) (fun _ _ h => by cases h))
    have HTab5:=Hd ((hb5.block _ (lt_of_heap HTab.out)).trans HTab.out)
    have HB5:Hid (Below rb W1 (wr.alloc (.cells #[.int .i64 (cd:Nat),.int .i64 fg] 263))):=Hd (HB.out.alloc HSZ.out _)
    have HSZ5:Hid (rb ≤ (wr.alloc (.cells #[.int .i64 (cd:Nat),.int .i64 fg] 263)).heap.size):=Hd (Nat.le_trans HSZ.out hb5.size)
    have HTL5:Hid (tb < (wr.alloc (.cells #[.int .i64 (cd:Nat),.int .i64 fg] 263)).heap.size):=Hd (lt_of_heap HTab5.out)
    generalize wr.alloc (.cells #[.int .i64 (cd:Nat),.int .i64 fg] 263) = W5 at e0 e1 x4 HO5 HTab5 HB5 HSZ5 HTL5 ⊢
    generalize wr.heap.size = nb at e0 e1 ⊢
    clear hb5 hn5 hc0 hc1 hx4
    by_cases hq0:q = 0
    · have hq1:(q == 0) = true:=by simp [hq0]
      rw [show decide (q = 0) = true from decide_eq_true hq0] at hand
      have hstep:=HStep.out
      rw [if_neg (by cases h:hasF fl fg;decide;rw [h] at hand;cases hand)] at hstep
      have HS2:=Hd hstep
      subst hq0
      clear hand hstep
      go_wp2_with fail
      go_roundw
      case rel => exact ⟨k + 1,by go_num,by omega,by rw [HS2.out];exact HO5.out,HNe.out,HTab5.out,HB5.out⟩
      case measure => simp [intOf];omega
    · have hq1:(q == 0) = false:=beq_eq_false_iff_ne.2 hq0
      have hq2:(q != 0) = true:=by simp [hq0]
      rw [show decide (q = 0) = false from decide_eq_false hq0] at hand
      have hstep:=HStep.out
      rw [if_pos (by cases h:hasF fl fg;rw [h] at hand;cases hand;rfl)] at hstep
      have HS2:=Hd hstep
      clear hand hstep
      go_upto_region 8 with fail
      clear hq hq0 hq1 hq2
      refine wp_region_lit ?_
      refine wpList_valG (bx.1) (by rfl) (by rfl) ?_
      simp only [Act.put,List.setIfInBounds_toArray,List.set_cons_zero,List.set_cons_succ]
      refine wpList_valG (.pointer (some ⟨nb,0,none⟩)) (by rfl) (by rfl) ?_
      simp only [Act.put,List.setIfInBounds_toArray,List.set_cons_zero,List.set_cons_succ]
      refine wpList_valG (.int .i64 (cd:Nat)) (by rfl) (by go_simp) ?_
      simp only [Act.put,List.setIfInBounds_toArray,List.set_cons_zero,List.set_cons_succ]
      have HO6:=Hd (owns_mod HO5.out (Mod.of_below (X:=[]) (below_allocs (Below.refl W5.heap.size W5) (.cells #[.int .i64 (cd:Nat)] 3))) (fun _ _ h => by cases h))
      have HTab6:=Hd (((below_allocs (Below.refl W5.heap.size W5) (.cells #[.int .i64 (cd:Nat)] 3)).block _ (lt_of_heap HTab5.out)).trans HTab5.out)
      have HB6:=Hd (HB5.out.alloc HSZ5.out (.cells #[.int .i64 (cd:Nat)] 3))
      refine wpList_actG (.slice (some ⟨W5.heap.size,0,none⟩) 1 1) (W5.alloc (.cells #[.int .i64 (cd:Nat)] 3)) (by rfl) (by go_simp) ?_
      simp only [Act.put,List.setIfInBounds_toArray,List.set_cons_zero,List.set_cons_succ]
      refine wpList_append_g (o:=⟨some 36,_,_,_,_,_⟩) rfl (.tmp 32) (.tmp 35) 241 rfl rb 3 j0 _ 1 8 Tryz.underlying241 hj gz0 gz1 gz2 rfl (by decide) bx.1 (flagK fl k).length (flat encZ (ints (flagK fl k))) rfl HO6.out ⟨W5.heap.size,0,none⟩ 1 1 [.int .i64 (cd:Nat)] rfl rfl (fun j u hj => by rw [add_lit',Nat.zero_add];exact (at_ (hp_new rfl) j u (by simpa using hj)).1) (encZ_one _) (by have:=HLen.out.2;simp only [maxLen];omega) (by have:=HLen.out.2;omega) (by have:=HSZ5.out;simp at *;omega) ?_
      intro v' w7 ho hg hv'
      have HO7:Hid (w7.ownsRow rb 3 1 v' (flagK fl (k + 1)).length (flat encZ (ints (flagK fl (k + 1))))):=Hd (by rw [HS2.out,ints_append,flat_append,List.length_append];exact ho)
      have HB7:=Hd (HB6.out.grown hg (by have:=HSZ5.out;rw [World.size_alloc];omega) (fun b hb => (World.ownsRow.lt (show World.ownsRow _ _ _ _ _ _ _ from HO6.out) b hb).1))
      have HTab7:=Hd ((hg.block tb (lt_of_heap HTab6.out) (fun e => HNe.out _ e.symm rfl)).trans HTab6.out)
      have HNe7:Hid (∀ g,v'.ownBlock = some g→g ≠ tb):=Hd (fun g hg2 => by
       rcases hv' g hg2 with h | h
       · exact HNe.out g h
       · have:=HTL5.out;rw [World.size_alloc] at h;omega)
      simp only [Act.put,List.setIfInBounds_toArray,List.set_cons_zero,List.set_cons_succ]
      clear ho hg hv'
      go_wp2_with fail
      go_roundw
      case rel => exact ⟨k + 1,by go_num,by omega,HO7.out,HNe7.out,HTab7.out,HB7.out⟩
      case measure => simp [intOf];omega
  · have hltI:¬ (k:Int) < 10:=by omega
    obtain rfl:k = 10:=by omega
    have hx0:wr.cell? ⟨w.heap.size,0,none⟩ = some (.int .i64 fk):=(at_ (HBX.out wr HB.out) 0 _ rfl).1
    have hx1:wr.cell? ⟨w.heap.size,1,none⟩ = some (.int .i64 fn):=(at_ (HBX.out wr HB.out) 1 _ rfl).1
    have hlen:=flagK_len fl 10 (by decide)
    obtain ⟨FK,hFK⟩:∃ FK,flagK fl 10 = FK:=⟨_,rfl⟩
    obtain ⟨P1,hP1⟩:∃ P1,paintC fk fn 38 = P1:=⟨_,rfl⟩
    obtain ⟨P2,hP2⟩:∃ P2,paintC bk bn 48 = P2:=⟨_,rfl⟩
    rw [hFK] at HO hlen HCd
    rw [hP1] at HP1 HQ1 HCd
    rw [hP2] at HP2 HQ2 HCd
    have HLen:=Hd hlen
    have HSZ:Hid (rb ≤ wr.heap.size):=Hd (by have:=HB.out.size;have:=HB3.out.size;have:=lt_of_heap HTab.out;have:=HTB'.out;omega)
    clear hlen hFK hP1 hP2
    go_upto_region 10 with fail
    refine wp_region_lit ?_
    refine wpList_valG (bx.1) (by rfl) (by rfl) ?_
    simp only [Act.put,List.setIfInBounds_toArray,List.set_cons_zero,List.set_cons_succ]
    refine wpList_valG (.pointer (some ⟨w.heap.size,0,none⟩)) (by rfl) (by rfl) ?_
    simp only [Act.put,List.setIfInBounds_toArray,List.set_cons_zero,List.set_cons_succ]
    refine wpList_valG (.agg #[.int .i64 fk,.int .i64 fn]) (by rfl) (by go_simp) ?_
    simp only [Act.put,List.setIfInBounds_toArray,List.set_cons_zero,List.set_cons_succ]
    refine wpList_callE rfl 316 #[.agg #[.int .i64 fk,.int .i64 fn],.int .i64 38] (by go_simp) (HP1.out wr) ?_
    rintro v5 w5 ⟨A5,c5,rfl,hg5,hb5⟩
    simp only [Act.put,List.setIfInBounds_toArray,List.set_cons_zero,List.set_cons_succ]
    have HO5:=Hd (owns_mod HO.out (Mod.of_below (X:=[]) hb5) (fun _ _ h => by cases h))
    have HB5:Hid (Below rb W1 w5):=Hd (HB.out.trans (hb5.mono HSZ.out))
    have HSZ5:Hid (rb ≤ w5.heap.size):=Hd (Nat.le_trans HSZ.out hb5.size)
    clear hx0 hx1 hb5
    refine wpList_append_i (o:=⟨some 42,_,_,_,_,_⟩) rfl (.tmp 38) (.tmp 41) 241 rfl rb 3 j0 _ 1 8 Tryz.underlying241 hj gz0 gz1 gz2 rfl (by decide) bx.1 FK.length (flat encZ (ints FK)) rfl HO5.out HLen.out.1 A5 P1.length c5 (flat encZ (ints P1)) rfl (by rw [flat_encZ,List.length_map,ints_len,Nat.mul_one]) (fun h0 => gr_news hg5 (by rw [ints_len];exact h0)) (fun u hu => by rw [flat_encZ] at hu;obtain ⟨x,-,rfl⟩:=List.mem_map.1 hu;rfl) (by have:=HLen.out.2;have:=HQ1.out;simp only [maxLen];omega) (by have:=HLen.out.2;have:=HQ1.out;omega) HSZ5.out ?_
    intro v' w7 ho hg hv'
    have HO7:Hid (w7.ownsRow rb 3 1 v' (FK ++ P1).length (flat encZ (ints (FK ++ P1)))):=Hd (by rw [ints_append,flat_append,List.length_append];exact ho)
    have HB7:=Hd (HB5.out.grown hg HSZ5.out (fun b hb => (World.ownsRow.lt (show World.ownsRow _ _ _ _ _ _ _ from HO5.out) b hb).1))
    have HSZ7:Hid (rb ≤ w7.heap.size):=Hd (Nat.le_trans HSZ5.out hg.size)
    simp only [Act.put,List.setIfInBounds_toArray,List.set_cons_zero,List.set_cons_succ]
    clear ho hg hv' hg5
    obtain ⟨by_,rfl⟩:∃ by_:Value × Unit,v' = by_.1:=⟨(v',()),rfl⟩
    have hx2:w7.cell? ⟨w.heap.size,2,none⟩ = some (.int .i64 bk):=(at_ (HBX.out w7 HB7.out) 2 _ rfl).1
    have hx3:w7.cell? ⟨w.heap.size,3,none⟩ = some (.int .i64 bn):=(at_ (HBX.out w7 HB7.out) 3 _ rfl).1
    go_upto_region 11 with fail
    refine wp_region_lit ?_
    refine wpList_valG (by_.1) (by rfl) (by rfl) ?_
    simp only [Act.put,List.setIfInBounds_toArray,List.set_cons_zero,List.set_cons_succ]
    refine wpList_valG (.pointer (some ⟨w.heap.size,2,none⟩)) (by rfl) (by rfl) ?_
    simp only [Act.put,List.setIfInBounds_toArray,List.set_cons_zero,List.set_cons_succ]
    refine wpList_valG (.agg #[.int .i64 bk,.int .i64 bn]) (by rfl) (by go_simp) ?_
    simp only [Act.put,List.setIfInBounds_toArray,List.set_cons_zero,List.set_cons_succ]
    refine wpList_callE rfl 316 #[.agg #[.int .i64 bk,.int .i64 bn],.int .i64 48] (by go_simp) (HP2.out w7) ?_
    rintro v8 w8 ⟨A8,c8,rfl,hg8,hb8⟩
    simp only [Act.put,List.setIfInBounds_toArray,List.set_cons_zero,List.set_cons_succ]
    have HO8:=Hd (owns_mod HO7.out (Mod.of_below (X:=[]) hb8) (fun _ _ h => by cases h))
    have HB8:Hid (Below rb W1 w8):=Hd (HB7.out.trans (hb8.mono HSZ7.out))
    have HSZ8:Hid (rb ≤ w8.heap.size):=Hd (Nat.le_trans HSZ7.out hb8.size)
    clear hx2 hx3 hb8
    refine wpList_append_i (o:=⟨some 47,_,_,_,_,_⟩) rfl (.tmp 43) (.tmp 46) 241 rfl rb 3 j0 _ 1 8 Tryz.underlying241 hj gz0 gz1 gz2 rfl (by decide) by_.1 (FK ++ P1).length (flat encZ (ints (FK ++ P1))) rfl HO8.out (by have:=HLen.out.1;rw [List.length_append];omega) A8 P2.length c8 (flat encZ (ints P2)) rfl (by rw [flat_encZ,List.length_map,ints_len,Nat.mul_one]) (fun h0 => gr_news hg8 (by rw [ints_len];exact h0)) (fun u hu => by rw [flat_encZ] at hu;obtain ⟨x,-,rfl⟩:=List.mem_map.1 hu;rfl) (by have:=HLen.out.2;have:=HQ1.out;have:=HQ2.out;rw [List.length_append];simp only [maxLen];omega) (by have:=HLen.out.2;have:=HQ1.out;have:=HQ2.out;rw [List.length_append];omega) HSZ8.out ?_
    intro v9 w9 ho hg hv'
    obtain ⟨g9,c9,rfl⟩:=own_form ho (by have:=HLen.out.1;rw [List.length_append];omega)
    have HO9:Hid (w9.ownsRow rb 3 1 (.slice (some ⟨g9,0,none⟩) ((FK ++ P1).length + P2.length) c9) (FK ++ (P1 ++ P2)).length (flat encZ (ints (FK ++ (P1 ++ P2))))):=Hd (by rw [show (FK ++ (P1 ++ P2)).length = (FK ++ P1).length + P2.length by simp;omega,← List.append_assoc,ints_append (FK ++ P1),flat_append];exact ho)
    have HB9:=Hd (HB8.out.grown hg HSZ8.out (fun b hb => (World.ownsRow.lt (show World.ownsRow _ _ _ _ _ _ _ from HO8.out) b hb).1))
    simp only [Act.put,List.setIfInBounds_toArray,List.set_cons_zero,List.set_cons_succ]
    clear ho hg hv' hg8
    rw [show (FK ++ P1).length + P2.length = (FK ++ (P1 ++ P2)).length by simp;omega] at HO9 ⊢
    rw [← HCd.out] at HO9 ⊢
    have hBw:Below w.heap.size w w9:=HBW.out.trans (by
     have:=HB9.out
     rw [← HRB.out] at this
     exact this.mono HBW.out.size)
    have HBw:=Hd hBw
    have HJ:=Hd (ajoin_any (gr_of_own2 (X:=ints (codesA ⟨fk,fn,bk,bn,fl⟩)) encZ_len (by rw [ints_len];exact HO9.out)) c9 (List.length_pos_iff.2 HOK.out.1) HOK.out.2.1 HOK.out.2.2 (HT.out.below hBw))
    rw [HSR.out] at HJ
    clear hBw
    generalize (codesA ⟨fk,fn,bk,bn,fl⟩).length = CL at HJ ⊢
    go_wp2_with (go_at_call 317;(with_reducible refine HJ.out.mono ?_);rintro e wz ⟨rfl,hb⟩;have HBz:=Hd (below_tail HBw.out hb);clear hb)
    go_ret
    exact ⟨rfl,HBz.out⟩
end
def changeI (on a:Atr):List Int:=if eqA on a then [] else joinI (codesA a)
section
variable {base:Nat} {w:World}
set_option maxHeartbeats 3200000 in
theorem achange_any (on a:Atr) (ha:RightA a) (ht:TabP w) :
 Calls Tryz.prog 248 #[.agg #[.int .i64 on.fk,.int .i64 on.fn,.int .i64 on.bk,.int .i64 on.bn,.int .i64 on.fl],.agg #[.int .i64 a.fk,.int .i64 a.fn,.int .i64 a.bk,.int .i64 a.bn,.int .i64 a.fl]] w fun e w' => e = .returned (.string (strOfNums (changeI on a)))∧Below w.heap.size w w':=by
 have HX:Hid (∀ w',TabP w'→Calls Tryz.prog 233 #[.agg #[.int .i64 a.fk,.int .i64 a.fn,.int .i64 a.bk,.int .i64 a.bn,.int .i64 a.fl]] w' fun e w2 => e = .returned (.string (strOfNums (joinI (codesA a))))∧Below w'.heap.size w' w2):=Hd (fun w' ht => atext_any a ha ht)
 have HT:=Hd ht
 have HB2:Hid (∀ o1 o2:Obj,Below w.heap.size w ((w.alloc o1).alloc o2)):=Hd (fun o1 o2 => below_allocs (below_allocs (Below.refl _ _) _) _)
 by_cases h:eqA on a = true
 · obtain rfl:=eqA_iff.1 h
   unfold changeI
   rw [if_pos h]
   clear HX ht h ha
   obtain ⟨fk,fn,bk,bn,fl⟩:=on
   simp only
   go_enter Tryz.func248,Tryz.ntmps248
   go_wp2
   go_ret
   exact ⟨rfl,HB2.out _ _⟩
 · unfold changeI
   rw [if_neg h]
   obtain ⟨s,hs⟩:∃ s,strOfNums (joinI (codesA a)) = s:=⟨_,rfl⟩
   rw [hs] at HX ⊢
   unfold eqA at h
   obtain ⟨fk,fn,bk,bn,fl⟩:=on
   obtain ⟨ak,an,ck,cn,al⟩:=a
   simp only at HX h ⊢
   have hne:(decide (fk = ak) && decide (fn = an) && decide (bk = ck) && decide (bn = cn) && decide (fl = al)) = false:=by simpa using h
   clear ht ha h hs
   go_enter Tryz.func248,Tryz.ntmps248
   go_wp2_with (go_at_call 233;(with_reducible refine (HX.out _ (HT.out.below (HB2.out _ _))).mono ?_);rintro e w1 ⟨rfl,hb⟩;have HB3:=Hd (below_tail (HB2.out _ _) hb);clear hb)
   all_goals first
    | (go_ret;exact ⟨rfl,HB3.out⟩)
    | (exfalso;simp_all;done)
end
theorem turnI_str (on a:Atr) (h:eqA on a = false):(⟨#[27,91]⟩:ByteArray) ++ strOfNums (joinI (codesA a)) ++ (⟨#[109]⟩:ByteArray) = strOfNums (turnI on a):=by
 unfold turnI
 rw [if_neg (by rw [h];decide),show (⟨#[27,91]⟩:ByteArray) = strOfNums [27,91] from rfl,show (⟨#[109]⟩:ByteArray) = strOfNums [109] from rfl]
 simp only [strOfNums_append]
 rfl
theorem codes_len {a:Atr} (ha:RightA a):1 ≤ (joinI (codesA a)).length∧(joinI (codesA a)).length ≤ 192:=by
 obtain ⟨c1,c2,c3⟩:=codesA_ok ha
 have:=joinI_len _ c3
 refine ⟨?_,by omega⟩
 match h:codesA a,c1 with
 | [n],_ => exact decI_pos n
 | n :: m :: l,_ =>
   have:=decI_pos n
   show 1 ≤ (decI n ++ _).length
   rw [List.length_append]
   omega
section
variable {base:Nat} {w:World} {v:Pn} {on:Atr} {l:List UInt8}
set_option maxHeartbeats 3200000 in
theorem pturn_any (h:PnO base w v on l) (hbw:base ≤ w.heap.size) (ht:TabP w) (a:Atr) (ha:RightA a) (hl:l.length ≤ 90000000) :
 Calls Tryz.prog 157 #[.pointer (some ⟨v.P,0,none⟩),.agg #[.int .i64 a.fk,.int .i64 a.fn,.int .i64 a.bk,.int .i64 a.bn,.int .i64 a.fl]] w (PnPost base w v a (l ++ u8 (turnI on a))):=by
 obtain ⟨W,hW⟩:∃ W,w.alloc (.cells #[.int .i64 a.fk,.int .i64 a.fn,.int .i64 a.bk,.int .i64 a.bn,.int .i64 a.fl] 63) = W:=⟨_,rfl⟩
 have hb0:Below w.heap.size w W:=by rw [← hW];exact below_allocs (Below.refl _ _) _
 have hn0:W.heap[w.heap.size]? = some (.cells #[.int .i64 a.fk,.int .i64 a.fn,.int .i64 a.bk,.int .i64 a.bn,.int .i64 a.fl] 63 (0,0)):=by rw [← hW];exact hp_new rfl
 have HB0:=Hd hb0
 have HN0:=Hd hn0
 have HO:=Hd h
 have HCh:Hid (∀ w',Below W.heap.size W w'→Calls Tryz.prog 248 #[.agg #[.int .i64 on.fk,.int .i64 on.fn,.int .i64 on.bk,.int .i64 on.bn,.int .i64 on.fl],.agg #[.int .i64 a.fk,.int .i64 a.fn,.int .i64 a.bk,.int .i64 a.bn,.int .i64 a.fl]] w' fun e w2 => e = .returned (.string (strOfNums (changeI on a)))∧Below w'.heap.size w' w2):=Hd (fun w' hb => achange_any on a ha (ht.below (below_tail hb0 hb)))
 have hcl:=codes_len ha
 have HWR:Hid (eqA on a = false→∀ w',Below w.heap.size w w'→Calls Tryz.prog 101 #[.pointer (some ⟨v.B,0,none⟩),.string ((⟨#[27,91]⟩:ByteArray) ++ strOfNums (joinI (codesA a)) ++ (⟨#[109]⟩:ByteArray))] w' (fun e w2 => (∃ n:Int,e = .returned (.tuple #[.int .i64 n,.nilIface]))∧PnRes base w' v on (l ++ u8 (turnI on a)) w2)):=Hd (fun he w' hb => by
  rw [turnI_str on a he]
  refine (pwrite_any (h.below hb) (Nat.le_trans hbw hb.size) (strOfNums (turnI on a)) ?_).mono (fun e w2 h => ⟨⟨_,h.1⟩,h.2⟩)
  rw [strOfNums_size]
  unfold turnI
  rw [if_neg (by rw [he];decide)]
  simp only [List.length_cons,List.length_append]
  simp
  omega)
 obtain ⟨⟨c0,-⟩,⟨c1,-⟩,⟨c2,-⟩,⟨c3,-⟩,⟨c4,-⟩,⟨c5,-⟩⟩:=(h.below hb0).facts
 have x0:W.cell? ⟨w.heap.size,0,none⟩ = some (.int .i64 a.fk):=(at_ hn0 0 _ rfl).1
 have x1:W.cell? ⟨w.heap.size,1,none⟩ = some (.int .i64 a.fn):=(at_ hn0 1 _ rfl).1
 have x2:W.cell? ⟨w.heap.size,2,none⟩ = some (.int .i64 a.bk):=(at_ hn0 2 _ rfl).1
 have x3:W.cell? ⟨w.heap.size,3,none⟩ = some (.int .i64 a.bn):=(at_ hn0 3 _ rfl).1
 have x4:W.cell? ⟨w.heap.size,4,none⟩ = some (.int .i64 a.fl):=(at_ hn0 4 _ rfl).1
 have HCL:=Hd hcl
 obtain ⟨cs,hcs⟩:∃ cs,strOfNums (changeI on a) = cs:=⟨_,rfl⟩
 rw [hcs] at HCh
 have HCS:=Hd hcs
 clear h hbw ht hl hb0 hn0 hcl hcs ha
 go_enter Tryz.func157,Tryz.ntmps157
 go_upto_region 1 with fail
 refine wp_region_u 6 (fun w' => Below W.heap.size W w'∧(w'.cell? ⟨v.P,1,none⟩ = some (.int .i64 on.fk)∧w'.cell? ⟨v.P,2,none⟩ = some (.int .i64 on.fn)∧w'.cell? ⟨v.P,3,none⟩ = some (.int .i64 on.bk)∧w'.cell? ⟨v.P,4,none⟩ = some (.int .i64 on.bn)∧w'.cell? ⟨v.P,5,none⟩ = some (.int .i64 on.fl))∧(w'.cell? ⟨w.heap.size,0,none⟩ = some (.int .i64 a.fk)∧w'.cell? ⟨w.heap.size,1,none⟩ = some (.int .i64 a.fn)∧w'.cell? ⟨w.heap.size,2,none⟩ = some (.int .i64 a.bk)∧w'.cell? ⟨w.heap.size,3,none⟩ = some (.int .i64 a.bn)∧w'.cell? ⟨w.heap.size,4,none⟩ = some (.int .i64 a.fl))) (by kernel_rfl) (by kernel_rfl) ?_ ?_
 · exact ⟨(Below.refl _ _).drew,⟨c1,c2,c3,c4,c5⟩,x0,x1,x2,x3,x4⟩
 simp only [List.take_succ_cons,List.take_zero,List.drop_succ_cons,List.drop_zero]
 repeat (
  (first
   | refine seqU_skip (by rfl) ?_
   | ((refine seqU_call 248 #[.agg #[.int .i64 on.fk,.int .i64 on.fn,.int .i64 on.bk,.int .i64 on.bn,.int .i64 on.fl],.agg #[.int .i64 a.fk,.int .i64 a.fn,.int .i64 a.bk,.int .i64 a.bn,.int .i64 a.fl]] (.string cs) (by rfl) ?_ (fun w' hS => (HCh.out w' hS.1).mono fun e w2 ⟨he,hb⟩ => ⟨he,below_tail hS.1 hb,⟨holda hb hS.2.1.1,holda hb hS.2.1.2.1,holda hb hS.2.1.2.2.1,holda hb hS.2.1.2.2.2.1,holda hb hS.2.1.2.2.2.2⟩,holda hb hS.2.2.1,holda hb hS.2.2.2.1,holda hb hS.2.2.2.2.1,holda hb hS.2.2.2.2.2.1,holda hb hS.2.2.2.2.2.2⟩) ?_;(focus (intro w2;go_simp;done))))
   | (refine seqU_val ?_ (by rfl) ?_ ?_;rotate_left;(focus (intro w' hS;obtain ⟨hS0,⟨hS1,hS2,hS3,hS4,hS5⟩,hT0,hT1,hT2,hT3,hT4⟩:=hS;go_simp;first | done | with_reducible rfl))))
  simp only [Act.put,List.setIfInBounds_toArray,List.set_cons_zero,List.set_cons_succ])
 refine seqU_nil (fun w' hS => ?_)
 have HB2:=Hd (below_tail HB0.out hS.1)
 have HX2:=Hd ((hS.1.block _ (lt_of_heap HN0.out)).trans HN0.out)
 clear hS c0 c1 c2 c3 c4 c5 x0 x1 x2 x3 x4 hW
 cases he:eqA on a with
 | true =>
   obtain rfl:=eqA_iff.1 he
   have hcs:=HCS.out
   unfold changeI at hcs
   rw [if_pos he] at hcs
   obtain rfl:(⟨#[]⟩:ByteArray) = cs:=hcs
   have htu:turnI on on = []:=by unfold turnI;rw [if_pos he]
   go_wp2_with fail
   go_end0
   exact ⟨rfl,by rw [htu,show l ++ u8 [] = l from List.append_nil l];exact PnRes.pre HB2.out (HO.out.below HB2.out).res⟩
 | false =>
   have hcs:=HCS.out
   unfold changeI at hcs
   rw [if_neg (by rw [he];decide)] at hcs
   have hsz:cs.size = (joinI (codesA a)).length:=by rw [← hcs,strOfNums_size]
   have hne:cs.toList.isEmpty = false:=by
    rw [Lib.toList_data]
    have h1:cs.data.toList.length = cs.size:=by rw [Array.length_toList];rfl
    have h2:=HCL.out.1
    cases h3:cs.data.toList with
    | nil => rw [h3] at h1;simp at h1;omega
    | cons x xs => rfl
   have HWR2:=Hd (HWR.out he)
   rw [hcs] at HWR2
   have n1:¬ 9223372036854775807 < 2 + cs.size:=by have:=HCL.out.2;omega
   have n2:¬ 9223372036854775807 < 2 + cs.size + 1:=by have:=HCL.out.2;omega
   have n3:¬ 9223372036854775806 < 2 + cs.size:=by have:=HCL.out.2;omega
   obtain ⟨⟨c0,-⟩,-⟩:=(HO.out.below HB2.out).facts
   clear HWR hcs hsz he
   go_upto_region 4 with (go_at_call 101;(with_reducible refine (HWR2.out _ HB2.out).mono ?_);rintro e w4 ⟨⟨n,rfl⟩,hr⟩;have HR:=Hd hr;clear hr)
   obtain ⟨v4,a1,a2,a3,a4,a5⟩:=HR.out
   have HX4:Hid (w4.heap[w.heap.size]? = some (.cells #[.int .i64 a.fk,.int .i64 a.fn,.int .i64 a.bk,.int .i64 a.bn,.int .i64 a.fl] 63 (0,0))):=Hd ((a4.block _ (lt_of_heap HX2.out) (fun hx => by have:=(HO.out.lt _ hx).2;omega)).trans HX2.out)
   have HP4:=Hd a3.p
   have HTh:Hid (World.there w4 v.P 1 5):=Hd (fun j hj => by
    have hp:=a3.p
    rw [a1] at hp
    have h5:j = 0 ∨ j = 1 ∨ j = 2 ∨ j = 3 ∨ j = 4:=by omega
    rcases h5 with rfl | rfl | rfl | rfl | rfl
    · exact ⟨by rw [(at_ hp 1 _ rfl).1];rfl,(at_ hp 1 _ rfl).2⟩
    · exact ⟨by rw [(at_ hp 2 _ rfl).1];rfl,(at_ hp 2 _ rfl).2⟩
    · exact ⟨by rw [(at_ hp 3 _ rfl).1];rfl,(at_ hp 3 _ rfl).2⟩
    · exact ⟨by rw [(at_ hp 4 _ rfl).1];rfl,(at_ hp 4 _ rfl).2⟩
    · exact ⟨by rw [(at_ hp 5 _ rfl).1];rfl,(at_ hp 5 _ rfl).2⟩)
   have hfin:PnRes base w' v a (l ++ u8 (turnI on a)) (w4.setCells v.P 1 (aL a)):=by
    refine PnRes.trans a1 a2 a5 a4 ?_
    refine a3.turn (mod_setCellsN (.inl (by rw [a1];simp)) _ _ _ (Mod.refl _ _)) ?_
    have:=whole_setCells (aL a) 1 (Value.pointer (some ⟨v4.B,0,none⟩) :: aV on) w4 a3.p (by show 6 ≤ 6;decide)
    rw [a1] at this ⊢
    exact this
   have HFin:=Hd (PnRes.pre HB2.out hfin)
   clear a1 a2 a3 a4 a5 hfin c0
   refine wp_region_lit ?_
   refine wpList_valG (.pointer (some ⟨v.P,0,none⟩)) (by rfl) (by rfl) ?_
   simp only [Act.put,List.setIfInBounds_toArray,List.set_cons_zero,List.set_cons_succ]
   have y0:w4.cell? ⟨w.heap.size,0,none⟩ = some (.int .i64 a.fk):=(at_ HX4.out 0 _ rfl).1
   have y1:w4.cell? ⟨w.heap.size,1,none⟩ = some (.int .i64 a.fn):=(at_ HX4.out 1 _ rfl).1
   have y2:w4.cell? ⟨w.heap.size,2,none⟩ = some (.int .i64 a.bk):=(at_ HX4.out 2 _ rfl).1
   have y3:w4.cell? ⟨w.heap.size,3,none⟩ = some (.int .i64 a.bn):=(at_ HX4.out 3 _ rfl).1
   have y4:w4.cell? ⟨w.heap.size,4,none⟩ = some (.int .i64 a.fl):=(at_ HX4.out 4 _ rfl).1
   refine wpList_valG (.agg #[.int .i64 a.fk,.int .i64 a.fn,.int .i64 a.bk,.int .i64 a.bn,.int .i64 a.fl]) (by rfl) (by go_simp) ?_
   simp only [Act.put,List.setIfInBounds_toArray,List.set_cons_zero,List.set_cons_succ]
   refine wpList_valG (.pointer (some ⟨v.P,0,none⟩)) (by rfl) (by go_simp) ?_
   simp only [Act.put,List.setIfInBounds_toArray,List.set_cons_zero,List.set_cons_succ]
   refine wpList_valG (.pointer (some ⟨v.P,1,none⟩)) (by rfl) (by rfl) ?_
   simp only [Act.put,List.setIfInBounds_toArray,List.set_cons_zero,List.set_cons_succ]
   refine wpList_store_mid rfl 63 (.tmp 24) (.tmp 22) rfl (v.P) (1) ((aL a).toArray) rfl rfl (HTh.out) info_attr5 (all_oneCell_toArray (one5 a)) ?_
   go_wp2_with fail
   go_end0
   exact ⟨rfl,HFin.out⟩
end
theorem exec_eq_attr (ρ:Operand→Value) (dst:Option Tmp) (ty:TypeId) (pos:String) (af:Array Edge) (gd:Option (Nat × Bool)) (x y:Operand) (a b:Atr)
 (hx:ρ x = .agg (aL a).toArray) (hy:ρ y = .agg (aL b).toArray) (w:World) :
 (execOp ρ ⟨dst,.binOp .eql 63 x y 63,ty,pos,af,gd⟩).run Tryz.prog w = .ok (.value (.bool (eqA a b))) w:=by
 obtain ⟨a1,a2,a3,a4,a5⟩:=a
 obtain ⟨b1,b2,b3,b4,b5⟩:=b
 simp only [aL] at hx hy
 unfold eqA
 simp only
 go_simp
 by_cases h1:a1 = b1 <;> by_cases h2:a2 = b2 <;> by_cases h3:a3 = b3 <;> by_cases h4:a4 = b4 <;> by_cases h5:a5 = b5 <;> simp [h1,h2,h3,h4,h5]
def blankI (y x n:Nat) (on a:Atr):List Int:=if eqA a zeroA then [] else movI y x ++ (turnI on a ++ eraI n)
def blankA (on a:Atr):Atr:=if eqA a zeroA then on else a
theorem eraI_str (n:Nat):(⟨#[27,91]⟩:ByteArray) ++ digS n ++ (⟨#[88]⟩:ByteArray) = strOfNums (eraI n):=by
 unfold eraI
 rw [digS_nums,show (⟨#[27,91]⟩:ByteArray) = strOfNums [27,91] from rfl,show (⟨#[88]⟩:ByteArray) = strOfNums [88] from rfl]
 simp only [strOfNums_append]
 rfl
theorem eraI_len (n:Nat) (hn:n ≤ 1000):(eraI n).length ≤ 9:=by
 have h1:=decI_len 5 n (by omega)
 show (27 :: 91 :: (decI n ++ [88])).length ≤ 9
 simp
 omega
theorem turnI_len (on:Atr) {a:Atr} (ha:RightA a):(turnI on a).length ≤ 195:=by
 unfold turnI
 have:=(codes_len ha).2
 split
 · simp
 · simp;omega
def TB (base:Nat) (w:World):Prop:=∀ w',Below base w w'→TabP w'
theorem TB.tab {base:Nat} {w:World} (h:TB base w):TabP w:=h w (Below.refl _ _)
theorem TB.on {base:Nat} {w w':World} (h:TB base w) (hb:Below base w w'):TB base w':=fun w2 h2 => h w2 (hb.trans h2)
theorem TB.of {w:World} (h:TabP w):TB w.heap.size w:=fun _ hb => h.below hb
section
variable {base:Nat} {w:World} {v:Pn} {on:Atr} {l:List UInt8}
theorem PnRes.below {on2:Atr} {l2:List UInt8} {w2:World} (h:PnO base w v on l) (hbw:base ≤ w.heap.size) (hr:PnRes base w v on2 l2 w2):Below base w w2:=by
 obtain ⟨v',-,-,-,hm,-⟩:=hr
 exact hm.below (B:=base) (fun b hb => (h.lt b hb).1) hbw
set_option maxHeartbeats 3200000 in
theorem pblanks_any (h:PnO base w v on l) (hbw:base ≤ w.heap.size) (ht:TB base w) (y x n:Nat) (hy:y ≤ 1000) (hx:x ≤ 1000) (hn:n ≤ 1000) (a:Atr) (ha:RightA a) (hl:l.length ≤ 80000000) :
 Calls Tryz.prog 246 #[.pointer (some ⟨v.P,0,none⟩),.int .i64 y,.int .i64 x,.int .i64 n,.agg #[.int .i64 a.fk,.int .i64 a.fn,.int .i64 a.bk,.int .i64 a.bn,.int .i64 a.fl]] w (PnPost base w v (blankA on a) (l ++ u8 (blankI y x n on a))):=by
 obtain ⟨W,hW⟩:∃ W,w.alloc (.cells #[.int .i64 a.fk,.int .i64 a.fn,.int .i64 a.bk,.int .i64 a.bn,.int .i64 a.fl] 63) = W:=⟨_,rfl⟩
 have hb0:Below w.heap.size w W:=by rw [← hW];exact below_allocs (Below.refl _ _) _
 have hn0:W.heap[w.heap.size]? = some (.cells #[.int .i64 a.fk,.int .i64 a.fn,.int .i64 a.bk,.int .i64 a.bn,.int .i64 a.fl] 63 (0,0)):=by rw [← hW];exact hp_new rfl
 have HB0:=Hd hb0
 have HN0:=Hd hn0
 have HO:=Hd h
 have hm1:=movI_len y x hy hx
 have hm2:=turnI_len on ha
 have hm3:=eraI_len n hn
 have HM:=Hd (pmove_any (h.below hb0) (Nat.le_trans hbw hb0.size) (ht.tab.below hb0) y x hy hx (by omega))
 have HT:=Hd ht
 have HBW:=Hd hbw
 have HHA:=Hd ha
 have HLZ:=Hd (And.intro hl (And.intro hm1 (And.intro hm2 (And.intro hm3 hn))))
 have x0:W.cell? ⟨w.heap.size,0,none⟩ = some (.int .i64 a.fk):=(at_ hn0 0 _ rfl).1
 have x1:W.cell? ⟨w.heap.size,1,none⟩ = some (.int .i64 a.fn):=(at_ hn0 1 _ rfl).1
 have x2:W.cell? ⟨w.heap.size,2,none⟩ = some (.int .i64 a.bk):=(at_ hn0 2 _ rfl).1
 have x3:W.cell? ⟨w.heap.size,3,none⟩ = some (.int .i64 a.bn):=(at_ hn0 3 _ rfl).1
 have x4:W.cell? ⟨w.heap.size,4,none⟩ = some (.int .i64 a.fl):=(at_ hn0 4 _ rfl).1
 clear h hbw ht hl hb0 hn0 ha hm1 hm2 hm3 hy hx hn
 go_enter Tryz.func246,Tryz.ntmps246
 go_upto_region 1 with fail
 refine wp_region_lit ?_
 refine wpList_valG (.agg #[.int .i64 a.fk,.int .i64 a.fn,.int .i64 a.bk,.int .i64 a.bn,.int .i64 a.fl]) (by rfl) (by go_simp) ?_
 simp only [Act.put,List.setIfInBounds_toArray,List.set_cons_zero,List.set_cons_succ]
 refine wpList_valG (.agg #[.int .i64 0,.int .i64 0,.int .i64 0,.int .i64 0,.int .i64 0]) (by rfl) (by go_simp) ?_
 simp only [Act.put,List.setIfInBounds_toArray,List.set_cons_zero,List.set_cons_succ]
 refine wpList_valG (.bool (eqA a zeroA)) (by rfl) (exec_eq_attr _ _ _ _ _ _ (.tmp 10) (.tmp 11) a zeroA rfl rfl _) ?_
 simp only [Act.put,List.setIfInBounds_toArray,List.set_cons_zero,List.set_cons_succ]
 cases he:eqA a zeroA with
 | true =>
   go_wp2_with fail
   go_end0
   exact ⟨rfl,by rw [show blankI y x n on a = [] from by unfold blankI;rw [if_pos he],show blankA on a = on from by unfold blankA;rw [if_pos he],show l ++ u8 [] = l from List.append_nil l];exact PnRes.pre HB0.out (HO.out.below HB0.out).res⟩
 | false =>
   go_upto_region 3 with (go_at_call 158;(with_reducible refine HM.out.mono ?_);rintro e w3 ⟨rfl,hr⟩;have HR:=Hd hr;clear hr)
   obtain ⟨v3,a1,a2,a3,a4,a5⟩:=HR.out
   have hx3:=(a4.block _ (lt_of_heap HN0.out) (fun hx => by have:=(HO.out.lt _ hx).2;omega)).trans HN0.out
   have hs3:base ≤ w3.heap.size:=Nat.le_trans HBW.out (Nat.le_trans HB0.out.size a4.size)
   have hB3:Below base W w3:=PnRes.below (HO.out.below HB0.out) (Nat.le_trans HBW.out HB0.out.size) HR.out
   have hT3:TB base w3:=(HT.out.on (HB0.out.mono HBW.out)).on hB3
   have HTu:=Hd (pturn_any a3 hs3 hT3.tab a HHA.out (by have:=HLZ.out;rw [List.length_append,u8_len];omega))
   rw [a1] at HTu
   have y0:w3.cell? ⟨w.heap.size,0,none⟩ = some (.int .i64 a.fk):=(at_ hx3 0 _ rfl).1
   have y1:w3.cell? ⟨w.heap.size,1,none⟩ = some (.int .i64 a.fn):=(at_ hx3 1 _ rfl).1
   have y2:w3.cell? ⟨w.heap.size,2,none⟩ = some (.int .i64 a.bk):=(at_ hx3 2 _ rfl).1
   have y3:w3.cell? ⟨w.heap.size,3,none⟩ = some (.int .i64 a.bn):=(at_ hx3 3 _ rfl).1
   have y4:w3.cell? ⟨w.heap.size,4,none⟩ = some (.int .i64 a.fl):=(at_ hx3 4 _ rfl).1
   have H3:=Hd (And.intro a1 (And.intro a2 (And.intro a3 (And.intro a4 (And.intro a5 (And.intro hs3 hT3))))))
   clear a1 a2 a3 a4 a5 hx3 hs3 hB3 hT3 x0 x1 x2 x3 x4 HR
   go_upto_region 4 with (go_at_call 157;(with_reducible refine HTu.out.mono ?_);rintro e w4 ⟨rfl,hr⟩;have HR:=Hd hr;clear hr)
   obtain ⟨a1,a2,a3,a4,a5,hs3,hT3⟩:=H3.out
   obtain ⟨v4,b1,b2,b3,b4,b5⟩:=HR.out
   have hs4:base ≤ w4.heap.size:=Nat.le_trans hs3 b4.size
   have hT4:TB base w4:=hT3.on (PnRes.below a3 hs3 HR.out)
   have HI:Hid (∀ w',Below w4.heap.size w4 w'→Calls Tryz.prog 249 #[.int .i64 n] w' fun e w2 => e = .returned (.string (digS n))∧Below w'.heap.size w' w2):=Hd (fun w' hb => itoa_any n (by have:=HLZ.out;omega) w' (hT4.tab.below hb))
   have HWR:Hid (∀ w',Below w4.heap.size w4 w'→Calls Tryz.prog 101 #[.pointer (some ⟨v.B,0,none⟩),.string ((⟨#[27,91]⟩:ByteArray) ++ digS n ++ (⟨#[88]⟩:ByteArray))] w' (fun e w2 => (∃ k:Int,e = .returned (.tuple #[.int .i64 k,.nilIface]))∧PnRes base w' v4 a (l ++ u8 (movI y x) ++ u8 (turnI on a) ++ u8 (eraI n)) w2)):=Hd (fun w' hb => by
    rw [eraI_str,← a2,← b2]
    exact (pwrite_any (b3.below hb) (Nat.le_trans hs4 hb.size) (strOfNums (eraI n)) (by have:=HLZ.out;rw [strOfNums_size];simp only [List.length_append,u8_len];omega)).mono (fun e w2 h => ⟨⟨_,h.1⟩,h.2⟩))
   obtain ⟨⟨c0,-⟩,-⟩:=b3.facts
   rw [b1,a1,b2,a2] at c0
   obtain ⟨s1,s1'⟩:=digS_size n (by have:=HLZ.out;omega)
   generalize digS n = d1 at HI HWR s1 s1'
   have n1:¬ 9223372036854775807 < 2 + d1.size:=by omega
   have n2:¬ 9223372036854775807 < 2 + d1.size + 1:=by omega
   have n3:¬ 9223372036854775806 < 2 + d1.size:=by omega
   have H4:=Hd (And.intro b1 (And.intro b2 (And.intro b4 b5)))
   clear a1 a2 a3 a4 a5 hs3 hT3 b1 b2 b3 b4 b5 hs4 hT4 y0 y1 y2 y3 y4 HTu HM HT
   refine wp_region_u 8 (fun w' => Below w4.heap.size w4 w'∧w'.cell? ⟨v.P,0,none⟩ = some (.pointer (some ⟨v.B,0,none⟩))) (by kernel_rfl) (by kernel_rfl) ?_ ?_
   · exact ⟨(Below.refl _ _).drew,c0⟩
   simp only [List.take_succ_cons,List.take_zero,List.drop_succ_cons,List.drop_zero]
   repeat (
    (first
     | refine seqU_skip (by rfl) ?_
     | ((refine seqU_call 249 #[.int .i64 n] (.string d1) (by rfl) ?_ (fun w' hS => (HI.out w' hS.1).mono fun e w2 ⟨he,hb⟩ => ⟨he,below_tail hS.1 hb,holda hb hS.2⟩) ?_;(focus (intro w2;go_simp;done))))
     | (refine seqU_val ?_ (by rfl) ?_ ?_;rotate_left;(focus (intro w' hS;obtain ⟨hS0,hS1⟩:=hS;go_simp;first | done | with_reducible rfl))))
    simp only [Act.put,List.setIfInBounds_toArray,List.set_cons_zero,List.set_cons_succ])
   refine seqU_nil (fun w' hS => ?_)
   have HB5:=Hd hS.1
   clear hS c0
   go_wp2_with (go_at_call 101;(with_reducible refine (HWR.out _ HB5.out).mono ?_);rintro e w6 ⟨⟨k,rfl⟩,hr⟩;have HR6:=Hd (PnRes.pre HB5.out hr);clear hr)
   go_end0
   refine ⟨rfl,?_⟩
   rw [show blankI y x n on a = movI y x ++ (turnI on a ++ eraI n) from by unfold blankI;rw [if_neg (by rw [he];decide)],show blankA on a = a from by unfold blankA;rw [if_neg (by rw [he];decide)]]
   obtain ⟨a1,a2,a3,a4,a5,hs3,hT3⟩:=H3.out
   obtain ⟨b1,b2,b4,b5⟩:=H4.out
   rw [u8_append,u8_append,← List.append_assoc,← List.append_assoc]
   exact PnRes.pre HB0.out (PnRes.trans a1 a2 a5 a4 (PnRes.trans b1 b2 b5 b4 HR6.out))
end
end Go.Proofs.YtaefcahblmopfaaGreatDoor
