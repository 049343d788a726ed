/- Joined by a tool of this claim out of smaller texts. Conditions: as stated. -/
import Derived.Test.YtaefcahblmopfaaGreatDoorDp12
set_option linter.unusedVariables false
set_option linter.unusedSimpArgs false
set_option maxRecDepth 100000
open Go.Lib renaming hid → Hd
namespace Go.Proofs.YtaefcahblmopfaaGreatDoor
open Go.RowKit
section
variable {base:Nat} {w w1:World} {q:Pv} {g g1:Pg}
def Rg3 (base:Nat) (w:World) (R:Nat) (vl:Value) (room:Nat) (gone':Int) (H':List Ro) (k:Nat) (w':World):Prop :=
 (∃ vl' SL' first' n',RgO base w' R vl' SL' room first' n' gone'∧(histL SL' first' n').map roOf = H'∧Mod (ringX R vl) w w'∧(∀ g,vl'.ownBlock = some g→vl.ownBlock = some g ∨ w.heap.size ≤ g)∧k ∉ ringX R vl') ∧
   w'.heap[k]? = some (.cells #[.slice none 0 0,.bool false] 52 (0,0))∧w.heap.size ≤ k
theorem RgPost.pre {R:Nat} {vl:Value} {room:Nat} {gone':Int} {H':List Ro} {wp w':World} (hb:Below w.heap.size w wp) (h:RgPost base wp R vl room gone' H' w'):RgPost base w R vl room gone' H' w':=by
 obtain ⟨vl',SL',f',n',h1,h2,h3,h4⟩:=h
 exact ⟨vl',SL',f',n',h1,h2,(Mod.of_below (X:=ringX R vl) hb).trans h3 (fun b hb => .inl hb),fun g hg => (h4 g hg).imp id (fun h => Nat.le_trans hb.size h)⟩
theorem Rg3.store {R:Nat} {vl:Value} {room:Nat} {gone':Int} {H':List Ro} {k:Nat} {w':World} (u v:Value) (h:Rg3 base w R vl room gone' H' k w'):RgPost base w R vl room gone' H' ((w'.setCell ⟨k,0,none⟩ u).setCell ⟨k,1,none⟩ v):=by
 obtain ⟨⟨vl',SL',f',n',h1,h2,h3,h4,h5⟩,hk,hkw⟩:=h
 exact ⟨vl',SL',f',n',h1.mod (mod_set2 (X:=[k]) (o:=0) (Mod.refl _ _) (.inl (by simp))) (fun b hb cs f he => by
  rw [List.mem_singleton.1 hb] at he
  exact block_ne hk he (by decide) rfl) (fun b hb hX => by rw [List.mem_singleton.1 hX] at hb;exact h5 hb),h2,mod_set2 (o:=0) h3 (.inr hkw),h4⟩
theorem PgO.ringed (h:PgO base w q g) {gone':Int} {H':List Ro} (hp:RgPost base w q.R q.vl g.room (gone' % 18446744073709551616) H' w1) (hg0:0 ≤ gone'):PgRes base w q { g with hist:=H',gone:=gone' } w1:=by
 obtain ⟨vl',SL',f',n',h1,h2,hm,hv⟩:=hp
 have hX:=h.ring.nocel
 have hne:∀ (b:Nat) (cur:Array Value) (t:TypeId),w.heap[b]? = some (.cells cur t (0,0))→t ≠ 225→t ≠ 52→b ∉ ringX q.R q.vl:=fun b cur t hb a1 a2 hx => by
  rcases List.mem_cons.1 hx with rfl | hx
  · exact block_ne h.ring.blk hb a1.symm rfl
  · obtain ⟨cur2,hc⟩:=own_block h.ring.own (Option.mem_toList.1 hx)
    exact block_ne hc hb a2.symm rfl
 have hvs:∀ b,q.vs.ownBlock = some b→b ∉ ringX q.R q.vl:=fun b hb hx => by
  obtain ⟨cur,hc⟩:=own_block h.own hb
  rcases List.mem_cons.1 hx with rfl | hx
  · exact block_ne h.ring.blk hc (by decide) rfl
  · exact h.apart b hb (Option.mem_toList.1 hx)
 refine ⟨{ q with vl:=vl',SL:=SL',first:=f',n:=n' },rfl,rfl,⟨(hm.block q.P (Array.getElem?_eq_some_iff.1 h.blk).1 (hne _ _ _ h.blk (by decide) (by decide))).trans h.blk,h.hb,h1,owns_mod h.own hm (fun b hb => hvs b hb),owns_mod h.told hm (fun b hb => ?_),fun b hb hb2 => ?_,h.scr,h2,fun r hr => ⟨(h.rows r hr).1.mod hm hX,(h.rows r hr).2⟩,h.cols2,h.cols1000,h.rows1000,hg0⟩,hm.mono (fun b hb => by simp [pgX,hb]),fun b hb => ?_⟩
 · obtain ⟨cur,hc⟩:=own_block h.told hb
   exact hne _ _ _ hc (by decide) (by decide)
 · rcases hv b hb2 with h3 | h3
   · exact h.apart b hb h3
   · have:=(h.own.lt b hb).2;omega
 · rcases List.mem_cons.1 hb with rfl | hb
   · exact .inl (by simp [pgX])
   rcases List.mem_append.1 hb with hb | hb
   · exact .inl (by simp [pgX,Option.mem_toList.1 hb])
   rcases List.mem_append.1 hb with hb | hb
   · exact .inl (by simp [pgX,Option.mem_toList.1 hb])
   rcases List.mem_cons.1 hb with rfl | hb
   · exact .inl (by simp [pgX,ringX])
   · rcases hv b (Option.mem_toList.1 hb) with h3 | h3
     · exact .inl (by simp [pgX,ringX,h3])
     · exact .inr h3
end
def pushH (room:Nat) (H:List Ro) (r:Ro):List Ro:=if room = 0 then [] else if H.length = room then H.drop 1 ++ [r] else H ++ [r]
def pushG (room:Nat) (H:List Ro) (gone:Int):Int:=if H.length = room then gone + 1 else gone
theorem pushP_eq (g:Pg) (r:Ro) (h:g.hist.length ≤ g.room):pushP g r = ({ g with hist:=pushH g.room g.hist r,gone:=pushG g.room g.hist g.gone },decide (g.hist.length = g.room)):=by
 unfold pushP pushH pushG
 split
 · next h0 =>
   have hn:g.hist = []:=List.length_eq_zero_iff.1 (by omega)
   obtain ⟨room,hist,gone,scr,cols,told⟩:=g
   simp only at h0 hn
   subst h0 hn
   simp
 · next h0 =>
   split
   · next h1 => simp [h1]
   · next h1 => simp [h1]
section
variable {base:Nat} {w w1:World} {q:Pv} {g g1:Pg}
set_option maxHeartbeats 3200000 in
theorem pup_zero (h:PgO base w q g) (bottom:Nat) (b:Col) (h2:bottom < g.scr.length) (ht:g.told.length ≤ 999990) :
 Calls Tryz.prog 348 #[.pointer (some ⟨q.P,0,none⟩),.int .i64 0,.int .i64 bottom,.agg #[.int .i64 b.k,.int .i64 b.n]] w (PgPost base w q (upP g 0 bottom b)):=by
 have hrows:=h.rows1000
 have hlen:=h.len
 have hh:=h.hist100k
 have hhr:g.hist.length ≤ g.room:=by have:=h.hlen;have:=h.ring.hn;have:=h.ring.hm;omega
 have hg0:=h.gone0
 obtain ⟨r0,hr0⟩:∃ r0,g.scr[0]? = some r0:=⟨_,List.getElem?_eq_getElem (by omega)⟩
 have hgD:g.scr.getD 0 ⟨[],false⟩ = r0:=by rw [List.getD_eq_getElem?_getD,hr0];rfl
 obtain ⟨W,hW⟩:∃ W,w.alloc (.cells #[.int .i64 b.k,.int .i64 b.n] 61) = W:=⟨_,rfl⟩
 have hb0:Below w.heap.size w W:=by rw [← hW];exact below_allocs (Below.refl _ _) _
 have HN:=Hd (show W.heap[w.heap.size]? = some (.cells #[.int .i64 b.k,.int .i64 b.n] 61 (0,0)) from by rw [← hW];exact hp_new rfl)
 have HB:=Hd hb0
 have HX:w.heap.size ∉ pgX q:=fun hx => by have:=h.lt _ hx;omega
 have H0:=Hd (h.below hb0).res
 have hwa:IntKind.i64.wrap ((g.hist.length:Int) + (bottom:Int)) = (g.hist.length:Int) + (bottom:Int):=IntWalk.i64_in _ (by omega)
 have hwb:IntKind.i64.wrap ((g.hist.length:Int) + (bottom:Int) + 1) = (g.hist.length:Int) + (bottom:Int) + 1:=IntWalk.i64_in _ (by omega)
 have hwc:IntKind.i64.wrap ((bottom:Int) + 1) = (bottom:Int) + 1:=IntWalk.i64_in _ (by omega)
 have HBA:=Hd (base_then H0.out)
 have HT1:=Hd (tell_then H0.out 0 ((g.hist.length:Int) + bottom + 1) 1 (by omega))
 obtain ⟨b0,-⟩:=at_ HN.out 0 _ rfl
 obtain ⟨b1,-⟩:=at_ HN.out 1 _ rfl
 have HB0:=Hd b0
 have HB1:=Hd b1
 have HR0:=Hd hr0
 obtain ⟨gP,hgP⟩:∃ gP,({ tellP g 0 ((g.hist.length:Int) + bottom + 1) 1 with hist:=pushH g.room g.hist r0,gone:=pushG g.room g.hist g.gone }:Pg) = gP:=⟨_,rfl⟩
 have HGP:=Hd hgP
 obtain ⟨gT,hgT⟩:∃ gT,(if g.hist.length = g.room then tellP gP 2 0 1 else gP) = gT:=⟨_,rfl⟩
 have HU:Hid (upP g 0 bottom b = contP { gT with scr:=slideUp g.scr 0 bottom (blankR g.cols b) } ((bottom:Int) + 1) false):=Hd (by
  unfold upP
  rw [if_neg (by omega)]
  simp only []
  rw [hgD,pushP_eq _ _ (show (tellP g 0 ((g.hist.length:Int) + bottom + 1) 1).hist.length ≤ _ from hhr)]
  simp only []
  rw [← hgT,← hgP]
  by_cases hf:g.hist.length = g.room
  · simp [tellP,hf]
  · simp [tellP,hf])
 have HGT:=Hd hgT
 have HSC:Hid (gT.scr = g.scr∧gT.cols = g.cols∧gP.told.length = g.told.length + 1):=Hd (by
  rw [← hgT,← hgP]
  refine ⟨?_,?_,by simp [tellP]⟩
  · split <;> rfl
  · split <;> rfl)
 rw [HU.out]
 have HSL:Hid (∀ w1,PgRes base W q gT w1→Calls Tryz.prog 382 #[.pointer (some ⟨q.P,0,none⟩),.int .i64 0,.int .i64 bottom,.agg #[.int .i64 b.k,.int .i64 b.n]] w1 (PgPost base W q { gT with scr:=slideUp g.scr 0 bottom (blankR g.cols b) })):=Hd (fun w1 hs => by
  have:=slideU_then hs 0 bottom b (Nat.zero_le _) (by rw [HSC.out.1];exact h2)
  rw [show slideUp g.scr 0 bottom (blankR g.cols b) = slideUp gT.scr 0 bottom (blankR gT.cols b) from by rw [HSC.out.1,HSC.out.2.1]]
  exact this)
 have HPA:=Hd (fun (w1:World) (hs:PgRes base W q { gT with scr:=slideUp g.scr 0 bottom (blankR g.cols b) } w1) => part_then hs ((bottom:Int) + 1))
 have HT2:=Hd (fun (w1:World) (hs:PgRes base W q gP w1) => tell_then hs 2 0 1 (by rw [HSC.out.2.2];omega))
 clear hb0 b0 b1 hr0 hgD hgP hgT
 have H:=Hd h
 clear h
 go_enter Tryz.func348,Tryz.ntmps348
 go_upto_region 4 with (first
  | (go_at_call 91;(with_reducible refine HBA.out.mono ?_);rintro e w9 ⟨rfl,rfl⟩)
  | (go_at_call 149;(with_reducible refine HT1.out.mono ?_);rintro e w2 ⟨rfl,hs⟩;have HS1:=Hd hs;clear hs))
 obtain ⟨q1,e1,e2,hq1,hm1,hx1⟩:=HS1.out
 have hS0:q1.S[0]?.map roOf = some r0:=by
  rw [← List.getElem?_map,hq1.scr];exact HR0.out
 obtain ⟨rr,hrr,hro⟩:∃ rr,q1.S[0]? = some rr∧roOf rr = r0:=by
  cases h:q1.S[0]? with
  | none => rw [h] at hS0;cases hS0
  | some x => rw [h] at hS0;exact ⟨x,rfl,by simpa using hS0⟩
 have h0S:0 < q1.S.length:=(List.getElem?_eq_some_iff.1 hrr).1
 obtain ⟨gs,c,hv⟩:=own_form hq1.own h0S
 obtain ⟨hrc,hrl⟩:=hq1.rows rr (List.mem_of_getElem? hrr)
 obtain ⟨⟨x0,-⟩,⟨x1,-⟩,-⟩:=hq1.cells
 have hown:=hq1.own
 rw [hv] at x1 hown
 obtain ⟨⟨y0,-⟩,y1,-⟩:=owns_row hown hrr
 rw [e1] at x0 x1
 rw [Nat.zero_mul] at y0 y1
 have h0I:(0:Int) < (q1.S.length:Int):=by omega
 have hc2:=hq1.cols2
 have HQ:=Hd hq1
 have HRR:=Hd (And.intro hrc (And.intro hrl hro))
 have HMX:=Hd (And.intro hm1 hx1)
 have hPX:∀ b,b ∈ [q.P,gs]→b ∉ ringX q1.R q1.vl:=fun b hb hx => by
  rcases List.mem_cons.1 hb with rfl | hb
  · rw [← e1] at hx
    rcases List.mem_cons.1 hx with h | hx
    · exact block_ne hq1.blk hq1.ring.blk (by decide) h
    · obtain ⟨cur,hc⟩:=own_block hq1.ring.own (Option.mem_toList.1 hx)
      exact block_ne hq1.blk hc (by decide) rfl
  · rw [List.mem_singleton.1 hb] at hx
    obtain ⟨cur,hc⟩:=own_block hq1.own (g:=gs) (by rw [hv];rfl)
    rcases List.mem_cons.1 hx with h | hx
    · exact block_ne hc hq1.ring.blk (by decide) h
    · exact hq1.apart gs (by rw [hv];rfl) (Option.mem_toList.1 hx)
 have HPX:=Hd hPX
 have HRlt:=Hd hq1.ring.lt
 have HPU:Hid (∀ w',Below w2.heap.size w2 w'→Calls Tryz.prog 243 #[.pointer (some ⟨q1.R,0,none⟩),.agg #[.slice rr.A rr.cs.length rr.cap,.bool rr.cont]] w' (fun e w3 => ∃ r6:Rh,e = .returned (.tuple #[.agg #[.slice r6.A r6.cs.length r6.cap,.bool r6.cont],.bool (decide (g.hist.length = g.room))])∧RgPost base w' q1.R q1.vl g.room (pushG g.room g.hist g.gone % 18446744073709551616) (pushH g.room g.hist r0) w3)):=Hd (fun w' hb => by
  have hrg:=(hq1.below hb).ring
  have hn:q1.n = g.hist.length:=hq1.hlen.symm
  have hhist:(histL q1.SL q1.first q1.n).map roOf = g.hist:=hq1.hist
  refine (rpush_any hrg (Int.emod_nonneg _ (by decide)) (by have:=(hrg.lt q1.R (by simp [ringX]));omega) rr (hrc.below hb) (by rw [hrl];have:(2:Nat) ≤ g.cols:=hc2;show 0 < g.cols;omega)).mono ?_
  rintro e w3 ⟨r6,he,hp⟩
  rw [hn] at he hp
  rw [← hn,hhist,hro,hn] at hp
  refine ⟨r6,he,?_⟩
  have e1:(if g.hist.length = (tellP g 0 ((g.hist.length:Int) + bottom + 1) 1).room then ((tellP g 0 ((g.hist.length:Int) + bottom + 1) 1).gone % 18446744073709551616 + 1) % 18446744073709551616 else (tellP g 0 ((g.hist.length:Int) + bottom + 1) 1).gone % 18446744073709551616) = pushG g.room g.hist g.gone % 18446744073709551616:=by
   unfold pushG
   show (if g.hist.length = g.room then (g.gone % 18446744073709551616 + 1) % 18446744073709551616 else g.gone % 18446744073709551616) = _
   split
   · omega
   · rfl
  rw [e1] at hp
  exact hp)
 obtain ⟨fl,hfl⟩:∃ fl,decide (g.hist.length = g.room) = fl:=⟨_,rfl⟩
 rw [hfl] at HPU
 have HFL:=Hd hfl
 clear hfl
 generalize hG':pushG g.room g.hist g.gone = G' at HPU
 generalize hH':pushH g.room g.hist r0 = H' at HPU
 have HGH:=Hd (And.intro hG' hH')
 have HG0:=Hd (show 0 ≤ G' from by rw [← hG'];unfold pushG;split <;> omega)
 clear hS0 hrr hrc hm1 hx1 hown hPX hq1 hro hrl hG' hH'
 have HIm:Hid (∀ (wa wb:World),(wa.cell? ⟨q.P,0,none⟩ = some (.pointer (some ⟨q1.R,0,none⟩))∧wa.cell? ⟨q.P,1,none⟩ = some (.slice (some ⟨gs,0,none⟩) q1.S.length c)∧wa.cell? ⟨gs,0,none⟩ = some (.slice rr.A rr.cs.length rr.cap)∧wa.cell? ⟨gs,0 + 1,none⟩ = some (.bool rr.cont))→Mod (ringX q1.R q1.vl) wa wb→(wb.cell? ⟨q.P,0,none⟩ = some (.pointer (some ⟨q1.R,0,none⟩))∧wb.cell? ⟨q.P,1,none⟩ = some (.slice (some ⟨gs,0,none⟩) q1.S.length c)∧wb.cell? ⟨gs,0,none⟩ = some (.slice rr.A rr.cs.length rr.cap)∧wb.cell? ⟨gs,0 + 1,none⟩ = some (.bool rr.cont))) :=
  Hd (fun wa wb hI hm => ⟨hm.cell (HPX.out _ (by simp)) hI.1,hm.cell (HPX.out _ (by simp)) hI.2.1,hm.cell (HPX.out _ (by simp)) hI.2.2.1,hm.cell (HPX.out _ (by simp)) hI.2.2.2⟩)
 have HIw:Hid (∀ (wa:World) (k:Nat),(wa.cell? ⟨q.P,0,none⟩ = some (.pointer (some ⟨q1.R,0,none⟩))∧wa.cell? ⟨q.P,1,none⟩ = some (.slice (some ⟨gs,0,none⟩) q1.S.length c)∧wa.cell? ⟨gs,0,none⟩ = some (.slice rr.A rr.cs.length rr.cap)∧wa.cell? ⟨gs,0 + 1,none⟩ = some (.bool rr.cont))→w2.heap.size ≤ k→∀ (u v:Value),(((wa.setCell ⟨k,0,none⟩ u).setCell ⟨k,1,none⟩ v).cell? ⟨q.P,0,none⟩ = some (.pointer (some ⟨q1.R,0,none⟩))∧((wa.setCell ⟨k,0,none⟩ u).setCell ⟨k,1,none⟩ v).cell? ⟨q.P,1,none⟩ = some (.slice (some ⟨gs,0,none⟩) q1.S.length c)∧((wa.setCell ⟨k,0,none⟩ u).setCell ⟨k,1,none⟩ v).cell? ⟨gs,0,none⟩ = some (.slice rr.A rr.cs.length rr.cap)∧((wa.setCell ⟨k,0,none⟩ u).setCell ⟨k,1,none⟩ v).cell? ⟨gs,0 + 1,none⟩ = some (.bool rr.cont))) :=
  Hd (fun wa k hI hk u v => by
   have hm:Mod [k] wa ((wa.setCell ⟨k,0,none⟩ u).setCell ⟨k,1,none⟩ v):=mod_set2 (o:=0) (Mod.refl _ _) (.inl (by simp))
   have h1:q.P ∉ [k]:=by have:=lt_of_cell x0;simp;omega
   have h2:gs ∉ [k]:=by have:=lt_of_cell y0;simp;omega
   exact ⟨hm.cell h1 hI.1,hm.cell h1 hI.2.1,hm.cell h2 hI.2.2.1,hm.cell h2 hI.2.2.2⟩)
 refine Go.RL.wp_region_l 16 (fun w' => w'.cell? ⟨q.P,0,none⟩ = some (.pointer (some ⟨q1.R,0,none⟩))∧w'.cell? ⟨q.P,1,none⟩ = some (.slice (some ⟨gs,0,none⟩) q1.S.length c)∧w'.cell? ⟨gs,0,none⟩ = some (.slice rr.A rr.cs.length rr.cap)∧w'.cell? ⟨gs,0 + 1,none⟩ = some (.bool rr.cont)) (fun w' => Below w2.heap.size w2 w') (by kernel_rfl) (by kernel_rfl) ⟨x0,x1,y0,y1⟩ ((Below.refl _ _).drew) ?_
 refine Go.RL.AtL.go 0 ?_
 iterate 10 (refine Go.RL.AtK.take (o:=⟨_,_,_,_,_,_⟩) (v:=?_) (by kernel_rfl) rfl (by simp) (by kernel_rfl) (by kernel_rfl) ?_ ?_;rotate_left;(focus (refine Go.RL.Pure.val (by rfl) ?_;intro w' hI;obtain ⟨_,_,_,_⟩:=hI;go_simp;first | done | with_reducible rfl));simp only [Act.put,List.setIfInBounds_toArray,List.set_cons_zero,List.set_cons_succ])
 refine Go.RL.AtK.back ?_
 refine Go.RL.AtL.two 10 14 (o:=⟨_,_,_,_,_,_⟩) (o':=⟨_,_,_,_,_,_⟩) (fun v => ∃ r6:Rh,v = .tuple #[.agg #[.slice r6.A r6.cs.length r6.cap,.bool r6.cont],.bool fl]) (fun v => ∃ k,v = .pointer (some ⟨k,0,none⟩)) (fun _ w3 => RgPost base w2 q1.R q1.vl g.room (G' % 18446744073709551616) H' w3)
  (fun v w3 => ∃ k,v = .pointer (some ⟨k,0,none⟩)∧Below w2.heap.size w2 w3∧w3.heap[k]? = some (.cells #[.slice none 0 0,.bool false] 52 (0,0))∧w2.heap.size ≤ k) (by simp) (by simp) (by kernel_rfl) rfl rfl
  (Go.RL.StabL.call 243 #[.pointer (some ⟨q1.R,0,none⟩),.agg #[.slice rr.A rr.cs.length rr.cap,.bool rr.cont]] _ _ (by rfl) ?_ (fun w' hI hS => ?_)) (Go.RL.StabL.op _ _ (by rfl) (fun w' hI hS => ?_)) ?_ ?_
 · intro w'
   go_simp
 · refine (HPU.out w' hS).mono ?_
   rintro e w3 ⟨r6,rfl,hp⟩
   exact ⟨_,rfl,⟨r6,rfl⟩,HIm.out _ _ hI (by obtain ⟨_,_,_,_,_,_,hm,_⟩:=hp;exact hm),hp.pre hS⟩
 · refine ⟨.pointer (some ⟨w'.heap.size,0,none⟩),w'.alloc (.cells #[.slice none 0 0,.bool false] 52),by go_simp,⟨_,rfl⟩,HIm.out _ _ hI (Mod.of_below (below_allocs (Below.refl _ _) _)),_,rfl,below_allocs hS _,hp_new rfl,hS.size⟩
 · rintro v ⟨r6,rfl⟩
   simp only [Act.put,List.setIfInBounds_toArray,List.set_cons_zero,List.set_cons_succ]
   refine Go.RL.AtL.go 11 ?_
   iterate 3 (refine Go.RL.AtK.take (o:=⟨_,_,_,_,_,_⟩) (v:=?_) (by kernel_rfl) rfl (by simp) (by kernel_rfl) (by kernel_rfl) ?_ ?_;rotate_left;(focus (refine Go.RL.Pure.val (by rfl) ?_;intro w' hI;obtain ⟨_,_,_,_⟩:=hI;go_simp;first | done | with_reducible rfl));simp only [Act.put,List.setIfInBounds_toArray,List.set_cons_zero,List.set_cons_succ])
   refine Go.RL.AtK.back ?_
   refine Go.RL.AtL.one 14 (o:=⟨_,_,_,_,_,_⟩) (fun v => ∃ k,v = .pointer (some ⟨k,0,none⟩)) (fun v w3 => ∃ k,v = .pointer (some ⟨k,0,none⟩)∧Rg3 base w2 q1.R q1.vl g.room (G' % 18446744073709551616) H' k w3) (by simp) (by kernel_rfl) rfl (Go.RL.StabL.op _ _ (by rfl) (fun w' hI hS => ?_)) ?_
   · refine ⟨.pointer (some ⟨w'.heap.size,0,none⟩),w'.alloc (.cells #[.slice none 0 0,.bool false] 52),by go_simp,⟨_,rfl⟩,HIm.out _ _ hI (Mod.of_below (below_allocs (Below.refl _ _) _)),_,rfl,?_⟩
     obtain ⟨vl',SL',f',n',k1,k2,k3,k4⟩:=hS
     have hb:=below_allocs (Below.refl w'.heap.size w') (.cells #[.slice none 0 0,.bool false] 52)
     exact ⟨⟨vl',SL',f',n',k1.below hb,k2,k3.then_below hb,k4,fun hx => by have:=(k1.lt _ hx).2;omega⟩,hp_new rfl,k3.size⟩
   rintro v ⟨k,rfl⟩
   simp only [Act.put,List.setIfInBounds_toArray,List.set_cons_zero,List.set_cons_succ]
   refine Go.RL.AtL.one 15 (o:=⟨none,.store 52 (.tmp 8) (.tmp 36),_,_,_,_⟩) (fun _ => True) (fun _ w3 => RgPost base w2 q1.R q1.vl g.room (G' % 18446744073709551616) H' w3) (by simp) (by kernel_rfl) rfl (Go.RL.StabL.unit _ _ (by rfl) (fun w' hI hS => ?_)) ?_
   · have hk3:Rg3 base w2 q1.R q1.vl g.room (G' % 18446744073709551616) H' k w':=(by obtain ⟨k',e,h⟩:=hS;simp only [Value.pointer.injEq,Option.some.injEq,Addr.mk.injEq,and_true] at e;rw [e];exact h)
     obtain ⟨k0,k0f⟩:=at_ hk3.2.1 0 _ rfl
     obtain ⟨k1,k1f⟩:=at_ hk3.2.1 1 _ rfl
     refine ⟨(w'.setCell ⟨k,0,none⟩ (.slice r6.A r6.cs.length r6.cap)).setCell ⟨k,1,none⟩ (.bool r6.cont),by go_simp,trivial,HIw.out _ k hI hk3.2.2 _ _,hk3.store _ _⟩
   rintro v15 -
   simp only [Act.put]
   refine Go.RL.AtL.done (by kernel_rfl) (fun w' hI hS => ?_)
   have HS4:Hid (PgRes base W q gP w'):=Hd (by
    have:=PgRes.trans ⟨e1,e2,HMX.out.1,HMX.out.2⟩ (HQ.out.ringed (gone':=G') hS HG0.out)
    rw [← HGP.out,HGH.out.1,HGH.out.2]
    exact this)
   have z0:=HS4.out.hold HX HB0.out
   have z1:=HS4.out.hold HX HB1.out
   clear hI hS x0 x1 y0 y1
   cases fl with
   | true =>
     have HE:Hid (tellP gP 2 0 1 = gT):=Hd (by rw [← HGT.out,if_pos (of_decide_eq_true HFL.out)])
     rw [HE.out] at HT2
     go_wp2_with (first
      | (go_at_call 149;(with_reducible refine (HT2.out _ HS4.out).mono ?_);rintro e w5 ⟨rfl,hs⟩;have HS5:=Hd hs;have u0:=hs.hold HX HB0.out;have u1:=hs.hold HX HB1.out;clear hs z0 z1)
      | (go_at_call 382;(with_reducible refine (HSL.out _ HS5.out).mono ?_);rintro e w6 ⟨rfl,hs⟩;have HS6:=Hd hs;clear hs)
      | (go_at_call 293;(with_reducible refine (HPA.out _ HS6.out).mono ?_);rintro e w7 ⟨rfl,hs⟩;have HS7:=Hd hs;clear hs))
     go_end0
     exact ⟨rfl,HS7.out.pre HB.out⟩
   | false =>
     have HE:Hid (gP = gT):=Hd (by rw [← HGT.out,if_neg (of_decide_eq_false HFL.out)])
     rw [HE.out] at HS4
     go_wp2_with (first
      | (go_at_call 382;(with_reducible refine (HSL.out _ HS4.out).mono ?_);rintro e w6 ⟨rfl,hs⟩;have HS6:=Hd hs;clear hs)
      | (go_at_call 293;(with_reducible refine (HPA.out _ HS6.out).mono ?_);rintro e w7 ⟨rfl,hs⟩;have HS7:=Hd hs;clear hs))
     go_end0
     exact ⟨rfl,HS7.out.pre HB.out⟩
 · rintro v ⟨k,rfl⟩
   simp only [Act.put,List.setIfInBounds_toArray,List.set_cons_zero,List.set_cons_succ]
   refine Go.RL.AtL.one 10 (o:=⟨_,_,_,_,_,_⟩) (fun v => ∃ r6:Rh,v = .tuple #[.agg #[.slice r6.A r6.cs.length r6.cap,.bool r6.cont],.bool fl]) (fun _ w3 => Rg3 base w2 q1.R q1.vl g.room (G' % 18446744073709551616) H' k w3) (by simp) (by kernel_rfl) rfl
    (Go.RL.StabL.call 243 #[.pointer (some ⟨q1.R,0,none⟩),.agg #[.slice rr.A rr.cs.length rr.cap,.bool rr.cont]] _ _ (by rfl) ?_ (fun w' hI hS => ?_)) ?_
   · intro w'
     go_simp
   · obtain ⟨k',e,hb,hk,hkw⟩:=hS
     simp only [Value.pointer.injEq,Option.some.injEq,Addr.mk.injEq,and_true] at e
     subst e
     refine (HPU.out w' hb).mono ?_
     rintro e w3 ⟨r6,rfl,hp⟩
     have hkX:k ∉ ringX q1.R q1.vl:=fun hx => by have:=(HRlt.out _ hx).2;omega
     have hm:Mod (ringX q1.R q1.vl) w' w3:=by obtain ⟨_,_,_,_,_,_,hm,_⟩:=hp;exact hm
     refine ⟨_,rfl,⟨r6,rfl⟩,HIm.out _ _ hI hm,?_,(hm.block k (lt_of_heap hk) hkX).trans hk,hkw⟩
     obtain ⟨vl',SL',f',n',k1,k2,k3,k4⟩:=hp
     refine ⟨vl',SL',f',n',k1,k2,(Mod.of_below (X:=ringX q1.R q1.vl) hb).trans k3 (fun b hb => .inl hb),fun g hg => (k4 g hg).imp id (fun h => Nat.le_trans hb.size h),fun hx => ?_⟩
     rcases List.mem_cons.1 hx with h | h
     · have:=(HRlt.out q1.R (by simp [ringX])).2;omega
     · rcases k4 k (Option.mem_toList.1 h) with h | h
       · exact hkX (by simp [ringX,h])
       · have:=lt_of_heap hk;omega
   rintro v ⟨r6,rfl⟩
   simp only [Act.put,List.setIfInBounds_toArray,List.set_cons_zero,List.set_cons_succ]
   refine Go.RL.AtL.go 11 ?_
   iterate 3 (refine Go.RL.AtK.take (o:=⟨_,_,_,_,_,_⟩) (v:=?_) (by kernel_rfl) rfl (by simp) (by kernel_rfl) (by kernel_rfl) ?_ ?_;rotate_left;(focus (refine Go.RL.Pure.val (by rfl) ?_;intro w' hI;obtain ⟨_,_,_,_⟩:=hI;go_simp;first | done | with_reducible rfl));simp only [Act.put,List.setIfInBounds_toArray,List.set_cons_zero,List.set_cons_succ])
   refine Go.RL.AtK.back ?_
   refine Go.RL.AtL.one 15 (o:=⟨none,.store 52 (.tmp 8) (.tmp 36),_,_,_,_⟩) (fun _ => True) (fun _ w3 => RgPost base w2 q1.R q1.vl g.room (G' % 18446744073709551616) H' w3) (by simp) (by kernel_rfl) rfl (Go.RL.StabL.unit _ _ (by rfl) (fun w' hI hS => ?_)) ?_
   · have hk3:Rg3 base w2 q1.R q1.vl g.room (G' % 18446744073709551616) H' k w':=hS
     obtain ⟨k0,k0f⟩:=at_ hk3.2.1 0 _ rfl
     obtain ⟨k1,k1f⟩:=at_ hk3.2.1 1 _ rfl
     refine ⟨(w'.setCell ⟨k,0,none⟩ (.slice r6.A r6.cs.length r6.cap)).setCell ⟨k,1,none⟩ (.bool r6.cont),by go_simp,trivial,HIw.out _ k hI hk3.2.2 _ _,hk3.store _ _⟩
   rintro v15 -
   simp only [Act.put]
   refine Go.RL.AtL.done (by kernel_rfl) (fun w' hI hS => ?_)
   have HS4:Hid (PgRes base W q gP w'):=Hd (by
    have:=PgRes.trans ⟨e1,e2,HMX.out.1,HMX.out.2⟩ (HQ.out.ringed (gone':=G') hS HG0.out)
    rw [← HGP.out,HGH.out.1,HGH.out.2]
    exact this)
   have z0:=HS4.out.hold HX HB0.out
   have z1:=HS4.out.hold HX HB1.out
   clear hI hS x0 x1 y0 y1
   cases fl with
   | true =>
     have HE:Hid (tellP gP 2 0 1 = gT):=Hd (by rw [← HGT.out,if_pos (of_decide_eq_true HFL.out)])
     rw [HE.out] at HT2
     go_wp2_with (first
      | (go_at_call 149;(with_reducible refine (HT2.out _ HS4.out).mono ?_);rintro e w5 ⟨rfl,hs⟩;have HS5:=Hd hs;have u0:=hs.hold HX HB0.out;have u1:=hs.hold HX HB1.out;clear hs z0 z1)
      | (go_at_call 382;(with_reducible refine (HSL.out _ HS5.out).mono ?_);rintro e w6 ⟨rfl,hs⟩;have HS6:=Hd hs;clear hs)
      | (go_at_call 293;(with_reducible refine (HPA.out _ HS6.out).mono ?_);rintro e w7 ⟨rfl,hs⟩;have HS7:=Hd hs;clear hs))
     go_end0
     exact ⟨rfl,HS7.out.pre HB.out⟩
   | false =>
     have HE:Hid (gP = gT):=Hd (by rw [← HGT.out,if_neg (of_decide_eq_false HFL.out)])
     rw [HE.out] at HS4
     go_wp2_with (first
      | (go_at_call 382;(with_reducible refine (HSL.out _ HS4.out).mono ?_);rintro e w6 ⟨rfl,hs⟩;have HS6:=Hd hs;clear hs)
      | (go_at_call 293;(with_reducible refine (HPA.out _ HS6.out).mono ?_);rintro e w7 ⟨rfl,hs⟩;have HS7:=Hd hs;clear hs))
     go_end0
     exact ⟨rfl,HS7.out.pre HB.out⟩
end
section
variable {base:Nat} {w w1:World} {q:Pv} {g g1:Pg}
set_option maxHeartbeats 3200000 in
theorem pup_any (h:PgO base w q g) (top bottom:Nat) (b:Col) (h1:top ≤ bottom) (h2:bottom < g.scr.length) (ht:g.told.length ≤ 999990) :
 Calls Tryz.prog 348 #[.pointer (some ⟨q.P,0,none⟩),.int .i64 top,.int .i64 bottom,.agg #[.int .i64 b.k,.int .i64 b.n]] w (PgPost base w q (upP g top bottom b)):=by
 rcases Nat.eq_zero_or_pos top with h0 | h0
 · subst h0
   exact pup_zero h bottom b h2 ht
 have hb0:Below w.heap.size w (w.alloc (.cells #[.int .i64 b.k,.int .i64 b.n] 61)):=below_allocs (Below.refl _ _) _
 have HC:=Hd (pcut_any (h.below hb0) top bottom b h1 h2 ht)
 have HB:=Hd hb0
 have HU:Hid (upP g top bottom b = cutP g top bottom b):=Hd (by unfold upP;rw [if_pos h0])
 have h0I:(0:Int) < (top:Int):=by omega
 rw [HU.out]
 clear h hb0
 go_enter Tryz.func348,Tryz.ntmps348
 go_wp2_with (go_at_call 355;(with_reducible refine HC.out.mono ?_);rintro e w2 ⟨rfl,hs⟩;have HS:=Hd hs;clear hs)
 go_end0
 exact ⟨rfl,HS.out.pre HB.out⟩
def Calm (F:Nat→Nat→Pg→Pg):Prop:=∀ t b g,t ≤ b→b < g.scr.length→(F t b g).scr.length = g.scr.length∧(F t b g).told.length ≤ g.told.length + 2∧(F t b g).cols = g.cols∧(F t b g).room = g.room
theorem contP_scr (g:Pg) (y:Int) (b:Bool):(contP g y b).scr.length = g.scr.length∧(contP g y b).told = g.told∧(contP g y b).cols = g.cols∧(contP g y b).room = g.room:=by
 obtain ⟨h1,h2,h3,h4,h5,h6⟩:=contP_hist g y b
 exact ⟨h6,h3,h4,h5⟩
theorem calm_cut (b:Col):Calm (fun t bo g => cutP g t bo b):=fun t bo g h1 h2 => by
 unfold cutP
 simp only []
 obtain ⟨a1,a2,a3,a4⟩:=contP_scr (contP { (tellP (tellP g 1 ((g.hist.length:Int) + t) 1) 0 ((g.hist.length:Int) + bo) 1) with scr:=slideUp g.scr t bo (blankR g.cols b) } t false) ((bo:Int) + 1) false
 obtain ⟨b1,b2,b3,b4⟩:=contP_scr { (tellP (tellP g 1 ((g.hist.length:Int) + t) 1) 0 ((g.hist.length:Int) + bo) 1) with scr:=slideUp g.scr t bo (blankR g.cols b) } t false
 refine ⟨a1.trans (b1.trans (slideUp_len h1 h2)),?_,a3.trans b3,a4.trans b4⟩
 rw [a2,b2];simp [tellP]
theorem pushP_calm (g:Pg) (r:Ro):(pushP g r).1.scr = g.scr∧(pushP g r).1.told = g.told∧(pushP g r).1.cols = g.cols∧(pushP g r).1.room = g.room:=by
 unfold pushP
 split
 · exact ⟨rfl,rfl,rfl,rfl⟩
 split
 · exact ⟨rfl,rfl,rfl,rfl⟩
 · exact ⟨rfl,rfl,rfl,rfl⟩
theorem calm_up (b:Col):Calm (fun t bo g => upP g t bo b):=fun t bo g h1 h2 => by
 show (upP g t bo b).scr.length = g.scr.length∧(upP g t bo b).told.length ≤ g.told.length + 2∧(upP g t bo b).cols = g.cols∧(upP g t bo b).room = g.room
 by_cases ht:0 < t
 · have e:upP g t bo b = cutP g t bo b:=by unfold upP;rw [if_pos ht]
   rw [e]
   exact calm_cut b t bo g h1 h2
 unfold upP
 rw [if_neg ht]
 simp only []
 obtain ⟨p1,p2,p3,p4⟩:=pushP_calm (tellP g 0 ((g.hist.length:Int) + bo + 1) 1) (g.scr.getD 0 ⟨[],false⟩)
 generalize pushP (tellP g 0 ((g.hist.length:Int) + bo + 1) 1) (g.scr.getD 0 ⟨[],false⟩) = p at p1 p2 p3 p4
 obtain ⟨gp,fl⟩:=p
 simp only at p1 p2 p3 p4
 obtain ⟨a1,a2,a3,a4⟩:=contP_scr { (if fl = true then tellP gp 2 0 1 else gp) with scr:=slideUp g.scr 0 bo (blankR g.cols b) } ((bo:Int) + 1) false
 refine ⟨a1.trans (slideUp_len (by omega) h2),?_,?_,?_⟩
 · rw [a2]
   cases fl
   · simp [p2,tellP]
   · simp [p2,tellP]
 · rw [a3]
   cases fl
   · exact p3
   · exact p3
 · rw [a4]
   cases fl
   · exact p4
   · exact p4
end
section
variable {base:Nat} {w w1:World} {q:Pv} {g g1:Pg}
theorem iter_calm {F:Nat→Nat→Pg→Pg} (hF:Calm F) {t b:Nat} (h1:t ≤ b):∀ (n:Nat) (g:Pg),b < g.scr.length→(iterP (F t b) n g).scr.length = g.scr.length∧(iterP (F t b) n g).told.length ≤ g.told.length + 2 * n
 | 0,g,h => ⟨rfl,Nat.le_refl _⟩
 | n + 1,g,h => by
   have ih:=iter_calm hF h1 n g h
   have:=hF t b (iterP (F t b) n g) h1 (by omega)
   exact ⟨this.1.trans ih.1,by show (F t b (iterP (F t b) n g)).told.length ≤ _;omega⟩
set_option maxHeartbeats 3200000 in
theorem ptimes_any (h:PgO base w q g) (top bottom n:Int) (b:Col) (f:FuncId) (F:Nat→Nat→Pg→Pg) (hF:Calm F) (ht:g.told.length ≤ 900000) (hn:n ≤ 9223372036854775807) (hn0:-9223372036854775808 ≤ n)
 (hf:∀ (args:Array Value) (w:World),(callFunc f args).run Tryz.prog w = .ok (.enter f args) w)
 (hdo:∀ (w1:World) (q1:Pv) (g1:Pg) (t bo:Nat),q1.P = q.P→PgO base w1 q1 g1→t ≤ bo→bo < g1.scr.length→g1.told.length ≤ 999990→Calls Tryz.prog f #[.pointer (some ⟨q.P,0,none⟩),.int .i64 t,.int .i64 bo,.agg #[.int .i64 b.k,.int .i64 b.n]] w1 (PgPost base w1 q1 (F t bo g1))) :
 Calls Tryz.prog 347 #[.pointer (some ⟨q.P,0,none⟩),.int .i64 top,.int .i64 bottom,.int .i64 n,.func (.func f) #[.pointer (some ⟨q.P,0,none⟩)] #[],.agg #[.int .i64 b.k,.int .i64 b.n]] w (PgPost base w q (timesP g top bottom n F)):=by
 have hrows:=h.rows1000
 have hlen:=h.len
 obtain ⟨W,hW⟩:∃ W,w.alloc (.cells #[.int .i64 b.k,.int .i64 b.n] 61) = W:=⟨_,rfl⟩
 have hb0:Below w.heap.size w W:=by rw [← hW];exact below_allocs (Below.refl _ _) _
 have HN:=Hd (show W.heap[w.heap.size]? = some (.cells #[.int .i64 b.k,.int .i64 b.n] 61 (0,0)) from by rw [← hW];exact hp_new rfl)
 have HB:=Hd hb0
 have HX:w.heap.size ∉ pgX q:=fun hx => by have:=h.lt _ hx;omega
 have H0:=Hd (h.below hb0).res
 have HI1:=Hd (pIn_any (h.below hb0) top)
 have HI2:=Hd (pIn_any (h.below hb0) bottom)
 have HIT:=Hd (show inP g top = decide (0 ≤ top∧top < g.scr.length) from by unfold inP;rw [Bool.decide_and])
 have HIB:=Hd (show inP g bottom = decide (0 ≤ bottom∧bottom < g.scr.length) from by unfold inP;rw [Bool.decide_and])
 have HTP:Hid (timesP g top bottom n F = if inP g top && inP g bottom && decide (top ≤ bottom) then iterP (F top.toNat bottom.toNat) (min n.toNat (bottom - top + 1).toNat) g else g):=Hd rfl
 rw [HTP.out]
 obtain ⟨b0,-⟩:=at_ HN.out 0 _ rfl
 obtain ⟨b1,-⟩:=at_ HN.out 1 _ rfl
 have HB0:=Hd b0
 have HB1:=Hd b1
 have HDO:=Hd hdo
 clear hdo h hb0 HTP
 generalize hi1:inP g top = i1 at HI1 HIT ⊢
 generalize hi2:inP g bottom = i2 at HI2 HIB ⊢
 clear hi1 hi2
 cases i1 with
 | false =>
   clear b0 b1
   go_enter Tryz.func347,Tryz.ntmps347
   go_wp2_with (go_at_call 289;first | (refine HI1.out.mono ?_;rintro e w9 ⟨rfl,rfl⟩))
   go_end0
   exact ⟨rfl,H0.out.pre HB.out⟩
 | true =>
 cases i2 with
 | false =>
   clear b0 b1
   go_enter Tryz.func347,Tryz.ntmps347
   go_wp2_with (go_at_call 289;first | ((with_reducible refine HI1.out.mono ?_);rintro e w9 ⟨rfl,rfl⟩;have HI1:=Hd True.intro) | ((with_reducible refine HI2.out.mono ?_);rintro e w9 ⟨rfl,rfl⟩))
   go_end0
   exact ⟨rfl,H0.out.pre HB.out⟩
 | true =>
 by_cases htb:top ≤ bottom
 rotate_left
 · have hgt:bottom < top:=by omega
   rw [if_neg (show ¬ (true && true && decide (top ≤ bottom)) = true from by simp;omega)]
   clear b0 b1
   go_enter Tryz.func347,Tryz.ntmps347
   go_wp2_with (go_at_call 289;first | ((with_reducible refine HI1.out.mono ?_);rintro e w9 ⟨rfl,rfl⟩;have HI1:=Hd True.intro) | ((with_reducible refine HI2.out.mono ?_);rintro e w9 ⟨rfl,rfl⟩))
   go_end0
   exact ⟨rfl,H0.out.pre HB.out⟩
 have ht1:=of_decide_eq_true HIT.out.symm
 have hb1':=of_decide_eq_true HIB.out.symm
 obtain ⟨t,rfl⟩:∃ t:Nat,top = t:=⟨top.toNat,by omega⟩
 obtain ⟨bo,rfl⟩:∃ bo:Nat,bottom = bo:=⟨bottom.toNat,by omega⟩
 have htb':t ≤ bo:=by omega
 have hbo:bo < g.scr.length:=by omega
 obtain ⟨d,hd⟩:∃ d:Nat,d = bo - t:=⟨_,rfl⟩
 have hdI:(bo:Int) - (t:Int) = (d:Int):=by omega
 have hdN:bo - t = d:=hd.symm
 have hwd:IntKind.i64.wrap (d:Int) = (d:Int):=IntWalk.i64_in _ (by omega)
 obtain ⟨d1,hd1⟩:∃ d1:Nat,d1 = d + 1:=⟨_,rfl⟩
 have hd1I:(d:Int) + 1 = (d1:Int):=by omega
 have hwd1:IntKind.i64.wrap (d1:Int) = (d1:Int):=IntWalk.i64_in _ (by omega)
 obtain ⟨m,hm⟩:∃ m:Nat,(if 0 < n then n else 0) = (m:Int):=⟨n.toNat,by omega⟩
 obtain ⟨N,hN⟩:∃ N:Nat,(if (d1:Int) < (m:Int) then (d1:Int) else (m:Int)) = (N:Int):=⟨min d1 m,by omega⟩
 have hN2:(if d1 < m then (d1:Int) else (m:Int)) = (N:Int):=by rw [← hN];congr 1;simp
 have hNv:min n.toNat ((bo:Int) - (t:Int) + 1).toNat = N:=by omega
 have hN1000:N ≤ 1000:=by omega
 have hng:¬ (bo:Int) < (t:Int):=by omega
 have hngN:¬ bo < t:=by omega
 have hngD:decide (bo < t) = false:=decide_eq_false hngN
 have HRES:Hid ((if (true && true && decide ((t:Int) ≤ (bo:Int))) = true then iterP (F ((t:Int)).toNat ((bo:Int)).toNat) (min n.toNat ((bo:Int) - (t:Int) + 1).toNat) g else g) = iterP (F t bo) N g):=Hd (by
  rw [if_pos (by simp;omega),hNv];rfl)
 rw [HRES.out]
 have HCA:=Hd (fun i => iter_calm hF htb' i g hbo)
 have HTB:=Hd (And.intro htb' hbo)
 clear hd hd1 hNv htb htb' hbo ht1 hb1' HRES
 go_enter Tryz.func347,Tryz.ntmps347
 go_wp2_with (go_at_call 289;first | ((with_reducible refine HI1.out.mono ?_);rintro e w9 ⟨rfl,rfl⟩;have HI1:=Hd True.intro) | ((with_reducible refine HI2.out.mono ?_);rintro e w9 ⟨rfl,rfl⟩))
 go_loopw [34] (fun s34 wr => ∃ i:Nat,s34 = .int .i64 i∧i ≤ N∧PgRes base W q (iterP (F t bo) i g) wr) (fun s34 _ => N - (intOf s34).toNat)
 case atStart => exact ⟨0,rfl,Nat.zero_le _,H0.out⟩
 case round =>
  obtain ⟨i,rfl,hi,hs⟩:=hrel
  have HS:=Hd hs
  have z0:=hs.hold HX HB0.out
  have z1:=hs.hold HX HB1.out
  clear hs
  by_cases hlt:i < N
  rotate_left
  · obtain rfl:i = N:=by omega
    go_wp2
    go_end0
    exact ⟨rfl,HS.out.pre HB.out⟩
  · have hltI:(i:Int) < (N:Int):=by omega
    have HC:=Hd (pg_then HS.out (fun q1 e hq => HDO.out wr q1 _ t bo e hq HTB.out.1 (by rw [(HCA.out i).1];exact HTB.out.2) (by have:=(HCA.out i).2;omega)))
    have hfc:=hf #[.pointer (some ⟨q.P,0,none⟩),.int .i64 t,.int .i64 bo,.agg #[.int .i64 b.k,.int .i64 b.n]]
    go_wp2_with (refine HC.out.mono ?_;rintro e w5 ⟨rfl,hs⟩;have HS5:=Hd hs;clear hs)
    go_roundw
    case rel => exact ⟨i + 1,by go_num,by omega,HS5.out⟩
    case measure => simp [intOf];omega
end
section
variable {base:Nat} {w w1:World} {q:Pv} {g g1:Pg}
set_option maxHeartbeats 1600000 in
theorem pUp_any (h:PgO base w q g) (top bottom n:Int) (b:Col) (ht:g.told.length ≤ 900000) (hn:n ≤ 9223372036854775807) (hn0:-9223372036854775808 ≤ n) :
 Calls Tryz.prog 285 #[.pointer (some ⟨q.P,0,none⟩),.int .i64 top,.int .i64 bottom,.int .i64 n,.agg #[.int .i64 b.k,.int .i64 b.n]] w (PgPost base w q (timesP g top bottom n (fun t bo g => upP g t bo b))):=by
 have hb0:Below w.heap.size w (w.alloc (.cells #[.int .i64 b.k,.int .i64 b.n] 61)):=below_allocs (Below.refl _ _) _
 have HB:=Hd hb0
 have HT:=Hd (ptimes_any (h.below hb0) top bottom n b 348 (fun t bo g => upP g t bo b) (calm_up b) ht hn hn0 (fun args w => by kernel_rfl) (fun w1 q1 g1 t bo e hq h1 h2 h3 => by
  rw [← e]
  exact pup_any hq t bo b h1 h2 h3))
 clear h hb0
 go_enter Tryz.func285,Tryz.ntmps285
 go_wp2_with (go_at_call 347;(with_reducible refine HT.out.mono ?_);rintro e w2 ⟨rfl,hs⟩;have HS:=Hd hs;clear hs)
 go_end0
 exact ⟨rfl,HS.out.pre HB.out⟩
def ShiftsPost (base:Nat) (w:World) (q:Pv) (g:Pg) (e:Ending) (w':World):Prop :=
 ∃ v,e = .returned v∧w'.ownsRow base 94 3 v g.told.length (flat encTl g.told)∧PgRes base w q { g with told:=[] } w'
set_option maxHeartbeats 1600000 in
theorem pShifts_any (h:PgO base w q g):Calls Tryz.prog 84 #[.pointer (some ⟨q.P,0,none⟩)] w (ShiftsPost base w q g):=by
 obtain ⟨-,-,-,x3,x3f⟩:=h.cells
 have HR:=Hd (h.retold (vt':=.slice none 0 0) (t':=[]) (World.ownsRow_nil _ _ _ _) (Mod.refl _ _) (fun b hb => by simp [Value.ownBlock] at hb))
 have HO:=Hd (owns_mod h.told ((Mod.refl [q.P] w).setCell (a:=⟨q.P,3,none⟩) (.inl (by simp)) (.slice none 0 0)) (fun b hb hx => by
  obtain ⟨cur,hc⟩:=own_block h.told hb
  rw [List.mem_singleton.1 hx] at hc
  exact block_ne h.blk hc (by decide) rfl))
 clear h
 go_enter Tryz.func84,Tryz.ntmps84
 go_wp2
 go_ret
 exact ⟨_,rfl,HO.out,HR.out⟩
end
end Go.Proofs.YtaefcahblmopfaaGreatDoor
