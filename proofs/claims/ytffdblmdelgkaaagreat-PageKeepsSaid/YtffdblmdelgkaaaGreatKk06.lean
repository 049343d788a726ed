/- Joined by a tool of this claim out of smaller texts. Conditions: as stated. -/
import Derived.Test.YtffdblmdelgkaaaGreatKk05
import Derived.Deep.LoopGhost
namespace Go.Proofs.YtffdblmdelgkaaaGreat
open Go.RowKit
section
variable {base : Nat} {w w1 : World} {q : Pv} {g g1 : Pg}
/-- The ring behind a push, block k apart from it. -/
def Rg3 (base : Nat) (w : World) (R : Nat) (vl : Value) (room : Nat) (gone' : Int) (H' : List Ro) (k : Nat) (w' : World) : Prop :=
  (∃ vl' SL' first' n', RgO base w' R vl' SL' room first' n' gone' ∧ (histL SL' first' n').map roOf = H' ∧ Mod (ringX R vl) w w' ∧ (∀ g, vl'.ownBlock = some g → vl.ownBlock = some g ∨ w.heap.size ≤ g) ∧ k ∉ ringX R vl') ∧
    w'.heap[k]? = some (.cells #[.slice none 0 0, .bool false] 50 (0, 0)) ∧ w.heap.size ≤ k
theorem RgPost.pre {R : Nat} {vl : Value} {room : Nat} {gone' : Int} {H' : List Ro} {wp w' : World} (hb : Below w.heap.size w wp) (h : RgPost base wp R vl room gone' H' w') : RgPost base w R vl room gone' H' w' := by
  obtain ⟨vl', SL', f', n', h1, h2, h3, h4⟩ := h
  exact ⟨vl', SL', f', n', h1, h2, (Mod.of_below (X := ringX R vl) hb).trans h3 (fun b hb => .inl hb), fun g hg => (h4 g hg).imp id (fun h => Nat.le_trans hb.size h)⟩
theorem Rg3.store {R : Nat} {vl : Value} {room : Nat} {gone' : Int} {H' : List Ro} {k : Nat} {w' : World} (u v : Value) (h : Rg3 base w R vl room gone' H' k w') : RgPost base w R vl room gone' H' ((w'.setCell ⟨k, 0, none⟩ u).setCell ⟨k, 1, none⟩ v) := by
  obtain ⟨⟨vl', SL', f', n', h1, h2, h3, h4, h5⟩, hk, hkw⟩ := h
  exact ⟨vl', SL', f', n', h1.mod (mod_set2 (X := [k]) (o := 0) (Mod.refl _ _) (.inl (by simp))) (fun b hb cs f he => by
    rw [List.mem_singleton.1 hb] at he
    exact block_ne hk he (by decide) rfl) (fun b hb hX => by rw [List.mem_singleton.1 hX] at hb; exact h5 hb), h2, mod_set2 (o := 0) h3 (.inr hkw), h4⟩
/-- The ring of a page is another one. -/
theorem PgO.ringed (h : PgO base w q g) {gone' : Int} {H' : List Ro} (hp : RgPost base w q.R q.vl g.room (gone' % 18446744073709551616) H' w1) (hg0 : 0 ≤ gone') : PgRes base w q { g with hist := H', gone := gone' } w1 := by
  obtain ⟨vl', SL', f', n', h1, h2, hm, hv⟩ := hp
  have hX := h.ring.nocel
  have hne : ∀ (b : Nat) (cur : Array Value) (t : TypeId), w.heap[b]? = some (.cells cur t (0, 0)) → t ≠ 114 → t ≠ 50 → b ∉ ringX q.R q.vl := fun b cur t hb a1 a2 hx => by
    rcases List.mem_cons.1 hx with rfl | hx
    · exact block_ne h.ring.blk hb a1.symm rfl
    · obtain ⟨cur2, hc⟩ := own_block h.ring.own (Option.mem_toList.1 hx)
      exact block_ne hc hb a2.symm rfl
  have hvs : ∀ b, q.vs.ownBlock = some b → b ∉ ringX q.R q.vl := fun b hb hx => by
    obtain ⟨cur, hc⟩ := own_block h.own hb
    rcases List.mem_cons.1 hx with rfl | hx
    · exact block_ne h.ring.blk hc (by decide) rfl
    · exact h.apart b hb (Option.mem_toList.1 hx)
  refine ⟨{ q with vl := vl', SL := SL', first := f', n := n' }, rfl, rfl, ⟨(hm.block q.P (Array.getElem?_eq_some_iff.1 h.blk).1 (hne _ _ _ h.blk (by decide) (by decide))).trans h.blk, h.hb, h1, owns_mod h.own hm (fun b hb => hvs b hb), owns_mod h.told hm (fun b hb => ?_), fun b hb hb2 => ?_, h.scr, h2, fun r hr => ⟨(h.rows r hr).1.mod hm hX, (h.rows r hr).2⟩, h.cols2, h.cols1000, h.rows1000, hg0⟩, hm.mono (fun b hb => by simp [pgX, hb]), fun b hb => ?_⟩
  · obtain ⟨cur, hc⟩ := own_block h.told hb
    exact hne _ _ _ hc (by decide) (by decide)
  · rcases hv b hb2 with h3 | h3
    · exact h.apart b hb h3
    · have := (h.own.lt b hb).2; omega
  · rcases List.mem_cons.1 hb with rfl | hb
    · exact .inl (by simp [pgX])
    rcases List.mem_append.1 hb with hb | hb
    · exact .inl (by simp [pgX, Option.mem_toList.1 hb])
    rcases List.mem_append.1 hb with hb | hb
    · exact .inl (by simp [pgX, Option.mem_toList.1 hb])
    rcases List.mem_cons.1 hb with rfl | hb
    · exact .inl (by simp [pgX, ringX])
    · rcases hv b (Option.mem_toList.1 hb) with h3 | h3
      · exact .inl (by simp [pgX, ringX, h3])
      · exact .inr h3
end
end Go.Proofs.YtffdblmdelgkaaaGreat
namespace Go.Proofs.YtffdblmdelgkaaaGreat
open Go.RowKit
def pushH (room : Nat) (H : List Ro) (r : Ro) : List Ro := if room = 0 then [] else if H.length = room then H.drop 1 ++ [r] else H ++ [r]
def pushG (room : Nat) (H : List Ro) (gone : Int) : Int := if H.length = room then gone + 1 else gone
theorem pushP_eq (g : Pg) (r : Ro) (h : g.hist.length ≤ g.room) : pushP g r = ({ g with hist := pushH g.room g.hist r, gone := pushG g.room g.hist g.gone }, decide (g.hist.length = g.room)) := by
  unfold pushP pushH pushG
  split
  · next h0 =>
    have hn : g.hist = [] := List.length_eq_zero_iff.1 (by omega)
    obtain ⟨room, hist, gone, scr, cols, told⟩ := g
    simp only at h0 hn
    subst h0 hn
    simp
  · next h0 =>
    split
    · next h1 => simp [h1]
    · next h1 => simp [h1]
section
variable {base : Nat} {w w1 : World} {q : Pv} {g g1 : Pg}
set_option maxRecDepth 100000 in
set_option maxHeartbeats 3200000 in
theorem pup_zero (h : PgO base w q g) (bottom : Nat) (b : Col) (h2 : bottom < g.scr.length) (ht : g.told.length ≤ 999990) :
    Calls Tryz.prog 68 #[.pointer (some ⟨q.P, 0, none⟩), .int .i64 0, .int .i64 bottom, .agg #[.int .i64 b.k, .int .i64 b.n]] w (PgPost base w q (upP g 0 bottom b)) := by
  have hrows := h.rows1000
  have hlen := h.len
  have hh := h.hist100k
  have hhr : g.hist.length ≤ g.room := by have := h.hlen; have := h.ring.hn; have := h.ring.hm; omega
  have hg0 := h.gone0
  obtain ⟨r0, hr0⟩ : ∃ r0, g.scr[0]? = some r0 := ⟨_, List.getElem?_eq_getElem (by omega)⟩
  have hgD : g.scr.getD 0 ⟨[], false⟩ = r0 := by rw [List.getD_eq_getElem?_getD, hr0]; rfl
  obtain ⟨W, hW⟩ : ∃ W, w.alloc (.cells #[.int .i64 b.k, .int .i64 b.n] 32) = W := ⟨_, rfl⟩
  have hb0 : Below w.heap.size w W := by rw [← hW]; exact below_allocs (Below.refl _ _) _
  have HN := Lib.hid (show W.heap[w.heap.size]? = some (.cells #[.int .i64 b.k, .int .i64 b.n] 32 (0, 0)) from by rw [← hW]; exact hp_new rfl)
  have HB := Lib.hid hb0
  have HX : w.heap.size ∉ pgX q := fun hx => by have := h.lt _ hx; omega
  have H0 := Lib.hid (h.below hb0).res
  have hwa : IntKind.i64.wrap ((g.hist.length : Int) + (bottom : Int)) = (g.hist.length : Int) + (bottom : Int) := IntWalk.i64_in _ (by omega)
  have hwb : IntKind.i64.wrap ((g.hist.length : Int) + (bottom : Int) + 1) = (g.hist.length : Int) + (bottom : Int) + 1 := IntWalk.i64_in _ (by omega)
  have hwc : IntKind.i64.wrap ((bottom : Int) + 1) = (bottom : Int) + 1 := IntWalk.i64_in _ (by omega)
  have HBA := Lib.hid (base_then H0.out)
  have HT1 := Lib.hid (tell_then H0.out 0 ((g.hist.length : Int) + bottom + 1) 1 (by omega))
  obtain ⟨b0, -⟩ := at_ HN.out 0 _ rfl
  obtain ⟨b1, -⟩ := at_ HN.out 1 _ rfl
  have HB0 := Lib.hid b0
  have HB1 := Lib.hid b1
  have HR0 := Lib.hid hr0
  obtain ⟨gP, hgP⟩ : ∃ gP, ({ tellP g 0 ((g.hist.length : Int) + bottom + 1) 1 with hist := pushH g.room g.hist r0, gone := pushG g.room g.hist g.gone } : Pg) = gP := ⟨_, rfl⟩
  have HGP := Lib.hid hgP
  obtain ⟨gT, hgT⟩ : ∃ gT, (if g.hist.length = g.room then tellP gP 2 0 1 else gP) = gT := ⟨_, rfl⟩
  have HU : Hid (upP g 0 bottom b = contP { gT with scr := slideUp g.scr 0 bottom (blankR g.cols b) } ((bottom : Int) + 1) false) := Lib.hid (by
    unfold upP
    rw [if_neg (by omega)]
    simp only []
    rw [hgD, pushP_eq _ _ (show (tellP g 0 ((g.hist.length : Int) + bottom + 1) 1).hist.length ≤ _ from hhr)]
    simp only []
    rw [← hgT, ← hgP]
    by_cases hf : g.hist.length = g.room
    · simp [tellP, hf]
    · simp [tellP, hf])
  have HGT := Lib.hid hgT
  have HSC : Hid (gT.scr = g.scr ∧ gT.cols = g.cols ∧ gP.told.length = g.told.length + 1) := Lib.hid (by
    rw [← hgT, ← hgP]
    refine ⟨?_, ?_, by simp [tellP]⟩
    · split <;> rfl
    · split <;> rfl)
  rw [HU.out]
  have HSL : Hid (∀ w1, PgRes base W q gT w1 → Calls Tryz.prog 117 #[.pointer (some ⟨q.P, 0, none⟩), .int .i64 0, .int .i64 bottom, .agg #[.int .i64 b.k, .int .i64 b.n]] w1 (PgPost base W q { gT with scr := slideUp g.scr 0 bottom (blankR g.cols b) })) := Lib.hid (fun w1 hs => by
    have := slideU_then hs 0 bottom b (Nat.zero_le _) (by rw [HSC.out.1]; exact h2)
    rw [show slideUp g.scr 0 bottom (blankR g.cols b) = slideUp gT.scr 0 bottom (blankR gT.cols b) from by rw [HSC.out.1, HSC.out.2.1]]
    exact this)
  have HPA := Lib.hid (fun (w1 : World) (hs : PgRes base W q { gT with scr := slideUp g.scr 0 bottom (blankR g.cols b) } w1) => part_then hs ((bottom : Int) + 1))
  have HT2 := Lib.hid (fun (w1 : World) (hs : PgRes base W q gP w1) => tell_then hs 2 0 1 (by rw [HSC.out.2.2]; omega))
  clear hb0 b0 b1 hr0 hgD hgP hgT
  have H := Lib.hid h
  clear h
  go_enter Tryz.func68, Tryz.ntmps68
  go_upto_region 4 with (first
    | (go_at_call 17; (with_reducible refine HBA.out.mono ?_); rintro e w9 ⟨rfl, rfl⟩)
    | (go_at_call 57; (with_reducible refine HT1.out.mono ?_); rintro e w2 ⟨rfl, hs⟩; have HS1 := Lib.hid hs; clear hs))
  obtain ⟨q1, e1, e2, hq1, hm1, hx1⟩ := HS1.out
  have hS0 : q1.S[0]?.map roOf = some r0 := by
    rw [← List.getElem?_map, hq1.scr]; exact HR0.out
  obtain ⟨rr, hrr, hro⟩ : ∃ rr, q1.S[0]? = some rr ∧ roOf rr = r0 := by
    cases h : q1.S[0]? with
    | none => rw [h] at hS0; cases hS0
    | some x => rw [h] at hS0; exact ⟨x, rfl, by simpa using hS0⟩
  have h0S : 0 < q1.S.length := (List.getElem?_eq_some_iff.1 hrr).1
  obtain ⟨gs, c, hv⟩ := own_form hq1.own h0S
  obtain ⟨hrc, hrl⟩ := hq1.rows rr (List.mem_of_getElem? hrr)
  obtain ⟨⟨x0, -⟩, ⟨x1, -⟩, -⟩ := hq1.cells
  have hown := hq1.own
  rw [hv] at x1 hown
  obtain ⟨⟨y0, -⟩, y1, -⟩ := owns_row hown hrr
  rw [e1] at x0 x1
  rw [Nat.zero_mul] at y0 y1
  have h0I : (0 : Int) < (q1.S.length : Int) := by omega
  have hc2 := hq1.cols2
  have HQ := Lib.hid hq1
  have HRR := Lib.hid (And.intro hrc (And.intro hrl hro))
  have HMX := Lib.hid (And.intro hm1 hx1)
  have hPX : ∀ b, b ∈ [q.P, gs] → b ∉ ringX q1.R q1.vl := fun b hb hx => by
    rcases List.mem_cons.1 hb with rfl | hb
    · rw [← e1] at hx
      rcases List.mem_cons.1 hx with h | hx
      · exact block_ne hq1.blk hq1.ring.blk (by decide) h
      · obtain ⟨cur, hc⟩ := own_block hq1.ring.own (Option.mem_toList.1 hx)
        exact block_ne hq1.blk hc (by decide) rfl
    · rw [List.mem_singleton.1 hb] at hx
      obtain ⟨cur, hc⟩ := own_block hq1.own (g := gs) (by rw [hv]; rfl)
      rcases List.mem_cons.1 hx with h | hx
      · exact block_ne hc hq1.ring.blk (by decide) h
      · exact hq1.apart gs (by rw [hv]; rfl) (Option.mem_toList.1 hx)
  have HPX := Lib.hid hPX
  have HRlt := Lib.hid hq1.ring.lt
  have HPU : Hid (∀ w', Below w2.heap.size w2 w' → Calls Tryz.prog 106 #[.pointer (some ⟨q1.R, 0, none⟩), .agg #[.slice rr.A rr.cs.length rr.cap, .bool rr.cont]] w' (fun e w3 => ∃ r6 : Rh, e = .returned (.tuple #[.agg #[.slice r6.A r6.cs.length r6.cap, .bool r6.cont], .bool (decide (g.hist.length = g.room))]) ∧ RgPost base w' q1.R q1.vl g.room (pushG g.room g.hist g.gone % 18446744073709551616) (pushH g.room g.hist r0) w3)) := Lib.hid (fun w' hb => by
    have hrg := (hq1.below hb).ring
    have hn : q1.n = g.hist.length := hq1.hlen.symm
    have hhist : (histL q1.SL q1.first q1.n).map roOf = g.hist := hq1.hist
    refine (rpush_any hrg (Int.emod_nonneg _ (by decide)) (by have := (hrg.lt q1.R (by simp [ringX])); omega) rr (hrc.below hb) (by rw [hrl]; have : (2 : Nat) ≤ g.cols := hc2; show 0 < g.cols; omega)).mono ?_
    rintro e w3 ⟨r6, he, hp⟩
    rw [hn] at he hp
    rw [← hn, hhist, hro, hn] at hp
    refine ⟨r6, he, ?_⟩
    have e1 : (if g.hist.length = (tellP g 0 ((g.hist.length : Int) + bottom + 1) 1).room then ((tellP g 0 ((g.hist.length : Int) + bottom + 1) 1).gone % 18446744073709551616 + 1) % 18446744073709551616 else (tellP g 0 ((g.hist.length : Int) + bottom + 1) 1).gone % 18446744073709551616) = pushG g.room g.hist g.gone % 18446744073709551616 := by
      unfold pushG
      show (if g.hist.length = g.room then (g.gone % 18446744073709551616 + 1) % 18446744073709551616 else g.gone % 18446744073709551616) = _
      split
      · omega
      · rfl
    rw [e1] at hp
    exact hp)
  obtain ⟨fl, hfl⟩ : ∃ fl, decide (g.hist.length = g.room) = fl := ⟨_, rfl⟩
  rw [hfl] at HPU
  have HFL := Lib.hid hfl
  clear hfl
  generalize hG' : pushG g.room g.hist g.gone = G' at HPU
  generalize hH' : pushH g.room g.hist r0 = H' at HPU
  have HGH := Lib.hid (And.intro hG' hH')
  have HG0 := Lib.hid (show 0 ≤ G' from by rw [← hG']; unfold pushG; split <;> omega)
  clear hS0 hrr hrc hm1 hx1 hown hPX hq1 hro hrl hG' hH'
  have HIm : Hid (∀ (wa wb : World), (wa.cell? ⟨q.P, 0, none⟩ = some (.pointer (some ⟨q1.R, 0, none⟩)) ∧ wa.cell? ⟨q.P, 1, none⟩ = some (.slice (some ⟨gs, 0, none⟩) q1.S.length c) ∧ wa.cell? ⟨gs, 0, none⟩ = some (.slice rr.A rr.cs.length rr.cap) ∧ wa.cell? ⟨gs, 0 + 1, none⟩ = some (.bool rr.cont)) → Mod (ringX q1.R q1.vl) wa wb → (wb.cell? ⟨q.P, 0, none⟩ = some (.pointer (some ⟨q1.R, 0, none⟩)) ∧ wb.cell? ⟨q.P, 1, none⟩ = some (.slice (some ⟨gs, 0, none⟩) q1.S.length c) ∧ wb.cell? ⟨gs, 0, none⟩ = some (.slice rr.A rr.cs.length rr.cap) ∧ wb.cell? ⟨gs, 0 + 1, none⟩ = some (.bool rr.cont))) :=
    Lib.hid (fun wa wb hI hm => ⟨hm.cell (HPX.out _ (by simp)) hI.1, hm.cell (HPX.out _ (by simp)) hI.2.1, hm.cell (HPX.out _ (by simp)) hI.2.2.1, hm.cell (HPX.out _ (by simp)) hI.2.2.2⟩)
  have HIw : Hid (∀ (wa : World) (k : Nat), (wa.cell? ⟨q.P, 0, none⟩ = some (.pointer (some ⟨q1.R, 0, none⟩)) ∧ wa.cell? ⟨q.P, 1, none⟩ = some (.slice (some ⟨gs, 0, none⟩) q1.S.length c) ∧ wa.cell? ⟨gs, 0, none⟩ = some (.slice rr.A rr.cs.length rr.cap) ∧ wa.cell? ⟨gs, 0 + 1, none⟩ = some (.bool rr.cont)) → w2.heap.size ≤ k → ∀ (u v : Value), (((wa.setCell ⟨k, 0, none⟩ u).setCell ⟨k, 1, none⟩ v).cell? ⟨q.P, 0, none⟩ = some (.pointer (some ⟨q1.R, 0, none⟩)) ∧ ((wa.setCell ⟨k, 0, none⟩ u).setCell ⟨k, 1, none⟩ v).cell? ⟨q.P, 1, none⟩ = some (.slice (some ⟨gs, 0, none⟩) q1.S.length c) ∧ ((wa.setCell ⟨k, 0, none⟩ u).setCell ⟨k, 1, none⟩ v).cell? ⟨gs, 0, none⟩ = some (.slice rr.A rr.cs.length rr.cap) ∧ ((wa.setCell ⟨k, 0, none⟩ u).setCell ⟨k, 1, none⟩ v).cell? ⟨gs, 0 + 1, none⟩ = some (.bool rr.cont))) :=
    Lib.hid (fun wa k hI hk u v => by
      have hm : Mod [k] wa ((wa.setCell ⟨k, 0, none⟩ u).setCell ⟨k, 1, none⟩ v) := mod_set2 (o := 0) (Mod.refl _ _) (.inl (by simp))
      have h1 : q.P ∉ [k] := by have := lt_of_cell x0; simp; omega
      have h2 : gs ∉ [k] := by have := lt_of_cell y0; simp; omega
      exact ⟨hm.cell h1 hI.1, hm.cell h1 hI.2.1, hm.cell h2 hI.2.2.1, hm.cell h2 hI.2.2.2⟩)
  refine Go.RL.wp_region_l 16 (fun w' => w'.cell? ⟨q.P, 0, none⟩ = some (.pointer (some ⟨q1.R, 0, none⟩)) ∧ w'.cell? ⟨q.P, 1, none⟩ = some (.slice (some ⟨gs, 0, none⟩) q1.S.length c) ∧ w'.cell? ⟨gs, 0, none⟩ = some (.slice rr.A rr.cs.length rr.cap) ∧ w'.cell? ⟨gs, 0 + 1, none⟩ = some (.bool rr.cont)) (fun w' => Below w2.heap.size w2 w') (by kernel_rfl) (by kernel_rfl) ⟨x0, x1, y0, y1⟩ ((Below.refl _ _).drew) ?_
  refine Go.RL.AtL.take 0 (o := ⟨_, _, _, _, _, _⟩) (v := ?_) (by kernel_rfl) rfl (by simp) (by kernel_rfl) (by kernel_rfl) ?_ ?_; rotate_left
  · (refine Go.RL.Pure.val (by rfl) ?_; intro w' hI; obtain ⟨_, _, _, _⟩ := hI; go_simp; first | done | with_reducible rfl)
  simp only [Act.put, List.setIfInBounds_toArray, List.set_cons_zero, List.set_cons_succ]
  refine Go.RL.AtL.take 1 (o := ⟨_, _, _, _, _, _⟩) (v := ?_) (by kernel_rfl) rfl (by simp) (by kernel_rfl) (by kernel_rfl) ?_ ?_; rotate_left
  · (refine Go.RL.Pure.val (by rfl) ?_; intro w' hI; obtain ⟨_, _, _, _⟩ := hI; go_simp; first | done | with_reducible rfl)
  simp only [Act.put, List.setIfInBounds_toArray, List.set_cons_zero, List.set_cons_succ]
  refine Go.RL.AtL.take 2 (o := ⟨_, _, _, _, _, _⟩) (v := ?_) (by kernel_rfl) rfl (by simp) (by kernel_rfl) (by kernel_rfl) ?_ ?_; rotate_left
  · (refine Go.RL.Pure.val (by rfl) ?_; intro w' hI; obtain ⟨_, _, _, _⟩ := hI; go_simp; first | done | with_reducible rfl)
  simp only [Act.put, List.setIfInBounds_toArray, List.set_cons_zero, List.set_cons_succ]
  refine Go.RL.AtL.take 3 (o := ⟨_, _, _, _, _, _⟩) (v := ?_) (by kernel_rfl) rfl (by simp) (by kernel_rfl) (by kernel_rfl) ?_ ?_; rotate_left
  · (refine Go.RL.Pure.val (by rfl) ?_; intro w' hI; obtain ⟨_, _, _, _⟩ := hI; go_simp; first | done | with_reducible rfl)
  simp only [Act.put, List.setIfInBounds_toArray, List.set_cons_zero, List.set_cons_succ]
  refine Go.RL.AtL.take 4 (o := ⟨_, _, _, _, _, _⟩) (v := ?_) (by kernel_rfl) rfl (by simp) (by kernel_rfl) (by kernel_rfl) ?_ ?_; rotate_left
  · (refine Go.RL.Pure.val (by rfl) ?_; intro w' hI; obtain ⟨_, _, _, _⟩ := hI; go_simp; first | done | with_reducible rfl)
  simp only [Act.put, List.setIfInBounds_toArray, List.set_cons_zero, List.set_cons_succ]
  refine Go.RL.AtL.take 5 (o := ⟨_, _, _, _, _, _⟩) (v := ?_) (by kernel_rfl) rfl (by simp) (by kernel_rfl) (by kernel_rfl) ?_ ?_; rotate_left
  · (refine Go.RL.Pure.val (by rfl) ?_; intro w' hI; obtain ⟨_, _, _, _⟩ := hI; go_simp; first | done | with_reducible rfl)
  simp only [Act.put, List.setIfInBounds_toArray, List.set_cons_zero, List.set_cons_succ]
  refine Go.RL.AtL.take 6 (o := ⟨_, _, _, _, _, _⟩) (v := ?_) (by kernel_rfl) rfl (by simp) (by kernel_rfl) (by kernel_rfl) ?_ ?_; rotate_left
  · (refine Go.RL.Pure.val (by rfl) ?_; intro w' hI; obtain ⟨_, _, _, _⟩ := hI; go_simp; first | done | with_reducible rfl)
  simp only [Act.put, List.setIfInBounds_toArray, List.set_cons_zero, List.set_cons_succ]
  refine Go.RL.AtL.take 7 (o := ⟨_, _, _, _, _, _⟩) (v := ?_) (by kernel_rfl) rfl (by simp) (by kernel_rfl) (by kernel_rfl) ?_ ?_; rotate_left
  · (refine Go.RL.Pure.val (by rfl) ?_; intro w' hI; obtain ⟨_, _, _, _⟩ := hI; go_simp; first | done | with_reducible rfl)
  simp only [Act.put, List.setIfInBounds_toArray, List.set_cons_zero, List.set_cons_succ]
  refine Go.RL.AtL.take 8 (o := ⟨_, _, _, _, _, _⟩) (v := ?_) (by kernel_rfl) rfl (by simp) (by kernel_rfl) (by kernel_rfl) ?_ ?_; rotate_left
  · (refine Go.RL.Pure.val (by rfl) ?_; intro w' hI; obtain ⟨_, _, _, _⟩ := hI; go_simp; first | done | with_reducible rfl)
  simp only [Act.put, List.setIfInBounds_toArray, List.set_cons_zero, List.set_cons_succ]
  refine Go.RL.AtL.take 9 (o := ⟨_, _, _, _, _, _⟩) (v := ?_) (by kernel_rfl) rfl (by simp) (by kernel_rfl) (by kernel_rfl) ?_ ?_; rotate_left
  · (refine Go.RL.Pure.val (by rfl) ?_; intro w' hI; obtain ⟨_, _, _, _⟩ := hI; go_simp; first | done | with_reducible rfl)
  simp only [Act.put, List.setIfInBounds_toArray, List.set_cons_zero, List.set_cons_succ]
  refine Go.RL.AtL.two 10 14 (o := ⟨_, _, _, _, _, _⟩) (o' := ⟨_, _, _, _, _, _⟩) (fun v => ∃ r6 : Rh, v = .tuple #[.agg #[.slice r6.A r6.cs.length r6.cap, .bool r6.cont], .bool fl]) (fun v => ∃ k, v = .pointer (some ⟨k, 0, none⟩)) (fun _ w3 => RgPost base w2 q1.R q1.vl g.room (G' % 18446744073709551616) H' w3)
    (fun v w3 => ∃ k, v = .pointer (some ⟨k, 0, none⟩) ∧ Below w2.heap.size w2 w3 ∧ w3.heap[k]? = some (.cells #[.slice none 0 0, .bool false] 50 (0, 0)) ∧ w2.heap.size ≤ k) (by simp) (by simp) (by kernel_rfl) rfl rfl
    (Go.RL.StabL.call 106 #[.pointer (some ⟨q1.R, 0, none⟩), .agg #[.slice rr.A rr.cs.length rr.cap, .bool rr.cont]] _ _ (by rfl) ?_ (fun w' hI hS => ?_)) (Go.RL.StabL.op _ _ (by rfl) (fun w' hI hS => ?_)) ?_ ?_
  · intro w'
    go_simp
  · refine (HPU.out w' hS).mono ?_
    rintro e w3 ⟨r6, rfl, hp⟩
    exact ⟨_, rfl, ⟨r6, rfl⟩, HIm.out _ _ hI (by obtain ⟨_, _, _, _, _, _, hm, _⟩ := hp; exact hm), hp.pre hS⟩
  · refine ⟨.pointer (some ⟨w'.heap.size, 0, none⟩), w'.alloc (.cells #[.slice none 0 0, .bool false] 50), by go_simp, ⟨_, rfl⟩, HIm.out _ _ hI (Mod.of_below (below_allocs (Below.refl _ _) _)), _, rfl, below_allocs hS _, hp_new rfl, hS.size⟩
  · rintro v ⟨r6, rfl⟩
    simp only [Act.put, List.setIfInBounds_toArray, List.set_cons_zero, List.set_cons_succ]
    refine Go.RL.AtL.take 11 (o := ⟨_, _, _, _, _, _⟩) (v := ?_) (by kernel_rfl) rfl (by simp) (by kernel_rfl) (by kernel_rfl) ?_ ?_; rotate_left
    · (refine Go.RL.Pure.val (by rfl) ?_; intro w' hI; obtain ⟨_, _, _, _⟩ := hI; go_simp; first | done | with_reducible rfl)
    simp only [Act.put, List.setIfInBounds_toArray, List.set_cons_zero, List.set_cons_succ]
    refine Go.RL.AtL.take 12 (o := ⟨_, _, _, _, _, _⟩) (v := ?_) (by kernel_rfl) rfl (by simp) (by kernel_rfl) (by kernel_rfl) ?_ ?_; rotate_left
    · (refine Go.RL.Pure.val (by rfl) ?_; intro w' hI; obtain ⟨_, _, _, _⟩ := hI; go_simp; first | done | with_reducible rfl)
    simp only [Act.put, List.setIfInBounds_toArray, List.set_cons_zero, List.set_cons_succ]
    refine Go.RL.AtL.take 13 (o := ⟨_, _, _, _, _, _⟩) (v := ?_) (by kernel_rfl) rfl (by simp) (by kernel_rfl) (by kernel_rfl) ?_ ?_; rotate_left
    · (refine Go.RL.Pure.val (by rfl) ?_; intro w' hI; obtain ⟨_, _, _, _⟩ := hI; go_simp; first | done | with_reducible rfl)
    simp only [Act.put, List.setIfInBounds_toArray, List.set_cons_zero, List.set_cons_succ]
    refine Go.RL.AtL.one 14 (o := ⟨_, _, _, _, _, _⟩) (fun v => ∃ k, v = .pointer (some ⟨k, 0, none⟩)) (fun v w3 => ∃ k, v = .pointer (some ⟨k, 0, none⟩) ∧ Rg3 base w2 q1.R q1.vl g.room (G' % 18446744073709551616) H' k w3) (by simp) (by kernel_rfl) rfl (Go.RL.StabL.op _ _ (by rfl) (fun w' hI hS => ?_)) ?_
    · refine ⟨.pointer (some ⟨w'.heap.size, 0, none⟩), w'.alloc (.cells #[.slice none 0 0, .bool false] 50), by go_simp, ⟨_, rfl⟩, HIm.out _ _ hI (Mod.of_below (below_allocs (Below.refl _ _) _)), _, rfl, ?_⟩
      obtain ⟨vl', SL', f', n', k1, k2, k3, k4⟩ := hS
      have hb := below_allocs (Below.refl w'.heap.size w') (.cells #[.slice none 0 0, .bool false] 50)
      exact ⟨⟨vl', SL', f', n', k1.below hb, k2, k3.then_below hb, k4, fun hx => by have := (k1.lt _ hx).2; omega⟩, hp_new rfl, k3.size⟩
    rintro v ⟨k, rfl⟩
    simp only [Act.put, List.setIfInBounds_toArray, List.set_cons_zero, List.set_cons_succ]
    refine Go.RL.AtL.one 15 (o := ⟨none, .store 50 (.tmp 8) (.tmp 36), _, _, _, _⟩) (fun _ => True) (fun _ w3 => RgPost base w2 q1.R q1.vl g.room (G' % 18446744073709551616) H' w3) (by simp) (by kernel_rfl) rfl (Go.RL.StabL.unit _ _ (by rfl) (fun w' hI hS => ?_)) ?_
    · have hk3 : Rg3 base w2 q1.R q1.vl g.room (G' % 18446744073709551616) H' k w' := (by obtain ⟨k', e, h⟩ := hS; simp only [Value.pointer.injEq, Option.some.injEq, Addr.mk.injEq, and_true] at e; rw [e]; exact h)
      obtain ⟨k0, k0f⟩ := at_ hk3.2.1 0 _ rfl
      obtain ⟨k1, k1f⟩ := at_ hk3.2.1 1 _ rfl
      refine ⟨(w'.setCell ⟨k, 0, none⟩ (.slice r6.A r6.cs.length r6.cap)).setCell ⟨k, 1, none⟩ (.bool r6.cont), by go_simp, trivial, HIw.out _ k hI hk3.2.2 _ _, hk3.store _ _⟩
    rintro v15 -
    simp only [Act.put]
    refine Go.RL.AtL.done (by kernel_rfl) (fun w' hI hS => ?_)
    have HS4 : Hid (PgRes base W q gP w') := Lib.hid (by
      have := PgRes.trans ⟨e1, e2, HMX.out.1, HMX.out.2⟩ (HQ.out.ringed (gone' := G') hS HG0.out)
      rw [← HGP.out, HGH.out.1, HGH.out.2]
      exact this)
    have z0 := HS4.out.hold HX HB0.out
    have z1 := HS4.out.hold HX HB1.out
    clear hI hS x0 x1 y0 y1
    cases fl with
    | true =>
      have HE : Hid (tellP gP 2 0 1 = gT) := Lib.hid (by rw [← HGT.out, if_pos (of_decide_eq_true HFL.out)])
      rw [HE.out] at HT2
      go_wp2_with (first
        | (go_at_call 57; (with_reducible refine (HT2.out _ HS4.out).mono ?_); rintro e w5 ⟨rfl, hs⟩; have HS5 := Lib.hid hs; have u0 := hs.hold HX HB0.out; have u1 := hs.hold HX HB1.out; clear hs z0 z1)
        | (go_at_call 117; (with_reducible refine (HSL.out _ HS5.out).mono ?_); rintro e w6 ⟨rfl, hs⟩; have HS6 := Lib.hid hs; clear hs)
        | (go_at_call 78; (with_reducible refine (HPA.out _ HS6.out).mono ?_); rintro e w7 ⟨rfl, hs⟩; have HS7 := Lib.hid hs; clear hs))
      go_end0
      exact ⟨rfl, HS7.out.pre HB.out⟩
    | false =>
      have HE : Hid (gP = gT) := Lib.hid (by rw [← HGT.out, if_neg (of_decide_eq_false HFL.out)])
      rw [HE.out] at HS4
      go_wp2_with (first
        | (go_at_call 117; (with_reducible refine (HSL.out _ HS4.out).mono ?_); rintro e w6 ⟨rfl, hs⟩; have HS6 := Lib.hid hs; clear hs)
        | (go_at_call 78; (with_reducible refine (HPA.out _ HS6.out).mono ?_); rintro e w7 ⟨rfl, hs⟩; have HS7 := Lib.hid hs; clear hs))
      go_end0
      exact ⟨rfl, HS7.out.pre HB.out⟩
  · rintro v ⟨k, rfl⟩
    simp only [Act.put, List.setIfInBounds_toArray, List.set_cons_zero, List.set_cons_succ]
    refine Go.RL.AtL.one 10 (o := ⟨_, _, _, _, _, _⟩) (fun v => ∃ r6 : Rh, v = .tuple #[.agg #[.slice r6.A r6.cs.length r6.cap, .bool r6.cont], .bool fl]) (fun _ w3 => Rg3 base w2 q1.R q1.vl g.room (G' % 18446744073709551616) H' k w3) (by simp) (by kernel_rfl) rfl
      (Go.RL.StabL.call 106 #[.pointer (some ⟨q1.R, 0, none⟩), .agg #[.slice rr.A rr.cs.length rr.cap, .bool rr.cont]] _ _ (by rfl) ?_ (fun w' hI hS => ?_)) ?_
    · intro w'
      go_simp
    · obtain ⟨k', e, hb, hk, hkw⟩ := hS
      simp only [Value.pointer.injEq, Option.some.injEq, Addr.mk.injEq, and_true] at e
      subst e
      refine (HPU.out w' hb).mono ?_
      rintro e w3 ⟨r6, rfl, hp⟩
      have hkX : k ∉ ringX q1.R q1.vl := fun hx => by have := (HRlt.out _ hx).2; omega
      have hm : Mod (ringX q1.R q1.vl) w' w3 := by obtain ⟨_, _, _, _, _, _, hm, _⟩ := hp; exact hm
      refine ⟨_, rfl, ⟨r6, rfl⟩, HIm.out _ _ hI hm, ?_, (hm.block k (lt_of_heap hk) hkX).trans hk, hkw⟩
      obtain ⟨vl', SL', f', n', k1, k2, k3, k4⟩ := hp
      refine ⟨vl', SL', f', n', k1, k2, (Mod.of_below (X := ringX q1.R q1.vl) hb).trans k3 (fun b hb => .inl hb), fun g hg => (k4 g hg).imp id (fun h => Nat.le_trans hb.size h), fun hx => ?_⟩
      rcases List.mem_cons.1 hx with h | h
      · have := (HRlt.out q1.R (by simp [ringX])).2; omega
      · rcases k4 k (Option.mem_toList.1 h) with h | h
        · exact hkX (by simp [ringX, h])
        · have := lt_of_heap hk; omega
    rintro v ⟨r6, rfl⟩
    simp only [Act.put, List.setIfInBounds_toArray, List.set_cons_zero, List.set_cons_succ]
    refine Go.RL.AtL.take 11 (o := ⟨_, _, _, _, _, _⟩) (v := ?_) (by kernel_rfl) rfl (by simp) (by kernel_rfl) (by kernel_rfl) ?_ ?_; rotate_left
    · (refine Go.RL.Pure.val (by rfl) ?_; intro w' hI; obtain ⟨_, _, _, _⟩ := hI; go_simp; first | done | with_reducible rfl)
    simp only [Act.put, List.setIfInBounds_toArray, List.set_cons_zero, List.set_cons_succ]
    refine Go.RL.AtL.take 12 (o := ⟨_, _, _, _, _, _⟩) (v := ?_) (by kernel_rfl) rfl (by simp) (by kernel_rfl) (by kernel_rfl) ?_ ?_; rotate_left
    · (refine Go.RL.Pure.val (by rfl) ?_; intro w' hI; obtain ⟨_, _, _, _⟩ := hI; go_simp; first | done | with_reducible rfl)
    simp only [Act.put, List.setIfInBounds_toArray, List.set_cons_zero, List.set_cons_succ]
    refine Go.RL.AtL.take 13 (o := ⟨_, _, _, _, _, _⟩) (v := ?_) (by kernel_rfl) rfl (by simp) (by kernel_rfl) (by kernel_rfl) ?_ ?_; rotate_left
    · (refine Go.RL.Pure.val (by rfl) ?_; intro w' hI; obtain ⟨_, _, _, _⟩ := hI; go_simp; first | done | with_reducible rfl)
    simp only [Act.put, List.setIfInBounds_toArray, List.set_cons_zero, List.set_cons_succ]
    refine Go.RL.AtL.one 15 (o := ⟨none, .store 50 (.tmp 8) (.tmp 36), _, _, _, _⟩) (fun _ => True) (fun _ w3 => RgPost base w2 q1.R q1.vl g.room (G' % 18446744073709551616) H' w3) (by simp) (by kernel_rfl) rfl (Go.RL.StabL.unit _ _ (by rfl) (fun w' hI hS => ?_)) ?_
    · have hk3 : Rg3 base w2 q1.R q1.vl g.room (G' % 18446744073709551616) H' k w' := hS
      obtain ⟨k0, k0f⟩ := at_ hk3.2.1 0 _ rfl
      obtain ⟨k1, k1f⟩ := at_ hk3.2.1 1 _ rfl
      refine ⟨(w'.setCell ⟨k, 0, none⟩ (.slice r6.A r6.cs.length r6.cap)).setCell ⟨k, 1, none⟩ (.bool r6.cont), by go_simp, trivial, HIw.out _ k hI hk3.2.2 _ _, hk3.store _ _⟩
    rintro v15 -
    simp only [Act.put]
    refine Go.RL.AtL.done (by kernel_rfl) (fun w' hI hS => ?_)
    have HS4 : Hid (PgRes base W q gP w') := Lib.hid (by
      have := PgRes.trans ⟨e1, e2, HMX.out.1, HMX.out.2⟩ (HQ.out.ringed (gone' := G') hS HG0.out)
      rw [← HGP.out, HGH.out.1, HGH.out.2]
      exact this)
    have z0 := HS4.out.hold HX HB0.out
    have z1 := HS4.out.hold HX HB1.out
    clear hI hS x0 x1 y0 y1
    cases fl with
    | true =>
      have HE : Hid (tellP gP 2 0 1 = gT) := Lib.hid (by rw [← HGT.out, if_pos (of_decide_eq_true HFL.out)])
      rw [HE.out] at HT2
      go_wp2_with (first
        | (go_at_call 57; (with_reducible refine (HT2.out _ HS4.out).mono ?_); rintro e w5 ⟨rfl, hs⟩; have HS5 := Lib.hid hs; have u0 := hs.hold HX HB0.out; have u1 := hs.hold HX HB1.out; clear hs z0 z1)
        | (go_at_call 117; (with_reducible refine (HSL.out _ HS5.out).mono ?_); rintro e w6 ⟨rfl, hs⟩; have HS6 := Lib.hid hs; clear hs)
        | (go_at_call 78; (with_reducible refine (HPA.out _ HS6.out).mono ?_); rintro e w7 ⟨rfl, hs⟩; have HS7 := Lib.hid hs; clear hs))
      go_end0
      exact ⟨rfl, HS7.out.pre HB.out⟩
    | false =>
      have HE : Hid (gP = gT) := Lib.hid (by rw [← HGT.out, if_neg (of_decide_eq_false HFL.out)])
      rw [HE.out] at HS4
      go_wp2_with (first
        | (go_at_call 117; (with_reducible refine (HSL.out _ HS4.out).mono ?_); rintro e w6 ⟨rfl, hs⟩; have HS6 := Lib.hid hs; clear hs)
        | (go_at_call 78; (with_reducible refine (HPA.out _ HS6.out).mono ?_); rintro e w7 ⟨rfl, hs⟩; have HS7 := Lib.hid hs; clear hs))
      go_end0
      exact ⟨rfl, HS7.out.pre HB.out⟩
end
end Go.Proofs.YtffdblmdelgkaaaGreat
namespace Go.Proofs.YtffdblmdelgkaaaGreat
open Go.RowKit
section
variable {base : Nat} {w w1 : World} {q : Pv} {g g1 : Pg}
set_option maxRecDepth 100000 in
set_option maxHeartbeats 3200000 in
theorem pup_any (h : PgO base w q g) (top bottom : Nat) (b : Col) (h1 : top ≤ bottom) (h2 : bottom < g.scr.length) (ht : g.told.length ≤ 999990) :
    Calls Tryz.prog 68 #[.pointer (some ⟨q.P, 0, none⟩), .int .i64 top, .int .i64 bottom, .agg #[.int .i64 b.k, .int .i64 b.n]] w (PgPost base w q (upP g top bottom b)) := by
  rcases Nat.eq_zero_or_pos top with h0 | h0
  · subst h0
    exact pup_zero h bottom b h2 ht
  have hb0 : Below w.heap.size w (w.alloc (.cells #[.int .i64 b.k, .int .i64 b.n] 32)) := below_allocs (Below.refl _ _) _
  have HC := Lib.hid (pcut_any (h.below hb0) top bottom b h1 h2 ht)
  have HB := Lib.hid hb0
  have HU : Hid (upP g top bottom b = cutP g top bottom b) := Lib.hid (by unfold upP; rw [if_pos h0])
  have h0I : (0 : Int) < (top : Int) := by omega
  rw [HU.out]
  clear h hb0
  go_enter Tryz.func68, Tryz.ntmps68
  go_wp2_with (go_at_call 93; (with_reducible refine HC.out.mono ?_); rintro e w2 ⟨rfl, hs⟩; have HS := Lib.hid hs; clear hs)
  go_end0
  exact ⟨rfl, HS.out.pre HB.out⟩
set_option maxRecDepth 100000 in
set_option maxHeartbeats 3200000 in
theorem pdown_any (h : PgO base w q g) (top bottom : Nat) (b : Col) (h1 : top ≤ bottom) (h2 : bottom < g.scr.length) (ht : g.told.length ≤ 999990) :
    Calls Tryz.prog 89 #[.pointer (some ⟨q.P, 0, none⟩), .int .i64 top, .int .i64 bottom, .agg #[.int .i64 b.k, .int .i64 b.n]] w (PgPost base w q (downP g top bottom b)) := by
  have hrows := h.rows1000
  have hlen := h.len
  have hh := h.hist100k
  obtain ⟨W, hW⟩ : ∃ W, w.alloc (.cells #[.int .i64 b.k, .int .i64 b.n] 32) = W := ⟨_, rfl⟩
  have hb0 : Below w.heap.size w W := by rw [← hW]; exact below_allocs (Below.refl _ _) _
  have HN := Lib.hid (show W.heap[w.heap.size]? = some (.cells #[.int .i64 b.k, .int .i64 b.n] 32 (0, 0)) from by rw [← hW]; exact hp_new rfl)
  have HB := Lib.hid hb0
  have HX : w.heap.size ∉ pgX q := fun hx => by have := h.lt _ hx; omega
  have H0 := Lib.hid (h.below hb0).res
  have hwa : IntKind.i64.wrap ((g.hist.length : Int) + (bottom : Int)) = (g.hist.length : Int) + (bottom : Int) := IntWalk.i64_in _ (by omega)
  have hwb : IntKind.i64.wrap ((g.hist.length : Int) + (top : Int)) = (g.hist.length : Int) + (top : Int) := IntWalk.i64_in _ (by omega)
  have hwc : IntKind.i64.wrap ((bottom : Int) + 1) = (bottom : Int) + 1 := IntWalk.i64_in _ (by omega)
  have hwd : IntKind.i64.wrap ((top : Int) + 1) = (top : Int) + 1 := IntWalk.i64_in _ (by omega)
  have HBA := Lib.hid (base_then H0.out)
  have HBA2 : Hid (∀ w1, PgRes base W q (tellP g 1 ((g.hist.length : Int) + bottom) 1) w1 → Calls Tryz.prog 17 #[.pointer (some ⟨q.P, 0, none⟩)] w1 fun e w2 => e = .returned (.int .i64 g.hist.length) ∧ w1 = w2) := Lib.hid (fun w1 hs => by have := base_then hs; exact this)
  have HT1 := Lib.hid (tell_then H0.out 1 ((g.hist.length : Int) + bottom) 1 (by omega))
  have HT2 : Hid (∀ w1, PgRes base W q (tellP g 1 ((g.hist.length : Int) + bottom) 1) w1 → Calls Tryz.prog 57 #[.pointer (some ⟨q.P, 0, none⟩), .int .i64 0, .int .i64 ((g.hist.length : Int) + top), .int .i64 1] w1 (PgPost base W q (tellP (tellP g 1 ((g.hist.length : Int) + bottom) 1) 0 ((g.hist.length : Int) + top) 1))) := Lib.hid (fun w1 hs => tell_then hs _ _ _ (by simp [tellP]; omega))
  have HSL : Hid (∀ w1, PgRes base W q (tellP (tellP g 1 ((g.hist.length : Int) + bottom) 1) 0 ((g.hist.length : Int) + top) 1) w1 → Calls Tryz.prog 117 #[.pointer (some ⟨q.P, 0, none⟩), .int .i64 bottom, .int .i64 top, .agg #[.int .i64 b.k, .int .i64 b.n]] w1 (PgPost base W q { (tellP (tellP g 1 ((g.hist.length : Int) + bottom) 1) 0 ((g.hist.length : Int) + top) 1) with scr := slideDn g.scr top bottom (blankR g.cols b) })) := Lib.hid (fun w1 hs => slideD_then hs bottom top b h1 h2)
  have HPA := Lib.hid (fun (g1 : Pg) (y : Int) (w1 : World) (hs : PgRes base W q g1 w1) => part_then hs y)
  obtain ⟨b0, -⟩ := at_ HN.out 0 _ rfl
  obtain ⟨b1, -⟩ := at_ HN.out 1 _ rfl
  have HB0 := Lib.hid b0
  have HB1 := Lib.hid b1
  have HG : Hid (downP g top bottom b = contP (contP { (tellP (tellP g 1 ((g.hist.length : Int) + bottom) 1) 0 ((g.hist.length : Int) + top) 1) with scr := slideDn g.scr top bottom (blankR g.cols b) } ((top : Int) + 1) false) ((bottom : Int) + 1) false) := Lib.hid rfl
  rw [HG.out]
  clear hb0 h b0 b1
  go_enter Tryz.func89, Tryz.ntmps89
  go_wp2_with (first
    | (go_at_call 17; first
        | (have hpv := HS1.out; clear hpv; (with_reducible refine (HBA2.out _ HS1.out).mono ?_); rintro e w9 ⟨rfl, rfl⟩)
        | ((with_reducible refine HBA.out.mono ?_); rintro e w9 ⟨rfl, rfl⟩))
    | (go_at_call 57; first
        | (have hpv := HS1.out; clear hpv; (with_reducible refine (HT2.out _ HS1.out).mono ?_); rintro e w2 ⟨rfl, hs⟩; have HS2 := Lib.hid hs; have y0 := hs.hold HX HB0.out; have y1 := hs.hold HX HB1.out; clear hs)
        | ((with_reducible refine HT1.out.mono ?_); rintro e w2 ⟨rfl, hs⟩; have HS1 := Lib.hid hs; clear hs))
    | (go_at_call 117; (with_reducible refine (HSL.out _ HS2.out).mono ?_); rintro e w3 ⟨rfl, hs⟩; have HS3 := Lib.hid hs; clear hs)
    | (go_at_call 78; first
        | (have hpv := HS4.out; clear hpv; (with_reducible refine (HPA.out _ _ _ HS4.out).mono ?_); rintro e w4 ⟨rfl, hs⟩; have HS5 := Lib.hid hs; clear hs)
        | ((with_reducible refine (HPA.out _ _ _ HS3.out).mono ?_); rintro e w4 ⟨rfl, hs⟩; have HS4 := Lib.hid hs; clear hs)))
  go_end0
  exact ⟨rfl, HS5.out.pre HB.out⟩
/-- How an operation on a region changes what is told, and how many rows there are. -/
def Calm (F : Nat → Nat → Pg → Pg) : Prop := ∀ t b g, t ≤ b → b < g.scr.length → (F t b g).scr.length = g.scr.length ∧ (F t b g).told.length ≤ g.told.length + 2 ∧ (F t b g).cols = g.cols ∧ (F t b g).room = g.room
theorem contP_scr (g : Pg) (y : Int) (b : Bool) : (contP g y b).scr.length = g.scr.length ∧ (contP g y b).told = g.told ∧ (contP g y b).cols = g.cols ∧ (contP g y b).room = g.room := by
  obtain ⟨h1, h2, h3, h4, h5, h6⟩ := contP_hist g y b
  exact ⟨h6, h3, h4, h5⟩
theorem calm_cut (b : Col) : Calm (fun t bo g => cutP g t bo b) := fun t bo g h1 h2 => by
  unfold cutP
  simp only []
  obtain ⟨a1, a2, a3, a4⟩ := contP_scr (contP { (tellP (tellP g 1 ((g.hist.length : Int) + t) 1) 0 ((g.hist.length : Int) + bo) 1) with scr := slideUp g.scr t bo (blankR g.cols b) } t false) ((bo : Int) + 1) false
  obtain ⟨b1, b2, b3, b4⟩ := contP_scr { (tellP (tellP g 1 ((g.hist.length : Int) + t) 1) 0 ((g.hist.length : Int) + bo) 1) with scr := slideUp g.scr t bo (blankR g.cols b) } t false
  refine ⟨a1.trans (b1.trans (slideUp_len h1 h2)), ?_, a3.trans b3, a4.trans b4⟩
  rw [a2, b2]; simp [tellP]
theorem calm_down (b : Col) : Calm (fun t bo g => downP g t bo b) := fun t bo g h1 h2 => by
  unfold downP
  simp only []
  obtain ⟨a1, a2, a3, a4⟩ := contP_scr (contP { (tellP (tellP g 1 ((g.hist.length : Int) + bo) 1) 0 ((g.hist.length : Int) + t) 1) with scr := slideDn g.scr t bo (blankR g.cols b) } ((t : Int) + 1) false) ((bo : Int) + 1) false
  obtain ⟨b1, b2, b3, b4⟩ := contP_scr { (tellP (tellP g 1 ((g.hist.length : Int) + bo) 1) 0 ((g.hist.length : Int) + t) 1) with scr := slideDn g.scr t bo (blankR g.cols b) } ((t : Int) + 1) false
  refine ⟨a1.trans (b1.trans (slideDn_len h1 h2)), ?_, a3.trans b3, a4.trans b4⟩
  rw [a2, b2]; simp [tellP]
theorem pushP_calm (g : Pg) (r : Ro) : (pushP g r).1.scr = g.scr ∧ (pushP g r).1.told = g.told ∧ (pushP g r).1.cols = g.cols ∧ (pushP g r).1.room = g.room := by
  unfold pushP
  split
  · exact ⟨rfl, rfl, rfl, rfl⟩
  split
  · exact ⟨rfl, rfl, rfl, rfl⟩
  · exact ⟨rfl, rfl, rfl, rfl⟩
theorem calm_up (b : Col) : Calm (fun t bo g => upP g t bo b) := fun t bo g h1 h2 => by
  show (upP g t bo b).scr.length = g.scr.length ∧ (upP g t bo b).told.length ≤ g.told.length + 2 ∧ (upP g t bo b).cols = g.cols ∧ (upP g t bo b).room = g.room
  by_cases ht : 0 < t
  · have e : upP g t bo b = cutP g t bo b := by unfold upP; rw [if_pos ht]
    rw [e]
    exact calm_cut b t bo g h1 h2
  unfold upP
  rw [if_neg ht]
  simp only []
  obtain ⟨p1, p2, p3, p4⟩ := pushP_calm (tellP g 0 ((g.hist.length : Int) + bo + 1) 1) (g.scr.getD 0 ⟨[], false⟩)
  generalize pushP (tellP g 0 ((g.hist.length : Int) + bo + 1) 1) (g.scr.getD 0 ⟨[], false⟩) = p at p1 p2 p3 p4
  obtain ⟨gp, fl⟩ := p
  simp only at p1 p2 p3 p4
  obtain ⟨a1, a2, a3, a4⟩ := contP_scr { (if fl = true then tellP gp 2 0 1 else gp) with scr := slideUp g.scr 0 bo (blankR g.cols b) } ((bo : Int) + 1) false
  refine ⟨a1.trans (slideUp_len (by omega) h2), ?_, ?_, ?_⟩
  · rw [a2]
    cases fl
    · simp [p2, tellP]
    · simp [p2, tellP]
  · rw [a3]
    cases fl
    · exact p3
    · exact p3
  · rw [a4]
    cases fl
    · exact p4
    · exact p4
end
end Go.Proofs.YtffdblmdelgkaaaGreat
namespace Go.Proofs.YtffdblmdelgkaaaGreat
open Go.RowKit
section
variable {base : Nat} {w w1 : World} {q : Pv} {g g1 : Pg}
theorem iter_calm {F : Nat → Nat → Pg → Pg} (hF : Calm F) {t b : Nat} (h1 : t ≤ b) : ∀ (n : Nat) (g : Pg), b < g.scr.length → (iterP (F t b) n g).scr.length = g.scr.length ∧ (iterP (F t b) n g).told.length ≤ g.told.length + 2 * n
  | 0, g, h => ⟨rfl, Nat.le_refl _⟩
  | n + 1, g, h => by
    have ih := iter_calm hF h1 n g h
    have := hF t b (iterP (F t b) n g) h1 (by omega)
    exact ⟨this.1.trans ih.1, by show (F t b (iterP (F t b) n g)).told.length ≤ _; omega⟩
set_option maxRecDepth 100000 in
set_option maxHeartbeats 3200000 in
theorem ptimes_any (h : PgO base w q g) (top bottom n : Int) (b : Col) (f : FuncId) (F : Nat → Nat → Pg → Pg) (hF : Calm F) (ht : g.told.length ≤ 900000) (hn : n ≤ 9223372036854775807) (hn0 : -9223372036854775808 ≤ n)
    (hf : ∀ (args : Array Value) (w : World), (callFunc f args).run Tryz.prog w = .ok (.enter f args) w)
    (hdo : ∀ (w1 : World) (q1 : Pv) (g1 : Pg) (t bo : Nat), q1.P = q.P → PgO base w1 q1 g1 → t ≤ bo → bo < g1.scr.length → g1.told.length ≤ 999990 → Calls Tryz.prog f #[.pointer (some ⟨q.P, 0, none⟩), .int .i64 t, .int .i64 bo, .agg #[.int .i64 b.k, .int .i64 b.n]] w1 (PgPost base w1 q1 (F t bo g1))) :
    Calls Tryz.prog 67 #[.pointer (some ⟨q.P, 0, none⟩), .int .i64 top, .int .i64 bottom, .int .i64 n, .func (.func f) #[.pointer (some ⟨q.P, 0, none⟩)] #[], .agg #[.int .i64 b.k, .int .i64 b.n]] w (PgPost base w q (timesP g top bottom n F)) := by
  have hrows := h.rows1000
  have hlen := h.len
  obtain ⟨W, hW⟩ : ∃ W, w.alloc (.cells #[.int .i64 b.k, .int .i64 b.n] 32) = W := ⟨_, rfl⟩
  have hb0 : Below w.heap.size w W := by rw [← hW]; exact below_allocs (Below.refl _ _) _
  have HN := Lib.hid (show W.heap[w.heap.size]? = some (.cells #[.int .i64 b.k, .int .i64 b.n] 32 (0, 0)) from by rw [← hW]; exact hp_new rfl)
  have HB := Lib.hid hb0
  have HX : w.heap.size ∉ pgX q := fun hx => by have := h.lt _ hx; omega
  have H0 := Lib.hid (h.below hb0).res
  have HI1 := Lib.hid (pIn_any (h.below hb0) top)
  have HI2 := Lib.hid (pIn_any (h.below hb0) bottom)
  have HIT := Lib.hid (show inP g top = decide (0 ≤ top ∧ top < g.scr.length) from by unfold inP; rw [Bool.decide_and])
  have HIB := Lib.hid (show inP g bottom = decide (0 ≤ bottom ∧ bottom < g.scr.length) from by unfold inP; rw [Bool.decide_and])
  have HTP : Hid (timesP g top bottom n F = if inP g top && inP g bottom && decide (top ≤ bottom) then iterP (F top.toNat bottom.toNat) (min n.toNat (bottom - top + 1).toNat) g else g) := Lib.hid rfl
  rw [HTP.out]
  obtain ⟨b0, -⟩ := at_ HN.out 0 _ rfl
  obtain ⟨b1, -⟩ := at_ HN.out 1 _ rfl
  have HB0 := Lib.hid b0
  have HB1 := Lib.hid b1
  have HDO := Lib.hid hdo
  clear hdo h hb0 HTP
  generalize hi1 : inP g top = i1 at HI1 HIT ⊢
  generalize hi2 : inP g bottom = i2 at HI2 HIB ⊢
  clear hi1 hi2
  cases i1 with
  | false =>
    clear b0 b1
    go_enter Tryz.func67, Tryz.ntmps67
    go_wp2_with (go_at_call 75; first | (refine HI1.out.mono ?_; rintro e w9 ⟨rfl, rfl⟩))
    go_end0
    exact ⟨rfl, H0.out.pre HB.out⟩
  | true =>
  cases i2 with
  | false =>
    clear b0 b1
    go_enter Tryz.func67, Tryz.ntmps67
    go_wp2_with (go_at_call 75; first | ((with_reducible refine HI1.out.mono ?_); rintro e w9 ⟨rfl, rfl⟩; have HI1 := Lib.hid True.intro) | ((with_reducible refine HI2.out.mono ?_); rintro e w9 ⟨rfl, rfl⟩))
    go_end0
    exact ⟨rfl, H0.out.pre HB.out⟩
  | true =>
  by_cases htb : top ≤ bottom
  rotate_left
  · have hgt : bottom < top := by omega
    rw [if_neg (show ¬ (true && true && decide (top ≤ bottom)) = true from by simp; omega)]
    clear b0 b1
    go_enter Tryz.func67, Tryz.ntmps67
    go_wp2_with (go_at_call 75; first | ((with_reducible refine HI1.out.mono ?_); rintro e w9 ⟨rfl, rfl⟩; have HI1 := Lib.hid True.intro) | ((with_reducible refine HI2.out.mono ?_); rintro e w9 ⟨rfl, rfl⟩))
    go_end0
    exact ⟨rfl, H0.out.pre HB.out⟩
  have ht1 := of_decide_eq_true HIT.out.symm
  have hb1' := of_decide_eq_true HIB.out.symm
  obtain ⟨t, rfl⟩ : ∃ t : Nat, top = t := ⟨top.toNat, by omega⟩
  obtain ⟨bo, rfl⟩ : ∃ bo : Nat, bottom = bo := ⟨bottom.toNat, by omega⟩
  have htb' : t ≤ bo := by omega
  have hbo : bo < g.scr.length := by omega
  obtain ⟨d, hd⟩ : ∃ d : Nat, d = bo - t := ⟨_, rfl⟩
  have hdI : (bo : Int) - (t : Int) = (d : Int) := by omega
  have hdN : bo - t = d := hd.symm
  have hwd : IntKind.i64.wrap (d : Int) = (d : Int) := IntWalk.i64_in _ (by omega)
  obtain ⟨d1, hd1⟩ : ∃ d1 : Nat, d1 = d + 1 := ⟨_, rfl⟩
  have hd1I : (d : Int) + 1 = (d1 : Int) := by omega
  have hwd1 : IntKind.i64.wrap (d1 : Int) = (d1 : Int) := IntWalk.i64_in _ (by omega)
  obtain ⟨m, hm⟩ : ∃ m : Nat, (if 0 < n then n else 0) = (m : Int) := ⟨n.toNat, by omega⟩
  obtain ⟨N, hN⟩ : ∃ N : Nat, (if (d1 : Int) < (m : Int) then (d1 : Int) else (m : Int)) = (N : Int) := ⟨min d1 m, by omega⟩
  have hN2 : (if d1 < m then (d1 : Int) else (m : Int)) = (N : Int) := by rw [← hN]; congr 1; simp
  have hNv : min n.toNat ((bo : Int) - (t : Int) + 1).toNat = N := by omega
  have hN1000 : N ≤ 1000 := by omega
  have hng : ¬ (bo : Int) < (t : Int) := by omega
  have hngN : ¬ bo < t := by omega
  have hngD : decide (bo < t) = false := decide_eq_false hngN
  have HRES : Hid ((if (true && true && decide ((t : Int) ≤ (bo : Int))) = true then iterP (F ((t : Int)).toNat ((bo : Int)).toNat) (min n.toNat ((bo : Int) - (t : Int) + 1).toNat) g else g) = iterP (F t bo) N g) := Lib.hid (by
    rw [if_pos (by simp; omega), hNv]; rfl)
  rw [HRES.out]
  have HCA := Lib.hid (fun i => iter_calm hF htb' i g hbo)
  have HTB := Lib.hid (And.intro htb' hbo)
  clear hd hd1 hNv htb htb' hbo ht1 hb1' HRES
  go_enter Tryz.func67, Tryz.ntmps67
  go_wp2_with (go_at_call 75; first | ((with_reducible refine HI1.out.mono ?_); rintro e w9 ⟨rfl, rfl⟩; have HI1 := Lib.hid True.intro) | ((with_reducible refine HI2.out.mono ?_); rintro e w9 ⟨rfl, rfl⟩))
  go_loopw [34] (fun s34 wr => ∃ i : Nat, s34 = .int .i64 i ∧ i ≤ N ∧ PgRes base W q (iterP (F t bo) i g) wr) (fun s34 _ => N - (intOf s34).toNat)
  case atStart => exact ⟨0, rfl, Nat.zero_le _, H0.out⟩
  case round =>
    obtain ⟨i, rfl, hi, hs⟩ := hrel
    have HS := Lib.hid hs
    have z0 := hs.hold HX HB0.out
    have z1 := hs.hold HX HB1.out
    clear hs
    by_cases hlt : i < N
    rotate_left
    · obtain rfl : i = N := by omega
      go_wp2
      go_end0
      exact ⟨rfl, HS.out.pre HB.out⟩
    · have hltI : (i : Int) < (N : Int) := by omega
      have HC := Lib.hid (pg_then HS.out (fun q1 e hq => HDO.out wr q1 _ t bo e hq HTB.out.1 (by rw [(HCA.out i).1]; exact HTB.out.2) (by have := (HCA.out i).2; omega)))
      have hfc := hf #[.pointer (some ⟨q.P, 0, none⟩), .int .i64 t, .int .i64 bo, .agg #[.int .i64 b.k, .int .i64 b.n]]
      go_wp2_with (refine HC.out.mono ?_; rintro e w5 ⟨rfl, hs⟩; have HS5 := Lib.hid hs; clear hs)
      go_roundw
      case rel => exact ⟨i + 1, by go_num, by omega, HS5.out⟩
      case measure => simp [intOf]; omega
end
end Go.Proofs.YtffdblmdelgkaaaGreat
namespace Go.Proofs.YtffdblmdelgkaaaGreat
open Go.RowKit
section
variable {base : Nat} {w w1 : World} {q : Pv} {g g1 : Pg}
set_option maxRecDepth 100000 in
set_option maxHeartbeats 1600000 in
theorem pUp_any (h : PgO base w q g) (top bottom n : Int) (b : Col) (ht : g.told.length ≤ 900000) (hn : n ≤ 9223372036854775807) (hn0 : -9223372036854775808 ≤ n) :
    Calls Tryz.prog 25 #[.pointer (some ⟨q.P, 0, none⟩), .int .i64 top, .int .i64 bottom, .int .i64 n, .agg #[.int .i64 b.k, .int .i64 b.n]] w (PgPost base w q (timesP g top bottom n (fun t bo g => upP g t bo b))) := by
  have hb0 : Below w.heap.size w (w.alloc (.cells #[.int .i64 b.k, .int .i64 b.n] 32)) := below_allocs (Below.refl _ _) _
  have HB := Lib.hid hb0
  have HT := Lib.hid (ptimes_any (h.below hb0) top bottom n b 68 (fun t bo g => upP g t bo b) (calm_up b) ht hn hn0 (fun args w => by kernel_rfl) (fun w1 q1 g1 t bo e hq h1 h2 h3 => by
    rw [← e]
    exact pup_any hq t bo b h1 h2 h3))
  clear h hb0
  go_enter Tryz.func25, Tryz.ntmps25
  go_wp2_with (go_at_call 67; (with_reducible refine HT.out.mono ?_); rintro e w2 ⟨rfl, hs⟩; have HS := Lib.hid hs; clear hs)
  go_end0
  exact ⟨rfl, HS.out.pre HB.out⟩
set_option maxRecDepth 100000 in
set_option maxHeartbeats 1600000 in
theorem pCut_any (h : PgO base w q g) (top bottom n : Int) (b : Col) (ht : g.told.length ≤ 900000) (hn : n ≤ 9223372036854775807) (hn0 : -9223372036854775808 ≤ n) :
    Calls Tryz.prog 47 #[.pointer (some ⟨q.P, 0, none⟩), .int .i64 top, .int .i64 bottom, .int .i64 n, .agg #[.int .i64 b.k, .int .i64 b.n]] w (PgPost base w q (timesP g top bottom n (fun t bo g => cutP g t bo b))) := by
  have hb0 : Below w.heap.size w (w.alloc (.cells #[.int .i64 b.k, .int .i64 b.n] 32)) := below_allocs (Below.refl _ _) _
  have HB := Lib.hid hb0
  have HT := Lib.hid (ptimes_any (h.below hb0) top bottom n b 93 (fun t bo g => cutP g t bo b) (calm_cut b) ht hn hn0 (fun args w => by kernel_rfl) (fun w1 q1 g1 t bo e hq h1 h2 h3 => by
    rw [← e]
    exact pcut_any hq t bo b h1 h2 h3))
  clear h hb0
  go_enter Tryz.func47, Tryz.ntmps47
  go_wp2_with (go_at_call 67; (with_reducible refine HT.out.mono ?_); rintro e w2 ⟨rfl, hs⟩; have HS := Lib.hid hs; clear hs)
  go_end0
  exact ⟨rfl, HS.out.pre HB.out⟩
set_option maxRecDepth 100000 in
set_option maxHeartbeats 1600000 in
theorem pDown_any (h : PgO base w q g) (top bottom n : Int) (b : Col) (ht : g.told.length ≤ 900000) (hn : n ≤ 9223372036854775807) (hn0 : -9223372036854775808 ≤ n) :
    Calls Tryz.prog 42 #[.pointer (some ⟨q.P, 0, none⟩), .int .i64 top, .int .i64 bottom, .int .i64 n, .agg #[.int .i64 b.k, .int .i64 b.n]] w (PgPost base w q (timesP g top bottom n (fun t bo g => downP g t bo b))) := by
  have hb0 : Below w.heap.size w (w.alloc (.cells #[.int .i64 b.k, .int .i64 b.n] 32)) := below_allocs (Below.refl _ _) _
  have HB := Lib.hid hb0
  have HT := Lib.hid (ptimes_any (h.below hb0) top bottom n b 89 (fun t bo g => downP g t bo b) (calm_down b) ht hn hn0 (fun args w => by kernel_rfl) (fun w1 q1 g1 t bo e hq h1 h2 h3 => by
    rw [← e]
    exact pdown_any hq t bo b h1 h2 h3))
  clear h hb0
  go_enter Tryz.func42, Tryz.ntmps42
  go_wp2_with (go_at_call 67; (with_reducible refine HT.out.mono ?_); rintro e w2 ⟨rfl, hs⟩; have HS := Lib.hid hs; clear hs)
  go_end0
  exact ⟨rfl, HS.out.pre HB.out⟩
set_option maxRecDepth 100000 in
set_option maxHeartbeats 1600000 in
theorem pForget_any (h : PgO base w q g) (ht : g.told.length ≤ 900000) : Calls Tryz.prog 43 #[.pointer (some ⟨q.P, 0, none⟩)] w (PgPost base w q (forgetP g)) := by
  have HBA := Lib.hid (pBase_any h)
  have hh := h.hist100k
  by_cases h0 : g.hist.length = 0
  · have HF := Lib.hid (show forgetP g = g from by unfold forgetP; rw [if_pos h0])
    have H0 := Lib.hid h.res
    have h0I : ((g.hist.length : Int) == 0) = true := by simp [h0]
    rw [h0] at HBA
    rw [HF.out]
    clear h
    go_enter Tryz.func43, Tryz.ntmps43
    go_wp2_with (go_at_call 17; refine HBA.out.mono ?_; rintro e w9 ⟨rfl, rfl⟩)
    go_end0
    exact ⟨rfl, H0.out⟩
  · have HF := Lib.hid (show forgetP g = contP (tellP { g with hist := [], gone := g.gone + g.hist.length } 2 0 g.hist.length) 0 false from by unfold forgetP; rw [if_neg h0])
    obtain ⟨m, hm⟩ : ∃ m, g.hist.length = m := ⟨_, rfl⟩
    rw [hm] at HF HBA
    have h0I : ((m : Int) == 0) = false := by simp; omega
    obtain ⟨⟨x0, -⟩, -⟩ := h.cells
    have HC := Lib.hid (rclear_any h.ring (Int.emod_nonneg _ (by decide)) (Int.emod_lt_of_pos _ (by decide)))
    have hqn : q.n = m := by rw [← hm]; exact h.hlen.symm
    rw [hqn] at HC
    have HG : Hid (∀ w2, RgPost base w q.R q.vl g.room ((g.gone % 18446744073709551616 + (m : Int)) % 18446744073709551616) [] w2 → PgRes base w q { g with hist := [], gone := g.gone + m } w2) := Lib.hid (fun w2 hp => by
      have e : (g.gone % 18446744073709551616 + (m : Int)) % 18446744073709551616 = (g.gone + m) % 18446744073709551616 := by omega
      rw [e] at hp
      exact h.ringed hp (by have := h.gone0; omega))
    have HT := Lib.hid (fun (w1 : World) (hs : PgRes base w q { g with hist := [], gone := g.gone + (m : Int) } w1) => tell_then hs 2 0 m (by show g.told.length ≤ 1000000; omega))
    have HPA := Lib.hid (fun (w1 : World) (hs : PgRes base w q (tellP { g with hist := [], gone := g.gone + (m : Int) } 2 0 m) w1) => part_then hs 0)
    rw [HF.out]
    clear h hm h0 hqn
    go_enter Tryz.func43, Tryz.ntmps43
    go_wp2_with (first
      | (go_at_call 17; (with_reducible refine HBA.out.mono ?_); rintro e w9 ⟨rfl, rfl⟩)
      | (go_at_call 90; (with_reducible refine HC.out.mono ?_); rintro e w2 ⟨rfl, hp⟩; have HS := Lib.hid (HG.out _ hp); clear hp)
      | (go_at_call 57; (with_reducible refine (HT.out _ HS.out).mono ?_); rintro e w3 ⟨rfl, hs⟩; have HS3 := Lib.hid hs; clear hs)
      | (go_at_call 78; (with_reducible refine (HPA.out _ HS3.out).mono ?_); rintro e w4 ⟨rfl, hs⟩; have HS4 := Lib.hid hs; clear hs))
    go_end0
    exact ⟨rfl, HS4.out⟩
end
end Go.Proofs.YtffdblmdelgkaaaGreat

namespace Go.Proofs.YtffdblmdelgkaaaGreat
open Go.RowKit
section
variable {base : Nat} {w w1 : World} {q : Pv} {g g1 : Pg}
theorem rowP_len {g : Pg} (y : Int) (F : List Cl → List Cl) : (rowP g y F).scr.length = g.scr.length ∧ (rowP g y F).cols = g.cols := by
  unfold rowP
  split
  · exact ⟨by simp, rfl⟩
  · exact ⟨rfl, rfl⟩
set_option maxRecDepth 100000 in
set_option maxHeartbeats 3200000 in
theorem pErase_any (h : PgO base w q g) (y x z : Int) (b : Col) : Calls Tryz.prog 34 #[.pointer (some ⟨q.P, 0, none⟩), .int .i64 y, .int .i64 x, .int .i64 z, .agg #[.int .i64 b.k, .int .i64 b.n]] w (PgPost base w q (eraseP g y x z b)) := by
  have hrows := h.rows1000
  have hlen := h.len
  obtain ⟨W, hW⟩ : ∃ W, ((w.alloc (.cells #[.int .i64 x] 3)).alloc (.cells #[.int .i64 z] 3)).alloc (.cells #[.int .i64 b.k, .int .i64 b.n] 32) = W := ⟨_, rfl⟩
  have hb0 : Below w.heap.size w W := by rw [← hW]; exact below_allocs (below_allocs (below_allocs (Below.refl _ _) _) _) _
  have hp0 : W.heap[w.heap.size]? = some (.cells #[.int .i64 x] 3 (0, 0)) := by rw [← hW]; exact hp_old (hp_old (hp_new rfl))
  have hp1 : W.heap[w.heap.size + 1]? = some (.cells #[.int .i64 z] 3 (0, 0)) := by rw [← hW]; exact hp_old (hp_new (by simp))
  have hp2 : W.heap[w.heap.size + 2]? = some (.cells #[.int .i64 b.k, .int .i64 b.n] 32 (0, 0)) := by rw [← hW]; exact hp_new (by simp)
  have HB := Lib.hid hb0
  have hO := h.below hb0
  have H0 := Lib.hid hO.res
  have HIN := Lib.hid (pIn_any hO y)
  have HXb : Hid (∀ i, w.heap.size + i ∉ pgX q) := Lib.hid (fun i hx => by have := h.lt _ hx; omega)
  have HXz : Hid (w.heap.size ∉ pgX q) := Lib.hid (HXb.out 0)
  cases hin : inP g y with
  | false =>
    rw [hin] at HIN
    have HE := Lib.hid (show eraseP g y x z b = g from by unfold eraseP; rw [hin]; rfl)
    rw [HE.out]
    clear h hb0 hp0 hp1 hp2 hO
    go_enter Tryz.func34, Tryz.ntmps34
    go_wp2_with (go_at_call 75; refine HIN.out.mono ?_; rintro e w9 ⟨rfl, rfl⟩)
    go_end0
    exact ⟨rfl, H0.out.pre HB.out⟩
  | true =>
    rw [hin] at HIN
    have hy : 0 ≤ y ∧ y < 1000 := by unfold inP at hin; simp at hin; omega
    have HE := Lib.hid (show eraseP g y x z b = (if x < g.cols ∧ (g.cols : Int) ≤ z then (if x ≤ 0 then contP (contP (rowP g y (fun l => eraseL l x z b)) (y + 1) false) y false else contP (rowP g y (fun l => eraseL l x z b)) (y + 1) false) else rowP g y (fun l => eraseL l x z b)) from by unfold eraseP; rw [hin]; rfl)
    rw [HE.out]
    have hwy : IntKind.i64.wrap (y + 1) = y + 1 := IntWalk.i64_in _ (by omega)
    have hc2 := h.cols2
    have HA := Lib.hid (pat_any hO y 76 #[.pointer (some ⟨w.heap.size, 0, none⟩), .pointer (some ⟨w.heap.size + 1, 0, none⟩), .pointer (some ⟨w.heap.size + 2, 0, none⟩)] (fun l => eraseL l x z b) (fun l => eraseL_len l x z b) (fun l hl => hl.erase x z b) (fun args w => by kernel_rfl) (fun r w' hb hr hl => perase1_any r x z b _ _ _ w' hr (by omega) (holda hb (range_box hp0 0 _ rfl)) (holda hb (range_box hp1 0 _ rfl)) (holda hb (range_box hp2 0 _ rfl)) (holda hb (range_box hp2 1 _ rfl))))
    have HX0 := Lib.hid (range_box hp0 0 _ rfl)
    have HX1 := Lib.hid (range_box hp1 0 _ rfl)
    have HP2 : Hid (∀ w1, PgRes base W q (rowP g y (fun l => eraseL l x z b)) w1 → w1.cell? ⟨q.P, 2, none⟩ = some (.int .i64 g.cols)) := Lib.hid (fun w1 hs => by
      obtain ⟨q1, e1, -, hq1, -⟩ := hs
      have := hq1.cells.2.2.1.1
      rw [e1, (rowP_len y _).2] at this
      exact this)
    have HPA := Lib.hid (fun (g1 : Pg) (y : Int) (w1 : World) (hs : PgRes base W q g1 w1) => part_then hs y)
    clear h hb0 hp0 hp1 hp2 hO hin
    by_cases hc : x < g.cols ∧ (g.cols : Int) ≤ z
    rotate_left
    · rw [if_neg hc]
      have HNC := Lib.hid hc
      by_cases hx : x < g.cols
      · have hz : ¬ (g.cols : Int) ≤ z := fun h => hc ⟨hx, h⟩
        clear hc
        go_enter Tryz.func34, Tryz.ntmps34
        go_upto_region 3 with (first | (go_at_call 75; refine HIN.out.mono ?_; rintro e w9 ⟨rfl, rfl⟩) | (go_at_call 64; (with_reducible refine HA.out.mono ?_); rintro e w1 ⟨rfl, hs⟩; have HS := Lib.hid hs; have x0 := hs.hold HXz.out HX0.out; have x1 := hs.hold (HXb.out 1) HX1.out; have x2 := HP2.out _ hs; clear hs))
        refine wp_region_u 13 (fun w' => Below w1.heap.size w1 w' ∧ w'.cell? ⟨w.heap.size, 0, none⟩ = some (.int .i64 x) ∧ w'.cell? ⟨w.heap.size + 1, 0, none⟩ = some (.int .i64 z) ∧ w'.cell? ⟨q.P, 2, none⟩ = some (.int .i64 g.cols)) (by kernel_rfl) (by kernel_rfl) ?_ ?_
        · exact ⟨(Below.refl _ _).drew, x0, x1, x2⟩
        simp only [List.take_succ_cons, List.take_zero, List.drop_succ_cons, List.drop_zero]
        repeat (first
          | (refine seqU_skip (by rfl) ?_; simp only [Act.put, List.setIfInBounds_toArray, List.set_cons_zero, List.set_cons_succ])
          | (refine seqU_val ?_ (by rfl) ?_ ?_; rotate_left; · (intro w' hS; obtain ⟨_, _, _, _⟩ := hS; go_simp; first | done | with_reducible rfl)
             simp only [Act.put, List.setIfInBounds_toArray, List.set_cons_zero, List.set_cons_succ]))
        refine seqU_nil (fun w' hS => ?_)
        have HS := Lib.hid (HS.out.post hS.1)
        have x0 := hS.2.1
        clear hS x1 x2
        go_wp2
        go_end0
        exact ⟨rfl, HS.out.pre HB.out⟩
      · clear hc
        go_enter Tryz.func34, Tryz.ntmps34
        go_upto_region 3 with (first | (go_at_call 75; refine HIN.out.mono ?_; rintro e w9 ⟨rfl, rfl⟩) | (go_at_call 64; (with_reducible refine HA.out.mono ?_); rintro e w1 ⟨rfl, hs⟩; have HS := Lib.hid hs; have x0 := hs.hold HXz.out HX0.out; have x1 := hs.hold (HXb.out 1) HX1.out; have x2 := HP2.out _ hs; clear hs))
        have hxn : ¬ x < (g.cols : Int) := by omega
        refine wp_region_u 13 (fun w' => Below w1.heap.size w1 w' ∧ w'.cell? ⟨w.heap.size, 0, none⟩ = some (.int .i64 x) ∧ w'.cell? ⟨w.heap.size + 1, 0, none⟩ = some (.int .i64 z) ∧ w'.cell? ⟨q.P, 2, none⟩ = some (.int .i64 g.cols)) (by kernel_rfl) (by kernel_rfl) ?_ ?_
        · exact ⟨(Below.refl _ _).drew, x0, x1, x2⟩
        simp only [List.take_succ_cons, List.take_zero, List.drop_succ_cons, List.drop_zero]
        repeat (first
          | (refine seqU_skip (by rfl) ?_; simp only [Act.put, List.setIfInBounds_toArray, List.set_cons_zero, List.set_cons_succ])
          | (refine seqU_val ?_ (by rfl) ?_ ?_; rotate_left; · (intro w' hS; obtain ⟨_, _, _, _⟩ := hS; go_simp; first | done | with_reducible rfl)
             simp only [Act.put, List.setIfInBounds_toArray, List.set_cons_zero, List.set_cons_succ]))
        refine seqU_nil (fun w' hS => ?_)
        have HS := Lib.hid (HS.out.post hS.1)
        have x0 := hS.2.1
        clear hS x1 x2
        go_wp2
        go_end0
        exact ⟨rfl, HS.out.pre HB.out⟩
    rw [if_pos hc]
    obtain ⟨hx, hz⟩ := hc
    by_cases hx0 : x ≤ 0
    · rw [if_pos hx0]
      go_enter Tryz.func34, Tryz.ntmps34
      go_upto_region 3 with (first | (go_at_call 75; refine HIN.out.mono ?_; rintro e w9 ⟨rfl, rfl⟩) | (go_at_call 64; (with_reducible refine HA.out.mono ?_); rintro e w1 ⟨rfl, hs⟩; have HS := Lib.hid hs; have x0 := hs.hold HXz.out HX0.out; have x1 := hs.hold (HXb.out 1) HX1.out; have x2 := HP2.out _ hs; clear hs))
      refine wp_region_u 13 (fun w' => Below w1.heap.size w1 w' ∧ w'.cell? ⟨w.heap.size, 0, none⟩ = some (.int .i64 x) ∧ w'.cell? ⟨w.heap.size + 1, 0, none⟩ = some (.int .i64 z) ∧ w'.cell? ⟨q.P, 2, none⟩ = some (.int .i64 g.cols)) (by kernel_rfl) (by kernel_rfl) ?_ ?_
      · exact ⟨(Below.refl _ _).drew, x0, x1, x2⟩
      simp only [List.take_succ_cons, List.take_zero, List.drop_succ_cons, List.drop_zero]
      repeat (first
        | (refine seqU_skip (by rfl) ?_; simp only [Act.put, List.setIfInBounds_toArray, List.set_cons_zero, List.set_cons_succ])
        | (refine seqU_val ?_ (by rfl) ?_ ?_; rotate_left; · (intro w' hS; obtain ⟨_, _, _, _⟩ := hS; go_simp; first | done | with_reducible rfl)
           simp only [Act.put, List.setIfInBounds_toArray, List.set_cons_zero, List.set_cons_succ]))
      refine seqU_nil (fun w' hS => ?_)
      have HS := Lib.hid (HS.out.post hS.1)
      have x0 := hS.2.1
      clear hS x1 x2
      go_wp2_with (go_at_call 78; first
          | (have hpv := HS4.out; clear hpv; (with_reducible refine (HPA.out _ _ _ HS4.out).mono ?_); rintro e w4 ⟨rfl, hs⟩; have HS5 := Lib.hid hs; clear hs)
          | ((with_reducible refine (HPA.out _ _ _ HS.out).mono ?_); rintro e w4 ⟨rfl, hs⟩; have HS4 := Lib.hid hs; have y0 := hs.hold HXz.out HX0.out; clear hs x0))
      go_end0
      exact ⟨rfl, HS5.out.pre HB.out⟩
    · rw [if_neg hx0]
      go_enter Tryz.func34, Tryz.ntmps34
      go_upto_region 3 with (first | (go_at_call 75; refine HIN.out.mono ?_; rintro e w9 ⟨rfl, rfl⟩) | (go_at_call 64; (with_reducible refine HA.out.mono ?_); rintro e w1 ⟨rfl, hs⟩; have HS := Lib.hid hs; have x0 := hs.hold HXz.out HX0.out; have x1 := hs.hold (HXb.out 1) HX1.out; have x2 := HP2.out _ hs; clear hs))
      refine wp_region_u 13 (fun w' => Below w1.heap.size w1 w' ∧ w'.cell? ⟨w.heap.size, 0, none⟩ = some (.int .i64 x) ∧ w'.cell? ⟨w.heap.size + 1, 0, none⟩ = some (.int .i64 z) ∧ w'.cell? ⟨q.P, 2, none⟩ = some (.int .i64 g.cols)) (by kernel_rfl) (by kernel_rfl) ?_ ?_
      · exact ⟨(Below.refl _ _).drew, x0, x1, x2⟩
      simp only [List.take_succ_cons, List.take_zero, List.drop_succ_cons, List.drop_zero]
      repeat (first
        | (refine seqU_skip (by rfl) ?_; simp only [Act.put, List.setIfInBounds_toArray, List.set_cons_zero, List.set_cons_succ])
        | (refine seqU_val ?_ (by rfl) ?_ ?_; rotate_left; · (intro w' hS; obtain ⟨_, _, _, _⟩ := hS; go_simp; first | done | with_reducible rfl)
           simp only [Act.put, List.setIfInBounds_toArray, List.set_cons_zero, List.set_cons_succ]))
      refine seqU_nil (fun w' hS => ?_)
      have HS := Lib.hid (HS.out.post hS.1)
      have x0 := hS.2.1
      clear hS x1 x2
      go_wp2_with (go_at_call 78; (with_reducible refine (HPA.out _ _ _ HS.out).mono ?_); rintro e w4 ⟨rfl, hs⟩; have HS4 := Lib.hid hs; have y0 := hs.hold HXz.out HX0.out; clear hs x0)
      go_end0
      exact ⟨rfl, HS4.out.pre HB.out⟩
end
end Go.Proofs.YtffdblmdelgkaaaGreat
namespace Go.Proofs.YtffdblmdelgkaaaGreat
open Go.RowKit
section
variable {base : Nat} {w w1 : World} {q : Pv} {g g1 : Pg}
/-- One more row at the screen's end. -/
theorem PgO.grown {vs' : Value} {r : Rh} (h : PgO base w q g) (ho : w1.ownsRow base 50 2 vs' (q.S.length + 1) (flat encRh (q.S ++ [r]))) (hm : Mod q.vs.ownBlock.toList w w1) (hv : ∀ b, vs'.ownBlock = some b → q.vs.ownBlock = some b ∨ w.heap.size ≤ b)
    (hr : RcAt w1 r) (hrl : r.cs.length = g.cols) (hz : q.S.length + 1 ≤ 1000) : PgRes base w q { g with scr := g.scr ++ [roOf r] } (w1.setCell ⟨q.P, 1, none⟩ vs') := by
  have hvs : ∀ b, q.vs.ownBlock = some b → ∃ cur : Array Value, w.heap[b]? = some (.cells cur 50 (0, 0)) := fun b hb => own_block h.own hb
  have hPv : q.P ∉ q.vs.ownBlock.toList := fun hb => by
    obtain ⟨cur, hc⟩ := hvs _ (Option.mem_toList.1 hb)
    exact block_ne h.blk hc (by decide) rfl
  have hPl := (Array.getElem?_eq_some_iff.1 h.blk).1
  have hm2 : Mod (q.P :: q.vs.ownBlock.toList) w (w1.setCell ⟨q.P, 1, none⟩ vs') := (hm.mono (fun b hb => by simp [Option.mem_toList.1 hb])).setCell (a := ⟨q.P, 1, none⟩) (.inl (by simp)) _
  have hX : NoCel w (q.P :: q.vs.ownBlock.toList) := fun b hb cs f he => by
    refine h.nocel b ?_ cs f he
    rcases List.mem_cons.1 hb with rfl | hb
    · simp [pgX]
    · simp [pgX, Option.mem_toList.1 hb]
  have hblk := whole_set (cs := [.pointer (some ⟨q.R, 0, none⟩), q.vs, .int .i64 g.cols, q.vt]) ((hm.block q.P hPl hPv).trans h.blk) 1 vs' (cs' := [.pointer (some ⟨q.R, 0, none⟩), vs', .int .i64 g.cols, q.vt]) rfl
  have hM1 : Mod [q.P] w1 (w1.setCell ⟨q.P, 1, none⟩ vs') := (Mod.refl [q.P] w1).setCell (a := ⟨q.P, 1, none⟩) (.inl (by simp)) vs'
  have hN1 : NoCel w1 [q.P] := fun b hb cs f he => by
    rw [List.mem_singleton.1 hb, hm.block q.P hPl hPv] at he
    exact block_ne h.blk he (by decide) rfl
  refine ⟨{ q with vs := vs', S := q.S ++ [r] }, rfl, rfl, ⟨hblk, h.hb, h.ring.mod hm2 hX (fun b hb hx => ?_), ?_, owns_mod h.told hm2 (fun b hb hx => ?_), fun b hb hb2 => ?_, ?_, h.hist, fun x hx => ?_, h.cols2, h.cols1000, by show (q.S ++ [r]).length ≤ 1000; simpa using hz, h.gone0⟩, hm2.mono (fun b hb => ?_), fun b hb => ?_⟩
  · rcases List.mem_cons.1 hx with rfl | hx
    · rcases List.mem_cons.1 hb with h1 | hb
      · exact block_ne h.blk h.ring.blk (by decide) h1
      · obtain ⟨cur, hc⟩ := own_block h.ring.own (Option.mem_toList.1 hb)
        exact block_ne h.blk hc (by decide) rfl
    · rcases List.mem_cons.1 hb with rfl | hb
      · obtain ⟨cur, hc⟩ := hvs _ (Option.mem_toList.1 hx)
        exact block_ne h.ring.blk hc (by decide) rfl
      · exact h.apart b (Option.mem_toList.1 hx) (Option.mem_toList.1 hb)
  · have := owns_mod ho hM1 (fun b hb hx => by
      have e := List.mem_singleton.1 hx
      rcases hv b hb with h1 | h1
      · exact hPv (by rw [← e]; simp [h1])
      · omega)
    simpa using this
  · obtain ⟨cur, hc⟩ := own_block h.told hb
    rcases List.mem_cons.1 hx with rfl | hx
    · exact block_ne h.blk hc (by decide) rfl
    · obtain ⟨cur2, hc2⟩ := hvs _ (Option.mem_toList.1 hx)
      exact block_ne hc2 hc (by decide) rfl
  · rcases hv b hb with h1 | h1
    · exact h.apart b h1 hb2
    · have := (h.ring.own.lt b hb2).2; omega
  · show (q.S ++ [r]).map roOf = g.scr ++ [roOf r]
    rw [List.map_append, h.scr]; rfl
  · rcases List.mem_append.1 (show x ∈ q.S ++ [r] from hx) with hx | hx
    · exact ⟨(h.rows x hx).1.mod hm2 hX, (h.rows x hx).2⟩
    · rw [List.mem_singleton.1 hx]
      exact ⟨hr.mod hM1 hN1, hrl⟩
  · rcases List.mem_cons.1 hb with rfl | hb
    · simp [pgX]
    · simp [pgX, Option.mem_toList.1 hb]
  · rcases List.mem_cons.1 hb with rfl | hb
    · exact .inl (by simp [pgX])
    rcases List.mem_append.1 hb with hb | hb
    · rcases hv b (Option.mem_toList.1 hb) with h1 | h1
      · exact .inl (by simp [pgX, h1])
      · exact .inr h1
    · exact .inl (by simp only [pgX, List.mem_cons, List.mem_append]; right; right; simpa using hb)
def zeroCol : Col := ⟨0, 0⟩
set_option maxRecDepth 100000 in
set_option maxHeartbeats 3200000 in
theorem pfill_any (h : PgO base w q g) (rows : Nat) (hr : rows ≤ 1000) : Calls Tryz.prog 55 #[.pointer (some ⟨q.P, 0, none⟩), .int .i64 rows] w (PgPost base w q { g with scr := g.scr ++ List.replicate (rows - g.scr.length) (blankR g.cols zeroCol) }) := by
  obtain ⟨j0, hj, gz0, gz1, gz2⟩ := info_parts info_rowz
  have hrows := h.rows1000
  have hlen := h.len
  have hc2 := h.cols2
  have hc3 := h.cols1000
  have HBK := Lib.hid (fun w' (x2 : w'.cell? ⟨q.P, 2, none⟩ = some (.int .i64 g.cols)) => pblank_any q.P g.cols zeroCol w' x2 hc2 hc3)
  have H := Lib.hid h
  clear h
  obtain ⟨N, hN⟩ : ∃ N, rows - g.scr.length = N := ⟨_, rfl⟩
  rw [hN]
  have HN := Lib.hid hN
  clear hN
  go_enter Tryz.func55, Tryz.ntmps55
  go_wp2_with fail
  go_loopg [10] N (fun k _ wr => ∃ i : Nat, i + k = N ∧ PgRes base w q { g with scr := g.scr ++ List.replicate i (blankR g.cols zeroCol) } wr)
  case atStart => exact ⟨0, by omega, by simpa using H.out.res⟩
  case round =>
    obtain ⟨i, hik, hs⟩ := hrel
    have HS := Lib.hid hs
    obtain ⟨q1, e1, e2, hq1, hm1, hx1⟩ := hs
    obtain ⟨A1, c1, hv1⟩ := row_form hq1.own
    have hl1 : q1.S.length = g.scr.length + i := by rw [hq1.len]; simp
    obtain ⟨-, ⟨x1, x1f⟩, ⟨x2, -⟩, -⟩ := hq1.cells
    rw [e1] at x1 x1f x2
    rw [hv1] at x1
    obtain ⟨m, hm⟩ : ∃ m, q1.S.length = m := ⟨_, rfl⟩
    rw [hm] at x1
    have HM := Lib.hid hm
    have hbw : base ≤ wr.heap.size := by have := hq1.lt q1.P (by simp [pgX]); omega
    have hPl := lt_of_cell x2
    by_cases hlt : m < rows
    rotate_left
    · have hltI : ¬ (m : Int) < (rows : Int) := by omega
      have hi : i = N := by have := HN.out; omega
      subst hi
      clear hm hq1 hm1 hx1
      go_wp2
      go_end0
      exact ⟨rfl, HS.out⟩
    · have hltI : (m : Int) < (rows : Int) := by omega
      have HQ := Lib.hid hq1
      have HE := Lib.hid (And.intro e1 (And.intro e2 (And.intro hm1 hx1)))
      have HV := Lib.hid (show q1.vs = .slice A1 m c1 from by rw [← hm]; exact hv1)
      have hNi : i < N := by have := HN.out; omega
      have hm1000 : m + 1 ≤ 1000 := by omega
      clear hm hq1 hm1 hx1 hv1 HS
      go_upto_region 1 with fail
      refine Go.RL.wp_region_l 12 (fun w' => (w'.cell? ⟨q.P, 1, none⟩ = some (.slice A1 m c1) ∧ w'.frozen? ⟨q.P, 1, none⟩ = false) ∧ w'.cell? ⟨q.P, 2, none⟩ = some (.int .i64 g.cols)) (fun w' => Below wr.heap.size wr w') (by kernel_rfl) (by kernel_rfl) ⟨⟨x1, x1f⟩, x2⟩ ((Below.refl _ _).drew) ?_
      refine Go.RL.AtL.take 0 (o := ⟨_, _, _, _, _, _⟩) (v := ?_) (by kernel_rfl) rfl (by simp) (by kernel_rfl) (by kernel_rfl) ?_ ?_; rotate_left
      · (refine Go.RL.Pure.val (by rfl) ?_; intro w' hI; obtain ⟨⟨_, _⟩, _⟩ := hI; go_simp; first | done | with_reducible rfl)
      simp only [Act.put, List.setIfInBounds_toArray, List.set_cons_zero, List.set_cons_succ]
      refine Go.RL.AtL.take 1 (o := ⟨_, _, _, _, _, _⟩) (v := ?_) (by kernel_rfl) rfl (by simp) (by kernel_rfl) (by kernel_rfl) ?_ ?_; rotate_left
      · (refine Go.RL.Pure.val (by rfl) ?_; intro w' hI; obtain ⟨⟨_, _⟩, _⟩ := hI; go_simp; first | done | with_reducible rfl)
      simp only [Act.put, List.setIfInBounds_toArray, List.set_cons_zero, List.set_cons_succ]
      refine Go.RL.AtL.take 2 (o := ⟨_, _, _, _, _, _⟩) (v := ?_) (by kernel_rfl) rfl (by simp) (by kernel_rfl) (by kernel_rfl) ?_ ?_; rotate_left
      · (refine Go.RL.Pure.val (by rfl) ?_; intro w' hI; obtain ⟨⟨_, _⟩, _⟩ := hI; go_simp; first | done | with_reducible rfl)
      simp only [Act.put, List.setIfInBounds_toArray, List.set_cons_zero, List.set_cons_succ]
      refine Go.RL.AtL.take 3 (o := ⟨_, _, _, _, _, _⟩) (v := ?_) (by kernel_rfl) rfl (by simp) (by kernel_rfl) (by kernel_rfl) ?_ ?_; rotate_left
      · (refine Go.RL.Pure.val (by rfl) ?_; intro w' hI; obtain ⟨⟨_, _⟩, _⟩ := hI; go_simp; first | done | with_reducible rfl)
      simp only [Act.put, List.setIfInBounds_toArray, List.set_cons_zero, List.set_cons_succ]
      refine Go.RL.AtL.take 4 (o := ⟨_, _, _, _, _, _⟩) (v := ?_) (by kernel_rfl) rfl (by simp) (by kernel_rfl) (by kernel_rfl) ?_ ?_; rotate_left
      · (refine Go.RL.Pure.val (by rfl) ?_; intro w' hI; obtain ⟨⟨_, _⟩, _⟩ := hI; go_simp; first | done | with_reducible rfl)
      simp only [Act.put, List.setIfInBounds_toArray, List.set_cons_zero, List.set_cons_succ]
      refine Go.RL.AtL.take 5 (o := ⟨_, _, _, _, _, _⟩) (v := ?_) (by kernel_rfl) rfl (by simp) (by kernel_rfl) (by kernel_rfl) ?_ ?_; rotate_left
      · (refine Go.RL.Pure.val (by rfl) ?_; intro w' hI; obtain ⟨⟨_, _⟩, _⟩ := hI; go_simp; first | done | with_reducible rfl)
      simp only [Act.put, List.setIfInBounds_toArray, List.set_cons_zero, List.set_cons_succ]
      refine Go.RL.AtL.take 6 (o := ⟨_, _, _, _, _, _⟩) (v := ?_) (by kernel_rfl) rfl (by simp) (by kernel_rfl) (by kernel_rfl) ?_ ?_; rotate_left
      · (refine Go.RL.Pure.val (by rfl) ?_; intro w' hI; obtain ⟨⟨_, _⟩, _⟩ := hI; go_simp; first | done | with_reducible rfl)
      simp only [Act.put, List.setIfInBounds_toArray, List.set_cons_zero, List.set_cons_succ]
      refine Go.RL.AtL.one 7 (o := ⟨_, _, _, _, _, _⟩) (fun v => ∃ g1 cap, v = .agg #[.slice (some ⟨g1, 0, none⟩) g.cols cap, .bool false]) (fun v w' => ∃ g1 cap, v = .agg #[.slice (some ⟨g1, 0, none⟩) g.cols cap, .bool false] ∧ Below wr.heap.size wr w' ∧ RcAt w' ⟨some ⟨g1, 0, none⟩, List.replicate g.cols (blankC zeroCol), cap, false⟩) (by simp) (by kernel_rfl) rfl
        (Go.RL.StabL.call 105 #[.pointer (some ⟨q.P, 0, none⟩), .agg #[.int .i64 0, .int .i64 0]] _ _ (by rfl) ?_ (fun w' hI hS => ?_)) ?_
      · intro w'
        go_simp
      · refine (HBK.out w' hI.2).mono ?_
        rintro e w3 ⟨g1, cap, rfl, hr, hb⟩
        exact ⟨_, rfl, ⟨g1, cap, rfl⟩, ⟨hold hb hI.1, holda hb hI.2⟩, g1, cap, rfl, below_tail hS hb, hr⟩
      rintro v ⟨g1, cap, rfl⟩
      simp only [Act.put, List.setIfInBounds_toArray, List.set_cons_zero, List.set_cons_succ]
      refine Go.RL.AtL.one 8 (o := ⟨_, _, _, _, _, _⟩) (fun v => ∃ k, v = .slice (some ⟨k, 0, none⟩) 1 1) (fun v w' => ∃ k, v = .slice (some ⟨k, 0, none⟩) 1 1 ∧ Below wr.heap.size wr w' ∧ RcAt w' ⟨some ⟨g1, 0, none⟩, List.replicate g.cols (blankC zeroCol), cap, false⟩ ∧ w'.heap[k]? = some (.cells #[.slice (some ⟨g1, 0, none⟩) g.cols cap, .bool false] 50 (0, 0))) (by simp) (by kernel_rfl) rfl (Go.RL.StabL.op _ _ (by rfl) (fun w' hI hS => ?_)) ?_
      · obtain ⟨g1', cap', hv', hb, hrc⟩ := hS
        simp only [Value.agg.injEq, Array.mk.injEq, List.cons.injEq, Value.slice.injEq, Option.some.injEq, Addr.mk.injEq, and_true, true_and] at hv'
        obtain ⟨rfl, rfl⟩ := hv'
        have hb2 := below_allocs (Below.refl w'.heap.size w') (.cells #[.slice (some ⟨g1, 0, none⟩) g.cols cap, .bool false] 50)
        exact ⟨.slice (some ⟨w'.heap.size, 0, none⟩) 1 1, w'.alloc (.cells #[.slice (some ⟨g1, 0, none⟩) g.cols cap, .bool false] 50), by go_simp, ⟨_, rfl⟩, ⟨hold hb2 hI.1, holda hb2 hI.2⟩, _, rfl, below_tail hb hb2, hrc.below hb2, hp_new rfl⟩
      rintro v ⟨k, rfl⟩
      simp only [Act.put, List.setIfInBounds_toArray, List.set_cons_zero, List.set_cons_succ]
      refine Go.RL.AtL.one 9 (o := ⟨some 20, .call { callee := .builtin .append, args := #[.tmp 15, .tmp 19], argTypes := #[42, 42] }, 42, _, _, none⟩) (fun v => ∃ g' c', v = .slice (some ⟨g', 0, none⟩) (m + 1) c') (fun v w' => w'.ownsRow base 50 2 v (m + 1) (flat encRh (q1.S ++ [⟨some ⟨g1, 0, none⟩, List.replicate g.cols (blankC zeroCol), cap, false⟩])) ∧ Mod q1.vs.ownBlock.toList wr w' ∧ (∀ b, v.ownBlock = some b → q1.vs.ownBlock = some b ∨ wr.heap.size ≤ b) ∧ RcAt w' ⟨some ⟨g1, 0, none⟩, List.replicate g.cols (blankC zeroCol), cap, false⟩) (by simp) (by kernel_rfl) rfl (Go.RL.StabL.op _ _ (by rfl) (fun w' hI hS => ?_)) ?_
      · obtain ⟨k', hv', hb, hrc, hk⟩ := hS
        simp only [Value.slice.injEq, Option.some.injEq, Addr.mk.injEq, and_true, true_and] at hv'
        subst hv'
        have hown := (HQ.out.below hb).own
        rw [HM.out] at hown
        obtain ⟨v', w3, hr3, ho3, hg3, -, hn3⟩ := run_append_own_at (P := Tryz.prog) w' base 42 42 50 j0 _ 2 32 Tryz.underlying42 hj gz0 gz1 gz2 rfl (by decide) q1.vs m (flat encRh q1.S) hown ⟨k, 0, none⟩ 1 1 (encRh ⟨some ⟨g1, 0, none⟩, List.replicate g.cols (blankC zeroCol), cap, false⟩) rfl (fun j u hj => by
          rw [add_lit', Nat.zero_add]
          exact (at_ hk j u (by simpa [encRh] using hj)).1) (encRh_one _) (by simp only [maxLen]; omega) (by omega) (Nat.le_trans hbw hb.size)
        obtain ⟨g', c', rfl⟩ := own_form ho3 (by omega)
        have hvs : ∀ b, q1.vs.ownBlock = some b → b < wr.heap.size := fun b hb => (HQ.out.own.lt b hb).2
        have hMg : Mod q1.vs.ownBlock.toList w' w3 := Mod.of_grown hg3 (fun b hb => by simp [hb])
        have hPn : q.P ∉ q1.vs.ownBlock.toList := fun hx => by
          obtain ⟨cur, hc⟩ := own_block HQ.out.own (Option.mem_toList.1 hx)
          have := HQ.out.blk
          rw [HE.out.1] at this
          exact block_ne this hc (by decide) rfl
        have hNC : NoCel w' q1.vs.ownBlock.toList := fun b hb' cs f he => by
          obtain ⟨cur, hc⟩ := own_block hown (Option.mem_toList.1 hb')
          exact block_ne hc he (by decide) rfl
        refine ⟨_, w3, exec_append _ _ _ rfl _ _ _ rfl rfl (by rw [HV.out] at hr3; exact hr3), ⟨g', c', rfl⟩, ⟨hMg.hold hPn hI.1, hMg.cell hPn hI.2⟩, ?_, (Mod.of_below (X := q1.vs.ownBlock.toList) hb).trans hMg (fun b hb => .inl hb), fun b hb' => ?_, hrc.mod hMg hNC⟩
        · rw [flat_append]; exact ho3
        · rcases hn3 with h3 | h3
          · exact .inl (by rw [← h3]; exact hb')
          · rw [h3] at hb'; injection hb' with hb'; exact .inr (by have := hb.size; omega)
      rintro v ⟨g', c', rfl⟩
      simp only [Act.put, List.setIfInBounds_toArray, List.set_cons_zero, List.set_cons_succ]
      refine Go.RL.AtL.take 10 (o := ⟨_, _, _, _, _, _⟩) (v := ?_) (by kernel_rfl) rfl (by simp) (by kernel_rfl) (by kernel_rfl) ?_ ?_; rotate_left
      · (refine Go.RL.Pure.val (by rfl) ?_; intro w' hI; obtain ⟨⟨_, _⟩, _⟩ := hI; go_simp; first | done | with_reducible rfl)
      simp only [Act.put, List.setIfInBounds_toArray, List.set_cons_zero, List.set_cons_succ]
      refine Go.RL.AtL.take 11 (o := ⟨_, _, _, _, _, _⟩) (v := ?_) (by kernel_rfl) rfl (by simp) (by kernel_rfl) (by kernel_rfl) ?_ ?_; rotate_left
      · (refine Go.RL.Pure.val (by rfl) ?_; intro w' hI; obtain ⟨⟨_, _⟩, _⟩ := hI; go_simp; first | done | with_reducible rfl)
      simp only [Act.put, List.setIfInBounds_toArray, List.set_cons_zero, List.set_cons_succ]
      refine Go.RL.AtL.done (by kernel_rfl) (fun w' hI hS => ?_)
      obtain ⟨hs1, hs2, hs3, hs4⟩ := hS
      rw [← HM.out] at hs1
      have HG := Lib.hid (HQ.out.grown hs1 hs2 hs3 hs4 (by simp) (by rw [HM.out]; exact hm1000))
      rw [HM.out, HE.out.1] at HG
      obtain ⟨⟨z1, z1f⟩, -⟩ := hI
      clear hs1 hs2 hs3 hs4 x1 x1f x2
      go_wp2
      go_roundg (gk - 1)
      case rel =>
        refine ⟨i + 1, by omega, ?_⟩
        have := PgRes.trans ⟨HE.out.1, HE.out.2.1, HE.out.2.2.1, HE.out.2.2.2⟩ HG.out
        rw [List.replicate_succ', ← List.append_assoc]
        exact this
      case measure => omega
def fitsB (r c : Int) : Bool := decide (1 ≤ r ∧ r ≤ 1000 ∧ 2 ≤ c ∧ c ≤ 1000)
set_option maxRecDepth 100000 in
theorem pfits_any (r c : Int) (w : World) : Calls Tryz.prog 52 #[.int .i64 r, .int .i64 c] w fun e w' => e = .returned (.bool (fitsB r c)) ∧ w = w' := by
  unfold fitsB
  by_cases h1 : 1 ≤ r <;> by_cases h2 : r ≤ 1000 <;> by_cases h3 : 2 ≤ c <;>
  · go_enter Tryz.func52, Tryz.ntmps52
    go_wp2
    go_ret
    refine ⟨?_, rfl⟩
    simp [h1, h2, h3]
    try omega
end
end Go.Proofs.YtffdblmdelgkaaaGreat
namespace Go.Proofs.YtffdblmdelgkaaaGreat
open Go.RowKit
def newP (rows cols lines : Nat) : Pg := ⟨lines, [], 0, List.replicate rows (blankR cols zeroCol), cols, []⟩
def NewPost (rows cols lines : Nat) (w : World) (e : Ending) (w' : World) : Prop :=
  ∃ q, e = .returned (.tuple #[.pointer (some ⟨q.P, 0, none⟩), .int .i64 0]) ∧ PgO w.heap.size w' q (newP rows cols lines) ∧ Below w.heap.size w w'
set_option maxRecDepth 100000 in
set_option maxHeartbeats 1600000 in
theorem pnew_ok (rows cols lines : Nat) (w : World) (hr1 : 1 ≤ rows) (hr2 : rows ≤ 1000) (hc1 : 2 ≤ cols) (hc2 : cols ≤ 1000) (hl : lines ≤ 100000) :
    Calls Tryz.prog 23 #[.int .i64 rows, .int .i64 cols, .int .i64 lines] w (NewPost rows cols lines w) := by
  have HN := Lib.hid (rnew_ok lines w hl)
  have hf : fitsB rows cols = true := by unfold fitsB; simp; omega
  have HF := Lib.hid (fun w => pfits_any rows cols w)
  rw [hf] at HF
  clear hf
  go_enter Tryz.func23, Tryz.ntmps23
  go_upto_region 5 with (first
    | (go_at_call 63; refine HN.out.mono ?_; rintro e w1 ⟨rfl, hro, hb⟩; have HRO := Lib.hid hro; have HB := Lib.hid hb; clear hro hb)
    | (go_at_call 52; refine (HF.out _).mono ?_; rintro e w9 ⟨rfl, rfl⟩))
  have hb2 := below_allocs (Below.refl w1.heap.size w1) (.cells #[.pointer (some ⟨w.heap.size, 0, none⟩), .slice none 0 0, .int .i64 cols, .slice none 0 0] 91)
  have hp : (w1.alloc (.cells #[.pointer (some ⟨w.heap.size, 0, none⟩), .slice none 0 0, .int .i64 cols, .slice none 0 0] 91)).heap[w1.heap.size]? = some (.cells #[.pointer (some ⟨w.heap.size, 0, none⟩), .slice none 0 0, .int .i64 cols, .slice none 0 0] 91 (0, 0)) := hp_new rfl
  have hO : PgO w.heap.size (w1.alloc (.cells #[.pointer (some ⟨w.heap.size, 0, none⟩), .slice none 0 0, .int .i64 cols, .slice none 0 0] 91)) ⟨w1.heap.size, w.heap.size, .slice none 0 0, .slice none 0 0, .slice none 0 0, [], [], 0, 0⟩ ⟨lines, [], 0, [], cols, []⟩ :=
    ⟨hp, HB.out.size, HRO.out.below hb2, World.ownsRow_nil _ _ _ _, World.ownsRow_nil _ _ _ _, (fun b hb => by simp [Value.ownBlock] at hb), rfl, rfl, (fun r hr => by cases hr), hc1, hc2, by simp, Int.le_refl _⟩
  have HFI := Lib.hid (pfill_any hO rows hr2)
  have HB2 := Lib.hid (below_tail HB.out hb2)
  have HX := Lib.hid hO.lt
  clear hb2 hp hO
  go_wp2_with (go_at_call 55; (with_reducible refine HFI.out.mono ?_); rintro e w3 ⟨rfl, hs⟩; have HS := Lib.hid hs; clear hs)
  go_ret2
  obtain ⟨q, e1, e2, h1, h2, h3⟩ := HS.out
  simp only [List.length_nil, Nat.sub_zero, List.nil_append] at h1
  refine ⟨q, by rw [e1]; rfl, h1, HB2.out.trans (h2.below (B := w.heap.size) (fun b hb => (HX.out b hb).1) HB2.out.size)⟩
end Go.Proofs.YtffdblmdelgkaaaGreat
namespace Go.Proofs.YtffdblmdelgkaaaGreat
open Go.RowKit
/-- Rows of the call's own. -/
def RowsO (base : Nat) (w : World) (v : Value) (L : List Rh) : Prop := w.ownsRow base 50 2 v L.length (flat encRh L) ∧ ∀ r ∈ L, RcAt w r ∧ 0 < r.cs.length
theorem RowsO.below {base : Nat} {w w' : World} {v : Value} {L : List Rh} (h : RowsO base w v L) (hb : Below w.heap.size w w') : RowsO base w' v L := ⟨owns_mod h.1 (Mod.of_below (X := []) hb) (fun _ _ h => by cases h), fun r hr => ⟨(h.2 r hr).1.below hb, (h.2 r hr).2⟩⟩
theorem RowsO.push {base : Nat} {w w1 : World} {v v' : Value} {L : List Rh} {r : Rh} (h : RowsO base w v L) (ho : w1.ownsRow base 50 2 v' (L.length + 1) (flat encRh L ++ encRh r)) (hg : w.grownBy w1 v.ownBlock) (hr : RcAt w r) (h0 : 0 < r.cs.length) : RowsO base w1 v' (L ++ [r]) := by
  have hm : Mod v.ownBlock.toList w w1 := Mod.of_grown hg (fun b hb => by simp [hb])
  have hn : NoCel w v.ownBlock.toList := fun b hb cs f he => by
    obtain ⟨cur, hc⟩ := own_block h.1 (Option.mem_toList.1 hb)
    exact block_ne hc he (by decide) rfl
  refine ⟨by rw [flat_append, List.length_append]; exact ho, fun x hx => ?_⟩
  rcases List.mem_append.1 hx with hx | hx
  · exact ⟨(h.2 x hx).1.mod hm hn, (h.2 x hx).2⟩
  · rw [List.mem_singleton.1 hx]; exact ⟨hr.mod hm hn, h0⟩
def AllPost (H : List Ro) (w : World) (e : Ending) (w' : World) : Prop := ∃ v L, e = .returned v ∧ RowsO w.heap.size w' v L ∧ L.map roOf = H ∧ Below w.heap.size w w'
section
variable {base : Nat} {w : World} {R : Nat} {vl : Value} {SL : List Rh} {room first n : Nat} {gone : Int}
set_option maxRecDepth 100000 in
set_option maxHeartbeats 3200000 in
theorem rall_any (h : RgO base w R vl SL room first n gone) : Calls Tryz.prog 58 #[.pointer (some ⟨R, 0, none⟩)] w (AllPost ((histL SL first n).map roOf) w) := by
  obtain ⟨j0, hj, gz0, gz1, gz2⟩ := info_parts info_rowz
  have HLEN := Lib.hid (rlen_any h)
  have H := Lib.hid h
  have hnr : n ≤ 100000 := by have := h.hn; have := h.hm; have := h.hroom; omega
  have hmr : SL.length ≤ 100000 := by have := h.hm; have := h.hroom; omega
  have HOWN := Lib.hid (fun (r : Rh) (w' : World) (h : RcAt w' r) (h0 : 0 < r.cs.length) => rown_any r w' h h0)
  clear h
  go_enter Tryz.func58, Tryz.ntmps58
  go_wp2_with (go_at_call 59; refine HLEN.out.mono ?_; rintro e w9 ⟨rfl, rfl⟩)
  go_loopw [3, 7] (fun s3 s7 wr => ∃ (i : Nat) (L : List Rh), s7 = .int .i64 i ∧ i ≤ n ∧ L.length = i ∧ RowsO w.heap.size wr s3 L ∧ L.map roOf = ((histL SL first n).take i).map roOf ∧ Below w.heap.size w wr) (fun _ s7 _ => n - (intOf s7).toNat)
  case atStart => exact ⟨0, [], rfl, Nat.zero_le _, rfl, ⟨World.ownsRow_nil _ _ _ _, fun r hr => by cases hr⟩, rfl, Below.refl _ _⟩
  case round =>
    obtain ⟨i, L, rfl, hi, hL, hRo, hmap, hb⟩ := hrel
    have HRO := Lib.hid hRo
    have HMP := Lib.hid hmap
    have HB := Lib.hid hb
    have HL := Lib.hid hL
    obtain ⟨A3, c3, hv3⟩ := row_form hRo.1
    subst hv3
    rw [hL]
    clear hRo hmap hb hL
    by_cases hlt : i < n
    rotate_left
    · obtain rfl : i = n := by omega
      go_wp2
      go_ret
      exact ⟨.slice A3 L.length c3, L, by rw [HL.out]; rfl, HRO.out, by rw [HMP.out, List.take_of_length_le (by rw [histL_len]; exact Nat.le_refl _)], HB.out⟩
    · have hltI : (i : Int) < (n : Int) := by omega
      have hf : first < SL.length := by
        rcases H.out.hf with hf | ⟨-, hf⟩
        · exact hf
        · have := H.out.hn; omega
      obtain ⟨k, hk⟩ : ∃ k, slotOf SL.length first i = k := ⟨_, rfl⟩
      have hkl : k < SL.length := by rw [← hk]; exact slotOf_lt hf (by have := H.out.hn; omega)
      obtain ⟨r, hr⟩ : ∃ r, SL[k]? = some r := ⟨SL[k], List.getElem?_eq_getElem hkl⟩
      have hHi : (histL SL first n)[i]? = some r := by rw [histL_at hf H.out.hn hlt, hk, hr]
      have hrr := H.out.rows r (List.mem_of_getElem? hHi)
      have HRi := Lib.hid (H.out.below HB.out)
      obtain ⟨gs, cs, hvs⟩ := own_form H.out.own (by omega)
      have hownS := HRi.out.own
      have x0 := (at_ HRi.out.blk 0 _ rfl).1
      have x2 : wr.cell? ⟨R, 2, none⟩ = some (.int .i64 first) := (at_ HRi.out.blk 2 _ rfl).1
      rw [hvs] at hownS x0
      obtain ⟨⟨r0, -⟩, r1, -⟩ := owns_row hownS hr
      have hfr : first ≤ 100000 := by omega
      have hkI : (k : Int) < (SL.length : Int) := by omega
      have HHI := Lib.hid hHi
      have HRR := Lib.hid hrr
      clear hHi hr hownS hvs hf hrr
      go_upto_region 5 with fail
      refine wp_region_n 12 (fun w2 => Below wr.heap.size wr w2 ∧ w2.cell? ⟨R, 0, none⟩ = some (.slice (some ⟨gs, 0, none⟩) SL.length cs) ∧ w2.cell? ⟨gs, k * 2, none⟩ = some (.slice r.A r.cs.length r.cap) ∧ w2.cell? ⟨gs, k * 2 + 1, none⟩ = some (.bool r.cont)) (by kernel_rfl) (by kernel_rfl) (fun w1 w2 hS hb => ⟨below_tail hS.1 hb, holda hb hS.2.1, holda hb hS.2.2.1, holda hb hS.2.2.2⟩) ⟨(Below.refl _ _).drew, x0, r0, r1⟩ ?_
      refine AtN.take 0 (o := ⟨_, _, _, _, _, _⟩) (v := ?_) (by kernel_rfl) rfl (by simp) (by kernel_rfl) (by kernel_rfl) ?_ ?_; rotate_left
      · first | exact StabN.skip (by rfl) | (refine StabN.val (by rfl) ?_; intro w' hS; obtain ⟨_, _, _, _⟩ := hS; go_simp; first | done | with_reducible rfl)
      simp only [Act.put, List.setIfInBounds_toArray, List.set_cons_zero, List.set_cons_succ]
      refine AtN.take 1 (o := ⟨_, _, _, _, _, _⟩) (v := ?_) (by kernel_rfl) rfl (by simp) (by kernel_rfl) (by kernel_rfl) ?_ ?_; rotate_left
      · first | exact StabN.skip (by rfl) | (refine StabN.val (by rfl) ?_; intro w' hS; obtain ⟨_, _, _, _⟩ := hS; go_simp; first | done | with_reducible rfl)
      simp only [Act.put, List.setIfInBounds_toArray, List.set_cons_zero, List.set_cons_succ]
      refine AtN.take 2 (o := ⟨_, _, _, _, _, _⟩) (v := ?_) (by kernel_rfl) rfl (by simp) (by kernel_rfl) (by kernel_rfl) ?_ ?_; rotate_left
      · first | exact StabN.skip (by rfl) | (refine StabN.val (by rfl) ?_; intro w' hS; obtain ⟨_, _, _, _⟩ := hS; go_simp; first | done | with_reducible rfl)
      simp only [Act.put, List.setIfInBounds_toArray, List.set_cons_zero, List.set_cons_succ]
      refine AtN.take 3 (o := ⟨_, _, _, _, _, _⟩) (v := ?_) (by kernel_rfl) rfl (by simp) (by kernel_rfl) (by kernel_rfl) ?_ ?_; rotate_left
      · first | exact StabN.skip (by rfl) | (refine StabN.val (by rfl) ?_; intro w' hS; obtain ⟨_, _, _, _⟩ := hS; go_simp; first | done | with_reducible rfl)
      simp only [Act.put, List.setIfInBounds_toArray, List.set_cons_zero, List.set_cons_succ]
      refine AtN.take 4 (o := ⟨_, _, _, _, _, _⟩) (v := ?_) (by kernel_rfl) rfl (by simp) (by kernel_rfl) (by kernel_rfl) ?_ ?_; rotate_left
      · first | exact StabN.skip (by rfl) | (refine StabN.val (by rfl) ?_; intro w' hS; obtain ⟨_, _, _, _⟩ := hS; go_simp; first | done | with_reducible rfl)
      simp only [Act.put, List.setIfInBounds_toArray, List.set_cons_zero, List.set_cons_succ]
      refine AtN.take 5 (o := ⟨_, _, _, _, _, _⟩) (v := ?_) (by kernel_rfl) rfl (by simp) (by kernel_rfl) (by kernel_rfl) ?_ ?_; rotate_left
      · first | exact StabN.skip (by rfl) | (refine StabN.val (by rfl) ?_; intro w' hS; obtain ⟨_, _, _, _⟩ := hS; go_simp; first | done | with_reducible rfl)
      simp only [Act.put, List.setIfInBounds_toArray, List.set_cons_zero, List.set_cons_succ]
      refine AtN.take 6 (o := ⟨_, _, _, _, _, _⟩) (v := ?_) (by kernel_rfl) rfl (by simp) (by kernel_rfl) (by kernel_rfl) ?_ ?_; rotate_left
      · first | exact StabN.skip (by rfl) | (refine StabN.val (by rfl) ?_; intro w' hS; obtain ⟨_, _, _, _⟩ := hS; go_simp; first | done | with_reducible rfl)
      simp only [Act.put, List.setIfInBounds_toArray, List.set_cons_zero, List.set_cons_succ]
      refine AtN.take 7 (o := ⟨_, _, _, _, _, _⟩) (v := .int .i64 k) (by kernel_rfl) rfl (by simp) (by kernel_rfl) (by kernel_rfl) (StabN.call1 95 #[.pointer (some ⟨R, 0, none⟩), .int .i64 i] (.int .i64 k) (by rfl) (by intro w'; go_simp; done) (fun w' hS => (slot_raw hS.2.1 ((Mod.of_below (X := []) hS.1).cell (by simp) x2) hmr hfr i (by omega)).mono (fun e w3 h => ⟨by rw [← hk]; exact h.1, h.2 ▸ Below.refl _ _⟩))) ?_
      simp only [Act.put, List.setIfInBounds_toArray, List.set_cons_zero, List.set_cons_succ]
      refine AtN.take 8 (o := ⟨_, _, _, _, _, _⟩) (v := ?_) (by kernel_rfl) rfl (by simp) (by kernel_rfl) (by kernel_rfl) ?_ ?_; rotate_left
      · first | exact StabN.skip (by rfl) | (refine StabN.val (by rfl) ?_; intro w' hS; obtain ⟨_, _, _, _⟩ := hS; go_simp; first | done | with_reducible rfl)
      simp only [Act.put, List.setIfInBounds_toArray, List.set_cons_zero, List.set_cons_succ]
      refine AtN.take 9 (o := ⟨_, _, _, _, _, _⟩) (v := ?_) (by kernel_rfl) rfl (by simp) (by kernel_rfl) (by kernel_rfl) ?_ ?_; rotate_left
      · first | exact StabN.skip (by rfl) | (refine StabN.val (by rfl) ?_; intro w' hS; obtain ⟨_, _, _, _⟩ := hS; go_simp; first | done | with_reducible rfl)
      simp only [Act.put, List.setIfInBounds_toArray, List.set_cons_zero, List.set_cons_succ]
      refine AtN.one 10 (o := ⟨_, _, _, _, _, _⟩) (fun v => ∃ g1 cap, v = .agg #[.slice (some ⟨g1, 0, none⟩) r.cs.length cap, .bool r.cont]) (fun v w' => ∃ g1 cap, v = .agg #[.slice (some ⟨g1, 0, none⟩) r.cs.length cap, .bool r.cont] ∧ RcAt w' ⟨some ⟨g1, 0, none⟩, r.cs, cap, r.cont⟩) (by simp) (by kernel_rfl) rfl (fun v w1 w2 ⟨g1, cap, hv, hr⟩ hb => ⟨g1, cap, hv, hr.below hb⟩) (StabN.call 94 #[.agg #[.slice r.A r.cs.length r.cap, .bool r.cont]] _ _ (by rfl) ?_ (fun w' hS => ?_)) ?_
      · intro w'
        go_simp
      · refine (HOWN.out r w' (HRR.out.1.below (below_tail HB.out hS.1)) HRR.out.2).mono ?_
        rintro e w3 ⟨g1, cap, rfl, hrc, hb, -⟩
        exact ⟨_, rfl, ⟨⟨g1, cap, rfl⟩, g1, cap, rfl, hrc⟩, hb⟩
      rintro v ⟨g1, cap, rfl⟩
      simp only [Act.put, List.setIfInBounds_toArray, List.set_cons_zero, List.set_cons_succ]
      refine AtN.one 11 (o := ⟨_, _, _, _, _, _⟩) (fun v => ∃ k, v = .slice (some ⟨k, 0, none⟩) 1 1) (fun v w' => ∃ k, v = .slice (some ⟨k, 0, none⟩) 1 1 ∧ w'.heap[k]? = some (.cells #[.slice (some ⟨g1, 0, none⟩) r.cs.length cap, .bool r.cont] 50 (0, 0))) (by simp) (by kernel_rfl) rfl (fun v w1 w2 ⟨k, hv, hk⟩ hb => ⟨k, hv, (hb.block k (lt_of_heap hk)).trans hk⟩) (StabN.new _ _ (by rfl) (fun w' hS => ?_)) ?_
      · exact ⟨.slice (some ⟨w'.heap.size, 0, none⟩) 1 1, w'.alloc (.cells #[.slice (some ⟨g1, 0, none⟩) r.cs.length cap, .bool r.cont] 50), by go_simp, ⟨_, rfl⟩, ⟨_, rfl, hp_new rfl⟩, below_allocs (Below.refl _ _) _⟩
      rintro v ⟨kb, rfl⟩
      simp only [Act.put, List.setIfInBounds_toArray, List.set_cons_zero, List.set_cons_succ]
      refine AtN.done (by kernel_rfl) (fun w' hS => ?_)
      obtain ⟨⟨⟨hb1, -⟩, g1', cap', hv', hrc'⟩, kb', hvk, hkb⟩ := hS
      simp only [Value.agg.injEq, Array.mk.injEq, List.cons.injEq, Value.slice.injEq, Option.some.injEq, Addr.mk.injEq, and_true, true_and] at hv' hvk
      obtain ⟨rfl, rfl⟩ := hv'
      subst hvk
      have HBW := Lib.hid (below_tail HB.out hb1)
      have HRO1 := Lib.hid (HRO.out.below hb1)
      have HRC1 := Lib.hid hrc'
      have HKB := Lib.hid hkb
      clear hb1 hrc' hkb x0 x2 r0 r1
      simp only [List.drop_succ_cons, List.drop_zero]
      refine wpList_append_g rfl (.tmp 10) (.tmp 21) 42 rfl w.heap.size 50 j0 _ 2 32 Tryz.underlying42 hj gz0 gz1 gz2 rfl (by decide) (.slice A3 L.length c3) L.length (flat encRh L) (by rw [HL.out]; rfl) HRO1.out.1 ⟨kb, 0, none⟩ 1 1 (encRh ⟨some ⟨g1, 0, none⟩, r.cs, cap, r.cont⟩) rfl rfl ?_ (encRh_one _) ?_ ?_ ?_ ?_
      all_goals first
        | (have := HL.out; omega)
        | (simp only [maxLen]; have := HL.out; omega)
        | exact HBW.out.size
        | skip
      · intro j u hj
        rw [add_lit', Nat.zero_add]
        exact (at_ HKB.out j u (by simpa [encRh] using hj)).1
      · intro v' w3 ho hg hv'
        have HRO2 := Lib.hid (HRO1.out.push (r := ⟨some ⟨g1, 0, none⟩, r.cs, cap, r.cont⟩) ho hg HRC1.out HRR.out.2)
        have HB3 := Lib.hid (HBW.out.grown hg HBW.out.size (fun x hx => (HRO1.out.1.lt x hx).1))
        clear ho hg hv'
        obtain ⟨A4, c4, hv4⟩ := row_form HRO2.out.1
        subst hv4
        go_wp2
        go_roundw
        case rel => exact ⟨i + 1, L ++ [⟨some ⟨g1, 0, none⟩, r.cs, cap, r.cont⟩], by go_num, by omega, by rw [List.length_append, HL.out]; rfl, by have := HRO2.out; rw [List.length_append] at this; exact this, by rw [List.map_append, HMP.out, List.take_add_one, HHI.out, List.map_append]; rfl, HB3.out⟩
        case measure => simp [intOf]; omega
end
section
variable {base : Nat} {w : World} {q : Pv} {g : Pg}
set_option maxRecDepth 100000 in
set_option maxHeartbeats 3200000 in
theorem pAll_any (h : PgO base w q g) : Calls Tryz.prog 16 #[.pointer (some ⟨q.P, 0, none⟩)] w (AllPost (g.hist ++ g.scr) w) := by
  obtain ⟨j0, hj, gz0, gz1, gz2⟩ := info_parts info_rowz
  have HALL := Lib.hid (rall_any h.ring)
  rw [h.hist] at HALL
  have H := Lib.hid h
  have hh := h.hist100k
  have hrows := h.rows1000
  obtain ⟨⟨x0, -⟩, ⟨x1, -⟩, -⟩ := h.cells
  obtain ⟨AS, cS, hvS⟩ := h.vform
  rw [hvS] at x1
  have HOWN := Lib.hid (fun (r : Rh) (w' : World) (h : RcAt w' r) (h0 : 0 < r.cs.length) => pown_any r w' h h0)
  obtain ⟨m, hm⟩ : ∃ m, q.S.length = m := ⟨_, rfl⟩
  rw [hm] at x1 hrows
  have HM := Lib.hid hm
  have HVS := Lib.hid hvS
  clear h hm hvS
  go_enter Tryz.func16, Tryz.ntmps16
  go_upto_region 4 with (go_at_call 58; refine HALL.out.mono ?_; rintro e w1 ⟨v0, L0, rfl, hro, hmp, hb⟩; have HRO := Lib.hid hro; have HMP := Lib.hid hmp; have HB := Lib.hid hb; have x1' := holda hb x1; clear hro hmp hb x1)
  go_wp2_with fail
  go_loopw [3, 18] (fun s3 s18 wr => ∃ (i : Nat) (L : List Rh), s18 = .int .i64 i ∧ i ≤ m ∧ L.length = L0.length + i ∧ RowsO w.heap.size wr s3 L ∧ L.map roOf = g.hist ++ (q.S.take i).map roOf ∧ Below w.heap.size w wr) (fun _ s18 _ => m - (intOf s18).toNat)
  case atStart => exact ⟨0, L0, rfl, Nat.zero_le _, rfl, HRO.out, by rw [HMP.out]; simp, HB.out⟩
  case round =>
    obtain ⟨i, L, rfl, hi, hL, hRo, hmap, hb⟩ := hrel
    have hL0 : L0.length ≤ 100000 := by have := congrArg List.length HMP.out; simp at this; omega
    obtain ⟨bx, rfl⟩ : ∃ bx : Value × Unit, u3 = bx.1 := ⟨(u3, ()), rfl⟩
    have HRO2 := Lib.hid hRo
    have HMP2 := Lib.hid hmap
    have HB2 := Lib.hid hb
    have HL := Lib.hid hL
    clear hRo hmap hb hL
    by_cases hlt : i < m
    rotate_left
    · obtain rfl : i = m := by omega
      go_wp2
      go_ret
      exact ⟨_, L, rfl, HRO2.out, by rw [HMP2.out, ← HM.out, List.take_length, H.out.scr], HB2.out⟩
    · have hltI : (i : Int) < (m : Int) := by omega
      have hiS : i < q.S.length := by rw [HM.out]; exact hlt
      obtain ⟨r, hr⟩ : ∃ r, q.S[i]? = some r := ⟨_, List.getElem?_eq_getElem hiS⟩
      obtain ⟨hrc, hrl⟩ := H.out.rows r (List.mem_of_getElem? hr)
      obtain ⟨gs, cs, hvs⟩ := own_form H.out.own (by omega)
      have hAS : AS = some ⟨gs, 0, none⟩ := by have := HVS.out; rw [hvs] at this; simp only [Value.slice.injEq] at this; exact this.1.symm
      have hownS := (H.out.below HB2.out).own
      rw [hvs] at hownS
      obtain ⟨⟨r0, -⟩, r1, -⟩ := owns_row hownS hr
      have HRC := Lib.hid (hrc.below HB2.out)
      have h0r : 0 < r.cs.length := by rw [hrl]; have := H.out.cols2; omega
      have HRR := Lib.hid h0r
      have HR := Lib.hid hr
      clear hr hownS hvs hrc hrl
      subst hAS
      have hb5 := below_allocs (Below.refl wr.heap.size wr) (.cells #[.slice r.A r.cs.length r.cap, .bool r.cont] 50)
      have HO5 := Lib.hid (HOWN.out r (wr.alloc (.cells #[.slice r.A r.cs.length r.cap, .bool r.cont] 50)) (HRC.out.below hb5) h0r)
      have HB5 := Lib.hid hb5
      clear hb5
      go_wp2_with (first
        | (go_at_call 49; refine HO5.out.mono ?_; rintro e w6 ⟨g1, cap, rfl, hrc, hb, -⟩; have HRC6 := Lib.hid hrc; have HB6 := Lib.hid (below_tail HB5.out hb); clear hrc hb)
        | (refine wpList_append_g rfl (.tmp 22) (.tmp 25) 42 rfl w.heap.size 50 j0 _ 2 32 Tryz.underlying42 hj gz0 gz1 gz2 rfl (by decide) bx.1 L.length (flat encRh L) rfl ((HRO2.out.below HB6.out).below (below_allocs (Below.refl _ _) _)).1 ⟨w6.heap.size, 0, none⟩ 1 1 (encRh ⟨some ⟨g1, 0, none⟩, r.cs, cap, r.cont⟩) rfl rfl ?_ (encRh_one _) ?_ ?_ ?_ ?_))
      all_goals first
        | (have := HL.out; omega)
        | (simp only [maxLen]; have := HL.out; omega)
        | (have := HB2.out.size; have := HB6.out.size; simp; omega)
        | skip
      · intro j u hj
        rw [add_lit', Nat.zero_add]
        exact (at_ (hp_new rfl) j u (by simpa [encRh] using hj)).1
      · intro v' w7 ho hg hv'
        have hb7 := below_allocs (Below.refl w6.heap.size w6) (.cells #[.slice (some ⟨g1, 0, none⟩) r.cs.length cap, .bool r.cont] 50)
        have HB7 := Lib.hid (below_tail HB6.out hb7)
        have HRO7 := Lib.hid (((HRO2.out.below HB6.out).below hb7).push (r := ⟨some ⟨g1, 0, none⟩, r.cs, cap, r.cont⟩) ho hg (HRC6.out.below hb7) HRR.out)
        have HB8 := Lib.hid ((below_tail HB2.out HB7.out).grown hg (below_tail HB2.out HB7.out).size (fun x hx => ((HRO2.out.below HB7.out).1.lt x hx).1))
        clear ho hg hv' hb7
        go_wp2
        go_roundw
        case rel => exact ⟨i + 1, L ++ [⟨some ⟨g1, 0, none⟩, r.cs, cap, r.cont⟩], by go_num, by omega, by rw [List.length_append, HL.out]; rfl, HRO7.out, by rw [List.map_append, HMP2.out, List.take_add_one, HR.out, List.map_append, List.append_assoc]; rfl, HB8.out⟩
        case measure => simp [intOf]; omega
end
end Go.Proofs.YtffdblmdelgkaaaGreat
