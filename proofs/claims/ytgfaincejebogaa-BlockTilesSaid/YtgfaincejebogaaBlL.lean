/- The program's blocks: List. Conditions: as stated. -/
import Derived.Test.YtgfaincejebogaaBlK
namespace Go.Proofs.Ytgfaincejebogaa
open Go.RowKit

def firstB (p : P2) : Bk := ⟨0, 0, 0, 0, p.1, p.2, p.1, p.2, p.1, p.2, p.1, p.2, 0, false, false, ByteArray.empty, ByteArray.empty⟩
def stopOf (es : List Ent) (q : P2) (i : Nat) : P2 := match es[i + 1]? with | some E => E.first | none => q
def shownAll (es : List Ent) (q : P2) : Nat → List Bk
  | 0 => []
  | i + 1 => match es[i]? with
    | some E => shownAll es q i ++ [shownB E (stopOf es q i)]
    | none => shownAll es q i
theorem shownAll_succ {es : List Ent} {q : P2} {i : Nat} {E : Ent} (h : es[i]? = some E) : shownAll es q (i + 1) = shownAll es q i ++ [shownB E (stopOf es q i)] := by rw [shownAll, h]
theorem shownAll_len (es : List Ent) (q : P2) : ∀ i, i ≤ es.length → (shownAll es q i).length = i
  | 0, _ => rfl
  | i + 1, h => by
    rw [shownAll_succ (List.getElem?_eq_getElem (by omega)), List.length_append, shownAll_len es q i (by omega)]; rfl
def listB (es : List Ent) (p : P2) : List Bk := match es with
  | [] => [firstB p]
  | E :: l => firstB E.first :: shownAll (E :: l) (laterP p ((E :: l).getLast (by simp)).last) (l.length + 1)
def BksPost (w : World) (l : List Bk) (e : Ending) (w' : World) : Prop := ∃ v, e = .returned v ∧ w'.ownsRow w.heap.size 43 17 v l.length (flat bkCells l) ∧ Below w.heap.size w w'
theorem info_blk : (Try.prog.info? 43).map (fun i => (i.zero, i.size, i.bytes)) = some (some (.agg (bkCells zeroBk).toArray), 17, 144) := by kernel_rfl
theorem cells_new (w : World) (cs : List Value) (t : TypeId) : ∀ j u, cs[j]? = some u → (w.alloc (.cells cs.toArray t)).cell? ((⟨w.heap.size, 0, none⟩ : Addr).add j) = some u := by
  intro j u hj
  rw [add_lit', Nat.zero_add, cell_of_row _ _ j _ _ _ (hp_new rfl)]
  simpa using hj
theorem owns_one {w : World} {g base : Nat} {c : Bk} (h : w.heap[g]? = some (.cells (bkCells c).toArray 43 (0, 0))) (hb : base ≤ g) : w.ownsRow base 43 17 (.slice (some ⟨g, 0, none⟩) 1 1) 1 (flat bkCells [c]) :=
  ⟨by rw [flat_len bkCells_len]; rfl, .inr ⟨g, 1, _, rfl, hb, h, Nat.le_refl _, by decide, by simp [bkCells_len], by simp [flat, bkCells]⟩⟩
set_option maxRecDepth 100000 in
set_option maxHeartbeats 6400000 in
theorem blList_none {p : Nat} {v : Value} {mo : Nat} {ids : Int} {dir : ByteArray} (r c : Int) (w : World) (h : BlO w p v [] mo ids dir) :
    Calls Try.prog 10 #[.pointer (some ⟨p, 0, none⟩), .agg #[.int .i64 r, .int .i64 c]] w (BksPost w (listB [] (r, c))) := by
  have HL := Lib.hid (fun w1 hb => blLen_any w1 (h.below (w' := w1) hb))
  clear h
  go_enter Try.func10, Try.ntmps10
  go_wp2_with (go_at_call 13; refine (HL.out _ (below_allocs (Below.refl _ _) _)).mono ?_; rintro e w1 ⟨rfl, hw1⟩; subst hw1)
  go_ret
  exact ⟨_, rfl, owns_one (c := firstB (r, c)) (hp_new (by simp)) (by simp), below_allocs (below_allocs (Below.refl _ _) _) _⟩
set_option maxRecDepth 100000 in
set_option maxHeartbeats 6400000 in
theorem blList_any {p b0 bl : Nat} {v : Value} {L : List (Nat × Ent)} {E0 El : Ent} {mo : Nat} {ids : Int} {dir : ByteArray} (r c : Int) (w : World) (h : BlO w p v L mo ids dir) (h0 : L[0]? = some (b0, E0)) (hlast : L.getLast? = some (bl, El)) (hz : L.length ≤ 1000) :
    Calls Try.prog 10 #[.pointer (some ⟨p, 0, none⟩), .agg #[.int .i64 r, .int .i64 c]] w (BksPost w (firstB E0.first :: shownAll (L.map (·.2)) (laterP (r, c) El.last) L.length)) := by
  obtain ⟨j0, hj, gz0, gz1, gz2⟩ := info_parts info_blk
  have hb1 : Below w.heap.size w (w.alloc (.cells #[.int .i64 r, .int .i64 c] 24)) := below_allocs (Below.refl _ _) _
  have hO1 := h.below hb1
  have hl0 : 0 < L.length := (List.getElem?_eq_some_iff.1 h0).1
  have hml : (bl, El) ∈ L := List.mem_of_getLast? hlast
  obtain ⟨kl, okl, -, -⟩ := hO1.ents (bl, El) hml
  have hptr : lastPtr L = .pointer (some ⟨bl, 0, none⟩) := by unfold lastPtr; rw [hlast]
  have HLEN := Lib.hid (fun w1 hb => blLen_any w1 (hO1.below (w' := w1) hb))
  have HNW : Hid (∀ w', Below (w.alloc (.cells #[.int .i64 r, .int .i64 c] 24)).heap.size (w.alloc (.cells #[.int .i64 r, .int .i64 c] 24)) w' → Calls Try.prog 21 #[.pointer (some ⟨p, 0, none⟩)] w' fun e w'' => e = .returned (.pointer (some ⟨bl, 0, none⟩)) ∧ Below w'.heap.size w' w'') := Lib.hid fun w' hb => by rw [← hptr]; exact newest_any w' (hO1.below hb) (by omega)
  have HLS : Hid (∀ w', Below (w.alloc (.cells #[.int .i64 r, .int .i64 c] 24)).heap.size (w.alloc (.cells #[.int .i64 r, .int .i64 c] 24)) w' → Calls Try.prog 22 #[.pointer (some ⟨bl, 0, none⟩)] w' fun e w'' => e = .returned (.agg #[.int .i64 El.last.1, .int .i64 El.last.2]) ∧ Below w'.heap.size w' w'') := Lib.hid fun w' hb => last_any bl El w' (kl.below hb) okl
  have HLT := Lib.hid (fun w' => later_val (r, c) El.last w')
  simp only at HLT
  generalize laterP (r, c) El.last = q at HLT ⊢
  have HO1 := Lib.hid hO1
  have HB1 := Lib.hid hb1
  have H0 := Lib.hid h0
  have hpw := lt_of_cell h.row.1
  have HNE : Hid ((w.alloc (.cells #[.int .i64 r, .int .i64 c] 24)).heap.size = w.heap.size + 1) := Lib.hid (by simp)
  have HFX := Lib.hid (show ∀ g ∈ foot p v L, g < w.heap.size from h.lt)
  have HBOX := Lib.hid (show HoldAt (w.alloc (.cells #[.int .i64 r, .int .i64 c] 24)) w.heap.size 0 (.int .i64 r) ∧ HoldAt (w.alloc (.cells #[.int .i64 r, .int .i64 c] 24)) w.heap.size 1 (.int .i64 c) from ⟨at_ (hp_new rfl) 0 _ rfl, at_ (hp_new rfl) 1 _ rfl⟩)
  have hne0 : ((L.length : Int) == 0) = false := beq_eq_false_iff_ne.2 (by omega)
  clear h h0 hlast hO1 hml kl okl hptr hb1
  go_enter Try.func10, Try.ntmps10
  go_upto_region 3 with (go_at_call 13; refine (HLEN.out _ (Below.refl _ _)).mono ?_; rintro e w1 ⟨rfl, hw1⟩; subst hw1)
  refine wp_region_u 5 (fun w' => Below (w.alloc (.cells #[.int .i64 r, .int .i64 c] 24)).heap.size (w.alloc (.cells #[.int .i64 r, .int .i64 c] 24)) w' ∧ w'.cell? ⟨w.heap.size, 0, none⟩ = some (.int .i64 r) ∧ w'.cell? ⟨w.heap.size, 1, none⟩ = some (.int .i64 c)) (by kernel_rfl) (by kernel_rfl) ?_ ?_
  · exact ⟨(Below.refl _ _).drew, HBOX.out.1.1, HBOX.out.2.1⟩
  simp only [List.take_succ_cons, List.take_zero, List.drop_succ_cons, List.drop_zero]
  repeat (first
    | (refine seqU_val ?_ (by rfl) ?_ ?_; rotate_left; · (intro w' hS; obtain ⟨_, _⟩ := hS; go_simp; first | done | with_reducible rfl)
       simp only [Act.put, List.setIfInBounds_toArray, List.set_cons_zero, List.set_cons_succ])
    | (refine seqU_call 21 #[.pointer (some ⟨p, 0, none⟩)] (.pointer (some ⟨bl, 0, none⟩)) (by rfl) ?_ (fun w' hS => (HNW.out w' hS.1).mono fun e w2 ⟨he, hb⟩ => ⟨he, ⟨below_tail hS.1 hb, holda hb hS.2.1, holda hb hS.2.2⟩⟩) ?_; · (intro w'; go_simp; done)
       simp only [Act.put, List.setIfInBounds_toArray, List.set_cons_zero, List.set_cons_succ])
    | (refine seqU_call 22 #[.pointer (some ⟨bl, 0, none⟩)] (.agg #[.int .i64 El.last.1, .int .i64 El.last.2]) (by rfl) ?_ (fun w' hS => (HLS.out w' hS.1).mono fun e w2 ⟨he, hb⟩ => ⟨he, ⟨below_tail hS.1 hb, holda hb hS.2.1, holda hb hS.2.2⟩⟩) ?_; · (intro w'; go_simp; done)
       simp only [Act.put, List.setIfInBounds_toArray, List.set_cons_zero, List.set_cons_succ])
    | (refine seqU_call 20 #[.agg #[.int .i64 r, .int .i64 c], .agg #[.int .i64 El.last.1, .int .i64 El.last.2]] (.agg #[.int .i64 q.1, .int .i64 q.2]) (by rfl) ?_ (fun w' hS => (HLT.out w').mono fun e w2 ⟨he, hb⟩ => ⟨he, ⟨below_tail hS.1 hb, holda hb hS.2.1, holda hb hS.2.2⟩⟩) ?_; · (intro w'; go_simp; done)
       simp only [Act.put, List.setIfInBounds_toArray, List.set_cons_zero, List.set_cons_succ]))
  refine seqU_nil (fun w' hS => ?_)
  have hB2 := hS.1
  clear hS
  obtain ⟨⟨z0, z0f⟩, z1, z1f⟩ : HoldAt w' w.heap.size 0 (.int .i64 r) ∧ HoldAt w' w.heap.size 1 (.int .i64 c) := ⟨hold hB2 HBOX.out.1, hold hB2 HBOX.out.2⟩
  go_upto_region 4 with fail
  generalize hW3 : World.setCell _ _ _ = W3
  obtain ⟨⟨y0, -⟩, y1, -⟩ := set_two (u' := .int .i64 q.1) (v' := .int .i64 q.2) ⟨z0, z0f⟩ ⟨z1, z1f⟩
  rw [hW3] at y0 y1
  have hm3 : Mod [w.heap.size] w' W3 := by rw [← hW3]; exact ((Mod.refl _ _).setCell (.inl (by simp)) _).setCell (.inl (by simp)) _
  have HBW := Lib.hid (show Below w.heap.size w W3 from (below_tail HB1.out hB2).trans (hm3.below (fun g hg => by simp at hg; omega) (below_tail HB1.out hB2).size))
  have hO3 := (HO1.out.below hB2).mod hm3 (fun g hg hx => by have := HFX.out g hg; rw [List.mem_singleton.1 hx] at this; omega)
  have HO3 := Lib.hid hO3
  obtain ⟨A, ca, hv, hvc⟩ := hO3.own.form
  rw [List.length_map] at hv hvc
  subst hv
  obtain ⟨g, o, rfl, g0, -⟩ := hO3.own.at_ (i := 0) (u := .pointer (some ⟨b0, 0, none⟩)) (by rw [List.getElem?_map, H0.out]; rfl)
  rw [Nat.add_zero] at g0
  obtain ⟨k0, ok0, -, -⟩ := hO3.ents (b0, E0) (List.mem_of_getElem? H0.out)
  have x0 : W3.cell? ⟨b0, 6, none⟩ = some (.int .i64 E0.first.1) := (k0.place (at_get (i := 0) (by rw [ok0.four]; decide))).1.1
  have x1 : W3.cell? ⟨b0, 7, none⟩ = some (.int .i64 E0.first.2) := (k0.place (at_get (i := 0) (by rw [ok0.four]; decide))).2.1
  have r0 := hO3.row.1
  have hp3 := lt_of_cell r0
  have hg3 := lt_of_cell g0
  have hx3 := lt_of_cell x0
  have HW5 : Hid (∀ W5, W5 = (W3.alloc (.cells #[.int .i64 E0.first.1, .int .i64 E0.first.2] 24)).alloc (.cells (bkCells (firstB E0.first)).toArray 43) → Below W3.heap.size W3 W5 ∧ W5.heap[W3.heap.size + 1]? = some (.cells (bkCells (firstB E0.first)).toArray 43 (0, 0)) ∧ W5.heap.size = W3.heap.size + 2) := Lib.hid (by
    rintro W5 rfl
    exact ⟨below_allocs (below_allocs (Below.refl _ _) _) _, hp_new (by simp), by simp⟩)
  have hl0' : (0 : Int) < (L.length : Int) := by omega
  clear hW3 z0 z0f z1 z1f hm3 hO3 k0 ok0 hB2
  go_upto_block 0 with fail
  generalize hWW : World.alloc _ _ = W5
  obtain ⟨hb5, h5, hs5⟩ := HW5.out W5 hWW.symm
  have HB5 := Lib.hid hb5
  have H5 := Lib.hid (owns_one h5 (base := W3.heap.size) (by omega))
  have HC3 := Lib.hid (And.intro r0 (And.intro y0 y1))
  replace r0 := holda hb5 r0
  clear hWW HW5 hb5 h5 x0 x1 g0 hs5 HO1 y0 y1
  go_wp2_with fail
  go_loopw [6, 45] (fun s6 i wr => ∃ j : Nat, j ≤ L.length ∧ i = .int .i64 j ∧ wr.ownsRow W3.heap.size 43 17 s6 (j + 1) (flat bkCells (firstB E0.first :: shownAll (L.map (·.2)) q j)) ∧ Below W3.heap.size W3 wr) (fun _ i _ => L.length - (intOf i).toNat)
  case atStart => exact ⟨0, Nat.zero_le _, rfl, H5.out, HB5.out⟩
  case round =>
    obtain ⟨j, hj2, rfl, hown, hB⟩ := hrel
    have HOWN := Lib.hid hown
    obtain ⟨A6, c6, hs6⟩ := row_form hown
    subst hs6
    have HB := Lib.hid hB
    have r1 := holda hB HC3.out.1
    have u0 := holda hB HC3.out.2.1
    have u1 := holda hB HC3.out.2.2
    have hpr := lt_of_cell r1
    have hwr := lt_of_cell u0
    by_cases hlt : j < L.length
    rotate_left
    · obtain rfl : j = L.length := by omega
      clear hown hB r0 r1 u0 u1
      go_wp2
      go_ret
      have hlen := shownAll_len (L.map (·.2)) q L.length (by simp)
      refine ⟨_, rfl, ?_, below_tail HBW.out HB.out⟩
      rw [List.length_cons, hlen]
      exact owns_weaken HOWN.out HBW.out.size
    · obtain ⟨b, E, hx⟩ : ∃ b E, L[j]? = some (b, E) := ⟨(L[j]).1, (L[j]).2, List.getElem?_eq_getElem hlt⟩
      have hO := HO3.out.below hB
      obtain ⟨kE, okE, -, -⟩ := hO.ents (b, E) (List.mem_of_getElem? hx)
      obtain ⟨g', o', hA', g1, -⟩ := hO.own.at_ (i := j) (u := .pointer (some ⟨b, 0, none⟩)) (by rw [List.getElem?_map, hx]; rfl)
      simp only [Option.some.injEq, Addr.mk.injEq, and_true] at hA'
      obtain ⟨rfl, rfl⟩ := hA'
      have hgr := lt_of_cell g1
      have HSA := Lib.hid (shownAll_succ (q := q) (show (L.map (·.2))[j]? = some E by rw [List.getElem?_map, hx]; rfl))
      have HSH : Hid (∀ s w', Below wr.heap.size wr w' → Calls Try.prog 23 #[.pointer (some ⟨b, 0, none⟩), .agg #[.int .i64 s.1, .int .i64 s.2]] w' (BkPost w' (shownB E s))) := Lib.hid fun s w' hb => shown_any b E s.1 s.2 w' (kE.below hb) okE
      have HFIN : Hid (∀ w2 w3 ob, Below wr.heap.size wr w2 → (w2.alloc ob).grownBy w3 (Value.slice A6 (j + 1) c6).ownBlock → Below W3.heap.size W3 w3) := Lib.hid (by
        intro w2 w3 ob hb hg
        have hB1 := below_allocs (below_tail HB.out hb) ob
        exact hB1.grown hg hB1.size (fun k hk => (HOWN.out.lt k hk).1))
      have hjN : (j : Int) < (L.length : Int) := by omega
      by_cases hnx : j + 1 < L.length
      · obtain ⟨b2, E2, hx2⟩ : ∃ b2 E2, L[j + 1]? = some (b2, E2) := ⟨(L[j + 1]).1, (L[j + 1]).2, List.getElem?_eq_getElem hnx⟩
        obtain ⟨k2, ok2, -, -⟩ := hO.ents (b2, E2) (List.mem_of_getElem? hx2)
        obtain ⟨g', o', hA', g2, -⟩ := hO.own.at_ (i := j + 1) (u := .pointer (some ⟨b2, 0, none⟩)) (by rw [List.getElem?_map, hx2]; rfl)
        simp only [Option.some.injEq, Addr.mk.injEq, and_true] at hA'
        obtain ⟨rfl, rfl⟩ := hA'
        have x0 : wr.cell? ⟨b2, 6, none⟩ = some (.int .i64 E2.first.1) := (k2.place (at_get (i := 0) (by rw [ok2.four]; decide))).1.1
        have x1 : wr.cell? ⟨b2, 7, none⟩ = some (.int .i64 E2.first.2) := (k2.place (at_get (i := 0) (by rw [ok2.four]; decide))).2.1
        have hx3 := lt_of_cell x0
        obtain ⟨B, hBe⟩ : ∃ B, B = shownB E E2.first := ⟨_, rfl⟩
        have HSB : Hid (∀ w', Below wr.heap.size wr w' → Calls Try.prog 23 #[.pointer (some ⟨b, 0, none⟩), .agg #[.int .i64 E2.first.1, .int .i64 E2.first.2]] w' fun e w'' => e = .returned (.agg #[.int .u64 B.id, .int .i64 B.ph, .int .i64 B.sr, .int .i64 B.sc, .int .i64 B.ir, .int .i64 B.ic, .int .i64 B.pr, .int .i64 B.pc, .int .i64 B.dr, .int .i64 B.dc, .int .i64 B.tr, .int .i64 B.tc, .int .i64 B.code, .bool B.has, .bool B.cut, .string B.dir, .string B.line]) ∧ Below w'.heap.size w' w'') := Lib.hid (fun w' hb => by subst hBe; exact HSH.out E2.first w' hb)
        have HBE := Lib.hid hBe
        clear hBe
        have HST := Lib.hid (show stopOf (L.map (·.2)) q j = E2.first from by unfold stopOf; rw [List.getElem?_map, hx2]; rfl)
        have hnx' : (j : Int) + 1 < (L.length : Int) := by omega
        clear hO kE okE hx hx2 k2 ok2 hown hB r0
        go_wp2_with (first
          | (go_at_call 23; (with_reducible refine (HSB.out _ (below_allocs (Below.refl _ _) _)).mono ?_); rintro e w2 ⟨rfl, hb2⟩; have hb3 := below_tail (below_allocs (Below.refl wr.heap.size wr) _) hb2; have HO2 := Lib.hid (owns_bl HOWN.out hb3); have HSZ := Lib.hid (show W3.heap.size ≤ w2.heap.size from Nat.le_trans HB.out.size hb3.size); have HB3 := Lib.hid hb3; clear hb2 hb3)
          | (at_builtin; refine wpList_append_own _ rfl (.tmp 71) (.tmp 75) _ rfl W3.heap.size 43 j0 (.agg (bkCells zeroBk).toArray) 17 144 Try.underlying39 hj gz0 gz1 gz2 rfl (by decide) _ _ _ rfl (HO2.out.alloc _) ⟨w2.heap.size, 0, none⟩ 1 1 (bkCells B) rfl rfl (cells_new _ (bkCells B) _) (bkCells_one _) (by simp only [maxLen]; omega) (by omega) (by have := HSZ.out; simp; omega) ?_; intro v1 w3 hown3 hg3 _; have HO3 := Lib.hid hown3; have HG3 := Lib.hid hg3; clear hown3 hg3))
        go_roundw
        case rel => exact ⟨j + 1, by omega, by go_num, by rw [HSA.out, ← List.cons_append, ← flat_snoc, HST.out, ← HBE.out]; exact HO3.out, HFIN.out _ _ _ HB3.out HG3.out⟩
        case measure => simp [intOf]; omega
      · obtain ⟨B, hBe⟩ : ∃ B, B = shownB E q := ⟨_, rfl⟩
        have HSB : Hid (∀ w', Below wr.heap.size wr w' → Calls Try.prog 23 #[.pointer (some ⟨b, 0, none⟩), .agg #[.int .i64 q.1, .int .i64 q.2]] w' fun e w'' => e = .returned (.agg #[.int .u64 B.id, .int .i64 B.ph, .int .i64 B.sr, .int .i64 B.sc, .int .i64 B.ir, .int .i64 B.ic, .int .i64 B.pr, .int .i64 B.pc, .int .i64 B.dr, .int .i64 B.dc, .int .i64 B.tr, .int .i64 B.tc, .int .i64 B.code, .bool B.has, .bool B.cut, .string B.dir, .string B.line]) ∧ Below w'.heap.size w' w'') := Lib.hid (fun w' hb => by subst hBe; exact HSH.out q w' hb)
        have HBE := Lib.hid hBe
        clear hBe
        have HST := Lib.hid (show stopOf (L.map (·.2)) q j = q from by unfold stopOf; rw [List.getElem?_eq_none (by simp; omega)])
        have hnx' : ¬ (j : Int) + 1 < (L.length : Int) := by omega
        clear hO kE okE hx hown hB r0
        go_wp2_with (first
          | (go_at_call 23; (with_reducible refine (HSB.out _ (below_allocs (Below.refl _ _) _)).mono ?_); rintro e w2 ⟨rfl, hb2⟩; have hb3 := below_tail (below_allocs (Below.refl wr.heap.size wr) _) hb2; have HO2 := Lib.hid (owns_bl HOWN.out hb3); have HSZ := Lib.hid (show W3.heap.size ≤ w2.heap.size from Nat.le_trans HB.out.size hb3.size); have HB3 := Lib.hid hb3; clear hb2 hb3)
          | (at_builtin; refine wpList_append_own _ rfl (.tmp 71) (.tmp 75) _ rfl W3.heap.size 43 j0 (.agg (bkCells zeroBk).toArray) 17 144 Try.underlying39 hj gz0 gz1 gz2 rfl (by decide) _ _ _ rfl (HO2.out.alloc _) ⟨w2.heap.size, 0, none⟩ 1 1 (bkCells B) rfl rfl (cells_new _ (bkCells B) _) (bkCells_one _) (by simp only [maxLen]; omega) (by omega) (by have := HSZ.out; simp; omega) ?_; intro v1 w3 hown3 hg3 _; have HO3 := Lib.hid hown3; have HG3 := Lib.hid hg3; clear hown3 hg3))
        go_roundw
        case rel => exact ⟨j + 1, by omega, by go_num, by rw [HSA.out, ← List.cons_append, ← flat_snoc, HST.out, ← HBE.out]; exact HO3.out, HFIN.out _ _ _ HB3.out HG3.out⟩
        case measure => simp [intOf]; omega
end Go.Proofs.Ytgfaincejebogaa
