/- The program's store of points: Add. Conditions: as stated. -/
import Derived.Test.YtfadcmjdlfobhaaPtA
namespace Go.Proofs.Ytfadcmjdlfobhaa
open Go.RowKit Go.Sort

/-- The points behind one that is set. -/
def addL (most : Int) (L : List P2) (at_ : P2) : List P2 := if rightP at_ then (if (L.length : Int) = most then L.drop 1 else L) ++ [at_] else L
theorem addL_len {most : Int} {L : List P2} {p : P2} (hm : 1 ≤ most) (h : (L.length : Int) ≤ most) : ((addL most L p).length : Int) ≤ most := by
  unfold addL
  split
  · rw [List.length_append, List.length_singleton]
    split
    · rw [List.length_drop]; omega
    · omega
  · exact h
def PtPost (w : World) (p : Nat) (F : List Nat) (most : Int) (L : List P2) (e : Ending) (w' : World) : Prop :=
  e = .returned (.tuple #[]) ∧ ∃ F', PtSt w' p F' most L ∧ Mod F w w' ∧ ∀ g ∈ F', g ∈ F ∨ w.heap.size ≤ g
theorem pt_stays {w w' : World} {p : Nat} {F : List Nat} {most : Int} {L : List P2} (h : PtSt w p F most L) (hb : Below w.heap.size w w') : PtPost w p F most L (.returned (.tuple #[])) w' :=
  ⟨rfl, F, h.below hb, Mod.of_below hb, fun _ hg => .inl hg⟩
set_option maxRecDepth 100000 in
set_option maxHeartbeats 3200000 in
theorem PtAdd_any (p : Nat) (F : List Nat) (most : Int) (L : List P2) (r c : Int) (w : World) (h : PtSt w p F most L) (hm : 1 ≤ most) (hm2 : most ≤ 10000) (hz : (L.length : Int) ≤ most) :
    Calls Try.prog 23 #[.pointer (some ⟨p, 0, none⟩), .agg #[.int .i64 r, .int .i64 c]] w (PtPost w p F most (addL most L (r, c))) := by
  obtain ⟨j0, hj, gz0, gz1, gz2⟩ := info_parts info_pos
  have HR := Lib.hid (fun w => ptright_any r c w)
  by_cases hr : (inB r && inB c) = true
  rotate_left
  · have hr' : (inB r && inB c) = false := by simpa using hr
    have e : addL most L (r, c) = L := by unfold addL rightP; rw [if_neg hr]
    rw [e]
    rw [hr'] at HR
    have H := Lib.hid h
    clear h hr hr' e
    go_enter Try.func23, Try.ntmps23
    go_wp2_with (go_at_call 48; refine (HR.out _).mono ?_; rintro e w1 ⟨rfl, hb1⟩)
    go_end0
    exact pt_stays H.out (below_tail (below_allocs (Below.refl _ _) _) hb1)
  rw [hr] at HR
  have HH := Lib.hid h
  obtain ⟨v, hF, h0, h1, ho⟩ := h
  have HF := Lib.hid hF
  have HFL := Lib.hid (fun g hg => HH.out.lt g hg)
  have hp := lt_of_cell h0.1
  have HO := Lib.hid ho
  obtain ⟨A, n, hv⟩ := row_form ho
  subst hv
  clear hF ho
  by_cases hfull : (L.length : Int) = most
  · have e : addL most L (r, c) = L.drop 1 ++ [(r, c)] := by unfold addL rightP; rw [if_pos hr, if_pos hfull]
    rw [e]
    have hne : ((L.length : Int) == most) = true := by simpa using hfull
    have hL0 : 0 < L.length := by omega
    obtain ⟨A0, n0, hv0, hn0, -, hn9, hg0⟩ := gr_of_owns encP_len HO.out rfl
    obtain ⟨b, off, hA0, hcs⟩ := hg0 hL0
    simp only [Value.slice.injEq] at hv0
    obtain ⟨rfl, -, rfl⟩ := hv0
    subst hA0
    obtain ⟨g0, cap0, hf0⟩ := Go.Joins.ownsRow_form HO.out hL0
    simp only [Value.slice.injEq, Option.some.injEq, Addr.mk.injEq] at hf0
    obtain ⟨⟨-, rfl, -⟩, -, -⟩ := hf0
    have hlen1 : (L.drop 1).length = L.length - 1 := List.length_drop
    have HG1 : Hid (GrAt encP 2 w (some ⟨b, 2, none⟩) (L.drop 1)) := Lib.hid (fun _ => ⟨b, 2, rfl, fun i x hi j v hv => by
      have := hcs (i + 1) x (by rw [List.getElem?_drop, Nat.add_comm] at hi; exact hi) j v hv
      rw [show 0 + (i + 1) * 2 + j = 2 + i * 2 + j by omega] at this
      exact this⟩)
    clear hcs hg0 hfull hr e
    generalize hL1 : L.drop 1 = L1 at hlen1 HG1
    clear hL1
    go_enter Try.func23, Try.ntmps23
    go_wp2_with (go_at_call 48; refine (HR.out _).mono ?_; rintro e w1 ⟨rfl, hb1⟩; have hB := below_tail (show Below w.heap.size w _ from by repeat (first | exact Below.refl _ _ | refine below_allocs ?_ _ | refine below_drewNs ?_ _ | refine Below.drew ?_)) hb1; have q0 := at_new (b := w.heap.size) hb1 (by repeat (first | (refine hp_new ?_; simp; done) | refine hp_old ?_ | refine hp_drewN ?_ | refine hp_drew ?_)) 0 (.int .i64 r) rfl; have q1 := at_new (b := w.heap.size) hb1 (by repeat (first | (refine hp_new ?_; simp; done) | refine hp_old ?_ | refine hp_drewN ?_ | refine hp_drew ?_)) 1 (.int .i64 c) rfl; replace h0 := hold hB h0; replace h1 := holda hB h1)
    have HG2 := Lib.hid (HG1.out.below hB)
    have HMD := Lib.hid (Mod.of_below (X := F) hB)
    go_quiet (fail)
    go_upto_region 3 with (fail)
    generalize hW : World.drewN _ _ = W
    have q0' := q0.1
    have q1' := q1.1
    have HG3 : Hid (GrAt encP 2 W (some ⟨b, 2, none⟩) L1) := Lib.hid (by rw [← hW]; exact HG2.out.below (below_drewNs (Below.refl w1.heap.size w1) nq))
    have HM3 : Hid (Mod F w W) := Lib.hid (by rw [← hW]; exact HMD.out.then_below (below_drewNs (Below.refl w1.heap.size w1) nq))
    have HB3 : Hid (Below w.heap.size w W) := Lib.hid (by rw [← hW]; exact below_drewNs hB nq)
    have k0 : W.cell? ⟨p, 0, none⟩ = some (.slice (some ⟨b, 0, none⟩) L.length n) := by rw [← hW]; exact h0.1
    have kf : W.frozen? ⟨p, 0, none⟩ = false := by rw [← hW]; exact h0.2
    have k1 : W.cell? ⟨p, 1, none⟩ = some (.int .i64 most) := by rw [← hW]; exact h1
    have m0 : W.cell? ⟨w.heap.size, 0, none⟩ = some (.int .i64 r) := by rw [← hW]; exact q0'
    have m1 : W.cell? ⟨w.heap.size, 1, none⟩ = some (.int .i64 c) := by rw [← hW]; exact q1'
    have hbF : b ≠ p ∧ b < w.heap.size := by
      have := HO.out.lt b rfl
      exact ⟨by omega, this.2⟩
    obtain ⟨hbp, hbw⟩ := hbF
    have hpW := lt_of_cell k0
    clear hW h0 h1 q0 q1 q0' q1' hb1 hB HH HG2 HMD HG1
    have hcap : (n : Int) ≤ 9223372036854775807 := by omega
    rcases Nat.eq_zero_or_pos L1.length with hz1 | hz1
    · obtain rfl : L1 = [] := List.length_eq_zero_iff.1 hz1
      have hL1 : L.length = 1 := by omega
      obtain ⟨x, rfl⟩ : ∃ x, L = [x] := List.length_eq_one_iff.1 hL1
      clear hz1 hlen1 hL1
      simp only [List.length_singleton] at k0
      by_cases hn1 : n = 1
      · subst hn1
        go_upto_region 4 with (at_builtin; refine wpList_append_nothing rfl (.const (.slice none 0 0)) (.tmp 26) _ rfl Try.underlying40 hj _ _ rfl rfl ?_)
        generalize hX : World.setCell _ _ _ = X
        have k0 : X.cell? ⟨p, 0, none⟩ = some (.slice none 0 0) ∧ X.frozen? ⟨p, 0, none⟩ = false := by rw [← hX]; exact set_self ⟨k0, kf⟩
        have k1 : X.cell? ⟨p, 1, none⟩ = some (.int .i64 most) := by rw [← hX]; exact (World.cell?_setCell_other _ _ _ _ (fun e => by injection e with e1 e2; omega)).trans k1
        have m0 : X.cell? ⟨w.heap.size, 0, none⟩ = some (.int .i64 r) := by rw [← hX]; exact (World.cell?_setCell_other _ _ _ _ (fun e => by injection e with e1 e2; omega)).trans m0
        have m1 : X.cell? ⟨w.heap.size, 1, none⟩ = some (.int .i64 c) := by rw [← hX]; exact (World.cell?_setCell_other _ _ _ _ (fun e => by injection e with e1 e2; omega)).trans m1
        have HNE : Hid (∀ g, (Value.slice none 0 0).ownBlock = some g → g ≠ w.heap.size ∧ g ≠ p ∧ (g ∈ F ∨ w.heap.size ≤ g)) := Lib.hid (fun g hg => by cases hg)
        have HS0 : Hid (X.ownsRow (p + 1) 30 2 (.slice none 0 0) 0 (flat encP ([] : List P2)) ∧ Mod F w X) := Lib.hid (by
          rw [← hX]
          exact ⟨World.ownsRow_nil _ _ _ _, HM3.out.setCell (.inl (by rw [HF.out]; simp)) _⟩)
        clear hX HM3 HB3 HG3 kf
        refine Go.RL.wp_region_l 8 (fun w' => (w'.cell? ⟨p, 0, none⟩ = some (.slice none 0 0) ∧ w'.frozen? ⟨p, 0, none⟩ = false) ∧ w'.cell? ⟨p, 1, none⟩ = some (.int .i64 most) ∧ w'.cell? ⟨w.heap.size, 0, none⟩ = some (.int .i64 r) ∧ w'.cell? ⟨w.heap.size, 1, none⟩ = some (.int .i64 c)) (fun w' => w'.ownsRow (p + 1) 30 2 (.slice none 0 0) 0 (flat encP ([] : List P2)) ∧ Mod F w w') (by kernel_rfl) (by kernel_rfl) ⟨k0, k1, m0, m1⟩ ?_ ?_
        · have hb := (Below.refl X.heap.size X).drew
          exact ⟨owns_bl HS0.out.1 hb, HS0.out.2.then_below hb⟩
        refine Go.RL.AtL.take 0 (o := ⟨_, _, _, _, _, _⟩) (v := ?_) (by kernel_rfl) rfl (by simp) (by kernel_rfl) (by kernel_rfl) ?_ ?_; rotate_left
        · (refine Go.RL.Pure.val (by rfl) ?_; intro w' hI; obtain ⟨⟨i1, i2⟩, i3, i4, i5⟩ := hI; go_simp; first | done | with_reducible rfl)
        simp only [Act.put, List.setIfInBounds_toArray, List.set_cons_zero, List.set_cons_succ]
        refine Go.RL.AtL.take 1 (o := ⟨_, _, _, _, _, _⟩) (v := ?_) (by kernel_rfl) rfl (by simp) (by kernel_rfl) (by kernel_rfl) ?_ ?_; rotate_left
        · (refine Go.RL.Pure.val (by rfl) ?_; intro w' hI; obtain ⟨⟨i1, i2⟩, i3, i4, i5⟩ := hI; go_simp; first | done | with_reducible rfl)
        simp only [Act.put, List.setIfInBounds_toArray, List.set_cons_zero, List.set_cons_succ]
        refine Go.RL.AtL.take 2 (o := ⟨_, _, _, _, _, _⟩) (v := ?_) (by kernel_rfl) rfl (by simp) (by kernel_rfl) (by kernel_rfl) ?_ ?_; rotate_left
        · (refine Go.RL.Pure.val (by rfl) ?_; intro w' hI; obtain ⟨⟨i1, i2⟩, i3, i4, i5⟩ := hI; go_simp; first | done | with_reducible rfl)
        simp only [Act.put, List.setIfInBounds_toArray, List.set_cons_zero, List.set_cons_succ]
        refine Go.RL.AtL.take 3 (o := ⟨_, _, _, _, _, _⟩) (v := ?_) (by kernel_rfl) rfl (by simp) (by kernel_rfl) (by kernel_rfl) ?_ ?_; rotate_left
        · (refine Go.RL.Pure.val (by rfl) ?_; intro w' hI; obtain ⟨⟨i1, i2⟩, i3, i4, i5⟩ := hI; go_simp; first | done | with_reducible rfl)
        simp only [Act.put, List.setIfInBounds_toArray, List.set_cons_zero, List.set_cons_succ]
        refine Go.RL.AtL.take 4 (o := ⟨_, _, _, _, _, _⟩) (v := ?_) (by kernel_rfl) rfl (by simp) (by kernel_rfl) (by kernel_rfl) ?_ ?_; rotate_left
        · (refine Go.RL.Pure.val (by rfl) ?_; intro w' hI; obtain ⟨⟨i1, i2⟩, i3, i4, i5⟩ := hI; go_simp; first | done | with_reducible rfl)
        simp only [Act.put, List.setIfInBounds_toArray, List.set_cons_zero, List.set_cons_succ]
        refine Go.RL.AtL.take 5 (o := ⟨_, _, _, _, _, _⟩) (v := ?_) (by kernel_rfl) rfl (by simp) (by kernel_rfl) (by kernel_rfl) ?_ ?_; rotate_left
        · (refine Go.RL.Pure.val (by rfl) ?_; intro w' hI; obtain ⟨⟨i1, i2⟩, i3, i4, i5⟩ := hI; go_simp; first | done | with_reducible rfl)
        simp only [Act.put, List.setIfInBounds_toArray, List.set_cons_zero, List.set_cons_succ]
        refine Go.RL.AtL.one 6 (o := ⟨_, _, _, _, _, _⟩) (fun v => ∃ g, v = .slice (some ⟨g, 0, none⟩) 1 1) (fun v w' => (w'.ownsRow (p + 1) 30 2 (.slice none 0 0) 0 (flat encP ([] : List P2)) ∧ Mod F w w') ∧ ∃ g, v = .slice (some ⟨g, 0, none⟩) 1 1 ∧ w'.heap[g]? = some (.cells #[.int .i64 r, .int .i64 c] 30 (0, 0))) (by simp) (by kernel_rfl) rfl (Go.RL.StabL.op _ _ (by rfl) (fun w' hI hS => ⟨.slice (some ⟨w'.heap.size, 0, none⟩) 1 1, w'.alloc (.cells #[.int .i64 r, .int .i64 c] 30), by go_simp, ⟨_, rfl⟩, ?_, ?_⟩)) ?_
        · exact ⟨hold_alloc hI.1, holda (below_allocs (Below.refl _ _) _) hI.2.1, holda (below_allocs (Below.refl _ _) _) hI.2.2.1, holda (below_allocs (Below.refl _ _) _) hI.2.2.2⟩
        · exact ⟨⟨owns_bl hS.1 (below_allocs (Below.refl _ _) _), hS.2.then_below (below_allocs (Below.refl _ _) _)⟩, _, rfl, hp_new rfl⟩
        rintro _ ⟨g, rfl⟩
        simp only [Act.put, List.setIfInBounds_toArray, List.set_cons_zero, List.set_cons_succ]
        refine Go.RL.AtL.one 7 (o := ⟨_, _, _, _, _, _⟩) (fun _ => True) (fun v w' => w'.ownsRow (p + 1) 30 2 v (0 + 1) (flat encP (([] : List P2) ++ [(r, c)])) ∧ Mod F w w' ∧ ∀ g, v.ownBlock = some g → g ∈ F ∨ w.heap.size ≤ g) (by simp) (by kernel_rfl) rfl (Go.RL.StabL.op _ _ (by rfl) (fun w' hI hS => ?_)) ?_
        · obtain ⟨⟨hS1, hS2⟩, g', hg', hgb⟩ := hS
          obtain rfl : g = g' := by simpa using hg'
          obtain ⟨v', w2, hr2, ho2, hgr2, -, hob⟩ := run_append_own_at (P := Try.prog) w' (p + 1) 40 40 30 j0 (.agg #[.int .i64 0, .int .i64 0]) 2 16 Try.underlying40 hj gz0 gz1 gz2 rfl (by decide) _ _ _ hS1 ⟨g, 0, none⟩ 1 1 (encP (r, c)) rfl (fun j u hu => by
            rw [add_lit', Nat.zero_add, cell_of_row w' g j _ _ _ hgb]
            match j, hu with
            | 0, hu => exact hu
            | 1, hu => exact hu) (encP_one (r, c)) (by simp only [maxLen]; omega) (by omega) (by have := lt_of_cell hI.1.1; omega)
          rw [flat_snoc] at ho2
          refine ⟨v', w2, exec_append (.tmp 34) (.tmp 36) 40 rfl _ _ v' rfl rfl hr2, trivial, ?_, ho2, ?_, ?_⟩
          · have hk : ∀ b, b = p ∨ b = w.heap.size → some b ≠ (Value.slice none 0 0).ownBlock := fun b hb e => by
              have := HNE.out b e.symm
              omega
            have hc : ∀ {b i : Nat} {u : Value}, (b = p ∨ b = w.heap.size) → w'.cell? ⟨b, i, none⟩ = some u → w2.cell? ⟨b, i, none⟩ = some u := fun hb h => hgr2.cell h (hk _ hb)
            refine ⟨⟨hc (.inl rfl) hI.1.1, ?_⟩, hc (.inl rfl) hI.2.1, hc (.inr rfl) hI.2.2.1, hc (.inr rfl) hI.2.2.2⟩
            exact (World.frozen?_of_block (w := w') (hgr2.block p (lt_of_cell hI.1.1) (hk p (.inl rfl)))).trans hI.1.2
          · exact hS2.trans (Mod.of_grown (X := (Value.slice none 0 0).ownBlock.toList) hgr2 (fun g hg => by simp [hg])) (fun g hg => (HNE.out g (by simpa [Option.mem_toList] using hg)).2.2)
          · intro g2 hg2
            rcases hob with hob | hob
            · rw [hob] at hg2; exact (HNE.out g2 hg2).2.2
            · rw [hob] at hg2
              obtain rfl := Option.some.inj hg2
              exact .inr hS2.size
        rintro v8 -
        simp only [Act.put, List.setIfInBounds_toArray, List.set_cons_zero, List.set_cons_succ]
        refine Go.RL.AtL.done (by kernel_rfl) (fun w8 hI hS => ?_)
        obtain ⟨hO8, hM8, hB8⟩ := hS
        obtain ⟨g8, n8, rfl⟩ := Go.Joins.ownsRow_form hO8 (Nat.succ_pos _)
        have HO8 := Lib.hid hO8
        have HM8 := Lib.hid hM8
        have HB8 := Lib.hid hB8
        obtain ⟨kk0, kk1, -, -⟩ := hI
        have kf0 := kk0.1
        have kf1 := kk0.2
        have HK1 := Lib.hid kk1
        clear hO8 hM8 hB8 kk1 k0 k1 m0 m1 HS0
        simp only [List.drop_succ_cons, List.drop_zero]
        go_wp2
        go_end0
        refine ⟨rfl, p :: [g8], ?_, HM8.out.setCell (.inl (by rw [HF.out]; simp)) _, fun g hg => ?_⟩
        · refine ⟨.slice (some ⟨g8, 0, none⟩) (0 + 1) n8, rfl, set_self ⟨kf0, kf1⟩, ?_, ?_⟩
          · exact (World.cell?_setCell_other w8 _ _ _ (fun e => by injection e with e1 e2; omega)).trans HK1.out
          · have := ownsRow_setCell_below HO8.out (a := ⟨p, 0, none⟩) (Nat.lt_succ_self p) (.slice (some ⟨g8, 0, none⟩) (0 + 1) n8)
            simpa using this
        · rcases List.mem_cons.1 hg with rfl | hg
          · exact .inl (by rw [HF.out]; simp)
          · exact HB8.out g (by simp at hg; simp [Value.ownBlock, hg])
      · have hn2 : 2 ≤ n := by omega
        go_upto_region 4 with (at_builtin; refine wpList_append_nothing rfl (.const (.slice none 0 0)) (.tmp 26) _ rfl Try.underlying40 hj _ _ rfl rfl ?_)
        generalize hX : World.setCell _ _ _ = X
        have k0 : X.cell? ⟨p, 0, none⟩ = some (.slice none 0 0) ∧ X.frozen? ⟨p, 0, none⟩ = false := by rw [← hX]; exact set_self ⟨k0, kf⟩
        have k1 : X.cell? ⟨p, 1, none⟩ = some (.int .i64 most) := by rw [← hX]; exact (World.cell?_setCell_other _ _ _ _ (fun e => by injection e with e1 e2; omega)).trans k1
        have m0 : X.cell? ⟨w.heap.size, 0, none⟩ = some (.int .i64 r) := by rw [← hX]; exact (World.cell?_setCell_other _ _ _ _ (fun e => by injection e with e1 e2; omega)).trans m0
        have m1 : X.cell? ⟨w.heap.size, 1, none⟩ = some (.int .i64 c) := by rw [← hX]; exact (World.cell?_setCell_other _ _ _ _ (fun e => by injection e with e1 e2; omega)).trans m1
        have HNE : Hid (∀ g, (Value.slice none 0 0).ownBlock = some g → g ≠ w.heap.size ∧ g ≠ p ∧ (g ∈ F ∨ w.heap.size ≤ g)) := Lib.hid (fun g hg => by cases hg)
        have HS0 : Hid (X.ownsRow (p + 1) 30 2 (.slice none 0 0) 0 (flat encP ([] : List P2)) ∧ Mod F w X) := Lib.hid (by
          rw [← hX]
          exact ⟨World.ownsRow_nil _ _ _ _, HM3.out.setCell (.inl (by rw [HF.out]; simp)) _⟩)
        clear hX HM3 HB3 HG3 kf
        refine Go.RL.wp_region_l 8 (fun w' => (w'.cell? ⟨p, 0, none⟩ = some (.slice none 0 0) ∧ w'.frozen? ⟨p, 0, none⟩ = false) ∧ w'.cell? ⟨p, 1, none⟩ = some (.int .i64 most) ∧ w'.cell? ⟨w.heap.size, 0, none⟩ = some (.int .i64 r) ∧ w'.cell? ⟨w.heap.size, 1, none⟩ = some (.int .i64 c)) (fun w' => w'.ownsRow (p + 1) 30 2 (.slice none 0 0) 0 (flat encP ([] : List P2)) ∧ Mod F w w') (by kernel_rfl) (by kernel_rfl) ⟨k0, k1, m0, m1⟩ ?_ ?_
        · have hb := (Below.refl X.heap.size X).drew
          exact ⟨owns_bl HS0.out.1 hb, HS0.out.2.then_below hb⟩
        refine Go.RL.AtL.take 0 (o := ⟨_, _, _, _, _, _⟩) (v := ?_) (by kernel_rfl) rfl (by simp) (by kernel_rfl) (by kernel_rfl) ?_ ?_; rotate_left
        · (refine Go.RL.Pure.val (by rfl) ?_; intro w' hI; obtain ⟨⟨i1, i2⟩, i3, i4, i5⟩ := hI; go_simp; first | done | with_reducible rfl)
        simp only [Act.put, List.setIfInBounds_toArray, List.set_cons_zero, List.set_cons_succ]
        refine Go.RL.AtL.take 1 (o := ⟨_, _, _, _, _, _⟩) (v := ?_) (by kernel_rfl) rfl (by simp) (by kernel_rfl) (by kernel_rfl) ?_ ?_; rotate_left
        · (refine Go.RL.Pure.val (by rfl) ?_; intro w' hI; obtain ⟨⟨i1, i2⟩, i3, i4, i5⟩ := hI; go_simp; first | done | with_reducible rfl)
        simp only [Act.put, List.setIfInBounds_toArray, List.set_cons_zero, List.set_cons_succ]
        refine Go.RL.AtL.take 2 (o := ⟨_, _, _, _, _, _⟩) (v := ?_) (by kernel_rfl) rfl (by simp) (by kernel_rfl) (by kernel_rfl) ?_ ?_; rotate_left
        · (refine Go.RL.Pure.val (by rfl) ?_; intro w' hI; obtain ⟨⟨i1, i2⟩, i3, i4, i5⟩ := hI; go_simp; first | done | with_reducible rfl)
        simp only [Act.put, List.setIfInBounds_toArray, List.set_cons_zero, List.set_cons_succ]
        refine Go.RL.AtL.take 3 (o := ⟨_, _, _, _, _, _⟩) (v := ?_) (by kernel_rfl) rfl (by simp) (by kernel_rfl) (by kernel_rfl) ?_ ?_; rotate_left
        · (refine Go.RL.Pure.val (by rfl) ?_; intro w' hI; obtain ⟨⟨i1, i2⟩, i3, i4, i5⟩ := hI; go_simp; first | done | with_reducible rfl)
        simp only [Act.put, List.setIfInBounds_toArray, List.set_cons_zero, List.set_cons_succ]
        refine Go.RL.AtL.take 4 (o := ⟨_, _, _, _, _, _⟩) (v := ?_) (by kernel_rfl) rfl (by simp) (by kernel_rfl) (by kernel_rfl) ?_ ?_; rotate_left
        · (refine Go.RL.Pure.val (by rfl) ?_; intro w' hI; obtain ⟨⟨i1, i2⟩, i3, i4, i5⟩ := hI; go_simp; first | done | with_reducible rfl)
        simp only [Act.put, List.setIfInBounds_toArray, List.set_cons_zero, List.set_cons_succ]
        refine Go.RL.AtL.take 5 (o := ⟨_, _, _, _, _, _⟩) (v := ?_) (by kernel_rfl) rfl (by simp) (by kernel_rfl) (by kernel_rfl) ?_ ?_; rotate_left
        · (refine Go.RL.Pure.val (by rfl) ?_; intro w' hI; obtain ⟨⟨i1, i2⟩, i3, i4, i5⟩ := hI; go_simp; first | done | with_reducible rfl)
        simp only [Act.put, List.setIfInBounds_toArray, List.set_cons_zero, List.set_cons_succ]
        refine Go.RL.AtL.one 6 (o := ⟨_, _, _, _, _, _⟩) (fun v => ∃ g, v = .slice (some ⟨g, 0, none⟩) 1 1) (fun v w' => (w'.ownsRow (p + 1) 30 2 (.slice none 0 0) 0 (flat encP ([] : List P2)) ∧ Mod F w w') ∧ ∃ g, v = .slice (some ⟨g, 0, none⟩) 1 1 ∧ w'.heap[g]? = some (.cells #[.int .i64 r, .int .i64 c] 30 (0, 0))) (by simp) (by kernel_rfl) rfl (Go.RL.StabL.op _ _ (by rfl) (fun w' hI hS => ⟨.slice (some ⟨w'.heap.size, 0, none⟩) 1 1, w'.alloc (.cells #[.int .i64 r, .int .i64 c] 30), by go_simp, ⟨_, rfl⟩, ?_, ?_⟩)) ?_
        · exact ⟨hold_alloc hI.1, holda (below_allocs (Below.refl _ _) _) hI.2.1, holda (below_allocs (Below.refl _ _) _) hI.2.2.1, holda (below_allocs (Below.refl _ _) _) hI.2.2.2⟩
        · exact ⟨⟨owns_bl hS.1 (below_allocs (Below.refl _ _) _), hS.2.then_below (below_allocs (Below.refl _ _) _)⟩, _, rfl, hp_new rfl⟩
        rintro _ ⟨g, rfl⟩
        simp only [Act.put, List.setIfInBounds_toArray, List.set_cons_zero, List.set_cons_succ]
        refine Go.RL.AtL.one 7 (o := ⟨_, _, _, _, _, _⟩) (fun _ => True) (fun v w' => w'.ownsRow (p + 1) 30 2 v (0 + 1) (flat encP (([] : List P2) ++ [(r, c)])) ∧ Mod F w w' ∧ ∀ g, v.ownBlock = some g → g ∈ F ∨ w.heap.size ≤ g) (by simp) (by kernel_rfl) rfl (Go.RL.StabL.op _ _ (by rfl) (fun w' hI hS => ?_)) ?_
        · obtain ⟨⟨hS1, hS2⟩, g', hg', hgb⟩ := hS
          obtain rfl : g = g' := by simpa using hg'
          obtain ⟨v', w2, hr2, ho2, hgr2, -, hob⟩ := run_append_own_at (P := Try.prog) w' (p + 1) 40 40 30 j0 (.agg #[.int .i64 0, .int .i64 0]) 2 16 Try.underlying40 hj gz0 gz1 gz2 rfl (by decide) _ _ _ hS1 ⟨g, 0, none⟩ 1 1 (encP (r, c)) rfl (fun j u hu => by
            rw [add_lit', Nat.zero_add, cell_of_row w' g j _ _ _ hgb]
            match j, hu with
            | 0, hu => exact hu
            | 1, hu => exact hu) (encP_one (r, c)) (by simp only [maxLen]; omega) (by omega) (by have := lt_of_cell hI.1.1; omega)
          rw [flat_snoc] at ho2
          refine ⟨v', w2, exec_append (.tmp 34) (.tmp 36) 40 rfl _ _ v' rfl rfl hr2, trivial, ?_, ho2, ?_, ?_⟩
          · have hk : ∀ b, b = p ∨ b = w.heap.size → some b ≠ (Value.slice none 0 0).ownBlock := fun b hb e => by
              have := HNE.out b e.symm
              omega
            have hc : ∀ {b i : Nat} {u : Value}, (b = p ∨ b = w.heap.size) → w'.cell? ⟨b, i, none⟩ = some u → w2.cell? ⟨b, i, none⟩ = some u := fun hb h => hgr2.cell h (hk _ hb)
            refine ⟨⟨hc (.inl rfl) hI.1.1, ?_⟩, hc (.inl rfl) hI.2.1, hc (.inr rfl) hI.2.2.1, hc (.inr rfl) hI.2.2.2⟩
            exact (World.frozen?_of_block (w := w') (hgr2.block p (lt_of_cell hI.1.1) (hk p (.inl rfl)))).trans hI.1.2
          · exact hS2.trans (Mod.of_grown (X := (Value.slice none 0 0).ownBlock.toList) hgr2 (fun g hg => by simp [hg])) (fun g hg => (HNE.out g (by simpa [Option.mem_toList] using hg)).2.2)
          · intro g2 hg2
            rcases hob with hob | hob
            · rw [hob] at hg2; exact (HNE.out g2 hg2).2.2
            · rw [hob] at hg2
              obtain rfl := Option.some.inj hg2
              exact .inr hS2.size
        rintro v8 -
        simp only [Act.put, List.setIfInBounds_toArray, List.set_cons_zero, List.set_cons_succ]
        refine Go.RL.AtL.done (by kernel_rfl) (fun w8 hI hS => ?_)
        obtain ⟨hO8, hM8, hB8⟩ := hS
        obtain ⟨g8, n8, rfl⟩ := Go.Joins.ownsRow_form hO8 (Nat.succ_pos _)
        have HO8 := Lib.hid hO8
        have HM8 := Lib.hid hM8
        have HB8 := Lib.hid hB8
        obtain ⟨kk0, kk1, -, -⟩ := hI
        have kf0 := kk0.1
        have kf1 := kk0.2
        have HK1 := Lib.hid kk1
        clear hO8 hM8 hB8 kk1 k0 k1 m0 m1 HS0
        simp only [List.drop_succ_cons, List.drop_zero]
        go_wp2
        go_end0
        refine ⟨rfl, p :: [g8], ?_, HM8.out.setCell (.inl (by rw [HF.out]; simp)) _, fun g hg => ?_⟩
        · refine ⟨.slice (some ⟨g8, 0, none⟩) (0 + 1) n8, rfl, set_self ⟨kf0, kf1⟩, ?_, ?_⟩
          · exact (World.cell?_setCell_other w8 _ _ _ (fun e => by injection e with e1 e2; omega)).trans HK1.out
          · have := ownsRow_setCell_below HO8.out (a := ⟨p, 0, none⟩) (Nat.lt_succ_self p) (.slice (some ⟨g8, 0, none⟩) (0 + 1) n8)
            simpa using this
        · rcases List.mem_cons.1 hg with rfl | hg
          · exact .inl (by rw [HF.out]; simp)
          · exact HB8.out g (by simp at hg; simp [Value.ownBlock, hg])
    · have hn2 : 2 ≤ n := by omega
      have HN3 := Lib.hid (HG3.out.news encP_len)
      have HLL := Lib.hid hlen1
      clear hlen1
      go_upto_region 4 with (at_builtin; refine wpList_append_own _ rfl (.const (.slice none 0 0)) (.tmp 26) _ rfl (w.heap.size + 1) 30 j0 (.agg #[.int .i64 0, .int .i64 0]) 2 16 Try.underlying40 hj gz0 gz1 gz2 rfl (by decide) _ 0 [] rfl (World.ownsRow_nil _ _ _ _) ⟨b, 2, none⟩ (L.length - 1) (n - 1) (flat encP L1) rfl (by rw [flat_len encP_len, HLL.out]) HN3.out (flat_one encP_one L1) (by simp only [maxLen]; omega) (by omega) (by have := HB3.out.size; have := lt_of_cell m0; omega) ?_; intro v1 w4 hown1 hg1 _; rw [Nat.zero_add, List.nil_append, ← HLL.out] at hown1; obtain ⟨g1, n1, rfl⟩ := Go.Joins.ownsRow_form hown1 hz1; have HO1 := Lib.hid hown1; have HG1 := Lib.hid hg1; clear hown1 hg1; have kf := keep_none_f HG1.out k0 kf; have k0 := keep_none HG1.out k0; have k1 := keep_none HG1.out k1; have m0 := keep_none HG1.out m0; have m1 := keep_none HG1.out m1)
      generalize hX : World.setCell _ _ _ = X
      have k0 : X.cell? ⟨p, 0, none⟩ = some (.slice (some ⟨g1, 0, none⟩) L1.length n1) ∧ X.frozen? ⟨p, 0, none⟩ = false := by rw [← hX]; exact set_self ⟨k0, kf⟩
      have k1 : X.cell? ⟨p, 1, none⟩ = some (.int .i64 most) := by rw [← hX]; exact (World.cell?_setCell_other _ _ _ _ (fun e => by injection e with e1 e2; omega)).trans k1
      have m0 : X.cell? ⟨w.heap.size, 0, none⟩ = some (.int .i64 r) := by rw [← hX]; exact (World.cell?_setCell_other _ _ _ _ (fun e => by injection e with e1 e2; omega)).trans m0
      have m1 : X.cell? ⟨w.heap.size, 1, none⟩ = some (.int .i64 c) := by rw [← hX]; exact (World.cell?_setCell_other _ _ _ _ (fun e => by injection e with e1 e2; omega)).trans m1
      have HNE : Hid (∀ g, (Value.slice (some ⟨g1, 0, none⟩) L1.length n1).ownBlock = some g → g ≠ w.heap.size ∧ g ≠ p ∧ (g ∈ F ∨ w.heap.size ≤ g)) := Lib.hid (fun g hg => by
              have := HO1.out.lt g hg
              exact ⟨by omega, by omega, .inr (by omega)⟩)
      have HS0 : Hid (X.ownsRow (p + 1) 30 2 (.slice (some ⟨g1, 0, none⟩) L1.length n1) L1.length (flat encP L1) ∧ Mod F w X) := Lib.hid (by
        rw [← hX]
        refine ⟨ownsRow_setCell_below (owns_weaken HO1.out (by omega)) (Nat.lt_succ_self p) _, ?_⟩
        exact (HM3.out.trans (Mod.of_grown (X := []) HG1.out (fun g hg => by cases hg)) (fun g hg => by cases hg)).setCell (.inl (by rw [HF.out]; simp)) _)
      have hz3 : (L1.length : Int) < most := by have := HLL.out; omega
      have HRB := Lib.hid (HO1.out.lt g1 rfl)
      clear hX HM3 HB3 HG3 kf
      refine Go.RL.wp_region_l 8 (fun w' => (w'.cell? ⟨p, 0, none⟩ = some (.slice (some ⟨g1, 0, none⟩) L1.length n1) ∧ w'.frozen? ⟨p, 0, none⟩ = false) ∧ w'.cell? ⟨p, 1, none⟩ = some (.int .i64 most) ∧ w'.cell? ⟨w.heap.size, 0, none⟩ = some (.int .i64 r) ∧ w'.cell? ⟨w.heap.size, 1, none⟩ = some (.int .i64 c)) (fun w' => w'.ownsRow (p + 1) 30 2 (.slice (some ⟨g1, 0, none⟩) L1.length n1) L1.length (flat encP L1) ∧ Mod F w w') (by kernel_rfl) (by kernel_rfl) ⟨k0, k1, m0, m1⟩ ?_ ?_
      · have hb := (Below.refl X.heap.size X).drew
        exact ⟨owns_bl HS0.out.1 hb, HS0.out.2.then_below hb⟩
      refine Go.RL.AtL.take 0 (o := ⟨_, _, _, _, _, _⟩) (v := ?_) (by kernel_rfl) rfl (by simp) (by kernel_rfl) (by kernel_rfl) ?_ ?_; rotate_left
      · (refine Go.RL.Pure.val (by rfl) ?_; intro w' hI; obtain ⟨⟨i1, i2⟩, i3, i4, i5⟩ := hI; go_simp; first | done | with_reducible rfl)
      simp only [Act.put, List.setIfInBounds_toArray, List.set_cons_zero, List.set_cons_succ]
      refine Go.RL.AtL.take 1 (o := ⟨_, _, _, _, _, _⟩) (v := ?_) (by kernel_rfl) rfl (by simp) (by kernel_rfl) (by kernel_rfl) ?_ ?_; rotate_left
      · (refine Go.RL.Pure.val (by rfl) ?_; intro w' hI; obtain ⟨⟨i1, i2⟩, i3, i4, i5⟩ := hI; go_simp; first | done | with_reducible rfl)
      simp only [Act.put, List.setIfInBounds_toArray, List.set_cons_zero, List.set_cons_succ]
      refine Go.RL.AtL.take 2 (o := ⟨_, _, _, _, _, _⟩) (v := ?_) (by kernel_rfl) rfl (by simp) (by kernel_rfl) (by kernel_rfl) ?_ ?_; rotate_left
      · (refine Go.RL.Pure.val (by rfl) ?_; intro w' hI; obtain ⟨⟨i1, i2⟩, i3, i4, i5⟩ := hI; go_simp; first | done | with_reducible rfl)
      simp only [Act.put, List.setIfInBounds_toArray, List.set_cons_zero, List.set_cons_succ]
      refine Go.RL.AtL.take 3 (o := ⟨_, _, _, _, _, _⟩) (v := ?_) (by kernel_rfl) rfl (by simp) (by kernel_rfl) (by kernel_rfl) ?_ ?_; rotate_left
      · (refine Go.RL.Pure.val (by rfl) ?_; intro w' hI; obtain ⟨⟨i1, i2⟩, i3, i4, i5⟩ := hI; go_simp; first | done | with_reducible rfl)
      simp only [Act.put, List.setIfInBounds_toArray, List.set_cons_zero, List.set_cons_succ]
      refine Go.RL.AtL.take 4 (o := ⟨_, _, _, _, _, _⟩) (v := ?_) (by kernel_rfl) rfl (by simp) (by kernel_rfl) (by kernel_rfl) ?_ ?_; rotate_left
      · (refine Go.RL.Pure.val (by rfl) ?_; intro w' hI; obtain ⟨⟨i1, i2⟩, i3, i4, i5⟩ := hI; go_simp; first | done | with_reducible rfl)
      simp only [Act.put, List.setIfInBounds_toArray, List.set_cons_zero, List.set_cons_succ]
      refine Go.RL.AtL.take 5 (o := ⟨_, _, _, _, _, _⟩) (v := ?_) (by kernel_rfl) rfl (by simp) (by kernel_rfl) (by kernel_rfl) ?_ ?_; rotate_left
      · (refine Go.RL.Pure.val (by rfl) ?_; intro w' hI; obtain ⟨⟨i1, i2⟩, i3, i4, i5⟩ := hI; go_simp; first | done | with_reducible rfl)
      simp only [Act.put, List.setIfInBounds_toArray, List.set_cons_zero, List.set_cons_succ]
      refine Go.RL.AtL.one 6 (o := ⟨_, _, _, _, _, _⟩) (fun v => ∃ g, v = .slice (some ⟨g, 0, none⟩) 1 1) (fun v w' => (w'.ownsRow (p + 1) 30 2 (.slice (some ⟨g1, 0, none⟩) L1.length n1) L1.length (flat encP L1) ∧ Mod F w w') ∧ ∃ g, v = .slice (some ⟨g, 0, none⟩) 1 1 ∧ w'.heap[g]? = some (.cells #[.int .i64 r, .int .i64 c] 30 (0, 0))) (by simp) (by kernel_rfl) rfl (Go.RL.StabL.op _ _ (by rfl) (fun w' hI hS => ⟨.slice (some ⟨w'.heap.size, 0, none⟩) 1 1, w'.alloc (.cells #[.int .i64 r, .int .i64 c] 30), by go_simp, ⟨_, rfl⟩, ?_, ?_⟩)) ?_
      · exact ⟨hold_alloc hI.1, holda (below_allocs (Below.refl _ _) _) hI.2.1, holda (below_allocs (Below.refl _ _) _) hI.2.2.1, holda (below_allocs (Below.refl _ _) _) hI.2.2.2⟩
      · exact ⟨⟨owns_bl hS.1 (below_allocs (Below.refl _ _) _), hS.2.then_below (below_allocs (Below.refl _ _) _)⟩, _, rfl, hp_new rfl⟩
      rintro _ ⟨g, rfl⟩
      simp only [Act.put, List.setIfInBounds_toArray, List.set_cons_zero, List.set_cons_succ]
      refine Go.RL.AtL.one 7 (o := ⟨_, _, _, _, _, _⟩) (fun _ => True) (fun v w' => w'.ownsRow (p + 1) 30 2 v (L1.length + 1) (flat encP (L1 ++ [(r, c)])) ∧ Mod F w w' ∧ ∀ g, v.ownBlock = some g → g ∈ F ∨ w.heap.size ≤ g) (by simp) (by kernel_rfl) rfl (Go.RL.StabL.op _ _ (by rfl) (fun w' hI hS => ?_)) ?_
      · obtain ⟨⟨hS1, hS2⟩, g', hg', hgb⟩ := hS
        obtain rfl : g = g' := by simpa using hg'
        obtain ⟨v', w2, hr2, ho2, hgr2, -, hob⟩ := run_append_own_at (P := Try.prog) w' (p + 1) 40 40 30 j0 (.agg #[.int .i64 0, .int .i64 0]) 2 16 Try.underlying40 hj gz0 gz1 gz2 rfl (by decide) _ _ _ hS1 ⟨g, 0, none⟩ 1 1 (encP (r, c)) rfl (fun j u hu => by
          rw [add_lit', Nat.zero_add, cell_of_row w' g j _ _ _ hgb]
          match j, hu with
          | 0, hu => exact hu
          | 1, hu => exact hu) (encP_one (r, c)) (by simp only [maxLen]; omega) (by omega) (by have := lt_of_cell hI.1.1; omega)
        rw [flat_snoc] at ho2
        refine ⟨v', w2, exec_append (.tmp 34) (.tmp 36) 40 rfl _ _ v' rfl rfl hr2, trivial, ?_, ho2, ?_, ?_⟩
        · have hk : ∀ b, b = p ∨ b = w.heap.size → some b ≠ (Value.slice (some ⟨g1, 0, none⟩) L1.length n1).ownBlock := fun b hb e => by
            have := HNE.out b e.symm
            omega
          have hc : ∀ {b i : Nat} {u : Value}, (b = p ∨ b = w.heap.size) → w'.cell? ⟨b, i, none⟩ = some u → w2.cell? ⟨b, i, none⟩ = some u := fun hb h => hgr2.cell h (hk _ hb)
          refine ⟨⟨hc (.inl rfl) hI.1.1, ?_⟩, hc (.inl rfl) hI.2.1, hc (.inr rfl) hI.2.2.1, hc (.inr rfl) hI.2.2.2⟩
          exact (World.frozen?_of_block (w := w') (hgr2.block p (lt_of_cell hI.1.1) (hk p (.inl rfl)))).trans hI.1.2
        · exact hS2.trans (Mod.of_grown (X := (Value.slice (some ⟨g1, 0, none⟩) L1.length n1).ownBlock.toList) hgr2 (fun g hg => by simp [hg])) (fun g hg => (HNE.out g (by simpa [Option.mem_toList] using hg)).2.2)
        · intro g2 hg2
          rcases hob with hob | hob
          · rw [hob] at hg2; exact (HNE.out g2 hg2).2.2
          · rw [hob] at hg2
            obtain rfl := Option.some.inj hg2
            exact .inr hS2.size
      rintro v8 -
      simp only [Act.put, List.setIfInBounds_toArray, List.set_cons_zero, List.set_cons_succ]
      refine Go.RL.AtL.done (by kernel_rfl) (fun w8 hI hS => ?_)
      obtain ⟨hO8, hM8, hB8⟩ := hS
      obtain ⟨g8, n8, rfl⟩ := Go.Joins.ownsRow_form hO8 (Nat.succ_pos _)
      have HO8 := Lib.hid hO8
      have HM8 := Lib.hid hM8
      have HB8 := Lib.hid hB8
      obtain ⟨kk0, kk1, -, -⟩ := hI
      have kf0 := kk0.1
      have kf1 := kk0.2
      have HK1 := Lib.hid kk1
      clear hO8 hM8 hB8 kk1 k0 k1 m0 m1 HS0
      simp only [List.drop_succ_cons, List.drop_zero]
      go_wp2
      go_end0
      refine ⟨rfl, p :: [g8], ?_, HM8.out.setCell (.inl (by rw [HF.out]; simp)) _, fun g hg => ?_⟩
      · refine ⟨.slice (some ⟨g8, 0, none⟩) (L1.length + 1) n8, rfl, set_self ⟨kf0, kf1⟩, ?_, ?_⟩
        · exact (World.cell?_setCell_other w8 _ _ _ (fun e => by injection e with e1 e2; omega)).trans HK1.out
        · have := ownsRow_setCell_below HO8.out (a := ⟨p, 0, none⟩) (Nat.lt_succ_self p) (.slice (some ⟨g8, 0, none⟩) (L1.length + 1) n8)
          simpa using this
      · rcases List.mem_cons.1 hg with rfl | hg
        · exact .inl (by rw [HF.out]; simp)
        · exact HB8.out g (by simp at hg; simp [Value.ownBlock, hg])
  · have e : addL most L (r, c) = L ++ [(r, c)] := by unfold addL rightP; rw [if_pos hr, if_neg hfull]
    rw [e]
    have hne : ((L.length : Int) == most) = false := by simpa using hfull
    have hlt : (L.length : Int) < most := by omega
    clear e hfull hr
    go_enter Try.func23, Try.ntmps23
    go_wp2_with (go_at_call 48; refine (HR.out _).mono ?_; rintro e w1 ⟨rfl, hb1⟩; have hB := below_tail (show Below w.heap.size w _ from by repeat (first | exact Below.refl _ _ | refine below_allocs ?_ _ | refine below_drewNs ?_ _ | refine Below.drew ?_)) hb1; have q0 := at_new (b := w.heap.size) hb1 (by repeat (first | (refine hp_new ?_; simp; done) | refine hp_old ?_ | refine hp_drewN ?_ | refine hp_drew ?_)) 0 (.int .i64 r) rfl; have q1 := at_new (b := w.heap.size) hb1 (by repeat (first | (refine hp_new ?_; simp; done) | refine hp_old ?_ | refine hp_drewN ?_ | refine hp_drew ?_)) 1 (.int .i64 c) rfl; replace h0 := hold hB h0; replace h1 := holda hB h1)
    have HOW := Lib.hid (owns_bl HO.out hB)
    go_quiet (fail)
    go_wp2_with fail
    have HNE : Hid (∀ g, (Value.slice A L.length n).ownBlock = some g → g ≠ w.heap.size ∧ g ≠ p ∧ (g ∈ F ∨ w.heap.size ≤ g)) := Lib.hid (fun g hg => by
      have h2 := HO.out.lt g hg
      have h3 : g ∈ F := by rw [HF.out]; simp [hg]
      exact ⟨by omega, by omega, .inl h3⟩)
    have HMD := Lib.hid (Mod.of_below (X := F) hB)
    generalize hW : World.drewN _ _ = W
    have q0' := q0.1
    have q1' := q1.1
    have HS0 : Hid (W.ownsRow (p + 1) 30 2 (.slice A L.length n) L.length (flat encP L) ∧ Mod F w W) := Lib.hid (by
      rw [← hW]
      have hb := below_drewNs (Below.refl w1.heap.size w1) nq
      exact ⟨owns_bl HOW.out hb, HMD.out.then_below hb⟩)
    have k0 : W.cell? ⟨p, 0, none⟩ = some (.slice A L.length n) ∧ W.frozen? ⟨p, 0, none⟩ = false := by rw [← hW]; exact h0
    have k1 : W.cell? ⟨p, 1, none⟩ = some (.int .i64 most) := by rw [← hW]; exact h1
    have m0 : W.cell? ⟨w.heap.size, 0, none⟩ = some (.int .i64 r) := by rw [← hW]; exact q0'
    have m1 : W.cell? ⟨w.heap.size, 1, none⟩ = some (.int .i64 c) := by rw [← hW]; exact q1'
    clear hW h0 h1 q0 q1 q0' q1' HOW HMD hb1 hB HH
    refine Go.RL.wp_region_l 8 (fun w' => (w'.cell? ⟨p, 0, none⟩ = some (.slice A L.length n) ∧ w'.frozen? ⟨p, 0, none⟩ = false) ∧ w'.cell? ⟨p, 1, none⟩ = some (.int .i64 most) ∧ w'.cell? ⟨w.heap.size, 0, none⟩ = some (.int .i64 r) ∧ w'.cell? ⟨w.heap.size, 1, none⟩ = some (.int .i64 c)) (fun w' => w'.ownsRow (p + 1) 30 2 (.slice A L.length n) L.length (flat encP L) ∧ Mod F w w') (by kernel_rfl) (by kernel_rfl) ⟨k0, k1, m0, m1⟩ ?_ ?_
    · have hb := (Below.refl W.heap.size W).drew
      exact ⟨owns_bl HS0.out.1 hb, HS0.out.2.then_below hb⟩
    refine Go.RL.AtL.take 0 (o := ⟨_, _, _, _, _, _⟩) (v := ?_) (by kernel_rfl) rfl (by simp) (by kernel_rfl) (by kernel_rfl) ?_ ?_; rotate_left
    · (refine Go.RL.Pure.val (by rfl) ?_; intro w' hI; obtain ⟨⟨i1, i2⟩, i3, i4, i5⟩ := hI; go_simp; first | done | with_reducible rfl)
    simp only [Act.put, List.setIfInBounds_toArray, List.set_cons_zero, List.set_cons_succ]
    refine Go.RL.AtL.take 1 (o := ⟨_, _, _, _, _, _⟩) (v := ?_) (by kernel_rfl) rfl (by simp) (by kernel_rfl) (by kernel_rfl) ?_ ?_; rotate_left
    · (refine Go.RL.Pure.val (by rfl) ?_; intro w' hI; obtain ⟨⟨i1, i2⟩, i3, i4, i5⟩ := hI; go_simp; first | done | with_reducible rfl)
    simp only [Act.put, List.setIfInBounds_toArray, List.set_cons_zero, List.set_cons_succ]
    refine Go.RL.AtL.take 2 (o := ⟨_, _, _, _, _, _⟩) (v := ?_) (by kernel_rfl) rfl (by simp) (by kernel_rfl) (by kernel_rfl) ?_ ?_; rotate_left
    · (refine Go.RL.Pure.val (by rfl) ?_; intro w' hI; obtain ⟨⟨i1, i2⟩, i3, i4, i5⟩ := hI; go_simp; first | done | with_reducible rfl)
    simp only [Act.put, List.setIfInBounds_toArray, List.set_cons_zero, List.set_cons_succ]
    refine Go.RL.AtL.take 3 (o := ⟨_, _, _, _, _, _⟩) (v := ?_) (by kernel_rfl) rfl (by simp) (by kernel_rfl) (by kernel_rfl) ?_ ?_; rotate_left
    · (refine Go.RL.Pure.val (by rfl) ?_; intro w' hI; obtain ⟨⟨i1, i2⟩, i3, i4, i5⟩ := hI; go_simp; first | done | with_reducible rfl)
    simp only [Act.put, List.setIfInBounds_toArray, List.set_cons_zero, List.set_cons_succ]
    refine Go.RL.AtL.take 4 (o := ⟨_, _, _, _, _, _⟩) (v := ?_) (by kernel_rfl) rfl (by simp) (by kernel_rfl) (by kernel_rfl) ?_ ?_; rotate_left
    · (refine Go.RL.Pure.val (by rfl) ?_; intro w' hI; obtain ⟨⟨i1, i2⟩, i3, i4, i5⟩ := hI; go_simp; first | done | with_reducible rfl)
    simp only [Act.put, List.setIfInBounds_toArray, List.set_cons_zero, List.set_cons_succ]
    refine Go.RL.AtL.take 5 (o := ⟨_, _, _, _, _, _⟩) (v := ?_) (by kernel_rfl) rfl (by simp) (by kernel_rfl) (by kernel_rfl) ?_ ?_; rotate_left
    · (refine Go.RL.Pure.val (by rfl) ?_; intro w' hI; obtain ⟨⟨i1, i2⟩, i3, i4, i5⟩ := hI; go_simp; first | done | with_reducible rfl)
    simp only [Act.put, List.setIfInBounds_toArray, List.set_cons_zero, List.set_cons_succ]
    refine Go.RL.AtL.one 6 (o := ⟨_, _, _, _, _, _⟩) (fun v => ∃ g, v = .slice (some ⟨g, 0, none⟩) 1 1) (fun v w' => (w'.ownsRow (p + 1) 30 2 (.slice A L.length n) L.length (flat encP L) ∧ Mod F w w') ∧ ∃ g, v = .slice (some ⟨g, 0, none⟩) 1 1 ∧ w'.heap[g]? = some (.cells #[.int .i64 r, .int .i64 c] 30 (0, 0))) (by simp) (by kernel_rfl) rfl (Go.RL.StabL.op _ _ (by rfl) (fun w' hI hS => ⟨.slice (some ⟨w'.heap.size, 0, none⟩) 1 1, w'.alloc (.cells #[.int .i64 r, .int .i64 c] 30), by go_simp, ⟨_, rfl⟩, ?_, ?_⟩)) ?_
    · exact ⟨hold_alloc hI.1, holda (below_allocs (Below.refl _ _) _) hI.2.1, holda (below_allocs (Below.refl _ _) _) hI.2.2.1, holda (below_allocs (Below.refl _ _) _) hI.2.2.2⟩
    · exact ⟨⟨owns_bl hS.1 (below_allocs (Below.refl _ _) _), hS.2.then_below (below_allocs (Below.refl _ _) _)⟩, _, rfl, hp_new rfl⟩
    rintro _ ⟨g, rfl⟩
    simp only [Act.put, List.setIfInBounds_toArray, List.set_cons_zero, List.set_cons_succ]
    refine Go.RL.AtL.one 7 (o := ⟨_, _, _, _, _, _⟩) (fun _ => True) (fun v w' => w'.ownsRow (p + 1) 30 2 v (L.length + 1) (flat encP (L ++ [(r, c)])) ∧ Mod F w w' ∧ ∀ g, v.ownBlock = some g → g ∈ F ∨ w.heap.size ≤ g) (by simp) (by kernel_rfl) rfl (Go.RL.StabL.op _ _ (by rfl) (fun w' hI hS => ?_)) ?_
    · obtain ⟨⟨hS1, hS2⟩, g', hg', hgb⟩ := hS
      obtain rfl : g = g' := by simpa using hg'
      obtain ⟨v', w2, hr2, ho2, hgr2, -, hob⟩ := run_append_own_at (P := Try.prog) w' (p + 1) 40 40 30 j0 (.agg #[.int .i64 0, .int .i64 0]) 2 16 Try.underlying40 hj gz0 gz1 gz2 rfl (by decide) _ _ _ hS1 ⟨g, 0, none⟩ 1 1 (encP (r, c)) rfl (fun j u hu => by
        rw [add_lit', Nat.zero_add, cell_of_row w' g j _ _ _ hgb]
        match j, hu with
        | 0, hu => exact hu
        | 1, hu => exact hu) (encP_one (r, c)) (by simp only [maxLen]; omega) (by omega) (by have := lt_of_cell hI.1.1; omega)
      rw [flat_snoc] at ho2
      refine ⟨v', w2, exec_append (.tmp 34) (.tmp 36) 40 rfl _ _ v' rfl rfl hr2, trivial, ?_, ho2, ?_, ?_⟩
      · have hk : ∀ b, b = p ∨ b = w.heap.size → some b ≠ (Value.slice A L.length n).ownBlock := fun b hb e => by
          have := HNE.out b e.symm
          omega
        have hc : ∀ {b i : Nat} {u : Value}, (b = p ∨ b = w.heap.size) → w'.cell? ⟨b, i, none⟩ = some u → w2.cell? ⟨b, i, none⟩ = some u := fun hb h => hgr2.cell h (hk _ hb)
        refine ⟨⟨hc (.inl rfl) hI.1.1, ?_⟩, hc (.inl rfl) hI.2.1, hc (.inr rfl) hI.2.2.1, hc (.inr rfl) hI.2.2.2⟩
        exact (World.frozen?_of_block (w := w') (hgr2.block p (lt_of_cell hI.1.1) (hk p (.inl rfl)))).trans hI.1.2
      · exact hS2.trans (Mod.of_grown (X := (Value.slice A L.length n).ownBlock.toList) hgr2 (fun g hg => by simp [hg])) (fun g hg => (HNE.out g (by simpa [Option.mem_toList] using hg)).2.2)
      · intro g2 hg2
        rcases hob with hob | hob
        · rw [hob] at hg2; exact (HNE.out g2 hg2).2.2
        · rw [hob] at hg2
          obtain rfl := Option.some.inj hg2
          exact .inr hS2.size
    rintro v8 -
    simp only [Act.put, List.setIfInBounds_toArray, List.set_cons_zero, List.set_cons_succ]
    refine Go.RL.AtL.done (by kernel_rfl) (fun w8 hI hS => ?_)
    obtain ⟨hO8, hM8, hB8⟩ := hS
    obtain ⟨g8, n8, rfl⟩ := Go.Joins.ownsRow_form hO8 (Nat.succ_pos _)
    have HO8 := Lib.hid hO8
    have HM8 := Lib.hid hM8
    have HB8 := Lib.hid hB8
    obtain ⟨kk0, kk1, -, -⟩ := hI
    have kf0 := kk0.1
    have kf1 := kk0.2
    have HK1 := Lib.hid kk1
    clear hO8 hM8 hB8 kk1 k0 k1 m0 m1 HS0
    simp only [List.drop_succ_cons, List.drop_zero]
    go_wp2
    go_end0
    refine ⟨rfl, p :: [g8], ?_, HM8.out.setCell (.inl (by rw [HF.out]; simp)) _, fun g hg => ?_⟩
    · refine ⟨.slice (some ⟨g8, 0, none⟩) (L.length + 1) n8, rfl, set_self ⟨kf0, kf1⟩, ?_, ?_⟩
      · exact (World.cell?_setCell_other w8 _ _ _ (fun e => by injection e with e1 e2; omega)).trans HK1.out
      · have := ownsRow_setCell_below HO8.out (a := ⟨p, 0, none⟩) (Nat.lt_succ_self p) (.slice (some ⟨g8, 0, none⟩) (L.length + 1) n8)
        simpa using this
    · rcases List.mem_cons.1 hg with rfl | hg
      · exact .inl (by rw [HF.out]; simp)
      · exact HB8.out g (by simp at hg; simp [Value.ownBlock, hg])
end Go.Proofs.Ytfadcmjdlfobhaa
