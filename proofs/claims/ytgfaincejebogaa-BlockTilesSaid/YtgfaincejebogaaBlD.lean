/- The program's blocks: start. Conditions: as stated. -/
import Derived.Test.YtgfaincejebogaaBlC
namespace Go.Proofs.Ytgfaincejebogaa
open Go.RowKit

/-- The first one goes. -/
theorem BlO.pop {w : World} {p g o n c : Nat} {x : Nat × Ent} {L : List (Nat × Ent)} {most ids : Int} {dir : ByteArray} (h : BlO w p (.slice (some ⟨g, o, none⟩) n c) (x :: L) most ids dir) (hn : n = L.length + 1) :
    BlO (w.setCell ⟨p, 0, none⟩ (.slice (some ⟨g, o + 1, none⟩) (n - 1) (c - 1))) p (.slice (some ⟨g, o + 1, none⟩) (n - 1) (c - 1)) L most ids dir ∧ Mod [p] w (w.setCell ⟨p, 0, none⟩ (.slice (some ⟨g, o + 1, none⟩) (n - 1) (c - 1))) := by
  have hm : Mod [p] w (w.setCell ⟨p, 0, none⟩ (.slice (some ⟨g, o + 1, none⟩) (n - 1) (c - 1))) := (Mod.refl _ _).setCell (.inl (by simp)) _
  have hgp := (h.own.lt g rfl).1
  have other : ∀ i u, i ≠ 0 → HoldAt w p i u → HoldAt (w.setCell ⟨p, 0, none⟩ (.slice (some ⟨g, o + 1, none⟩) (n - 1) (c - 1))) p i u := fun i u hi hu =>
    ⟨(World.cell?_setCell_other _ _ _ _ (fun e => by injection e with e1 e2; omega)).trans hu.1, by rw [World.frozen?_setCell]; exact hu.2⟩
  refine ⟨⟨set_self h.row, (World.cell?_setCell_other _ _ _ _ (fun e => by injection e with e1 e2; omega)).trans h.most, other 2 _ (by decide) h.ids, other 3 _ (by decide) h.dir, ?_, fun y hy => ?_, (List.nodup_cons.1 (by simpa using h.nodup)).2⟩, hm⟩
  · exact (OwnsAt.tail h.own (by simpa using hn)).setCell (fun g' hg' => by simp [Value.ownBlock] at hg'; omega) _
  · obtain ⟨k1, k2, k3, k4⟩ := h.ents y (List.mem_cons_of_mem _ hy)
    exact ⟨k1.mod hm (by simp; omega), k2, k3, k4⟩
theorem startB_es (mo : Nat) (S : Bs) (phase : Nat) (p : P2) : (startB mo S phase p).es = if mo < S.es.length + 1 then (S.es ++ [reachE (newE (S.ids + 1) S.dir) phase p]).drop 1 else S.es ++ [reachE (newE (S.ids + 1) S.dir) phase p] := by
  unfold startB
  simp
set_option maxRecDepth 100000 in
set_option maxHeartbeats 3200000 in
theorem start_any {p : Nat} {v : Value} {L : List (Nat × Ent)} {mo : Nat} {ids : Int} {dir : ByteArray} (phase : Nat) (r c : Int) (w : World) (h : BlO w p v L mo ids dir) (h1 : 1 ≤ phase) (h2 : phase ≤ 4) (hmo : 1 ≤ mo) (hz : L.length ≤ 1000) (hi0 : 0 ≤ ids) (hi1 : ids ≤ 1000000) :
    Calls Try.prog 25 #[.pointer (some ⟨p, 0, none⟩), .int .i64 phase, .agg #[.int .i64 r, .int .i64 c]] w (BlPost w p v L mo (startB mo ⟨ids, dir, L.map (·.2)⟩ phase (r, c))) := by
  obtain ⟨j0, hj, gz0, gz1, gz2⟩ := info_parts info_ptr
  have hp := lt_of_cell h.row.1
  have hk2 := h.ids
  have hfl := h.lt
  have HFL := Lib.hid hfl
  have hes := startB_es mo ⟨ids, dir, L.map (·.2)⟩ phase (r, c)
  simp only [List.length_map] at hes
  have HES := Lib.hid hes
  have HSI := Lib.hid (show (startB mo ⟨ids, dir, L.map (·.2)⟩ phase (r, c)).ids = ids + 1 ∧ (startB mo ⟨ids, dir, L.map (·.2)⟩ phase (r, c)).dir = dir from ⟨rfl, rfl⟩)
  generalize startB mo ⟨ids, dir, L.map (·.2)⟩ phase (r, c) = R at HES HSI ⊢
  have HW1 : Hid (∀ W1, W1 = (w.setCell ⟨p, 2, none⟩ (.int .u64 (ids + 1))).alloc (.cells #[.int .i64 r, .int .i64 c] 24) → BlO W1 p v L mo (ids + 1) dir ∧ Mod [p] w W1 ∧ W1.cell? ⟨w.heap.size, 0, none⟩ = some (.int .i64 r) ∧ W1.cell? ⟨w.heap.size, 1, none⟩ = some (.int .i64 c)) := Lib.hid (by
    rintro W1 rfl
    have hm : Mod [p] w (w.setCell ⟨p, 2, none⟩ (.int .u64 (ids + 1))) := (Mod.refl _ _).setCell (.inl (by simp)) _
    have hb : Below (w.setCell ⟨p, 2, none⟩ (.int .u64 (ids + 1))).heap.size (w.setCell ⟨p, 2, none⟩ (.int .u64 (ids + 1))) ((w.setCell ⟨p, 2, none⟩ (.int .u64 (ids + 1))).alloc (.cells #[.int .i64 r, .int .i64 c] 24)) := below_allocs (Below.refl _ _) _
    have other : ∀ i u, i ≠ 2 → HoldAt w p i u → HoldAt (w.setCell ⟨p, 2, none⟩ (.int .u64 (ids + 1))) p i u := fun i u hi hu =>
      ⟨(World.cell?_setCell_other _ _ _ _ (fun e => by injection e with e1 e2; omega)).trans hu.1, by rw [World.frozen?_setCell]; exact hu.2⟩
    have h' : BlO (w.setCell ⟨p, 2, none⟩ (.int .u64 (ids + 1))) p v L mo (ids + 1) dir :=
      ⟨other 0 _ (by decide) h.row, (World.cell?_setCell_other _ _ _ _ (fun e => by injection e with e1 e2; omega)).trans h.most, set_self h.ids, other 3 _ (by decide) h.dir, h.own.setCell (fun g hg => by have := (h.own.lt g hg).1; omega) _, fun x hx => ⟨(h.ents x hx).1.mod hm (by have := (h.ents x hx).2.2.1; simp; omega), (h.ents x hx).2⟩, h.nodup⟩
    have hsz : (w.setCell ⟨p, 2, none⟩ (.int .u64 (ids + 1))).heap.size = w.heap.size := by simp [World.setCell]
    exact ⟨h'.below hb, hm.then_below hb, by rw [← hsz]; exact (at_ (hp_new rfl) 0 _ rfl).1, by rw [← hsz]; exact (at_ (hp_new rfl) 1 _ rfl).1⟩)
  obtain ⟨hk2c, hk2f⟩ := hk2
  have hwr : IntKind.u64.wrap (ids + 1) = ids + 1 := by simp [IntKind.wrap, IntKind.bits, IntKind.signed]; omega
  clear h hes hfl
  go_enter Try.func25, Try.ntmps25
  go_upto_region 2 with fail
  generalize hW1 : World.alloc _ _ = W1
  obtain ⟨hO1, hm1, p0, p1⟩ := HW1.out W1 hW1.symm
  have k2 := hO1.ids.1
  have k3 := hO1.dir.1
  have HO1 := Lib.hid hO1
  have HM1 := Lib.hid hm1
  clear hW1 HW1 hO1 hm1 hk2c hk2f
  refine wp_region_u 10 (fun w' => Below W1.heap.size W1 w' ∧ w'.cell? ⟨p, 2, none⟩ = some (.int .u64 (ids + 1)) ∧ w'.cell? ⟨p, 3, none⟩ = some (.string dir)) (by kernel_rfl) (by kernel_rfl) ?_ ?_
  · exact ⟨(Below.refl _ _).drew, k2, k3⟩
  simp only [List.take_succ_cons, List.take_zero, List.drop_succ_cons, List.drop_zero]
  repeat (refine seqU_val ?_ (by rfl) ?_ ?_; rotate_left; · (intro w' hS; obtain ⟨_, _⟩ := hS; go_simp; first | done | with_reducible rfl)
          simp only [Act.put, List.setIfInBounds_toArray, List.set_cons_zero, List.set_cons_succ])
  refine seqU_nil (fun w' hS => ?_)
  have hB1 := hS.1
  clear hS k2 k3
  go_upto_region 3 with fail
  have hb3 : Below w'.heap.size w' (w'.alloc (.cells (entCells (newE (ids + 1) dir)).toArray 68)) := below_allocs (Below.refl _ _) _
  have HE3 : Hid (∀ W3, W3 = w'.alloc (.cells (entCells (newE (ids + 1) dir)).toArray 68) → EntAt W3 w'.heap.size (newE (ids + 1) dir) ∧ Below W1.heap.size W1 W3) := Lib.hid (by
    rintro W3 rfl
    exact ⟨hp_new rfl, below_tail hB1 hb3⟩)
  clear hb3
  generalize hW3 : World.alloc _ _ = W3
  obtain ⟨hE3, hB3⟩ := HE3.out W3 hW3.symm
  have hsz : W1.heap.size ≤ w'.heap.size := hB1.size
  have hszw : w.heap.size ≤ W1.heap.size := HM1.out.size
  replace p0 := holda hB3 p0
  replace p1 := holda hB3 p1
  have HRE := Lib.hid (reach_any w'.heap.size (newE (ids + 1) dir) phase r c W3 hE3 rfl h2)
  have HOK := Lib.hid (show EntOk (reachE (newE (ids + 1) dir) phase (r, c)) from reachE_ok rfl (Nat.zero_le _) h1 h2)
  have HO3 := Lib.hid (HO1.out.below hB3)
  have HM3 := Lib.hid (HM1.out.then_below hB3)
  have hlt3 := hE3.lt
  clear hW3 HE3 hE3 HO1 HM1 hB1 hB3
  generalize reachE (newE (ids + 1) dir) phase (r, c) = E at HRE HOK HES
  generalize w'.heap.size = b at *
  go_upto_region 4 with (go_at_call 27; refine HRE.out.mono ?_; rintro e w4 ⟨rfl, hE4, hm4⟩; have HE4 := Lib.hid hE4; have HM4 := Lib.hid hm4; clear hE4 hm4)
  have hbf : b ∉ foot p v L := fun hb => by have := HFL.out b hb; omega
  have HBF := Lib.hid hbf
  have hO4 := HO3.out.mod HM4.out (fun g hg hx => by rw [List.mem_singleton.1 hx] at hg; exact hbf hg)
  have HO4 := Lib.hid hO4
  have HMM4 := Lib.hid ((HM3.out.trans HM4.out (fun g hg => .inr (by rw [List.mem_singleton.1 hg]; omega))).mono (Y := p :: v.ownBlock.toList) (fun g hg => by rw [List.mem_singleton.1 hg]; simp))
  obtain ⟨A, ca, hv, -⟩ := hO4.own.form
  rw [List.length_map] at hv
  have hr4 := hO4.row
  have HV := Lib.hid hv
  rw [hv] at hr4
  have hpw := lt_of_cell hr4.1
  obtain ⟨hr4c, hr4f⟩ := hr4
  have HOWN : Hid (OwnsAt (w4.alloc (.cells #[.pointer (some ⟨b, 0, none⟩)] 61)) (p + 1) 61 (.slice A L.length ca) (L.map fun x => .pointer (some ⟨x.1, 0, none⟩))) := Lib.hid (by
    rw [← hv]
    exact hO4.own.mod (Mod.of_below (X := []) (below_allocs (Below.refl _ _) _)) (fun _ _ h => by cases h))
  have hb0 : 0 < b := by omega
  clear hO4 hbf p0 p1 HRE HO3 HM3 HM4 HFL hv
  go_upto_region 5 with (at_builtin; refine wpList_append_at rfl (.tmp 33) (.tmp 35) 69 rfl (p + 1) 61 j0 (.pointer none) 8 Try.underlying69 hj gz0 gz1 gz2 rfl _ _ rfl HOWN.out ⟨w4.heap.size, 0, none⟩ 1 (.pointer (some ⟨b, 0, none⟩)) rfl (at_ (hp_new rfl) 0 _ rfl).1 rfl (by simp only [maxLen, List.length_map]; omega) (by simp only [List.length_map]; omega) (by simp; omega) ?_; intro v1 w5 hown5 hg5 hnew5; have HO5 := Lib.hid hown5; have HG5 := Lib.hid hg5; have HN5 := Lib.hid hnew5; obtain ⟨A1, c1, hv1, hc1⟩ := hown5.form; simp only [List.length_append, List.length_map, List.length_singleton] at hv1 hc1; subst hv1; clear hown5 hg5 hnew5; have hrow5 := (HO4.out.push HE4.out HOK.out (by have := HO4.out; omega) (fun hx => HBF.out (by unfold foot; simp [hx])) (fun hx => HBF.out (by unfold foot; simp [hx])) (by rw [HV.out]; exact HG5.out) HO5.out).2.2; rw [HV.out] at hrow5; obtain ⟨hrow5c, hrow5f⟩ := hrow5)
  generalize hW5 : World.setCell _ _ _ = W5
  obtain ⟨hO6, hM6, -⟩ := HO4.out.push HE4.out HOK.out (by have := HO4.out; omega) (fun hx => HBF.out (by unfold foot; simp [hx])) (fun hx => HBF.out (by unfold foot; simp [hx])) (by rw [HV.out]; exact HG5.out) HO5.out
  rw [hW5] at hO6 hM6
  have HO6 := Lib.hid hO6
  have HM6 := Lib.hid (HMM4.out.trans (Y := p :: v.ownBlock.toList) hM6 (fun g hg => by
    rcases List.mem_cons.1 hg with rfl | hg
    · exact .inl (by simp)
    · exact .inl (by simp; right; simpa [Option.mem_toList] using hg)))
  have HFT : Hid (∀ g ∈ p :: v.ownBlock.toList, g ∈ foot p v L) := Lib.hid (fun g hg => by
    rcases List.mem_cons.1 hg with rfl | hg
    · simp [foot]
    · simp only [foot, List.mem_cons, List.mem_append]; exact .inr (.inl hg))
  have HFN : Hid (∀ g, (g = p ∨ (Value.slice A1 (L.length + 1) c1).ownBlock = some g ∨ g ∈ (L ++ [(b, E)]).map (·.1)) → g ∈ foot p v L ∨ w.heap.size ≤ g) := Lib.hid (fun g hg => by
    rcases hg with rfl | hg | hg
    · exact .inl (by simp [foot])
    · rcases HN5.out g hg with h | h
      · have h' : v.ownBlock = some g := by rw [HV.out]; exact h
        exact .inl (by simp [foot, h'])
      · exact .inr (by have := HMM4.out.size; simp at h; omega)
    · rw [List.map_append, List.mem_append] at hg
      rcases hg with hg | hg
      · exact .inl (by simp only [foot, List.mem_cons, List.mem_append]; exact .inr (.inr hg))
      · rw [List.map_singleton, List.mem_singleton] at hg
        exact .inr (by rw [hg]; show w.heap.size ≤ b; omega))
  have q0 := hO6.row.1
  have q1 := hO6.most
  clear hW5 hO6 hM6 hrow5c hrow5f hr4c hr4f
  refine wp_region_u 9 (fun w' => Below W5.heap.size W5 w' ∧ w'.cell? ⟨p, 0, none⟩ = some (.slice A1 (L.length + 1) c1) ∧ w'.cell? ⟨p, 1, none⟩ = some (.int .i64 mo)) (by kernel_rfl) (by kernel_rfl) ?_ ?_
  · exact ⟨(Below.refl _ _).drew, q0, q1⟩
  simp only [List.take_succ_cons, List.take_zero, List.drop_succ_cons, List.drop_zero]
  repeat (refine seqU_val ?_ (by rfl) ?_ ?_; rotate_left; · (intro w' hS; obtain ⟨_, _⟩ := hS; go_simp; first | done | with_reducible rfl)
          simp only [Act.put, List.setIfInBounds_toArray, List.set_cons_zero, List.set_cons_succ])
  refine seqU_nil (fun w' hS => ?_)
  have hB7 := hS.1
  clear hS q0 q1
  have hO7 := HO6.out.below hB7
  have HM7 := Lib.hid (HM6.out.then_below hB7)
  by_cases hfull : mo < L.length + 1
  rotate_left
  · have hf1 : ¬ (mo : Int) < (L.length : Int) + 1 := by omega
    have HE := Lib.hid (HES.out.trans (if_neg hfull))
    have HO7 := Lib.hid hO7
    clear hO7 hfull
    go_wp2
    go_end0
    refine ⟨rfl, _, _, by rw [HSI.out.1, HSI.out.2]; exact HO7.out, by rw [HE.out]; simp, HM7.out.mono (fun g hg => HFT.out g hg), fun g hg => HFN.out g (by
      rcases List.mem_cons.1 hg with rfl | hg
      · exact .inl rfl
      · rcases List.mem_append.1 hg with hg | hg
        · exact .inr (.inl (by simpa [Option.mem_toList] using hg))
        · exact .inr (.inr hg))⟩
  · have hf1 : (mo : Int) < (L.length : Int) + 1 := by omega
    have HE := Lib.hid (HES.out.trans (if_pos hfull))
    obtain ⟨g, o, rfl, -, -⟩ := hO7.own.at_ (i := 0) (u := .pointer (some ⟨((L ++ [(b, E)])[0]'(by simp)).1, 0, none⟩)) (by rw [List.getElem?_map, List.getElem?_eq_getElem (by simp)]; rfl)
    obtain ⟨hr7, hr7f⟩ := hO7.row
    have hc2 : 2 ≤ c1 := by omega
    have hne : ¬ c1 = 1 := by omega
    have HO7 := Lib.hid hO7
    clear hO7 hfull
    go_wp2
    go_end0
    obtain ⟨x, rest, hx⟩ : ∃ x rest, L ++ [(b, E)] = x :: rest := by cases L <;> simp
    have hlen : L.length = rest.length := by have := congrArg List.length hx; simpa using this
    have h7 := HO7.out
    rw [hx] at h7
    obtain ⟨h8, hm8⟩ := h7.pop (by omega)
    simp only [Nat.add_sub_cancel] at h8 hm8
    refine ⟨rfl, _, rest, by rw [HSI.out.1, HSI.out.2]; exact h8, ?_, (HM7.out.trans hm8 (fun g hg => .inl (by rw [List.mem_singleton.1 hg]; simp))).mono (fun g hg => ?_), fun g' hg => ?_⟩
    · rw [HE.out, show L.map (fun x => x.2) ++ [E] = (L ++ [(b, E)]).map (fun x => x.2) by simp, hx]; rfl
    · exact HFT.out g hg
    · exact HFN.out g' (by
        rcases List.mem_cons.1 hg with rfl | hg
        · exact .inl rfl
        · rcases List.mem_append.1 hg with hg | hg
          · exact .inr (.inl (by simp [Value.ownBlock] at hg ⊢; exact hg.symm))
          · exact .inr (.inr (by rw [hx]; exact List.mem_map.2 (by obtain ⟨y, hy, e⟩ := List.mem_map.1 hg; exact ⟨y, List.mem_cons_of_mem _ hy, e⟩))))
end Go.Proofs.Ytgfaincejebogaa
