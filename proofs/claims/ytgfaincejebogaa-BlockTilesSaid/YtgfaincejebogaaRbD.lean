/- The document's blocks: start. Conditions: as stated. -/
import Derived.Test.YtgfaincejebogaaRbC
namespace Go.Proofs.Ytgfaincejebogaa
open Go.RowKit

theorem RbO.setIds {w : World} {q : Nat} {vM vF : Value} {M : List Mk} {F : List Fc} {most ids : Int} {dir : ByteArray} (h : RbO w q vM vF M F most ids dir) (i' : Int) : RbO (w.setCell ⟨q, 3, none⟩ (.int .u64 i')) q vM vF M F most i' dir ∧ Mod [q] w (w.setCell ⟨q, 3, none⟩ (.int .u64 i')) := by
  have other : ∀ i u, i ≠ 3 → HoldAt w q i u → HoldAt (w.setCell ⟨q, 3, none⟩ (.int .u64 i')) q i u := fun i u hi hu =>
    ⟨(World.cell?_setCell_other _ _ _ _ (fun e => by injection e with e1 e2; omega)).trans hu.1, by rw [World.frozen?_setCell]; exact hu.2⟩
  exact ⟨⟨(World.cell?_setCell_other _ _ _ _ (fun e => by injection e with e1 e2; omega)).trans h.most, other 1 _ (by decide) h.m, other 2 _ (by decide) h.f, set_self h.ids, other 4 _ (by decide) h.dir, ownsRow_setCell_below h.ownM (Nat.lt_succ_self q) _, ownsRow_setCell_below h.ownF (Nat.lt_succ_self q) _⟩, (Mod.refl _ _).setCell (.inl (by simp)) _⟩
theorem RbPost.chain {w W : World} {q : Nat} {vM vF vM1 vF1 : Value} {M' : List Mk} {F' : List Fc} {most ids' : Int} {dir' : ByteArray} {e : Ending} {w' : World} (hm : Mod (rfoot q vM vF) w W) (hf : ∀ g ∈ rfoot q vM1 vF1, g ∈ rfoot q vM vF ∨ w.heap.size ≤ g) (h : RbPost W q vM1 vF1 M' F' most ids' dir' e w') : RbPost w q vM vF M' F' most ids' dir' e w' := by
  obtain ⟨he, vM', vF', h1, h2, h3⟩ := h
  refine ⟨he, vM', vF', h1, hm.trans h2 hf, fun g hg => ?_⟩
  rcases h3 g hg with h | h
  · exact hf g h
  · exact .inr (Nat.le_trans hm.size h)
theorem RbPost.here {w : World} {q : Nat} {vM vF : Value} {M : List Mk} {F : List Fc} {most ids : Int} {dir : ByteArray} {w' : World} (h : RbO w q vM vF M F most ids dir) (hb : Below w.heap.size w w') : RbPost w q vM vF M F most ids dir (.returned (.tuple #[])) w' :=
  ⟨rfl, vM, vF, h.below hb, Mod.of_below hb, fun _ hg => .inl hg⟩
/-- The loop of start: the marks of a new block. -/
def newF (ids : Int) (dir : ByteArray) : Fc := ⟨ids, 0, false, false, dir, ByteArray.empty⟩
def StPost (w : World) (q : Nat) (vM vF : Value) (M : List Mk) (F : List Fc) (mo : Nat) (ids : Int) (dir : ByteArray) (phase : Nat) (p : P2) (e : Ending) (w' : World) : Prop :=
  ∃ M' F', RbPost w q vM vF M' F' mo (ids + 1) dir e w' ∧
      ((F.length + 1 ≤ mo ∧ M' = addMk M (ids + 1) p 1 phase ∧ F' = F ++ [newF (ids + 1) dir]) ∨ (mo < F.length + 1 ∧ ∃ f F1, F ++ [newF (ids + 1) dir] = f :: F1 ∧ M' = (addMk M (ids + 1) p 1 phase).filter (otherId f.id) ∧ F' = F1))
set_option maxRecDepth 100000 in
set_option maxHeartbeats 6400000 in
theorem rstart_any {q : Nat} {vM vF : Value} {M : List Mk} {F : List Fc} {mo : Nat} {ids : Int} {dir : ByteArray} (phase : Nat) (r c : Int) (w : World) (h : RbO w q vM vF M F mo ids dir) (hz : M.length ≤ 900) (hz2 : F.length ≤ 900) (hph : phase ≤ 4) (hmo : 1 ≤ mo) (hi0 : 0 ≤ ids) (hi1 : ids ≤ 1000000) :
    Calls Try.prog 37 #[.pointer (some ⟨q, 0, none⟩), .int .i64 phase, .agg #[.int .i64 r, .int .i64 c]] w (StPost w q vM vF M F mo ids dir phase (r, c)) := by
  obtain ⟨j0, hj, gz0, gz1, gz2⟩ := info_parts info_mk
  obtain ⟨k0, hk, hz0, hz1, hz2'⟩ := info_parts info_fc
  obtain ⟨hI, hmI⟩ := h.setIds (ids + 1)
  obtain ⟨hi3, hi3f⟩ := h.ids
  have hqw := lt_of_cell hi3
  have hszI : (w.setCell ⟨q, 3, none⟩ (.int .u64 (ids + 1))).heap.size = w.heap.size := by simp [World.setCell]
  obtain ⟨Wb, hWb⟩ : ∃ Wb, Wb = (w.setCell ⟨q, 3, none⟩ (.int .u64 (ids + 1))).alloc (.cells #[.int .i64 r, .int .i64 c] 24) := ⟨_, rfl⟩
  have hbI : Below (w.setCell ⟨q, 3, none⟩ (.int .u64 (ids + 1))).heap.size (w.setCell ⟨q, 3, none⟩ (.int .u64 (ids + 1))) Wb := by rw [hWb]; exact below_allocs (Below.refl _ _) _
  have hsb : Wb.heap.size = w.heap.size + 1 := by rw [hWb]; simp [hszI]
  have HXF := Lib.hid (show w.heap.size ∉ rfoot q vM vF from fun hx => by have := h.lt _ hx; omega)
  have HFT := Lib.hid h.lt
  have HMW := Lib.hid (show Mod [q] w Wb from hmI.then_below hbI)
  have HST0 := Lib.hid (show MkSt Wb q vM vF M F mo (ids + 1) dir w.heap.size Wb from ⟨vM, hI.below hbI, Mod.refl _ _, fun g hg => .inl (by simp [rfoot, hg])⟩)
  have HBX : Hid (∀ w1, Mod (rfoot q vM vF) Wb w1 → w1.cell? ⟨w.heap.size, 0, none⟩ = some (.int .i64 r) ∧ w1.cell? ⟨w.heap.size, 1, none⟩ = some (.int .i64 c)) := Lib.hid (fun w1 hm => by
    subst hWb
    exact ⟨hm.cell HXF.out (by rw [← hszI]; exact (at_ (hp_new rfl) 0 _ rfl).1), hm.cell HXF.out (by rw [← hszI]; exact (at_ (hp_new rfl) 1 _ rfl).1)⟩)
  have HWB := Lib.hid hWb
  have HSB := Lib.hid (show w.heap.size < Wb.heap.size ∧ Wb.heap.size ≤ w.heap.size + 1 from by omega)
  have hwr : IntKind.u64.wrap (ids + 1) = ids + 1 := by simp [IntKind.wrap, IntKind.bits, IntKind.signed]; omega
  clear h hI hmI hszI hbI hsb hWb
  go_enter Try.func37, Try.ntmps37
  go_upto_block 0 with fail
  rw [← HWB.out]
  go_cut [] (fun w' => MkSt Wb q vM vF (addMk M (ids + 1) (r, c) 1 phase) F mo (ids + 1) dir w.heap.size w')
  case first =>
    go_wp2_with fail
    go_loopw [6] (fun s6 wr => ∃ n : Nat, n ≤ phase ∧ s6 = .int .i64 (1 + (n : Int)) ∧ MkSt Wb q vM vF (addMk M (ids + 1) (r, c) 1 n) F mo (ids + 1) dir w.heap.size wr) (fun s6 _ => 6 - (intOf s6).toNat)
    case atStart => exact ⟨0, Nat.zero_le _, rfl, HST0.out⟩
    case round =>
      obtain ⟨n, hn, rfl, hst⟩ := hrel
      by_cases hlt : n < phase
      rotate_left
      · have hge : ¬ 1 + (n : Int) ≤ (phase : Int) := by omega
        have HN := Lib.hid (show n = phase by omega)
        have HS := Lib.hid hst
        clear hst
        go_wp2
        go_meet
        rw [← HN.out]
        exact HS.out
      · obtain ⟨vM', hO, hm, hs⟩ := hst
        obtain ⟨p0, p1⟩ := HBX.out _ hm
        obtain ⟨A, ca, hv⟩ := row_form hO.ownM
        subst hv
        have hlen := addMk_len M (ids + 1) (r, c) 1 n
        have m0 := hO.m.1
        have i0 := hO.ids.1
        have hle : 1 + (n : Int) ≤ (phase : Int) := by omega
        have hns : (n : Int) ≤ 4 := by omega
        have HO := Lib.hid hO
        have HM := Lib.hid hm
        have HS := Lib.hid hs
        have HAD := Lib.hid (show addMk M (ids + 1) (r, c) 1 (n + 1) = addMk M (ids + 1) (r, c) 1 n ++ [⟨ids + 1, 1 + (n : Int), r, c⟩] from rfl)
        generalize addMk M (ids + 1) (r, c) 1 n = Mn at *
        have hlz : Mn.length ≤ 1010 := by omega
        clear hlen
        have hqs := lt_of_cell m0
        clear hO hm hs
        have HNE := Lib.hid (show ∀ g, (Value.slice A Mn.length ca).ownBlock = some g → g ≠ q ∧ g ≠ w.heap.size from fun g hg => ⟨by have := (HO.out.ownM.lt g hg).1; omega, fun e => by
          rcases HS.out g hg with h | h
          · rw [e] at h; exact HXF.out h
          · omega⟩)
        go_wp2_with fail
        refine Go.RL.wp_region_l 16 (fun w' => w'.cell? ⟨q, 1, none⟩ = some (.slice A Mn.length ca) ∧ w'.cell? ⟨q, 3, none⟩ = some (.int .u64 (ids + 1)) ∧ w'.cell? ⟨w.heap.size, 0, none⟩ = some (.int .i64 r) ∧ w'.cell? ⟨w.heap.size, 1, none⟩ = some (.int .i64 c)) (fun w' => Below wr.heap.size wr w') (by kernel_rfl) (by kernel_rfl) ⟨m0, i0, p0, p1⟩ ((Below.refl _ _).drew) ?_
        clear m0 i0 p0 p1
        refine Go.RL.AtL.take 0 (o := ⟨_, _, _, _, _, _⟩) (v := ?_) (by kernel_rfl) rfl (by simp) (by kernel_rfl) (by kernel_rfl) ?_ ?_; rotate_left
        · (refine Go.RL.Pure.val (by rfl) ?_; intro w' hI; obtain ⟨i1, i2, i3, i4⟩ := hI; go_simp; first | done | with_reducible rfl)
        simp only [Act.put, List.setIfInBounds_toArray, List.set_cons_zero, List.set_cons_succ]
        refine Go.RL.AtL.take 1 (o := ⟨_, _, _, _, _, _⟩) (v := ?_) (by kernel_rfl) rfl (by simp) (by kernel_rfl) (by kernel_rfl) ?_ ?_; rotate_left
        · (refine Go.RL.Pure.val (by rfl) ?_; intro w' hI; obtain ⟨i1, i2, i3, i4⟩ := hI; go_simp; first | done | with_reducible rfl)
        simp only [Act.put, List.setIfInBounds_toArray, List.set_cons_zero, List.set_cons_succ]
        refine Go.RL.AtL.take 2 (o := ⟨_, _, _, _, _, _⟩) (v := ?_) (by kernel_rfl) rfl (by simp) (by kernel_rfl) (by kernel_rfl) ?_ ?_; rotate_left
        · (refine Go.RL.Pure.val (by rfl) ?_; intro w' hI; obtain ⟨i1, i2, i3, i4⟩ := hI; go_simp; first | done | with_reducible rfl)
        simp only [Act.put, List.setIfInBounds_toArray, List.set_cons_zero, List.set_cons_succ]
        refine Go.RL.AtL.take 3 (o := ⟨_, _, _, _, _, _⟩) (v := ?_) (by kernel_rfl) rfl (by simp) (by kernel_rfl) (by kernel_rfl) ?_ ?_; rotate_left
        · (refine Go.RL.Pure.val (by rfl) ?_; intro w' hI; obtain ⟨i1, i2, i3, i4⟩ := hI; go_simp; first | done | with_reducible rfl)
        simp only [Act.put, List.setIfInBounds_toArray, List.set_cons_zero, List.set_cons_succ]
        refine Go.RL.AtL.take 4 (o := ⟨_, _, _, _, _, _⟩) (v := ?_) (by kernel_rfl) rfl (by simp) (by kernel_rfl) (by kernel_rfl) ?_ ?_; rotate_left
        · (refine Go.RL.Pure.val (by rfl) ?_; intro w' hI; obtain ⟨i1, i2, i3, i4⟩ := hI; go_simp; first | done | with_reducible rfl)
        simp only [Act.put, List.setIfInBounds_toArray, List.set_cons_zero, List.set_cons_succ]
        refine Go.RL.AtL.take 5 (o := ⟨_, _, _, _, _, _⟩) (v := ?_) (by kernel_rfl) rfl (by simp) (by kernel_rfl) (by kernel_rfl) ?_ ?_; rotate_left
        · (refine Go.RL.Pure.val (by rfl) ?_; intro w' hI; obtain ⟨i1, i2, i3, i4⟩ := hI; go_simp; first | done | with_reducible rfl)
        simp only [Act.put, List.setIfInBounds_toArray, List.set_cons_zero, List.set_cons_succ]
        refine Go.RL.AtL.take 6 (o := ⟨_, _, _, _, _, _⟩) (v := ?_) (by kernel_rfl) rfl (by simp) (by kernel_rfl) (by kernel_rfl) ?_ ?_; rotate_left
        · (refine Go.RL.Pure.val (by rfl) ?_; intro w' hI; obtain ⟨i1, i2, i3, i4⟩ := hI; go_simp; first | done | with_reducible rfl)
        simp only [Act.put, List.setIfInBounds_toArray, List.set_cons_zero, List.set_cons_succ]
        refine Go.RL.AtL.take 7 (o := ⟨_, _, _, _, _, _⟩) (v := ?_) (by kernel_rfl) rfl (by simp) (by kernel_rfl) (by kernel_rfl) ?_ ?_; rotate_left
        · (refine Go.RL.Pure.val (by rfl) ?_; intro w' hI; obtain ⟨i1, i2, i3, i4⟩ := hI; go_simp; first | done | with_reducible rfl)
        simp only [Act.put, List.setIfInBounds_toArray, List.set_cons_zero, List.set_cons_succ]
        refine Go.RL.AtL.take 8 (o := ⟨_, _, _, _, _, _⟩) (v := ?_) (by kernel_rfl) rfl (by simp) (by kernel_rfl) (by kernel_rfl) ?_ ?_; rotate_left
        · (refine Go.RL.Pure.val (by rfl) ?_; intro w' hI; obtain ⟨i1, i2, i3, i4⟩ := hI; go_simp; first | done | with_reducible rfl)
        simp only [Act.put, List.setIfInBounds_toArray, List.set_cons_zero, List.set_cons_succ]
        refine Go.RL.AtL.take 9 (o := ⟨_, _, _, _, _, _⟩) (v := ?_) (by kernel_rfl) rfl (by simp) (by kernel_rfl) (by kernel_rfl) ?_ ?_; rotate_left
        · (refine Go.RL.Pure.val (by rfl) ?_; intro w' hI; obtain ⟨i1, i2, i3, i4⟩ := hI; go_simp; first | done | with_reducible rfl)
        simp only [Act.put, List.setIfInBounds_toArray, List.set_cons_zero, List.set_cons_succ]
        refine Go.RL.AtL.take 10 (o := ⟨_, _, _, _, _, _⟩) (v := ?_) (by kernel_rfl) rfl (by simp) (by kernel_rfl) (by kernel_rfl) ?_ ?_; rotate_left
        · (refine Go.RL.Pure.val (by rfl) ?_; intro w' hI; obtain ⟨i1, i2, i3, i4⟩ := hI; go_simp; first | done | with_reducible rfl)
        simp only [Act.put, List.setIfInBounds_toArray, List.set_cons_zero, List.set_cons_succ]
        refine Go.RL.AtL.take 11 (o := ⟨_, _, _, _, _, _⟩) (v := ?_) (by kernel_rfl) rfl (by simp) (by kernel_rfl) (by kernel_rfl) ?_ ?_; rotate_left
        · (refine Go.RL.Pure.val (by rfl) ?_; intro w' hI; obtain ⟨i1, i2, i3, i4⟩ := hI; go_simp; first | done | with_reducible rfl)
        simp only [Act.put, List.setIfInBounds_toArray, List.set_cons_zero, List.set_cons_succ]
        refine Go.RL.AtL.one 12 (o := ⟨_, _, _, _, _, _⟩) (fun v => ∃ g, v = .slice (some ⟨g, 0, none⟩) 1 1) (fun v w' => Below wr.heap.size wr w' ∧ ∃ g, v = .slice (some ⟨g, 0, none⟩) 1 1 ∧ w'.heap[g]? = some (.cells (encMk ⟨ids + 1, 1 + (n : Int), r, c⟩).toArray 84 (0, 0))) (by simp) (by kernel_rfl) rfl (Go.RL.StabL.op _ _ (by rfl) (fun w' hI hS => ⟨.slice (some ⟨w'.heap.size, 0, none⟩) 1 1, w'.alloc (.cells (encMk ⟨ids + 1, 1 + (n : Int), r, c⟩).toArray 84), by go_simp; rfl, ⟨_, rfl⟩, ?_, ?_⟩)) ?_
        · exact ⟨holda (below_allocs (Below.refl _ _) _) hI.1, holda (below_allocs (Below.refl _ _) _) hI.2.1, holda (below_allocs (Below.refl _ _) _) hI.2.2.1, holda (below_allocs (Below.refl _ _) _) hI.2.2.2⟩
        · exact ⟨below_tail hS (below_allocs (Below.refl _ _) _), _, rfl, hp_new rfl⟩
        rintro _ ⟨g, rfl⟩
        simp only [Act.put, List.setIfInBounds_toArray, List.set_cons_zero, List.set_cons_succ]
        refine Go.RL.AtL.one 13 (o := ⟨_, _, _, _, _, _⟩) (fun _ => True) (fun v w' => w'.ownsRow (q + 1) 84 4 v (Mn.length + 1) (flat encMk (Mn ++ [⟨ids + 1, 1 + (n : Int), r, c⟩])) ∧ Mod (Value.slice A Mn.length ca).ownBlock.toList wr w' ∧ (v.ownBlock = (Value.slice A Mn.length ca).ownBlock ∨ ∀ g, v.ownBlock = some g → wr.heap.size ≤ g)) (by simp) (by kernel_rfl) rfl (Go.RL.StabL.op _ _ (by rfl) (fun w' hI hS => ?_)) ?_
        · obtain ⟨hB3, g', hg', hgb⟩ := hS
          obtain rfl : g = g' := by simpa using hg'
          obtain ⟨i1, i2, i3, i4⟩ := hI
          obtain ⟨v', w2, hr2, ho2, hgr2, -, hob⟩ := run_append_own_at (P := Try.prog) w' (q + 1) 55 55 84 j0 (.agg #[.int .u64 0, .int .i64 0, .int .i64 0, .int .i64 0]) 4 32 Try.underlying55 hj gz0 gz1 gz2 rfl (by decide) _ _ _ (owns_bl HO.out.ownM hB3) ⟨g, 0, none⟩ 1 1 (encMk ⟨ids + 1, 1 + (n : Int), r, c⟩) rfl (fun j u hu => by
            rw [add_lit', Nat.zero_add, cell_of_row w' g j _ _ _ hgb]
            simpa using hu) (encMk_one _) (by simp only [maxLen]; omega) (by omega) (by have := lt_of_cell i1; omega)
          have hk : ∀ b, b = q ∨ b = w.heap.size → some b ≠ (Value.slice A Mn.length ca).ownBlock := fun b hb e => by
            have := HNE.out b e.symm
            omega
          refine ⟨v', w2, exec_append (.tmp 23) (.tmp 31) 55 rfl _ _ v' rfl rfl hr2, trivial, ⟨hgr2.cell i1 (hk _ (.inl rfl)), hgr2.cell i2 (hk _ (.inl rfl)), hgr2.cell i3 (hk _ (.inr rfl)), hgr2.cell i4 (hk _ (.inr rfl))⟩, by rw [← flat_snoc]; exact ho2, ?_, ?_⟩
          · exact (Mod.of_below hB3).trans (Mod.of_grown (X := (Value.slice A Mn.length ca).ownBlock.toList) hgr2 (fun g hg => by rw [hg]; simp)) (fun g hg => .inl hg)
          · rcases hob with h | h
            · exact .inl h
            · exact .inr (fun g hg => by rw [h] at hg; injection hg with hg; have := hB3.size; omega)
        rintro v1 -
        simp only [Act.put, List.setIfInBounds_toArray, List.set_cons_zero, List.set_cons_succ]
        refine Go.RL.AtL.take 14 (o := ⟨_, _, _, _, _, _⟩) (v := ?_) (by kernel_rfl) rfl (by simp) (by kernel_rfl) (by kernel_rfl) ?_ ?_; rotate_left
        · (refine Go.RL.Pure.val (by rfl) ?_; intro w' hI; obtain ⟨i1, i2, i3, i4⟩ := hI; go_simp; first | done | with_reducible rfl)
        simp only [Act.put, List.setIfInBounds_toArray, List.set_cons_zero, List.set_cons_succ]
        refine Go.RL.AtL.take 15 (o := ⟨_, _, _, _, _, _⟩) (v := ?_) (by kernel_rfl) rfl (by simp) (by kernel_rfl) (by kernel_rfl) ?_ ?_; rotate_left
        · (refine Go.RL.Pure.val (by rfl) ?_; intro w' hI; obtain ⟨i1, i2, i3, i4⟩ := hI; go_simp; first | done | with_reducible rfl)
        simp only [Act.put, List.setIfInBounds_toArray, List.set_cons_zero, List.set_cons_succ]
        refine Go.RL.AtL.done (by kernel_rfl) (fun w' hI hS => ?_)
        obtain ⟨hown2, hmm2, hn2⟩ := hS
        obtain ⟨A1, c1, hv1⟩ := row_form hown2
        subst hv1
        obtain ⟨hst2, hh2, hh2f⟩ := MkSt.add HO.out HM.out HS.out HSB.out.1 hmm2 hown2 hn2 HSB.out.2
        have HST2 := Lib.hid hst2
        clear hI hst2 hown2 hmm2 hn2
        go_wp2
        go_roundw
        case rel => exact ⟨n + 1, by omega, by go_num, by rw [HAD.out]; exact HST2.out⟩
        case measure => simp [intOf]; omega
  obtain ⟨vM', hO, hm, hs⟩ := hcut
  have HM1L := Lib.hid (addMk_len M (ids + 1) (r, c) 1 phase)
  generalize hM1 : addMk M (ids + 1) (r, c) 1 phase = M1 at hO HM1L
  have HM1 := Lib.hid hM1
  clear hM1
  obtain ⟨A, ca, hv⟩ := row_form hO.ownF
  have HV := Lib.hid hv
  have f0 := hO.f.1
  have i0 := hO.ids.1
  have d0 := hO.dir.1
  rw [hv] at f0
  have HO : Hid (RbO wc q vM' (.slice A F.length ca) M1 F mo (ids + 1) dir) := Lib.hid (by rw [← hv]; exact hO)
  have HM := Lib.hid hm
  have HS := Lib.hid hs
  have HNE := Lib.hid (show ∀ g, (Value.slice A F.length ca).ownBlock = some g → g ≠ q from fun g hg => by have := (HO.out.ownF.lt g hg).1; omega)
  have hqc := lt_of_cell f0
  clear hO hm hs hv
  go_wp2_with fail
  refine Go.RL.wp_region_l 18 (fun w' => w'.cell? ⟨q, 2, none⟩ = some (.slice A F.length ca) ∧ w'.cell? ⟨q, 3, none⟩ = some (.int .u64 (ids + 1)) ∧ w'.cell? ⟨q, 4, none⟩ = some (.string dir)) (fun w' => Below wc.heap.size wc w') (by kernel_rfl) (by kernel_rfl) ⟨f0, i0, d0⟩ ((Below.refl _ _).drew) ?_
  clear f0 i0 d0
  refine Go.RL.AtL.take 0 (o := ⟨_, _, _, _, _, _⟩) (v := ?_) (by kernel_rfl) rfl (by simp) (by kernel_rfl) (by kernel_rfl) ?_ ?_; rotate_left
  · (refine Go.RL.Pure.val (by rfl) ?_; intro w' hI; obtain ⟨i1, i2, i3⟩ := hI; go_simp; first | done | with_reducible rfl)
  simp only [Act.put, List.setIfInBounds_toArray, List.set_cons_zero, List.set_cons_succ]
  refine Go.RL.AtL.take 1 (o := ⟨_, _, _, _, _, _⟩) (v := ?_) (by kernel_rfl) rfl (by simp) (by kernel_rfl) (by kernel_rfl) ?_ ?_; rotate_left
  · (refine Go.RL.Pure.val (by rfl) ?_; intro w' hI; obtain ⟨i1, i2, i3⟩ := hI; go_simp; first | done | with_reducible rfl)
  simp only [Act.put, List.setIfInBounds_toArray, List.set_cons_zero, List.set_cons_succ]
  refine Go.RL.AtL.take 2 (o := ⟨_, _, _, _, _, _⟩) (v := ?_) (by kernel_rfl) rfl (by simp) (by kernel_rfl) (by kernel_rfl) ?_ ?_; rotate_left
  · (refine Go.RL.Pure.val (by rfl) ?_; intro w' hI; obtain ⟨i1, i2, i3⟩ := hI; go_simp; first | done | with_reducible rfl)
  simp only [Act.put, List.setIfInBounds_toArray, List.set_cons_zero, List.set_cons_succ]
  refine Go.RL.AtL.take 3 (o := ⟨_, _, _, _, _, _⟩) (v := ?_) (by kernel_rfl) rfl (by simp) (by kernel_rfl) (by kernel_rfl) ?_ ?_; rotate_left
  · (refine Go.RL.Pure.val (by rfl) ?_; intro w' hI; obtain ⟨i1, i2, i3⟩ := hI; go_simp; first | done | with_reducible rfl)
  simp only [Act.put, List.setIfInBounds_toArray, List.set_cons_zero, List.set_cons_succ]
  refine Go.RL.AtL.take 4 (o := ⟨_, _, _, _, _, _⟩) (v := ?_) (by kernel_rfl) rfl (by simp) (by kernel_rfl) (by kernel_rfl) ?_ ?_; rotate_left
  · (refine Go.RL.Pure.val (by rfl) ?_; intro w' hI; obtain ⟨i1, i2, i3⟩ := hI; go_simp; first | done | with_reducible rfl)
  simp only [Act.put, List.setIfInBounds_toArray, List.set_cons_zero, List.set_cons_succ]
  refine Go.RL.AtL.take 5 (o := ⟨_, _, _, _, _, _⟩) (v := ?_) (by kernel_rfl) rfl (by simp) (by kernel_rfl) (by kernel_rfl) ?_ ?_; rotate_left
  · (refine Go.RL.Pure.val (by rfl) ?_; intro w' hI; obtain ⟨i1, i2, i3⟩ := hI; go_simp; first | done | with_reducible rfl)
  simp only [Act.put, List.setIfInBounds_toArray, List.set_cons_zero, List.set_cons_succ]
  refine Go.RL.AtL.take 6 (o := ⟨_, _, _, _, _, _⟩) (v := ?_) (by kernel_rfl) rfl (by simp) (by kernel_rfl) (by kernel_rfl) ?_ ?_; rotate_left
  · (refine Go.RL.Pure.val (by rfl) ?_; intro w' hI; obtain ⟨i1, i2, i3⟩ := hI; go_simp; first | done | with_reducible rfl)
  simp only [Act.put, List.setIfInBounds_toArray, List.set_cons_zero, List.set_cons_succ]
  refine Go.RL.AtL.take 7 (o := ⟨_, _, _, _, _, _⟩) (v := ?_) (by kernel_rfl) rfl (by simp) (by kernel_rfl) (by kernel_rfl) ?_ ?_; rotate_left
  · (refine Go.RL.Pure.val (by rfl) ?_; intro w' hI; obtain ⟨i1, i2, i3⟩ := hI; go_simp; first | done | with_reducible rfl)
  simp only [Act.put, List.setIfInBounds_toArray, List.set_cons_zero, List.set_cons_succ]
  refine Go.RL.AtL.take 8 (o := ⟨_, _, _, _, _, _⟩) (v := ?_) (by kernel_rfl) rfl (by simp) (by kernel_rfl) (by kernel_rfl) ?_ ?_; rotate_left
  · (refine Go.RL.Pure.val (by rfl) ?_; intro w' hI; obtain ⟨i1, i2, i3⟩ := hI; go_simp; first | done | with_reducible rfl)
  simp only [Act.put, List.setIfInBounds_toArray, List.set_cons_zero, List.set_cons_succ]
  refine Go.RL.AtL.take 9 (o := ⟨_, _, _, _, _, _⟩) (v := ?_) (by kernel_rfl) rfl (by simp) (by kernel_rfl) (by kernel_rfl) ?_ ?_; rotate_left
  · (refine Go.RL.Pure.val (by rfl) ?_; intro w' hI; obtain ⟨i1, i2, i3⟩ := hI; go_simp; first | done | with_reducible rfl)
  simp only [Act.put, List.setIfInBounds_toArray, List.set_cons_zero, List.set_cons_succ]
  refine Go.RL.AtL.take 10 (o := ⟨_, _, _, _, _, _⟩) (v := ?_) (by kernel_rfl) rfl (by simp) (by kernel_rfl) (by kernel_rfl) ?_ ?_; rotate_left
  · (refine Go.RL.Pure.val (by rfl) ?_; intro w' hI; obtain ⟨i1, i2, i3⟩ := hI; go_simp; first | done | with_reducible rfl)
  simp only [Act.put, List.setIfInBounds_toArray, List.set_cons_zero, List.set_cons_succ]
  refine Go.RL.AtL.take 11 (o := ⟨_, _, _, _, _, _⟩) (v := ?_) (by kernel_rfl) rfl (by simp) (by kernel_rfl) (by kernel_rfl) ?_ ?_; rotate_left
  · (refine Go.RL.Pure.val (by rfl) ?_; intro w' hI; obtain ⟨i1, i2, i3⟩ := hI; go_simp; first | done | with_reducible rfl)
  simp only [Act.put, List.setIfInBounds_toArray, List.set_cons_zero, List.set_cons_succ]
  refine Go.RL.AtL.take 12 (o := ⟨_, _, _, _, _, _⟩) (v := ?_) (by kernel_rfl) rfl (by simp) (by kernel_rfl) (by kernel_rfl) ?_ ?_; rotate_left
  · (refine Go.RL.Pure.val (by rfl) ?_; intro w' hI; obtain ⟨i1, i2, i3⟩ := hI; go_simp; first | done | with_reducible rfl)
  simp only [Act.put, List.setIfInBounds_toArray, List.set_cons_zero, List.set_cons_succ]
  refine Go.RL.AtL.take 13 (o := ⟨_, _, _, _, _, _⟩) (v := ?_) (by kernel_rfl) rfl (by simp) (by kernel_rfl) (by kernel_rfl) ?_ ?_; rotate_left
  · (refine Go.RL.Pure.val (by rfl) ?_; intro w' hI; obtain ⟨i1, i2, i3⟩ := hI; go_simp; first | done | with_reducible rfl)
  simp only [Act.put, List.setIfInBounds_toArray, List.set_cons_zero, List.set_cons_succ]
  refine Go.RL.AtL.one 14 (o := ⟨_, _, _, _, _, _⟩) (fun v => ∃ g, v = .slice (some ⟨g, 0, none⟩) 1 1) (fun v w' => Below wc.heap.size wc w' ∧ ∃ g, v = .slice (some ⟨g, 0, none⟩) 1 1 ∧ w'.heap[g]? = some (.cells (encFc (newF (ids + 1) dir)).toArray 82 (0, 0))) (by simp) (by kernel_rfl) rfl (Go.RL.StabL.op _ _ (by rfl) (fun w' hI hS => ⟨.slice (some ⟨w'.heap.size, 0, none⟩) 1 1, w'.alloc (.cells (encFc (newF (ids + 1) dir)).toArray 82), by go_simp; rfl, ⟨_, rfl⟩, ?_, ?_⟩)) ?_
  · exact ⟨holda (below_allocs (Below.refl _ _) _) hI.1, holda (below_allocs (Below.refl _ _) _) hI.2.1, holda (below_allocs (Below.refl _ _) _) hI.2.2⟩
  · exact ⟨below_tail hS (below_allocs (Below.refl _ _) _), _, rfl, hp_new rfl⟩
  rintro _ ⟨g, rfl⟩
  simp only [Act.put, List.setIfInBounds_toArray, List.set_cons_zero, List.set_cons_succ]
  refine Go.RL.AtL.one 15 (o := ⟨_, _, _, _, _, _⟩) (fun _ => True) (fun v w' => w'.ownsRow (q + 1) 82 6 v (F.length + 1) (flat encFc (F ++ [newF (ids + 1) dir])) ∧ Mod (Value.slice A F.length ca).ownBlock.toList wc w' ∧ (v.ownBlock = (Value.slice A F.length ca).ownBlock ∨ ∀ g, v.ownBlock = some g → wc.heap.size ≤ g)) (by simp) (by kernel_rfl) rfl (Go.RL.StabL.op _ _ (by rfl) (fun w' hI hS => ?_)) ?_
  · obtain ⟨hB3, g', hg', hgb⟩ := hS
    obtain rfl : g = g' := by simpa using hg'
    obtain ⟨i1, i2, i3⟩ := hI
    obtain ⟨v', w2, hr2, ho2, hgr2, -, hob⟩ := run_append_own_at (P := Try.prog) w' (q + 1) 56 56 82 k0 (.agg #[.int .u64 0, .int .i64 0, .bool false, .bool false, .string ByteArray.empty, .string ByteArray.empty]) 6 56 Try.underlying56 hk hz0 hz1 hz2' rfl (by decide) _ _ _ (owns_bl HO.out.ownF hB3) ⟨g, 0, none⟩ 1 1 (encFc (newF (ids + 1) dir)) rfl (fun j u hu => by
      rw [add_lit', Nat.zero_add, cell_of_row w' g j _ _ _ hgb]
      simpa using hu) (encFc_one _) (by simp only [maxLen]; omega) (by omega) (by have := lt_of_cell i1; omega)
    have hkk : some q ≠ (Value.slice A F.length ca).ownBlock := fun e => HNE.out q e.symm rfl
    refine ⟨v', w2, exec_append (.tmp 39) (.tmp 49) 56 rfl _ _ v' rfl rfl hr2, trivial, ⟨hgr2.cell i1 hkk, hgr2.cell i2 hkk, hgr2.cell i3 hkk⟩, by rw [← flat_snoc]; exact ho2, ?_, ?_⟩
    · exact (Mod.of_below hB3).trans (Mod.of_grown (X := (Value.slice A F.length ca).ownBlock.toList) hgr2 (fun g hg => by rw [hg]; simp)) (fun g hg => .inl hg)
    · rcases hob with h | h
      · exact .inl h
      · exact .inr (fun g hg => by rw [h] at hg; injection hg with hg; have := hB3.size; omega)
  rintro v1 -
  simp only [Act.put, List.setIfInBounds_toArray, List.set_cons_zero, List.set_cons_succ]
  refine Go.RL.AtL.take 16 (o := ⟨_, _, _, _, _, _⟩) (v := ?_) (by kernel_rfl) rfl (by simp) (by kernel_rfl) (by kernel_rfl) ?_ ?_; rotate_left
  · (refine Go.RL.Pure.val (by rfl) ?_; intro w' hI; obtain ⟨i1, i2, i3⟩ := hI; go_simp; first | done | with_reducible rfl)
  simp only [Act.put, List.setIfInBounds_toArray, List.set_cons_zero, List.set_cons_succ]
  refine Go.RL.AtL.take 17 (o := ⟨_, _, _, _, _, _⟩) (v := ?_) (by kernel_rfl) rfl (by simp) (by kernel_rfl) (by kernel_rfl) ?_ ?_; rotate_left
  · (refine Go.RL.Pure.val (by rfl) ?_; intro w' hI; obtain ⟨i1, i2, i3⟩ := hI; go_simp; first | done | with_reducible rfl)
  simp only [Act.put, List.setIfInBounds_toArray, List.set_cons_zero, List.set_cons_succ]
  refine Go.RL.AtL.done (by kernel_rfl) (fun w' hI hS => ?_)
  obtain ⟨hown2, hmm2, hn2⟩ := hS
  obtain ⟨A1, c1, hv1⟩ := row_form hown2
  subst hv1
  obtain ⟨h6, hm6, hh6, hh6f⟩ := HO.out.setF (w5 := w') (v1 := .slice A1 (F.length + 1) c1) (F' := F ++ [newF (ids + 1) dir]) hmm2 (by rw [List.length_append]; exact hown2)
  have HN2 := Lib.hid hn2
  clear hI hown2 hmm2 hn2
  go_upto_region 7 with fail
  generalize hW6 : World.setCell _ _ _ = W6
  rw [hW6] at h6 hm6
  have HO6 := Lib.hid h6
  have q2 := h6.f.1
  have q0 := h6.most
  have HM6 : Hid (Mod (rfoot q vM vF) w W6) := Lib.hid (((HMW.out.mono (Y := rfoot q vM vF) (fun g hg => by rw [List.mem_singleton.1 hg]; simp [rfoot])).trans HM.out (fun g hg => .inl hg)).trans hm6 (fun g hg => by
    rcases List.mem_cons.1 hg with rfl | hg
    · exact .inl (by simp [rfoot])
    · rw [← HV.out] at hg
      exact .inl (by simp only [rfoot, List.mem_cons, List.mem_append]; exact .inr (.inr hg))))
  have HF6 : Hid (∀ g ∈ rfoot q vM' (.slice A1 (F.length + 1) c1), g ∈ rfoot q vM vF ∨ w.heap.size ≤ g) := Lib.hid (fun g hg => by
    rcases List.mem_cons.1 hg with rfl | hg
    · exact .inl (by simp [rfoot])
    · rcases List.mem_append.1 hg with hg | hg
      · rcases HS.out g (by simpa [Option.mem_toList] using hg) with h | h
        · exact .inl h
        · exact .inr (by omega)
      · rcases HN2.out with h | h
        · rw [h, ← HV.out] at hg
          exact .inl (by simp only [rfoot, List.mem_cons, List.mem_append]; exact .inr (.inr hg))
        · have h1 := h g (by simpa [Option.mem_toList] using hg)
          have h2 := HM.out.size
          have h3 := HSB.out.1
          exact .inr (by omega))
  clear h6 hm6 hh6 hh6f hW6
  refine wp_region_u 9 (fun w' => Below W6.heap.size W6 w' ∧ w'.cell? ⟨q, 2, none⟩ = some (.slice A1 (F.length + 1) c1) ∧ w'.cell? ⟨q, 0, none⟩ = some (.int .i64 mo)) (by kernel_rfl) (by kernel_rfl) ?_ ?_
  · exact ⟨(Below.refl _ _).drew, q2, q0⟩
  simp only [List.take_succ_cons, List.take_zero, List.drop_succ_cons, List.drop_zero]
  repeat (refine seqU_val ?_ (by rfl) ?_ ?_; rotate_left; · (intro w' hS; obtain ⟨_, _⟩ := hS; go_simp; first | done | with_reducible rfl)
          simp only [Act.put, List.setIfInBounds_toArray, List.set_cons_zero, List.set_cons_succ])
  refine seqU_nil (fun w' hS => ?_)
  have hB7 := hS.1
  clear hS q2 q0
  by_cases hfull : mo < F.length + 1
  rotate_left
  · have hf1 : ¬ (mo : Int) < (F.length : Int) + 1 := by omega
    go_wp2
    go_end0
    exact ⟨_, _, RbPost.chain HM6.out HF6.out (RbPost.here HO6.out hB7), .inl ⟨by omega, HM1.out.symm, rfl⟩⟩
  · have hf1 : (mo : Int) < (F.length : Int) + 1 := by omega
    obtain ⟨f, F1, hfx⟩ : ∃ f F1, F ++ [newF (ids + 1) dir] = f :: F1 := by cases F <;> simp
    have hl1 : F1.length = F.length := by have := congrArg List.length hfx; simp at this; omega
    have HFX := Lib.hid hfx
    have HDR := Lib.hid (rdrop_any w' (show RbO w' q vM' (.slice A1 (F.length + 1) c1) M1 (f :: F1) mo (ids + 1) dir from by rw [← hfx]; exact HO6.out.below hB7) (by omega) (by rw [HM1L.out]; omega) (by omega))
    have HB7 := Lib.hid hB7
    have HFL := Lib.hid hfull
    clear hfx hl1 hfull hB7
    go_wp2_with (go_at_call 34; refine HDR.out.mono ?_; rintro e w9 ⟨rfl, hp9⟩; have HP9 := Lib.hid hp9; clear hp9)
    go_end0
    exact ⟨_, _, RbPost.chain (HM6.out.then_below HB7.out) HF6.out ⟨rfl, HP9.out⟩, .inr ⟨HFL.out, f, F1, HFX.out, by rw [HM1.out], rfl⟩⟩
end Go.Proofs.Ytgfaincejebogaa
