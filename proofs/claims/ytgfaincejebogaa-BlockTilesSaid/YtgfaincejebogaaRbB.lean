/- The document's blocks: reach. Conditions: as stated. -/
import Derived.Test.YtgfaincejebogaaRbA
import Derived.Test.YtgfaincejebogaaRegL
namespace Go.Proofs.Ytgfaincejebogaa
open Go.RowKit

def addMk (M : List Mk) (ids : Int) (p : P2) (k0 : Int) : Nat → List Mk
  | 0 => M
  | n + 1 => addMk M ids p k0 n ++ [⟨ids, k0 + n, p.1, p.2⟩]
theorem addMk_len (M : List Mk) (ids : Int) (p : P2) (k0 : Int) : ∀ n, (addMk M ids p k0 n).length = M.length + n
  | 0 => rfl
  | n + 1 => by rw [addMk, List.length_append, addMk_len M ids p k0 n]; rfl
/-- What a loop that adds marks keeps; s: the block of the place. -/
def MkSt (Wb : World) (q : Nat) (vM vF : Value) (M' : List Mk) (F : List Fc) (most ids : Int) (dir : ByteArray) (s : Nat) (wr : World) : Prop :=
  ∃ vM', RbO wr q vM' vF M' F most ids dir ∧ Mod (rfoot q vM vF) Wb wr ∧ ∀ g, vM'.ownBlock = some g → g ∈ rfoot q vM vF ∨ s < g
theorem MkSt.add {Wb wr w1 : World} {q s : Nat} {vM vF vM' v1 : Value} {M' : List Mk} {F : List Fc} {most ids : Int} {dir : ByteArray} {x : Mk} (h : RbO wr q vM' vF M' F most ids dir) (hm : Mod (rfoot q vM vF) Wb wr) (hs : ∀ g, vM'.ownBlock = some g → g ∈ rfoot q vM vF ∨ s < g) (hsb : s < Wb.heap.size)
    (hmm : Mod vM'.ownBlock.toList wr w1) (ho : w1.ownsRow (q + 1) 84 4 v1 (M'.length + 1) (flat encMk (M' ++ [x]))) (hn : v1.ownBlock = vM'.ownBlock ∨ ∀ g, v1.ownBlock = some g → wr.heap.size ≤ g) (hsw : Wb.heap.size ≤ s + 1) :
    MkSt Wb q vM vF (M' ++ [x]) F most ids dir s (w1.setCell ⟨q, 1, none⟩ v1) ∧ HoldAt w1 q 1 vM' := by
  obtain ⟨k1, k2, k3⟩ := h.setM (v1 := v1) (M' := M' ++ [x]) hmm (by rw [List.length_append]; exact ho)
  refine ⟨⟨v1, k1, hm.trans k2 (fun g hg => ?_), fun g hg => ?_⟩, k3⟩
  · rcases List.mem_cons.1 hg with rfl | hg
    · exact .inl (by simp [rfoot])
    · rcases hs g (by simpa [Option.mem_toList] using hg) with h | h
      · exact .inl h
      · exact .inr (by omega)
  · rcases hn with h | h
    · exact hs g (by rw [← h]; exact hg)
    · exact .inr (by have := h g hg; have := hm.size; omega)
def RbPost (w : World) (q : Nat) (vM vF : Value) (M' : List Mk) (F' : List Fc) (most ids' : Int) (dir' : ByteArray) (e : Ending) (w' : World) : Prop :=
  e = .returned (.tuple #[]) ∧ ∃ vM' vF', RbO w' q vM' vF' M' F' most ids' dir' ∧ Mod (rfoot q vM vF) w w' ∧ ∀ g ∈ rfoot q vM' vF', g ∈ rfoot q vM vF ∨ w.heap.size ≤ g
theorem MkSt.post {w wr : World} {q : Nat} {vM vF : Value} {M' : List Mk} {F : List Fc} {most ids : Int} {dir : ByteArray} {o : Obj} (h : MkSt (w.alloc o) q vM vF M' F most ids dir w.heap.size wr) : RbPost w q vM vF M' F most ids dir (.returned (.tuple #[])) wr := by
  obtain ⟨vM', h1, h2, h3⟩ := h
  refine ⟨rfl, vM', vF, h1, (Mod.of_below (below_allocs (Below.refl _ _) o)).trans h2 (fun g hg => .inl hg), fun g hg => ?_⟩
  rcases List.mem_cons.1 hg with rfl | hg
  · exact .inl (by simp [rfoot])
  · rcases List.mem_append.1 hg with hg | hg
    · rcases h3 g (by simpa [Option.mem_toList] using hg) with h | h
      · exact .inl h
      · exact .inr (by omega)
    · exact .inl (by simp only [rfoot, List.mem_cons, List.mem_append]; exact .inr (.inr hg))
set_option maxRecDepth 100000 in
set_option maxHeartbeats 3200000 in
theorem rreach_any {q : Nat} {vM vF : Value} {M : List Mk} {F : List Fc} {most ids : Int} {dir : ByteArray} (phase lp : Nat) (r c : Int) (w : World) (h : RbO w q vM vF M F most ids dir) (hz : M.length ≤ 1000) (hlp : lastPh M = lp) (hlp4 : lp ≤ 4) (hph : phase ≤ 4) :
    Calls Try.prog 38 #[.pointer (some ⟨q, 0, none⟩), .int .i64 phase, .agg #[.int .i64 r, .int .i64 c]] w (RbPost w q vM vF (addMk M ids (r, c) ((lp : Int) + 1) (phase - lp)) F most ids dir) := by
  obtain ⟨j0, hj, gz0, gz1, gz2⟩ := info_parts info_mk
  have hb1 : Below w.heap.size w (w.alloc (.cells #[.int .i64 r, .int .i64 c] 24)) := below_allocs (Below.refl _ _) _
  have HPH : Hid (Calls Try.prog 36 #[.pointer (some ⟨q, 0, none⟩)] (w.alloc (.cells #[.int .i64 r, .int .i64 c] 24)) fun e w' => e = .returned (.int .i64 (lp : Int)) ∧ Below (w.alloc (.cells #[.int .i64 r, .int .i64 c] 24)).heap.size (w.alloc (.cells #[.int .i64 r, .int .i64 c] 24)) w') := Lib.hid (by rw [← hlp]; exact rphase_any _ (h.below hb1) (by omega))
  have HST : Hid (∀ w1, Below (w.alloc (.cells #[.int .i64 r, .int .i64 c] 24)).heap.size (w.alloc (.cells #[.int .i64 r, .int .i64 c] 24)) w1 → MkSt (w.alloc (.cells #[.int .i64 r, .int .i64 c] 24)) q vM vF M F most ids dir w.heap.size w1) := Lib.hid (fun w1 hb => ⟨vM, h.below (below_tail hb1 hb), Mod.of_below hb, fun g hg => .inl (by simp [rfoot, hg])⟩)
  have HBX : Hid (∀ w1, Mod (rfoot q vM vF) (w.alloc (.cells #[.int .i64 r, .int .i64 c] 24)) w1 → w1.cell? ⟨w.heap.size, 0, none⟩ = some (.int .i64 r) ∧ w1.cell? ⟨w.heap.size, 1, none⟩ = some (.int .i64 c)) := Lib.hid (fun w1 hm => by
    have hx : w.heap.size ∉ rfoot q vM vF := fun hx => by have := h.lt _ hx; omega
    exact ⟨hm.cell hx (at_ (hp_new rfl) 0 _ rfl).1, hm.cell hx (at_ (hp_new rfl) 1 _ rfl).1⟩)
  have HXF := Lib.hid (show w.heap.size ∉ rfoot q vM vF from fun hx => by have := h.lt _ hx; omega)
  clear h hb1 hlp
  go_enter Try.func38, Try.ntmps38
  go_wp2_with (go_at_call 36; refine HPH.out.mono ?_; rintro e w1 ⟨rfl, hb2⟩; have HB2 := Lib.hid hb2; clear hb2)
  go_loopw [6] (fun s6 wr => ∃ n : Nat, n ≤ phase - lp ∧ s6 = .int .i64 ((lp : Int) + 1 + n) ∧ MkSt (w.alloc (.cells #[.int .i64 r, .int .i64 c] 24)) q vM vF (addMk M ids (r, c) ((lp : Int) + 1) n) F most ids dir w.heap.size wr) (fun s6 _ => 6 - (intOf s6).toNat)
  case atStart => exact ⟨0, Nat.zero_le _, by simp, HST.out _ HB2.out⟩
  case round =>
    obtain ⟨n, hn, rfl, hst⟩ := hrel
    by_cases hlt : n < phase - lp
    rotate_left
    · have hge : ¬ (lp : Int) + 1 + (n : Int) ≤ (phase : Int) := by omega
      have HN := Lib.hid (show n = phase - lp by omega)
      have HS := Lib.hid hst
      clear hst
      go_wp2
      go_end0
      rw [← HN.out]
      exact HS.out.post
    · obtain ⟨vM', hO, hm, hs⟩ := hst
      obtain ⟨p0, p1⟩ := HBX.out _ hm
      obtain ⟨A, ca, hv⟩ := row_form hO.ownM
      subst hv
      have hlen := addMk_len M ids (r, c) ((lp : Int) + 1) n
      have m0 := hO.m.1
      have i0 := hO.ids.1
      have hle : (lp : Int) + 1 + (n : Int) ≤ (phase : Int) := by omega
      have hns : (n : Int) ≤ 4 := by omega
      have HO := Lib.hid hO
      have HM := Lib.hid hm
      have HS := Lib.hid hs
      have HAD := Lib.hid (show addMk M ids (r, c) ((lp : Int) + 1) (n + 1) = addMk M ids (r, c) ((lp : Int) + 1) n ++ [⟨ids, (lp : Int) + 1 + n, r, c⟩] from rfl)
      generalize addMk M ids (r, c) ((lp : Int) + 1) n = Mn at *
      have hlz : Mn.length ≤ 1010 := by omega
      clear hlen
      have hqs := lt_of_cell m0
      have HSB := Lib.hid (show w.heap.size < (w.alloc (.cells #[.int .i64 r, .int .i64 c] 24)).heap.size ∧ (w.alloc (.cells #[.int .i64 r, .int .i64 c] 24)).heap.size ≤ w.heap.size + 1 from by simp)
      clear hO hm hs
      have HNE := Lib.hid (show ∀ g, (Value.slice A Mn.length ca).ownBlock = some g → g ≠ q ∧ g ≠ w.heap.size from fun g hg => ⟨by have := (HO.out.ownM.lt g hg).1; omega, fun e => by
        rcases HS.out g hg with h | h
        · rw [e] at h; exact HXF.out h
        · omega⟩)
      go_wp2_with fail
      refine Go.RL.wp_region_l 16 (fun w' => w'.cell? ⟨q, 1, none⟩ = some (.slice A Mn.length ca) ∧ w'.cell? ⟨q, 3, none⟩ = some (.int .u64 ids) ∧ w'.cell? ⟨w.heap.size, 0, none⟩ = some (.int .i64 r) ∧ w'.cell? ⟨w.heap.size, 1, none⟩ = some (.int .i64 c)) (fun w' => Below wr.heap.size wr w') (by kernel_rfl) (by kernel_rfl) ⟨m0, i0, p0, p1⟩ ((Below.refl _ _).drew) ?_
      clear m0 i0 p0 p1
      refine Go.RL.AtL.take 0 (o := ⟨_, _, _, _, _, _⟩) (v := ?_) (by kernel_rfl) rfl (by simp) (by kernel_rfl) (by kernel_rfl) ?_ ?_; rotate_left
      · (refine Go.RL.Pure.val (by rfl) ?_; intro w' hI; obtain ⟨i1, i2, i3, i4⟩ := hI; go_simp; first | done | with_reducible rfl)
      simp only [Act.put, List.setIfInBounds_toArray, List.set_cons_zero, List.set_cons_succ]
      refine Go.RL.AtL.take 1 (o := ⟨_, _, _, _, _, _⟩) (v := ?_) (by kernel_rfl) rfl (by simp) (by kernel_rfl) (by kernel_rfl) ?_ ?_; rotate_left
      · (refine Go.RL.Pure.val (by rfl) ?_; intro w' hI; obtain ⟨i1, i2, i3, i4⟩ := hI; go_simp; first | done | with_reducible rfl)
      simp only [Act.put, List.setIfInBounds_toArray, List.set_cons_zero, List.set_cons_succ]
      refine Go.RL.AtL.take 2 (o := ⟨_, _, _, _, _, _⟩) (v := ?_) (by kernel_rfl) rfl (by simp) (by kernel_rfl) (by kernel_rfl) ?_ ?_; rotate_left
      · (refine Go.RL.Pure.val (by rfl) ?_; intro w' hI; obtain ⟨i1, i2, i3, i4⟩ := hI; go_simp; first | done | with_reducible rfl)
      simp only [Act.put, List.setIfInBounds_toArray, List.set_cons_zero, List.set_cons_succ]
      refine Go.RL.AtL.take 3 (o := ⟨_, _, _, _, _, _⟩) (v := ?_) (by kernel_rfl) rfl (by simp) (by kernel_rfl) (by kernel_rfl) ?_ ?_; rotate_left
      · (refine Go.RL.Pure.val (by rfl) ?_; intro w' hI; obtain ⟨i1, i2, i3, i4⟩ := hI; go_simp; first | done | with_reducible rfl)
      simp only [Act.put, List.setIfInBounds_toArray, List.set_cons_zero, List.set_cons_succ]
      refine Go.RL.AtL.take 4 (o := ⟨_, _, _, _, _, _⟩) (v := ?_) (by kernel_rfl) rfl (by simp) (by kernel_rfl) (by kernel_rfl) ?_ ?_; rotate_left
      · (refine Go.RL.Pure.val (by rfl) ?_; intro w' hI; obtain ⟨i1, i2, i3, i4⟩ := hI; go_simp; first | done | with_reducible rfl)
      simp only [Act.put, List.setIfInBounds_toArray, List.set_cons_zero, List.set_cons_succ]
      refine Go.RL.AtL.take 5 (o := ⟨_, _, _, _, _, _⟩) (v := ?_) (by kernel_rfl) rfl (by simp) (by kernel_rfl) (by kernel_rfl) ?_ ?_; rotate_left
      · (refine Go.RL.Pure.val (by rfl) ?_; intro w' hI; obtain ⟨i1, i2, i3, i4⟩ := hI; go_simp; first | done | with_reducible rfl)
      simp only [Act.put, List.setIfInBounds_toArray, List.set_cons_zero, List.set_cons_succ]
      refine Go.RL.AtL.take 6 (o := ⟨_, _, _, _, _, _⟩) (v := ?_) (by kernel_rfl) rfl (by simp) (by kernel_rfl) (by kernel_rfl) ?_ ?_; rotate_left
      · (refine Go.RL.Pure.val (by rfl) ?_; intro w' hI; obtain ⟨i1, i2, i3, i4⟩ := hI; go_simp; first | done | with_reducible rfl)
      simp only [Act.put, List.setIfInBounds_toArray, List.set_cons_zero, List.set_cons_succ]
      refine Go.RL.AtL.take 7 (o := ⟨_, _, _, _, _, _⟩) (v := ?_) (by kernel_rfl) rfl (by simp) (by kernel_rfl) (by kernel_rfl) ?_ ?_; rotate_left
      · (refine Go.RL.Pure.val (by rfl) ?_; intro w' hI; obtain ⟨i1, i2, i3, i4⟩ := hI; go_simp; first | done | with_reducible rfl)
      simp only [Act.put, List.setIfInBounds_toArray, List.set_cons_zero, List.set_cons_succ]
      refine Go.RL.AtL.take 8 (o := ⟨_, _, _, _, _, _⟩) (v := ?_) (by kernel_rfl) rfl (by simp) (by kernel_rfl) (by kernel_rfl) ?_ ?_; rotate_left
      · (refine Go.RL.Pure.val (by rfl) ?_; intro w' hI; obtain ⟨i1, i2, i3, i4⟩ := hI; go_simp; first | done | with_reducible rfl)
      simp only [Act.put, List.setIfInBounds_toArray, List.set_cons_zero, List.set_cons_succ]
      refine Go.RL.AtL.take 9 (o := ⟨_, _, _, _, _, _⟩) (v := ?_) (by kernel_rfl) rfl (by simp) (by kernel_rfl) (by kernel_rfl) ?_ ?_; rotate_left
      · (refine Go.RL.Pure.val (by rfl) ?_; intro w' hI; obtain ⟨i1, i2, i3, i4⟩ := hI; go_simp; first | done | with_reducible rfl)
      simp only [Act.put, List.setIfInBounds_toArray, List.set_cons_zero, List.set_cons_succ]
      refine Go.RL.AtL.take 10 (o := ⟨_, _, _, _, _, _⟩) (v := ?_) (by kernel_rfl) rfl (by simp) (by kernel_rfl) (by kernel_rfl) ?_ ?_; rotate_left
      · (refine Go.RL.Pure.val (by rfl) ?_; intro w' hI; obtain ⟨i1, i2, i3, i4⟩ := hI; go_simp; first | done | with_reducible rfl)
      simp only [Act.put, List.setIfInBounds_toArray, List.set_cons_zero, List.set_cons_succ]
      refine Go.RL.AtL.take 11 (o := ⟨_, _, _, _, _, _⟩) (v := ?_) (by kernel_rfl) rfl (by simp) (by kernel_rfl) (by kernel_rfl) ?_ ?_; rotate_left
      · (refine Go.RL.Pure.val (by rfl) ?_; intro w' hI; obtain ⟨i1, i2, i3, i4⟩ := hI; go_simp; first | done | with_reducible rfl)
      simp only [Act.put, List.setIfInBounds_toArray, List.set_cons_zero, List.set_cons_succ]
      refine Go.RL.AtL.one 12 (o := ⟨_, _, _, _, _, _⟩) (fun v => ∃ g, v = .slice (some ⟨g, 0, none⟩) 1 1) (fun v w' => Below wr.heap.size wr w' ∧ ∃ g, v = .slice (some ⟨g, 0, none⟩) 1 1 ∧ w'.heap[g]? = some (.cells (encMk ⟨ids, (lp : Int) + 1 + n, r, c⟩).toArray 84 (0, 0))) (by simp) (by kernel_rfl) rfl (Go.RL.StabL.op _ _ (by rfl) (fun w' hI hS => ⟨.slice (some ⟨w'.heap.size, 0, none⟩) 1 1, w'.alloc (.cells (encMk ⟨ids, (lp : Int) + 1 + n, r, c⟩).toArray 84), by go_simp; rfl, ⟨_, rfl⟩, ?_, ?_⟩)) ?_
      · exact ⟨holda (below_allocs (Below.refl _ _) _) hI.1, holda (below_allocs (Below.refl _ _) _) hI.2.1, holda (below_allocs (Below.refl _ _) _) hI.2.2.1, holda (below_allocs (Below.refl _ _) _) hI.2.2.2⟩
      · exact ⟨below_tail hS (below_allocs (Below.refl _ _) _), _, rfl, hp_new rfl⟩
      rintro _ ⟨g, rfl⟩
      simp only [Act.put, List.setIfInBounds_toArray, List.set_cons_zero, List.set_cons_succ]
      refine Go.RL.AtL.one 13 (o := ⟨_, _, _, _, _, _⟩) (fun _ => True) (fun v w' => w'.ownsRow (q + 1) 84 4 v (Mn.length + 1) (flat encMk (Mn ++ [⟨ids, (lp : Int) + 1 + n, r, c⟩])) ∧ Mod (Value.slice A Mn.length ca).ownBlock.toList wr w' ∧ (v.ownBlock = (Value.slice A Mn.length ca).ownBlock ∨ ∀ g, v.ownBlock = some g → wr.heap.size ≤ g)) (by simp) (by kernel_rfl) rfl (Go.RL.StabL.op _ _ (by rfl) (fun w' hI hS => ?_)) ?_
      · obtain ⟨hB3, g', hg', hgb⟩ := hS
        obtain rfl : g = g' := by simpa using hg'
        obtain ⟨i1, i2, i3, i4⟩ := hI
        obtain ⟨v', w2, hr2, ho2, hgr2, -, hob⟩ := run_append_own_at (P := Try.prog) w' (q + 1) 55 55 84 j0 (.agg #[.int .u64 0, .int .i64 0, .int .i64 0, .int .i64 0]) 4 32 Try.underlying55 hj gz0 gz1 gz2 rfl (by decide) _ _ _ (owns_bl HO.out.ownM hB3) ⟨g, 0, none⟩ 1 1 (encMk ⟨ids, (lp : Int) + 1 + n, r, c⟩) rfl (fun j u hu => by
          rw [add_lit', Nat.zero_add, cell_of_row w' g j _ _ _ hgb]
          simpa using hu) (encMk_one _) (by simp only [maxLen]; omega) (by omega) (by have := lt_of_cell i1; omega)
        have hk : ∀ b, b = q ∨ b = w.heap.size → some b ≠ (Value.slice A Mn.length ca).ownBlock := fun b hb e => by
          have := HNE.out b e.symm
          omega
        refine ⟨v', w2, exec_append (.tmp 19) (.tmp 27) 55 rfl _ _ v' rfl rfl hr2, trivial, ⟨hgr2.cell i1 (hk _ (.inl rfl)), hgr2.cell i2 (hk _ (.inl rfl)), hgr2.cell i3 (hk _ (.inr rfl)), hgr2.cell i4 (hk _ (.inr rfl))⟩, by rw [← flat_snoc]; exact ho2, ?_, ?_⟩
        · exact (Mod.of_below hB3).trans (Mod.of_grown (X := (Value.slice A Mn.length ca).ownBlock.toList) hgr2 (fun g hg => by rw [hg]; simp)) (fun g hg => .inl hg)
        · rcases hob with h | h
          · exact .inl h
          · exact .inr (fun g hg => by rw [h] at hg; injection hg with hg; have := hB3.size; omega)
      rintro v1 -
      simp only [Act.put, List.setIfInBounds_toArray, List.set_cons_zero, List.set_cons_succ]
      refine Go.RL.AtL.take 14 (o := ⟨_, _, _, _, _, _⟩) (v := ?_) (by kernel_rfl) rfl (by simp) (by kernel_rfl) (by kernel_rfl) ?_ ?_; rotate_left
      · (refine Go.RL.Pure.val (by rfl) ?_; intro w' hI; obtain ⟨i1, i2, i3, i4⟩ := hI; go_simp; first | done | with_reducible rfl)
      simp only [Act.put, List.setIfInBounds_toArray, List.set_cons_zero, List.set_cons_succ]
      refine Go.RL.AtL.take 15 (o := ⟨_, _, _, _, _, _⟩) (v := ?_) (by kernel_rfl) rfl (by simp) (by kernel_rfl) (by kernel_rfl) ?_ ?_; rotate_left
      · (refine Go.RL.Pure.val (by rfl) ?_; intro w' hI; obtain ⟨i1, i2, i3, i4⟩ := hI; go_simp; first | done | with_reducible rfl)
      simp only [Act.put, List.setIfInBounds_toArray, List.set_cons_zero, List.set_cons_succ]
      refine Go.RL.AtL.done (by kernel_rfl) (fun w' hI hS => ?_)
      obtain ⟨hown2, hmm2, hn2⟩ := hS
      obtain ⟨A1, c1, hv1⟩ := row_form hown2
      subst hv1
      obtain ⟨hst2, hh2, hh2f⟩ := MkSt.add HO.out HM.out HS.out HSB.out.1 hmm2 hown2 hn2 HSB.out.2
      have HST2 := Lib.hid hst2
      clear hI hst2 hown2 hmm2 hn2
      go_wp2
      go_roundw
      case rel => exact ⟨n + 1, by omega, by go_num, by rw [HAD.out]; exact HST2.out⟩
      case measure => simp [intOf]; omega
end Go.Proofs.Ytgfaincejebogaa
