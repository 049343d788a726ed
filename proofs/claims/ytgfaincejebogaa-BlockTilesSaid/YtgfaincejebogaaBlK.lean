/- The program's blocks: shown. Conditions: as stated. -/
import Derived.Test.YtgfaincejebogaaBlJ
import Derived.Test.YtgfaincejebogaaBkC
namespace Go.Proofs.Ytgfaincejebogaa
open Go.RowKit

/-- The places of a block, up to where it stops. -/
def shownL (E : Ent) (s : P2) : List P2 := E.pl.take E.ph ++ List.replicate (4 - E.ph) s
theorem shownL_len {E : Ent} (h : EntOk E) (s : P2) : (shownL E s).length = 4 := by
  have := h.four
  have := h.hi
  unfold shownL
  simp
  omega
def shQ (E : Ent) (s : P2) (i : Nat) : P2 := (shownL E s).getD i (0, 0)
def shownB (E : Ent) (s : P2) : Bk := ⟨E.id, E.ph, (shQ E s 0).1, (shQ E s 0).2, (shQ E s 1).1, (shQ E s 1).2, (shQ E s 2).1, (shQ E s 2).2, (shQ E s 3).1, (shQ E s 3).2, s.1, s.2, E.code, E.has, E.cut, E.dir, E.line⟩
def BkPost (w : World) (c : Bk) (e : Ending) (w' : World) : Prop := e = .returned (vB c) ∧ Below w.heap.size w w'
theorem at_new_row {E : Ent} (ok : EntOk E) (s : P2) : flat encP (E.pl.take E.ph) ++ (flat encP [s, s, s, s]).drop (0 + (flat encP (E.pl.take E.ph)).length) = flat encP (shownL E s) := by
  have hl : (flat encP (E.pl.take E.ph)).length = E.ph * 2 := by rw [flat_len encP_len, List.length_take, Nat.min_eq_left (by have := ok.four; have := ok.hi; omega)]
  rw [hl, Nat.zero_add]
  unfold shownL
  rw [flat_append]
  congr 1
  have h1 := ok.lo
  have h4 := ok.hi
  rcases (show E.ph = 1 ∨ E.ph = 2 ∨ E.ph = 3 ∨ E.ph = 4 by omega) with e | e | e | e <;> rw [e] <;> rfl
theorem cells_of_places {w : World} {b : Nat} {t : TypeId} {l : List P2} (h : w.heap[b]? = some (.cells (flat encP l).toArray t (0, 0))) {i : Nat} (hi : i < l.length) : w.cell? ⟨b, i * 2, none⟩ = some (.int .i64 (l.getD i (0, 0)).1) ∧ w.cell? ⟨b, i * 2 + 1, none⟩ = some (.int .i64 (l.getD i (0, 0)).2) := by
  have hg : l[i]? = some (l.getD i (0, 0)) := by rw [List.getD_eq_getElem?_getD, List.getElem?_eq_getElem hi]; rfl
  have f0 := flat_at (enc := encP) (k := 2) encP_len l i _ hg 0 (by omega)
  have f1 := flat_at (enc := encP) (k := 2) encP_len l i _ hg 1 (by omega)
  rw [Nat.add_zero] at f0
  exact ⟨(whole_at h (i * 2) _ (by rw [f0]; rfl)).1, (whole_at h (i * 2 + 1) _ (by rw [f1]; rfl)).1⟩
set_option maxRecDepth 100000 in
set_option maxHeartbeats 6400000 in
theorem shown_any (b : Nat) (E : Ent) (r c : Int) (w : World) (hE : EntAt w b E) (ok : EntOk E) : Calls Try.prog 23 #[.pointer (some ⟨b, 0, none⟩), .agg #[.int .i64 r, .int .i64 c]] w (BkPost w (shownB E (r, c))) := by
  have hbw := hE.lt
  obtain ⟨W1, hW1⟩ : ∃ W1, W1 = ((w.alloc (.cells #[.int .i64 r, .int .i64 c] 24)).alloc (.cells (bkCells zeroBk).toArray 43)).alloc (.cells #[.int .i64 r, .int .i64 c, .int .i64 r, .int .i64 c, .int .i64 r, .int .i64 c, .int .i64 r, .int .i64 c] 66) := ⟨_, rfl⟩
  have hb1 : Below w.heap.size w W1 := by rw [hW1]; exact below_allocs (below_allocs (below_allocs (Below.refl _ _) _) _) _
  have hs1 : W1.heap.size = w.heap.size + 3 := by rw [hW1]; simp
  have hbox : W1.heap[w.heap.size]? = some (.cells #[.int .i64 r, .int .i64 c] 24 (0, 0)) := by rw [hW1]; exact hp_old (hp_old (hp_new rfl))
  have hres : W1.heap[w.heap.size + 1]? = some (.cells (bkCells zeroBk).toArray 43 (0, 0)) := by rw [hW1]; exact hp_old (hp_new (by simp))
  have hat : W1.heap[w.heap.size + 2]? = some (.cells (flat encP [(r, c), (r, c), (r, c), (r, c)]).toArray 66 (0, 0)) := by rw [hW1]; exact hp_new (by simp)
  have hE1 := hE.below hb1
  have HRC : Hid (∀ w', Below W1.heap.size W1 w' → Calls Try.prog 30 #[.pointer (some ⟨b, 0, none⟩)] w' fun e w'' => e = .returned (.slice (some ⟨b, 6, none⟩) E.ph 4) ∧ Below w'.heap.size w' w'') := Lib.hid fun w' hb => reached_any b E w' (hE1.below hb) ok
  have HOK := Lib.hid ok
  have H1 := Lib.hid (And.intro hb1 (And.intro hbox (And.intro hres (And.intro hat hE1))))
  clear hE hb1 hbox hres hat hE1 ok
  go_enter Try.func23, Try.ntmps23
  go_upto_region 2 with fail
  generalize hWW : World.alloc _ _ = WW
  have eWW : WW = W1 := by rw [← hWW, hW1]; rfl
  rw [eWW]
  clear eWW hWW hW1
  refine wp_region_u 3 (fun w' => Below W1.heap.size W1 w') (by kernel_rfl) (by kernel_rfl) ?_ ?_
  · exact (Below.refl _ _).drew
  simp only [List.take_succ_cons, List.take_zero, List.drop_succ_cons, List.drop_zero]
  repeat (first
    | (refine seqU_val ?_ (by rfl) ?_ ?_; rotate_left; · (intro w' hS; go_simp; first | done | with_reducible rfl)
       simp only [Act.put, List.setIfInBounds_toArray, List.set_cons_zero, List.set_cons_succ])
    | (refine seqU_call 30 #[.pointer (some ⟨b, 0, none⟩)] (.slice (some ⟨b, 6, none⟩) E.ph 4) (by rfl) ?_ (fun w' hS => (HRC.out w' hS).mono fun e w2 ⟨he, hb⟩ => ⟨he, below_tail hS hb⟩) ?_; · (intro w'; go_simp; done)
       simp only [Act.put, List.setIfInBounds_toArray, List.set_cons_zero, List.set_cons_succ]))
  refine seqU_nil (fun w' hS => ?_)
  obtain ⟨hb1, hbox, hres, hat, hE1⟩ := H1.out
  have old : ∀ g o, W1.heap[g]? = some o → w'.heap[g]? = some o := fun g o h => (hS.block g (Array.getElem?_eq_some_iff.1 h).1).trans h
  have hbox2 := old _ _ hbox
  have hres2 := old _ _ hres
  have hat2 := old _ _ hat
  have hE2 := hE1.below hS
  have hl : (flat encP (E.pl.take E.ph)).length = E.ph * 2 := by rw [flat_len encP_len, List.length_take, Nat.min_eq_left (by have := HOK.out.four; have := HOK.out.hi; omega)]
  have hph4 := HOK.out.hi
  have hmin : Nat.min E.ph 4 = E.ph := Nat.min_eq_left hph4
  have hcp : (Builtin.copy_ #[77, 77] 3 #[.slice (some ⟨w.heap.size + 2, 0, none⟩) 4 4, .slice (some ⟨b, 6, none⟩) E.ph 4]).run Try.prog w' = .ok (goInt E.ph) (w'.setCells (w.heap.size + 2) 0 (flat encP (E.pl.take E.ph))) := by
    have := run_copy_k (P := Try.prog) w' 77 77 3 24 (w.heap.size + 2) 0 4 4 ⟨b, 6, none⟩ E.ph 4 2 (flat encP (E.pl.take E.ph)) Try.underlying77 info_posS (by rw [hmin, hl]) (fun j v hj => ?_) (fun j hj => ?_) (fun j hj => ?_) (flat_one encP_one _)
    · rw [hmin] at this; exact this
    · rw [add_lit']
      have hjl := (List.getElem?_eq_some_iff.1 hj).1
      refine (whole_at hE2 (6 + j) v ?_).1
      have e : flat encP E.pl = flat encP (E.pl.take E.ph) ++ flat encP (E.pl.drop E.ph) := by rw [← flat_append, List.take_append_drop]
      have hfl : (flat encP E.pl).length = E.pl.length * 2 := flat_len encP_len _
      unfold entCells
      rw [get_mid _ _ _ _ 6 rfl (by rw [hfl, HOK.out.four]; omega), e, List.getElem?_append_left hjl]
      exact hj
    · rw [Nat.zero_add, cell_of_row w' _ j _ _ _ hat2]
      have : (flat encP [(r, c), (r, c), (r, c), (r, c)]).toArray.size = 8 := rfl
      rw [Array.getElem?_eq_getElem (by rw [this]; omega)]
      rfl
    · rw [Nat.zero_add]; exact frozen_of_row w' _ j _ _ hat2
  have HW5 : Hid (∀ W5, W5 = w'.setCells (w.heap.size + 2) 0 (flat encP (E.pl.take E.ph)) → Below w.heap.size w W5 ∧ W5.heap[w.heap.size]? = some (.cells #[.int .i64 r, .int .i64 c] 24 (0, 0)) ∧ W5.heap[w.heap.size + 1]? = some (.cells (bkCells zeroBk).toArray 43 (0, 0)) ∧ W5.heap[w.heap.size + 2]? = some (.cells (flat encP (shownL E (r, c))).toArray 66 (0, 0)) ∧ EntAt W5 b E) := Lib.hid (by
    rintro W5 rfl
    have hm : Mod [w.heap.size + 2] w' (w'.setCells (w.heap.size + 2) 0 (flat encP (E.pl.take E.ph))) := mod_setCellsN (.inl (by simp)) _ _ _ (Mod.refl _ _)
    have hbw' := below_tail hb1 hS
    have keep : ∀ g o, g ≠ w.heap.size + 2 → w'.heap[g]? = some o → (w'.setCells (w.heap.size + 2) 0 (flat encP (E.pl.take E.ph))).heap[g]? = some o := fun g o hne h => (hm.block g (Array.getElem?_eq_some_iff.1 h).1 (by simpa using hne)).trans h
    refine ⟨hbw'.trans (hm.below (fun g hg => by simp at hg; omega) hbw'.size), keep _ _ (by omega) hbox2, keep _ _ (by omega) hres2, ?_, hE2.mod hm (by simp; omega)⟩
    have := whole_setCells (flat encP (E.pl.take E.ph)) 0 _ w' hat2 (by rw [hl]; show 0 + E.ph * 2 ≤ 8; omega)
    rw [List.take_zero, List.nil_append, at_new_row HOK.out] at this
    exact this)
  clear hS hb1 hbox hres hat hE1 old hbox2 hres2 hat2 hE2 hl hmin
  go_upto_region 3 with fail
  generalize hW5 : World.setCells _ _ _ _ = W5
  obtain ⟨hB5, h5b, h5r, h5a, hE5⟩ := HW5.out W5 hW5.symm
  have HB5 := Lib.hid hB5
  have HR5 := Lib.hid h5r
  have k0 := (whole_at hE5 0 (.int .i64 E.code) rfl).1
  have k1 := (whole_at hE5 1 (.bool E.has) rfl).1
  have k2 := (whole_at hE5 2 (.bool E.cut) rfl).1
  have k3 := (whole_at hE5 3 (.string E.dir) rfl).1
  have k4 := (whole_at hE5 4 (.string E.line) rfl).1
  have k5 := (whole_at hE5 5 (.int .u64 E.id) rfl).1
  have k14 := (hE5.phase HOK.out.four).1
  obtain ⟨a0, a1⟩ := cells_of_places h5a (i := 0) (by rw [shownL_len HOK.out]; decide)
  obtain ⟨a2, a3⟩ := cells_of_places h5a (i := 1) (by rw [shownL_len HOK.out]; decide)
  obtain ⟨a4, a5⟩ := cells_of_places h5a (i := 2) (by rw [shownL_len HOK.out]; decide)
  obtain ⟨a6, a7⟩ := cells_of_places h5a (i := 3) (by rw [shownL_len HOK.out]; decide)
  have b0 := (at_ h5b 0 _ rfl).1
  have b1 := (at_ h5b 1 _ rfl).1
  clear hW5 HW5 hcp hB5 h5b h5r h5a hE5
  refine wp_region_u 43 (fun w' => Below W5.heap.size W5 w' ∧ w'.cell? ⟨b, 0, none⟩ = some (.int .i64 E.code) ∧ w'.cell? ⟨b, 1, none⟩ = some (.bool E.has) ∧ w'.cell? ⟨b, 2, none⟩ = some (.bool E.cut) ∧ w'.cell? ⟨b, 3, none⟩ = some (.string E.dir) ∧ w'.cell? ⟨b, 4, none⟩ = some (.string E.line) ∧ w'.cell? ⟨b, 5, none⟩ = some (.int .u64 E.id) ∧ w'.cell? ⟨b, 14, none⟩ = some (.int .i64 E.ph) ∧ w'.cell? ⟨w.heap.size + 2, 0, none⟩ = some (.int .i64 (shQ E (r, c) 0).1) ∧ w'.cell? ⟨w.heap.size + 2, 1, none⟩ = some (.int .i64 (shQ E (r, c) 0).2) ∧ w'.cell? ⟨w.heap.size + 2, 2, none⟩ = some (.int .i64 (shQ E (r, c) 1).1) ∧ w'.cell? ⟨w.heap.size + 2, 3, none⟩ = some (.int .i64 (shQ E (r, c) 1).2) ∧ w'.cell? ⟨w.heap.size + 2, 4, none⟩ = some (.int .i64 (shQ E (r, c) 2).1) ∧ w'.cell? ⟨w.heap.size + 2, 5, none⟩ = some (.int .i64 (shQ E (r, c) 2).2) ∧ w'.cell? ⟨w.heap.size + 2, 6, none⟩ = some (.int .i64 (shQ E (r, c) 3).1) ∧ w'.cell? ⟨w.heap.size + 2, 7, none⟩ = some (.int .i64 (shQ E (r, c) 3).2) ∧ w'.cell? ⟨w.heap.size, 0, none⟩ = some (.int .i64 r) ∧ w'.cell? ⟨w.heap.size, 1, none⟩ = some (.int .i64 c)) (by kernel_rfl) (by kernel_rfl) ?_ ?_
  · exact ⟨(Below.refl _ _).drew, k0, k1, k2, k3, k4, k5, k14, a0, a1, a2, a3, a4, a5, a6, a7, b0, b1⟩
  clear k0 k1 k2 k3 k4 k5 k14 a0 a1 a2 a3 a4 a5 a6 a7 b0 b1
  simp only [List.take_succ_cons, List.take_zero, List.drop_succ_cons, List.drop_zero]
  repeat (refine seqU_val ?_ (by rfl) ?_ ?_; rotate_left; · (intro w' hS; obtain ⟨_, _⟩ := hS; go_simp; first | done | with_reducible rfl)
          simp only [Act.put, List.setIfInBounds_toArray, List.set_cons_zero, List.set_cons_succ])
  refine seqU_nil (fun w' hS => ?_)
  have HB6 := Lib.hid hS.1
  have HTH := Lib.hid (there_below (there_new HR5.out) hS.1)
  clear hS
  go_wp2_with (refine wpList_store_mid (op := ⟨none, .store 43 (.tmp 4) (.tmp 57), _, _, _, _⟩) rfl 43 (.tmp 4) (.tmp 57) rfl (w.heap.size + 1) 0 (bkCells (shownB E (r, c))).toArray rfl rfl HTH.out info_block (one_arr _) ?_)
  try simp only [Exit.inBlock, Exit.then]
  refine bodyPost_ret (ret_block rfl _ _ (w.heap.size + 1) (shownB E (r, c)) rfl (World.rangeAt_setCells_same _ _ _ _ HTH.out)) rfl ⟨rfl, ?_⟩
  exact below_setCells (below_tail HB5.out HB6.out) (by omega) _ _
end Go.Proofs.Ytgfaincejebogaa
