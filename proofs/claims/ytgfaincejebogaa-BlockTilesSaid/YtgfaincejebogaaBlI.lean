/- The program's blocks: evict's walk. Conditions: as stated. -/
import Derived.Test.YtgfaincejebogaaBlH
namespace Go.Proofs.Ytgfaincejebogaa
open Go.RowKit

theorem evictL_short (k a n : Int) (l : List Ent) (h : l.length ≤ 1) : evictL k a n l = l := by
  match l, h with
  | [], _ => rfl
  | [E], _ => rfl
theorem evictL_two (k a n : Int) (E E2 : Ent) (l : List Ent) : evictL k a n (E :: E2 :: l) = if lostP k a n E.first && !ltP (n, 0) E2.first then evictL k a n (E2 :: l) else E :: E2 :: l := by rw [evictL]
theorem evictL_len (k a n : Int) : ∀ l : List Ent, (evictL k a n l).length ≤ l.length
  | [] => Nat.le_refl _
  | [E] => Nat.le_refl _
  | E :: E2 :: l => by
    have := evictL_len k a n (E2 :: l)
    rw [evictL_two]
    split
    · simp at this ⊢; omega
    · exact Nat.le_refl _
def cutTo (k a n : Int) (i : Nat) (L : List (Nat × Ent)) : List (Nat × Ent) := (L.take i).map (fun x => (x.1, cutE k a n x.2)) ++ L.drop i
theorem cutTo_zero (k a n : Int) (L : List (Nat × Ent)) : cutTo k a n 0 L = L := by simp [cutTo]
theorem cutTo_all (k a n : Int) (L : List (Nat × Ent)) : (cutTo k a n L.length L).map (·.2) = (L.map (·.2)).map (cutE k a n) := by simp [cutTo]
theorem cutTo_len (k a n : Int) (i : Nat) (L : List (Nat × Ent)) : (cutTo k a n i L).length = L.length := by simp [cutTo]; omega
theorem cutTo_at {k a n : Int} {i : Nat} {L : List (Nat × Ent)} {x : Nat × Ent} (h : L[i]? = some x) : (cutTo k a n i L)[i]? = some x := by
  have hlt := (List.getElem?_eq_some_iff.1 h).1
  unfold cutTo
  rw [List.getElem?_append_right (by simp; omega)]
  simp only [List.length_map, List.length_take, Nat.min_eq_left (Nat.le_of_lt hlt), Nat.sub_self, List.getElem?_drop, Nat.add_zero]
  exact h
theorem cutTo_succ {k a n : Int} {i : Nat} {L : List (Nat × Ent)} {x : Nat × Ent} (h : L[i]? = some x) : (cutTo k a n i L).set i (x.1, cutE k a n x.2) = cutTo k a n (i + 1) L := by
  have hlt := (List.getElem?_eq_some_iff.1 h).1
  have hget := (List.getElem?_eq_some_iff.1 h).2
  unfold cutTo
  rw [List.set_append_right _ _ (by simp; omega)]
  simp only [List.length_map, List.length_take, Nat.min_eq_left (Nat.le_of_lt hlt), Nat.sub_self]
  rw [List.drop_eq_getElem_cons hlt, List.take_succ_eq_append_getElem hlt, hget]
  simp
theorem cutTo_fst (k a n : Int) (i : Nat) (L : List (Nat × Ent)) : (cutTo k a n i L).map (·.1) = L.map (·.1) := by
  unfold cutTo
  rw [List.map_append, List.map_map]
  show (L.take i).map (·.1) ++ (L.drop i).map (·.1) = _
  rw [← List.map_append, List.take_append_drop]
theorem ent_set2 (E : Ent) (b : Bool) : (entCells E).set 2 (.bool b) = entCells { E with cut := b } := rfl
set_option maxRecDepth 100000 in
set_option maxHeartbeats 6400000 in
theorem evict_any {p : Nat} {v : Value} {L : List (Nat × Ent)} {mo : Nat} {ids : Int} {dir : ByteArray} (k a n : Int) (w : World) (h : BlO w p v L mo ids dir) (hz : L.length ≤ 1000) :
    Calls Try.prog 29 #[.pointer (some ⟨p, 0, none⟩), .agg #[.int .i64 k, .int .i64 a, .int .i64 n]] w (BlPost w p v L mo ⟨ids, dir, (evictL k a n (L.map (·.2))).map (cutE k a n)⟩) := by
  obtain ⟨W1, hW1⟩ : ∃ W1, W1 = (w.alloc (.cells #[.int .i64 k, .int .i64 a, .int .i64 n] 35)).alloc (.cells #[.int .i64 n, .int .i64 0] 24) := ⟨_, rfl⟩
  have hb0 : Below w.heap.size w W1 := by rw [hW1]; exact below_allocs (below_allocs (Below.refl _ _) _) _
  have HP : Hid (∀ wx X, Mod X W1 wx → w.heap.size ∉ X → w.heap.size + 1 ∉ X → (wx.cell? ⟨w.heap.size, 0, none⟩ = some (.int .i64 k) ∧ wx.cell? ⟨w.heap.size, 1, none⟩ = some (.int .i64 a) ∧ wx.cell? ⟨w.heap.size, 2, none⟩ = some (.int .i64 n)) ∧ wx.cell? ⟨w.heap.size + 1, 0, none⟩ = some (.int .i64 n) ∧ wx.cell? ⟨w.heap.size + 1, 1, none⟩ = some (.int .i64 0)) := Lib.hid (by
    intro wx X hm h1 h2
    subst hW1
    exact ⟨⟨hm.cell h1 (at_ (hp_old (hp_new rfl)) 0 _ rfl).1, hm.cell h1 (at_ (hp_old (hp_new rfl)) 1 _ rfl).1, hm.cell h1 (at_ (hp_old (hp_new rfl)) 2 _ rfl).1⟩, hm.cell h2 (at_ (hp_new (by simp)) 0 _ rfl).1, hm.cell h2 (at_ (hp_new (by simp)) 1 _ rfl).1⟩)
  have hO1 := h.below hb0
  have hpw := lt_of_cell h.row.1
  have HFL := Lib.hid h.lt
  have HB0 := Lib.hid hb0
  have HO1 := Lib.hid hO1
  obtain ⟨A, c, hv, hvc⟩ := h.own.form
  have hrw := h.row.1
  clear h hO1 hb0
  go_enter Try.func29, Try.ntmps29
  go_upto_block 0 with fail
  rw [← hW1]
  clear hW1
  go_cut [] (fun w' => EvEnd W1 p v L mo ids dir k a n w')
  case first =>
    go_wp2_with fail
    go_loopw [10] (fun _ wr => EvSt W1 p v L mo ids dir k a n wr) (fun _ wr => lenOf wr p)
    case atStart => exact ⟨v, L, HO1.out, Mod.refl _ _, rfl, fun g hg => hg⟩
    case round =>
      obtain ⟨v', L', hO, hm, hev, hft⟩ := hrel
      obtain ⟨A', ca, hv', hvc'⟩ := hO.own.form
      rw [List.length_map] at hv' hvc'
      subst hv'
      obtain ⟨r0, r0f⟩ := hO.row
      have hpr := lt_of_cell r0
      match L', hO, hev, hft, hvc', r0 with
      | [], hO, hev, hft, hvc', r0 =>
        have HEND := Lib.hid (show ∀ w', Below wr.heap.size wr w' → EvEnd W1 p v L mo ids dir k a n w' from fun w' hb => ⟨_, _, hO.below hb, hm.then_below hb, by rw [hev, evictL_short _ _ _ _ (by simp)], hft⟩)
        clear hO hm hev hft hvc' hrw r0f
        go_wp2_with fail
        refine wp_region_u 34 (fun w' => Below wr.heap.size wr w' ∧ w'.cell? ⟨p, 0, none⟩ = some (.slice A' 0 ca)) (by kernel_rfl) (by kernel_rfl) ?_ ?_
        · exact ⟨(Below.refl _ _).drew, r0⟩
        simp only [List.take_succ_cons, List.take_zero, List.drop_succ_cons, List.drop_zero]
        repeat (first
          | (refine seqU_skip (by rfl) ?_; simp only [Act.put, List.setIfInBounds_toArray, List.set_cons_zero, List.set_cons_succ])
          | (refine seqU_val ?_ (by rfl) ?_ ?_; rotate_left; · (intro w' hS; obtain ⟨_, _⟩ := hS; go_simp; first | done | with_reducible rfl)
             simp only [Act.put, List.setIfInBounds_toArray, List.set_cons_zero, List.set_cons_succ]))
        refine seqU_nil (fun w' hS => ?_)
        have hB2 := hS.1
        clear hS r0
        go_wp2
        go_meet
        exact HEND.out _ hB2
      | [x], hO, hev, hft, hvc', r0 =>
        have HEND := Lib.hid (show ∀ w', Below wr.heap.size wr w' → EvEnd W1 p v L mo ids dir k a n w' from fun w' hb => ⟨_, _, hO.below hb, hm.then_below hb, by rw [hev, evictL_short _ _ _ _ (by simp)], hft⟩)
        clear hO hm hev hft hvc' hrw r0f
        go_wp2_with fail
        refine wp_region_u 34 (fun w' => Below wr.heap.size wr w' ∧ w'.cell? ⟨p, 0, none⟩ = some (.slice A' 1 ca)) (by kernel_rfl) (by kernel_rfl) ?_ ?_
        · exact ⟨(Below.refl _ _).drew, r0⟩
        simp only [List.take_succ_cons, List.take_zero, List.drop_succ_cons, List.drop_zero]
        repeat (first
          | (refine seqU_skip (by rfl) ?_; simp only [Act.put, List.setIfInBounds_toArray, List.set_cons_zero, List.set_cons_succ])
          | (refine seqU_val ?_ (by rfl) ?_ ?_; rotate_left; · (intro w' hS; obtain ⟨_, _⟩ := hS; go_simp; first | done | with_reducible rfl)
             simp only [Act.put, List.setIfInBounds_toArray, List.set_cons_zero, List.set_cons_succ]))
        refine seqU_nil (fun w' hS => ?_)
        have hB2 := hS.1
        clear hS r0
        go_wp2
        go_meet
        exact HEND.out _ hB2
      | (xb, xe) :: (yb, ye) :: rest, hO, hev, hft, hvc', r0 =>
        obtain ⟨⟨s0, s1, s2⟩, e0, e1⟩ := HP.out wr [p] hm (by simp; omega) (by simp; omega)
        obtain ⟨g, o, hA', g0, -⟩ := hO.own.at_ (i := 0) (u := .pointer (some ⟨xb, 0, none⟩)) rfl
        obtain ⟨g', o', hA2, g1, -⟩ := hO.own.at_ (i := 1) (u := .pointer (some ⟨yb, 0, none⟩)) rfl
        rw [hA'] at hA2
        simp only [Option.some.injEq, Addr.mk.injEq, and_true] at hA2
        obtain ⟨rfl, rfl⟩ := hA2
        subst hA'
        obtain ⟨kx, okx, -, -⟩ := hO.ents (xb, xe) (by simp)
        obtain ⟨ky, oky, -, -⟩ := hO.ents (yb, ye) (by simp)
        have x0 : wr.cell? ⟨xb, 6, none⟩ = some (.int .i64 xe.first.1) := (kx.place (at_get (i := 0) (by rw [okx.four]; decide))).1.1
        have x1 : wr.cell? ⟨xb, 7, none⟩ = some (.int .i64 xe.first.2) := (kx.place (at_get (i := 0) (by rw [okx.four]; decide))).2.1
        have y0 : wr.cell? ⟨yb, 6, none⟩ = some (.int .i64 ye.first.1) := (ky.place (at_get (i := 0) (by rw [oky.four]; decide))).1.1
        have y1 : wr.cell? ⟨yb, 7, none⟩ = some (.int .i64 ye.first.2) := (ky.place (at_get (i := 0) (by rw [oky.four]; decide))).2.1
        rw [Nat.add_zero] at g0
        obtain ⟨N, hN⟩ : ∃ N, N = ((xb, xe) :: (yb, ye) :: rest).length := ⟨_, rfl⟩
        have hN2 : 1 < N := by rw [hN]; simp
        have HN := Lib.hid hN
        rw [← hN] at r0 hvc'
        have hvc2 : 2 ≤ ca := by omega
        have hca1 : ¬ ca = 1 := by omega
        have hN0 : 0 < N := by omega
        have hd1 : decide (1 < N) = true := by simpa using hN2
        have hd2 : decide ((1 : Int) < (N : Int)) = true := by simp; omega
        have hd3 : (1 : Int) < (N : Int) := by omega
        have HLO := Lost_hid xe.first k a n
        have HLE := LessP_hid (n, 0) ye.first
        have HEV := Lib.hid (hev.trans (show _ = if lostP k a n xe.first && !ltP (n, 0) ye.first then evictL k a n (ye :: rest.map (·.2)) else xe :: ye :: rest.map (·.2) from by rw [List.map_cons, List.map_cons, evictL_two]))
        have HO := Lib.hid (show BlO wr p (.slice (some ⟨g, o, none⟩) N ca) ((xb, xe) :: (yb, ye) :: rest) mo ids dir from by rw [hN]; exact hO)
        have HM := Lib.hid hm
        have HFT := Lib.hid hft
        generalize lostP k a n xe.first = b1 at HLO HEV
        generalize ltP (n, 0) ye.first = b2 at HLE HEV
        simp only at HLE
        clear hO hm hev hft hvc' hrw r0f kx ky okx oky hN
        cases b1 with
        | false =>
          have HEND := Lib.hid (show ∀ w', Below wr.heap.size wr w' → EvEnd W1 p v L mo ids dir k a n w' from fun w' hb => ⟨_, _, HO.out.below hb, HM.out.then_below hb, by rw [HEV.out]; simp, by rw [HN.out]; exact HFT.out⟩)
          go_wp2_with fail
          refine wp_region_u 34 (fun w' => Below wr.heap.size wr w' ∧ w'.cell? ⟨p, 0, none⟩ = some (.slice (some ⟨g, o, none⟩) N ca) ∧ w'.cell? ⟨g, o, none⟩ = some (.pointer (some ⟨xb, 0, none⟩)) ∧ w'.cell? ⟨g, o + 1, none⟩ = some (.pointer (some ⟨yb, 0, none⟩)) ∧ w'.cell? ⟨xb, 6, none⟩ = some (.int .i64 xe.first.1) ∧ w'.cell? ⟨xb, 7, none⟩ = some (.int .i64 xe.first.2) ∧ w'.cell? ⟨yb, 6, none⟩ = some (.int .i64 ye.first.1) ∧ w'.cell? ⟨yb, 7, none⟩ = some (.int .i64 ye.first.2) ∧ w'.cell? ⟨w.heap.size, 0, none⟩ = some (.int .i64 k) ∧ w'.cell? ⟨w.heap.size, 1, none⟩ = some (.int .i64 a) ∧ w'.cell? ⟨w.heap.size, 2, none⟩ = some (.int .i64 n) ∧ w'.cell? ⟨w.heap.size + 1, 0, none⟩ = some (.int .i64 n) ∧ w'.cell? ⟨w.heap.size + 1, 1, none⟩ = some (.int .i64 0)) (by kernel_rfl) (by kernel_rfl) ?_ ?_
          · exact ⟨(Below.refl _ _).drew, r0, g0, g1, x0, x1, y0, y1, s0, s1, s2, e0, e1⟩
          simp only [List.take_succ_cons, List.take_zero, List.drop_succ_cons, List.drop_zero]
          repeat (first
            | (refine seqU_skip (by rfl) ?_; simp only [Act.put, List.setIfInBounds_toArray, List.set_cons_zero, List.set_cons_succ])
            | (refine seqU_val ?_ (by rfl) ?_ ?_; rotate_left; · (intro w' hS; obtain ⟨_, _⟩ := hS; go_simp; first | done | with_reducible rfl)
               simp only [Act.put, List.setIfInBounds_toArray, List.set_cons_zero, List.set_cons_succ])
            | (refine seqU_call 41 #[.agg #[.int .i64 xe.first.1, .int .i64 xe.first.2], .agg #[.int .i64 k, .int .i64 a, .int .i64 n]] (.bool false) (by rfl) ?_ (fun w' hS => (HLO.out w').mono fun e w2 ⟨he, hb⟩ => ⟨he, ⟨below_tail hS.1 hb, holda hb hS.2.1, holda hb hS.2.2.1, holda hb hS.2.2.2.1, holda hb hS.2.2.2.2.1, holda hb hS.2.2.2.2.2.1, holda hb hS.2.2.2.2.2.2.1, holda hb hS.2.2.2.2.2.2.2.1, holda hb hS.2.2.2.2.2.2.2.2.1, holda hb hS.2.2.2.2.2.2.2.2.2.1, holda hb hS.2.2.2.2.2.2.2.2.2.2.1, holda hb hS.2.2.2.2.2.2.2.2.2.2.2.1, holda hb hS.2.2.2.2.2.2.2.2.2.2.2.2⟩⟩) ?_; · (intro w'; go_simp; done)
               simp only [Act.put, List.setIfInBounds_toArray, List.set_cons_zero, List.set_cons_succ])
            | (refine seqU_call 39 #[.agg #[.int .i64 n, .int .i64 0], .agg #[.int .i64 ye.first.1, .int .i64 ye.first.2]] (.bool b2) (by rfl) ?_ (fun w' hS => (HLE.out w').mono fun e w2 ⟨he, hb⟩ => ⟨he, ⟨below_tail hS.1 hb, holda hb hS.2.1, holda hb hS.2.2.1, holda hb hS.2.2.2.1, holda hb hS.2.2.2.2.1, holda hb hS.2.2.2.2.2.1, holda hb hS.2.2.2.2.2.2.1, holda hb hS.2.2.2.2.2.2.2.1, holda hb hS.2.2.2.2.2.2.2.2.1, holda hb hS.2.2.2.2.2.2.2.2.2.1, holda hb hS.2.2.2.2.2.2.2.2.2.2.1, holda hb hS.2.2.2.2.2.2.2.2.2.2.2.1, holda hb hS.2.2.2.2.2.2.2.2.2.2.2.2⟩⟩) ?_; · (intro w'; go_simp; done)
               simp only [Act.put, List.setIfInBounds_toArray, List.set_cons_zero, List.set_cons_succ]))
          refine seqU_nil (fun w' hS => ?_)
          have hB2 := hS.1
          clear hS g0 g1 x0 x1 y0 y1 s0 s1 s2 e0 e1 r0
          go_wp2
          go_meet
          exact HEND.out _ hB2
        | true => cases b2 with
          | true =>
            have HEND := Lib.hid (show ∀ w', Below wr.heap.size wr w' → EvEnd W1 p v L mo ids dir k a n w' from fun w' hb => ⟨_, _, HO.out.below hb, HM.out.then_below hb, by rw [HEV.out]; simp, by rw [HN.out]; exact HFT.out⟩)
            go_wp2_with fail
            refine wp_region_u 34 (fun w' => Below wr.heap.size wr w' ∧ w'.cell? ⟨p, 0, none⟩ = some (.slice (some ⟨g, o, none⟩) N ca) ∧ w'.cell? ⟨g, o, none⟩ = some (.pointer (some ⟨xb, 0, none⟩)) ∧ w'.cell? ⟨g, o + 1, none⟩ = some (.pointer (some ⟨yb, 0, none⟩)) ∧ w'.cell? ⟨xb, 6, none⟩ = some (.int .i64 xe.first.1) ∧ w'.cell? ⟨xb, 7, none⟩ = some (.int .i64 xe.first.2) ∧ w'.cell? ⟨yb, 6, none⟩ = some (.int .i64 ye.first.1) ∧ w'.cell? ⟨yb, 7, none⟩ = some (.int .i64 ye.first.2) ∧ w'.cell? ⟨w.heap.size, 0, none⟩ = some (.int .i64 k) ∧ w'.cell? ⟨w.heap.size, 1, none⟩ = some (.int .i64 a) ∧ w'.cell? ⟨w.heap.size, 2, none⟩ = some (.int .i64 n) ∧ w'.cell? ⟨w.heap.size + 1, 0, none⟩ = some (.int .i64 n) ∧ w'.cell? ⟨w.heap.size + 1, 1, none⟩ = some (.int .i64 0)) (by kernel_rfl) (by kernel_rfl) ?_ ?_
            · exact ⟨(Below.refl _ _).drew, r0, g0, g1, x0, x1, y0, y1, s0, s1, s2, e0, e1⟩
            simp only [List.take_succ_cons, List.take_zero, List.drop_succ_cons, List.drop_zero]
            repeat (first
              | (refine seqU_skip (by rfl) ?_; simp only [Act.put, List.setIfInBounds_toArray, List.set_cons_zero, List.set_cons_succ])
              | (refine seqU_val ?_ (by rfl) ?_ ?_; rotate_left; · (intro w' hS; obtain ⟨_, _⟩ := hS; go_simp; first | done | with_reducible rfl)
                 simp only [Act.put, List.setIfInBounds_toArray, List.set_cons_zero, List.set_cons_succ])
              | (refine seqU_call 41 #[.agg #[.int .i64 xe.first.1, .int .i64 xe.first.2], .agg #[.int .i64 k, .int .i64 a, .int .i64 n]] (.bool true) (by rfl) ?_ (fun w' hS => (HLO.out w').mono fun e w2 ⟨he, hb⟩ => ⟨he, ⟨below_tail hS.1 hb, holda hb hS.2.1, holda hb hS.2.2.1, holda hb hS.2.2.2.1, holda hb hS.2.2.2.2.1, holda hb hS.2.2.2.2.2.1, holda hb hS.2.2.2.2.2.2.1, holda hb hS.2.2.2.2.2.2.2.1, holda hb hS.2.2.2.2.2.2.2.2.1, holda hb hS.2.2.2.2.2.2.2.2.2.1, holda hb hS.2.2.2.2.2.2.2.2.2.2.1, holda hb hS.2.2.2.2.2.2.2.2.2.2.2.1, holda hb hS.2.2.2.2.2.2.2.2.2.2.2.2⟩⟩) ?_; · (intro w'; go_simp; done)
                 simp only [Act.put, List.setIfInBounds_toArray, List.set_cons_zero, List.set_cons_succ])
              | (refine seqU_call 39 #[.agg #[.int .i64 n, .int .i64 0], .agg #[.int .i64 ye.first.1, .int .i64 ye.first.2]] (.bool true) (by rfl) ?_ (fun w' hS => (HLE.out w').mono fun e w2 ⟨he, hb⟩ => ⟨he, ⟨below_tail hS.1 hb, holda hb hS.2.1, holda hb hS.2.2.1, holda hb hS.2.2.2.1, holda hb hS.2.2.2.2.1, holda hb hS.2.2.2.2.2.1, holda hb hS.2.2.2.2.2.2.1, holda hb hS.2.2.2.2.2.2.2.1, holda hb hS.2.2.2.2.2.2.2.2.1, holda hb hS.2.2.2.2.2.2.2.2.2.1, holda hb hS.2.2.2.2.2.2.2.2.2.2.1, holda hb hS.2.2.2.2.2.2.2.2.2.2.2.1, holda hb hS.2.2.2.2.2.2.2.2.2.2.2.2⟩⟩) ?_; · (intro w'; go_simp; done)
                 simp only [Act.put, List.setIfInBounds_toArray, List.set_cons_zero, List.set_cons_succ]))
            refine seqU_nil (fun w' hS => ?_)
            have hB2 := hS.1
            clear hS g0 g1 x0 x1 y0 y1 s0 s1 s2 e0 e1 r0
            go_wp2
            go_meet
            exact HEND.out _ hB2
          | false =>
            go_wp2_with fail
            refine wp_region_u 34 (fun w' => Below wr.heap.size wr w' ∧ w'.cell? ⟨p, 0, none⟩ = some (.slice (some ⟨g, o, none⟩) N ca) ∧ w'.cell? ⟨g, o, none⟩ = some (.pointer (some ⟨xb, 0, none⟩)) ∧ w'.cell? ⟨g, o + 1, none⟩ = some (.pointer (some ⟨yb, 0, none⟩)) ∧ w'.cell? ⟨xb, 6, none⟩ = some (.int .i64 xe.first.1) ∧ w'.cell? ⟨xb, 7, none⟩ = some (.int .i64 xe.first.2) ∧ w'.cell? ⟨yb, 6, none⟩ = some (.int .i64 ye.first.1) ∧ w'.cell? ⟨yb, 7, none⟩ = some (.int .i64 ye.first.2) ∧ w'.cell? ⟨w.heap.size, 0, none⟩ = some (.int .i64 k) ∧ w'.cell? ⟨w.heap.size, 1, none⟩ = some (.int .i64 a) ∧ w'.cell? ⟨w.heap.size, 2, none⟩ = some (.int .i64 n) ∧ w'.cell? ⟨w.heap.size + 1, 0, none⟩ = some (.int .i64 n) ∧ w'.cell? ⟨w.heap.size + 1, 1, none⟩ = some (.int .i64 0)) (by kernel_rfl) (by kernel_rfl) ?_ ?_
            · exact ⟨(Below.refl _ _).drew, r0, g0, g1, x0, x1, y0, y1, s0, s1, s2, e0, e1⟩
            simp only [List.take_succ_cons, List.take_zero, List.drop_succ_cons, List.drop_zero]
            repeat (first
              | (refine seqU_skip (by rfl) ?_; simp only [Act.put, List.setIfInBounds_toArray, List.set_cons_zero, List.set_cons_succ])
              | (refine seqU_val ?_ (by rfl) ?_ ?_; rotate_left; · (intro w' hS; obtain ⟨_, _⟩ := hS; go_simp; first | done | with_reducible rfl)
                 simp only [Act.put, List.setIfInBounds_toArray, List.set_cons_zero, List.set_cons_succ])
              | (refine seqU_call 41 #[.agg #[.int .i64 xe.first.1, .int .i64 xe.first.2], .agg #[.int .i64 k, .int .i64 a, .int .i64 n]] (.bool true) (by rfl) ?_ (fun w' hS => (HLO.out w').mono fun e w2 ⟨he, hb⟩ => ⟨he, ⟨below_tail hS.1 hb, holda hb hS.2.1, holda hb hS.2.2.1, holda hb hS.2.2.2.1, holda hb hS.2.2.2.2.1, holda hb hS.2.2.2.2.2.1, holda hb hS.2.2.2.2.2.2.1, holda hb hS.2.2.2.2.2.2.2.1, holda hb hS.2.2.2.2.2.2.2.2.1, holda hb hS.2.2.2.2.2.2.2.2.2.1, holda hb hS.2.2.2.2.2.2.2.2.2.2.1, holda hb hS.2.2.2.2.2.2.2.2.2.2.2.1, holda hb hS.2.2.2.2.2.2.2.2.2.2.2.2⟩⟩) ?_; · (intro w'; go_simp; done)
                 simp only [Act.put, List.setIfInBounds_toArray, List.set_cons_zero, List.set_cons_succ])
              | (refine seqU_call 39 #[.agg #[.int .i64 n, .int .i64 0], .agg #[.int .i64 ye.first.1, .int .i64 ye.first.2]] (.bool false) (by rfl) ?_ (fun w' hS => (HLE.out w').mono fun e w2 ⟨he, hb⟩ => ⟨he, ⟨below_tail hS.1 hb, holda hb hS.2.1, holda hb hS.2.2.1, holda hb hS.2.2.2.1, holda hb hS.2.2.2.2.1, holda hb hS.2.2.2.2.2.1, holda hb hS.2.2.2.2.2.2.1, holda hb hS.2.2.2.2.2.2.2.1, holda hb hS.2.2.2.2.2.2.2.2.1, holda hb hS.2.2.2.2.2.2.2.2.2.1, holda hb hS.2.2.2.2.2.2.2.2.2.2.1, holda hb hS.2.2.2.2.2.2.2.2.2.2.2.1, holda hb hS.2.2.2.2.2.2.2.2.2.2.2.2⟩⟩) ?_; · (intro w'; go_simp; done)
                 simp only [Act.put, List.setIfInBounds_toArray, List.set_cons_zero, List.set_cons_succ]))
            refine seqU_nil (fun w' hS => ?_)
            have hB2 := hS.1
            clear hS g0 g1 x0 x1 y0 y1 s0 s1 s2 e0 e1 r0
            obtain ⟨z0, z0f⟩ := (HO.out.below hB2).row
            obtain ⟨h8, hm8⟩ := (HO.out.below hB2).pop (by rw [HN.out]; simp)
            have H8 := Lib.hid h8
            have HM8 := Lib.hid ((HM.out.then_below hB2).trans hm8 (fun g hg => .inl hg))
            have HLN := Lib.hid (show lenOf wr p = N from by rw [HO.out.lenOf, HN.out])
            clear h8 hm8
            go_wp2
            go_roundw
            case rel => exact ⟨_, _, H8.out, HM8.out, by rw [HEV.out]; simp, fun g' hg' => HFT.out g' (by
              rw [HN.out] at hg'
              unfold foot at hg' ⊢
              simp only [List.mem_cons, List.mem_append, List.map_cons, Value.ownBlock] at hg' ⊢
              rcases hg' with h | h | h | h
              · exact .inl h
              · exact .inr (.inl h)
              · exact .inr (.inr (.inr (.inl h)))
              · exact .inr (.inr (.inr (.inr h))))⟩
            case measure =>
              rw [HLN.out, H8.out.lenOf, HN.out]
              simp
  obtain ⟨v', L', hO, hm, hev, hft⟩ := hcut
  obtain ⟨A', ca, hv', hvc'⟩ := hO.own.form
  rw [List.length_map] at hv' hvc'
  subst hv'
  obtain ⟨r0, r0f⟩ := hO.row
  have hfb : ∀ g ∈ foot p (.slice A' L'.length ca) L', g < w.heap.size := fun g hg => HFL.out g (hft g hg)
  have HX := Lib.hid (show w.heap.size ∉ p :: L'.map (·.1) ∧ w.heap.size + 1 ∉ p :: L'.map (·.1) ∧ (∀ g ∈ L'.map (·.1), g ∈ foot p v L) from by
    have h1 : ∀ g ∈ p :: L'.map (·.1), g < w.heap.size := fun g hg => hfb g (by
      rcases List.mem_cons.1 hg with rfl | hg
      · simp [foot]
      · unfold foot; exact List.mem_cons_of_mem _ (List.mem_append_right _ hg))
    exact ⟨fun h => by have := h1 _ h; omega, fun h => by have := h1 _ h; omega, fun g hg => hft g (by unfold foot; exact List.mem_cons_of_mem _ (List.mem_append_right _ hg))⟩)
  have hLz : L'.length ≤ 1000 := by have h1 := evictL_len k a n (L.map (·.2)); rw [hev, List.length_map, List.length_map] at h1; omega
  have HEV := Lib.hid hev
  have HFT := Lib.hid hft
  have HM := Lib.hid hm
  have HO := Lib.hid hO
  clear hO hm hev hft hvc' hrw hfb r0f
  go_wp2_with fail
  go_loopw [6, 58] (fun _ i wr => ∃ j : Nat, j ≤ L'.length ∧ i = .int .i64 j ∧ BlO wr p (.slice A' L'.length ca) (cutTo k a n j L') mo ids dir ∧ Mod (L'.map (·.1)) wc wr) (fun _ i _ => L'.length - (intOf i).toNat)
  case atStart => exact ⟨0, Nat.zero_le _, rfl, by rw [cutTo_zero]; exact HO.out, Mod.refl _ _⟩
  case round =>
    obtain ⟨j, hj, rfl, hO, hm⟩ := hrel
    by_cases hlt : j < L'.length
    rotate_left
    · obtain rfl : j = L'.length := by omega
      have HO2 := Lib.hid hO
      have HM2 := Lib.hid hm
      clear hO hm r0
      go_wp2
      go_end0
      refine ⟨rfl, _, _, HO2.out, by rw [cutTo_all, ← HEV.out], ?_, fun g hg => .inl (HFT.out g (by unfold foot at hg ⊢; rw [cutTo_fst] at hg; exact hg))⟩
      refine ((Mod.of_below HB0.out).trans (Y := [p]) HM.out (fun g hg => .inl (by rw [List.mem_singleton.1 hg]; simp [foot]))).trans HM2.out (fun g hg => .inl (HX.out.2.2 g hg))
    · obtain ⟨b, E, hx⟩ : ∃ b E, L'[j]? = some (b, E) := ⟨(L'[j]).1, (L'[j]).2, List.getElem?_eq_getElem hlt⟩
      have hx2 := cutTo_at (k := k) (a := a) (n := n) hx
      obtain ⟨kE, okE, -, -⟩ := hO.ents (b, E) (List.mem_of_getElem? hx2)
      obtain ⟨g, o, hA', g0, -⟩ := hO.own.at_ (i := j) (u := .pointer (some ⟨b, 0, none⟩)) (by rw [List.getElem?_map, hx2]; rfl)
      subst hA'
      obtain ⟨⟨s0, s1, s2⟩, -, -⟩ := HP.out wr (p :: L'.map (·.1)) ((HM.out.mono (fun g hg => by rw [List.mem_singleton.1 hg]; simp)).trans hm (fun g hg => .inl (List.mem_cons_of_mem _ hg))) HX.out.1 HX.out.2.1
      have x0 : wr.cell? ⟨b, 6, none⟩ = some (.int .i64 E.first.1) := (kE.place (at_get (i := 0) (by rw [okE.four]; decide))).1.1
      have x1 : wr.cell? ⟨b, 7, none⟩ = some (.int .i64 E.first.2) := (kE.place (at_get (i := 0) (by rw [okE.four]; decide))).2.1
      have HC := Lib.hid (whole_at kE 2 (.bool E.cut) rfl)
      have c2 := HC.out.1
      have HLO := Lost_hid E.first k a n
      have HS : Hid (∀ wx b2, Below wr.heap.size wr wx → b2 = (E.cut || lostP k a n E.first) → BlO (wx.setCell ⟨b, 2, none⟩ (.bool b2)) p (.slice (some ⟨g, o, none⟩) L'.length ca) (cutTo k a n (j + 1) L') mo ids dir ∧ Mod (L'.map (·.1)) wc (wx.setCell ⟨b, 2, none⟩ (.bool b2))) := Lib.hid (by
        rintro wx b2 hb rfl
        refine ⟨?_, (hm.then_below hb).setCell (.inl (List.mem_map.2 ⟨_, List.mem_of_getElem? hx, rfl⟩)) _⟩
        rw [← cutTo_succ hx]
        exact (hO.below hb).setAt hx2 (whole_set (kE.below hb) 2 _ (ent_set2 E _)) ⟨okE.four, okE.lo, okE.hi⟩ ((Mod.refl _ _).setCell (.inl (by simp)) _))
      have hjN : (j : Int) < (L'.length : Int) := by omega
      generalize hb1 : lostP k a n E.first = b1 at HLO HS
      generalize hec : E.cut = b2 at HC c2 HS
      clear hO hm hx hx2 kE okE r0 hb1 hec
      cases b2 with
      | true =>
        go_upto_region 7 with fail
        refine wp_region_u 18 (fun w' => Below wr.heap.size wr w' ∧ w'.cell? ⟨b, 2, none⟩ = some (.bool true)) (by kernel_rfl) (by kernel_rfl) ?_ ?_
        · exact ⟨(Below.refl _ _).drew, c2⟩
        simp only [List.take_succ_cons, List.take_zero, List.drop_succ_cons, List.drop_zero]
        repeat (first
          | (refine seqU_skip (by rfl) ?_; simp only [Act.put, List.setIfInBounds_toArray, List.set_cons_zero, List.set_cons_succ])
          | (refine seqU_val ?_ (by rfl) ?_ ?_; rotate_left; · (intro w' hS; obtain ⟨_, _⟩ := hS; go_simp; first | done | with_reducible rfl)
             simp only [Act.put, List.setIfInBounds_toArray, List.set_cons_zero, List.set_cons_succ]))
        refine seqU_nil (fun w' hS => ?_)
        have hB2 := hS.1
        clear hS c2 x0 x1 s0 s1 s2 g0
        obtain ⟨z0, z0f⟩ := hold hB2 HC.out
        have HS2 := Lib.hid (HS.out w' true hB2 rfl)
        go_wp2
        go_roundw
        case rel => exact ⟨j + 1, by omega, by go_num, HS2.out.1, HS2.out.2⟩
        case measure => simp [intOf]; omega
      | false =>
        go_upto_region 7 with fail
        refine wp_region_u 18 (fun w' => Below wr.heap.size wr w' ∧ w'.cell? ⟨b, 2, none⟩ = some (.bool false) ∧ w'.cell? ⟨b, 6, none⟩ = some (.int .i64 E.first.1) ∧ w'.cell? ⟨b, 7, none⟩ = some (.int .i64 E.first.2) ∧ w'.cell? ⟨w.heap.size, 0, none⟩ = some (.int .i64 k) ∧ w'.cell? ⟨w.heap.size, 1, none⟩ = some (.int .i64 a) ∧ w'.cell? ⟨w.heap.size, 2, none⟩ = some (.int .i64 n)) (by kernel_rfl) (by kernel_rfl) ?_ ?_
        · exact ⟨(Below.refl _ _).drew, c2, x0, x1, s0, s1, s2⟩
        simp only [List.take_succ_cons, List.take_zero, List.drop_succ_cons, List.drop_zero]
        repeat (first
          | (refine seqU_skip (by rfl) ?_; simp only [Act.put, List.setIfInBounds_toArray, List.set_cons_zero, List.set_cons_succ])
          | (refine seqU_val ?_ (by rfl) ?_ ?_; rotate_left; · (intro w' hS; obtain ⟨_, _⟩ := hS; go_simp; first | done | with_reducible rfl)
             simp only [Act.put, List.setIfInBounds_toArray, List.set_cons_zero, List.set_cons_succ])
          | (refine seqU_call 41 #[.agg #[.int .i64 E.first.1, .int .i64 E.first.2], .agg #[.int .i64 k, .int .i64 a, .int .i64 n]] (.bool b1) (by rfl) ?_ (fun w' hS => (HLO.out w').mono fun e w2 ⟨he, hb⟩ => ⟨he, ⟨below_tail hS.1 hb, holda hb hS.2.1, holda hb hS.2.2.1, holda hb hS.2.2.2.1, holda hb hS.2.2.2.2.1, holda hb hS.2.2.2.2.2.1, holda hb hS.2.2.2.2.2.2⟩⟩) ?_; · (intro w'; go_simp; done)
             simp only [Act.put, List.setIfInBounds_toArray, List.set_cons_zero, List.set_cons_succ]))
        refine seqU_nil (fun w' hS => ?_)
        have hB2 := hS.1
        clear hS c2 x0 x1 s0 s1 s2 g0
        obtain ⟨z0, z0f⟩ := hold hB2 HC.out
        have HS2 := Lib.hid (HS.out w' b1 hB2 (by simp))
        go_wp2
        go_roundw
        case rel => exact ⟨j + 1, by omega, by go_num, HS2.out.1, HS2.out.2⟩
        case measure => simp [intOf]; omega
end Go.Proofs.Ytgfaincejebogaa
