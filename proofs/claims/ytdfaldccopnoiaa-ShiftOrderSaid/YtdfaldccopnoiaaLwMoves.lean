/- ShiftMoves: the walk of the law. Conditions: none. -/
import Derived.Test.YtdfaldccopnoiaaShD
import Derived.Test.YtdfaldccopnoiaaRegU
import Derived.Deep.DeepCutAuto
namespace Go.Proofs.Ytdfaldccopnoiaa
open Go.RowKit

theorem RMove_hid (r c k a n : Int) : Hid (∀ w : World, Calls Try.prog 19 #[posV r c, shV k a n] w fun e w' => e = .returned (posV (mv r c k a n).1 (mv r c k a n).2) ∧ Below w.heap.size w w') := Lib.hid (RMove_any r c k a n)
theorem Lost_hid (r c k a n : Int) : Hid (∀ w : World, Calls Try.prog 21 #[posV r c, shV k a n] w fun e w' => e = .returned (.bool (lostB r c k a n)) ∧ Below w.heap.size w w') := Lib.hid (Lost_any r c k a n)

set_option maxRecDepth 100000 in
set_option maxHeartbeats 1600000 in
theorem ShiftMoves_walk (r c k a n : Int) (w : World) :
    Calls Try.prog 4 #[posV r c, shV k a n] w fun e w' => e = .returned (.bool true) ∧ Below w.heap.size w w' := by
  have HM := Move_hid r c k a n
  have HRM := RMove_hid r c k a n
  have HL := Lost_hid r c k a n
  have HS := Shift10_hid k a n
  have HR := Right_hid k a n
  generalize (mv r c k a n).1 = r2 at *
  generalize (mv r c k a n).2 = c2 at *
  generalize hL : lostB r c k a n = L at *
  unfold posV shV at *
  go_enter Try.func4, Try.ntmps4
  go_upto_region 1 with (fail)
  go_cut [5] (fun s5 w' => s5 = .bool L ∧ Below w.heap.size w w' ∧ (w'.cell? ⟨w.heap.size, 0, none⟩ = some (.int .i64 r) ∧ w'.cell? ⟨w.heap.size, 1, none⟩ = some (.int .i64 c) ∧ w'.cell? ⟨w.heap.size + 1, 0, none⟩ = some (.int .i64 k) ∧ w'.cell? ⟨w.heap.size + 1, 1, none⟩ = some (.int .i64 a) ∧ w'.cell? ⟨w.heap.size + 1, 2, none⟩ = some (.int .i64 n)))
  case first =>
    clear HM HRM HL HR
    generalize hs : rightS k a n = s at *
    cases s
    · obtain rfl : L = false := by rw [← hL]; simp [lostB, hs]
      clear hL hs
      go_wp2_with (first | (go_at_call 17; refine (HS.out _).mono ?_; rintro e w1 ⟨rfl, hb1⟩; have hB := below_tail (show Below w.heap.size w _ from by repeat (first | exact Below.refl _ _ | refine below_allocs ?_ _)) hb1; have p0 := at_new (b := w.heap.size) hb1 (by repeat (first | (refine hp_new ?_; simp; done) | refine hp_old ?_)) 0 (.int .i64 r) rfl; have p1 := at_new (b := w.heap.size) hb1 (by repeat (first | (refine hp_new ?_; simp; done) | refine hp_old ?_)) 1 (.int .i64 c) rfl; have s0 := at_new (b := w.heap.size + 1) hb1 (by repeat (first | (refine hp_new ?_; simp; done) | refine hp_old ?_)) 0 (.int .i64 k) rfl; have s1 := at_new (b := w.heap.size + 1) hb1 (by repeat (first | (refine hp_new ?_; simp; done) | refine hp_old ?_)) 1 (.int .i64 a) rfl; have s2 := at_new (b := w.heap.size + 1) hb1 (by repeat (first | (refine hp_new ?_; simp; done) | refine hp_old ?_)) 2 (.int .i64 n) rfl) | (go_at_call 18; refine (Right10_any _ _).mono ?_; rintro e w2 ⟨rfl, rfl⟩))
      go_meet
      exact ⟨rfl, hB, p0.1, p1.1, s0.1, s1.1, s2.1⟩
    have b3 := rightS_true hs
    cases hr : inB r
    · obtain rfl : L = false := by rw [← hL]; simp [lostB, hr]
      clear hL hs
      go_wp2_with (first | (go_at_call 17; refine (HS.out _).mono ?_; rintro e w1 ⟨rfl, hb1⟩; have hB := below_tail (show Below w.heap.size w _ from by repeat (first | exact Below.refl _ _ | refine below_allocs ?_ _)) hb1; have p0 := at_new (b := w.heap.size) hb1 (by repeat (first | (refine hp_new ?_; simp; done) | refine hp_old ?_)) 0 (.int .i64 r) rfl; have p1 := at_new (b := w.heap.size) hb1 (by repeat (first | (refine hp_new ?_; simp; done) | refine hp_old ?_)) 1 (.int .i64 c) rfl; have s0 := at_new (b := w.heap.size + 1) hb1 (by repeat (first | (refine hp_new ?_; simp; done) | refine hp_old ?_)) 0 (.int .i64 k) rfl; have s1 := at_new (b := w.heap.size + 1) hb1 (by repeat (first | (refine hp_new ?_; simp; done) | refine hp_old ?_)) 1 (.int .i64 a) rfl; have s2 := at_new (b := w.heap.size + 1) hb1 (by repeat (first | (refine hp_new ?_; simp; done) | refine hp_old ?_)) 2 (.int .i64 n) rfl) | (go_at_call 18; refine (Right10_any _ _).mono ?_; rintro e w2 ⟨rfl, rfl⟩))
      go_meet
      exact ⟨rfl, hB, p0.1, p1.1, s0.1, s1.1, s2.1⟩
    have b4 := inB_true hr
    cases hc : inB c
    · obtain rfl : L = false := by rw [← hL]; simp [lostB, hc]
      clear hL hs
      go_wp2_with (first | (go_at_call 17; refine (HS.out _).mono ?_; rintro e w1 ⟨rfl, hb1⟩; have hB := below_tail (show Below w.heap.size w _ from by repeat (first | exact Below.refl _ _ | refine below_allocs ?_ _)) hb1; have p0 := at_new (b := w.heap.size) hb1 (by repeat (first | (refine hp_new ?_; simp; done) | refine hp_old ?_)) 0 (.int .i64 r) rfl; have p1 := at_new (b := w.heap.size) hb1 (by repeat (first | (refine hp_new ?_; simp; done) | refine hp_old ?_)) 1 (.int .i64 c) rfl; have s0 := at_new (b := w.heap.size + 1) hb1 (by repeat (first | (refine hp_new ?_; simp; done) | refine hp_old ?_)) 0 (.int .i64 k) rfl; have s1 := at_new (b := w.heap.size + 1) hb1 (by repeat (first | (refine hp_new ?_; simp; done) | refine hp_old ?_)) 1 (.int .i64 a) rfl; have s2 := at_new (b := w.heap.size + 1) hb1 (by repeat (first | (refine hp_new ?_; simp; done) | refine hp_old ?_)) 2 (.int .i64 n) rfl) | (go_at_call 18; refine (Right10_any _ _).mono ?_; rintro e w2 ⟨rfl, rfl⟩))
      go_meet
      exact ⟨rfl, hB, p0.1, p1.1, s0.1, s1.1, s2.1⟩
    by_cases h0 : k = 0
    · subst h0
      obtain rfl : L = false := by rw [← hL]; simp [lostB]
      clear hL hs
      go_wp2_with (first | (go_at_call 17; refine (HS.out _).mono ?_; rintro e w1 ⟨rfl, hb1⟩; have hB := below_tail (show Below w.heap.size w _ from by repeat (first | exact Below.refl _ _ | refine below_allocs ?_ _)) hb1; have p0 := at_new (b := w.heap.size) hb1 (by repeat (first | (refine hp_new ?_; simp; done) | refine hp_old ?_)) 0 (.int .i64 r) rfl; have p1 := at_new (b := w.heap.size) hb1 (by repeat (first | (refine hp_new ?_; simp; done) | refine hp_old ?_)) 1 (.int .i64 c) rfl; have s0 := at_new (b := w.heap.size + 1) hb1 (by repeat (first | (refine hp_new ?_; simp; done) | refine hp_old ?_)) 0 (.int .i64 0) rfl; have s1 := at_new (b := w.heap.size + 1) hb1 (by repeat (first | (refine hp_new ?_; simp; done) | refine hp_old ?_)) 1 (.int .i64 a) rfl; have s2 := at_new (b := w.heap.size + 1) hb1 (by repeat (first | (refine hp_new ?_; simp; done) | refine hp_old ?_)) 2 (.int .i64 n) rfl) | (go_at_call 18; refine (Right10_any _ _).mono ?_; rintro e w2 ⟨rfl, rfl⟩))
      go_meet
      exact ⟨rfl, hB, p0.1, p1.1, s0.1, s1.1, s2.1⟩
    have h0' : (k != 0) = true := by simpa using h0
    by_cases h2 : k = 2
    · subst h2
      obtain rfl : L = decide (r < n) := by rw [← hL]; simp [lostB, hs, hr, hc, gapI]; omega
      clear hL hs h0
      by_cases hl : r < n
      all_goals
        go_wp2_with (first | (go_at_call 17; refine (HS.out _).mono ?_; rintro e w1 ⟨rfl, hb1⟩; have hB := below_tail (show Below w.heap.size w _ from by repeat (first | exact Below.refl _ _ | refine below_allocs ?_ _)) hb1; have p0 := at_new (b := w.heap.size) hb1 (by repeat (first | (refine hp_new ?_; simp; done) | refine hp_old ?_)) 0 (.int .i64 r) rfl; have p1 := at_new (b := w.heap.size) hb1 (by repeat (first | (refine hp_new ?_; simp; done) | refine hp_old ?_)) 1 (.int .i64 c) rfl; have s0 := at_new (b := w.heap.size + 1) hb1 (by repeat (first | (refine hp_new ?_; simp; done) | refine hp_old ?_)) 0 (.int .i64 2) rfl; have s1 := at_new (b := w.heap.size + 1) hb1 (by repeat (first | (refine hp_new ?_; simp; done) | refine hp_old ?_)) 1 (.int .i64 a) rfl; have s2 := at_new (b := w.heap.size + 1) hb1 (by repeat (first | (refine hp_new ?_; simp; done) | refine hp_old ?_)) 2 (.int .i64 n) rfl) | (go_at_call 18; refine (Right10_any _ _).mono ?_; rintro e w2 ⟨rfl, rfl⟩))
        go_meet
        exact ⟨by simp [hl], hB, p0.1, p1.1, s0.1, s1.1, s2.1⟩
    have h2' : (k == 2) = false := by simpa using h2
    obtain rfl : k = 1 := by omega
    have hL' : L = (decide (a ≤ r) && decide (r < a + n)) := by rw [← hL]; simp [lostB, hs, hr, hc, gapI]
    clear hL hs h0 h2 h2' h0'
    by_cases hl : a ≤ r
    · have hw : IntKind.i64.wrap (r - a) = r - a := IntWalk.i64_in _ (by omega)
      by_cases hl2 : r - a < n
      · obtain rfl : L = true := by rw [hL']; simp [hl]; omega
        clear hL'
        go_wp2_with (first | (go_at_call 17; refine (HS.out _).mono ?_; rintro e w1 ⟨rfl, hb1⟩; have hB := below_tail (show Below w.heap.size w _ from by repeat (first | exact Below.refl _ _ | refine below_allocs ?_ _)) hb1; have p0 := at_new (b := w.heap.size) hb1 (by repeat (first | (refine hp_new ?_; simp; done) | refine hp_old ?_)) 0 (.int .i64 r) rfl; have p1 := at_new (b := w.heap.size) hb1 (by repeat (first | (refine hp_new ?_; simp; done) | refine hp_old ?_)) 1 (.int .i64 c) rfl; have s0 := at_new (b := w.heap.size + 1) hb1 (by repeat (first | (refine hp_new ?_; simp; done) | refine hp_old ?_)) 0 (.int .i64 1) rfl; have s1 := at_new (b := w.heap.size + 1) hb1 (by repeat (first | (refine hp_new ?_; simp; done) | refine hp_old ?_)) 1 (.int .i64 a) rfl; have s2 := at_new (b := w.heap.size + 1) hb1 (by repeat (first | (refine hp_new ?_; simp; done) | refine hp_old ?_)) 2 (.int .i64 n) rfl) | (go_at_call 18; refine (Right10_any _ _).mono ?_; rintro e w2 ⟨rfl, rfl⟩))
        go_meet
        exact ⟨rfl, hB, p0.1, p1.1, s0.1, s1.1, s2.1⟩
      · obtain rfl : L = false := by rw [hL']; simp [hl]; omega
        clear hL'
        go_wp2_with (first | (go_at_call 17; refine (HS.out _).mono ?_; rintro e w1 ⟨rfl, hb1⟩; have hB := below_tail (show Below w.heap.size w _ from by repeat (first | exact Below.refl _ _ | refine below_allocs ?_ _)) hb1; have p0 := at_new (b := w.heap.size) hb1 (by repeat (first | (refine hp_new ?_; simp; done) | refine hp_old ?_)) 0 (.int .i64 r) rfl; have p1 := at_new (b := w.heap.size) hb1 (by repeat (first | (refine hp_new ?_; simp; done) | refine hp_old ?_)) 1 (.int .i64 c) rfl; have s0 := at_new (b := w.heap.size + 1) hb1 (by repeat (first | (refine hp_new ?_; simp; done) | refine hp_old ?_)) 0 (.int .i64 1) rfl; have s1 := at_new (b := w.heap.size + 1) hb1 (by repeat (first | (refine hp_new ?_; simp; done) | refine hp_old ?_)) 1 (.int .i64 a) rfl; have s2 := at_new (b := w.heap.size + 1) hb1 (by repeat (first | (refine hp_new ?_; simp; done) | refine hp_old ?_)) 2 (.int .i64 n) rfl) | (go_at_call 18; refine (Right10_any _ _).mono ?_; rintro e w2 ⟨rfl, rfl⟩))
        go_meet
        exact ⟨by simp; omega, hB, p0.1, p1.1, s0.1, s1.1, s2.1⟩
    · obtain rfl : L = false := by rw [hL']; simp [hl]
      clear hL'
      go_wp2_with (first | (go_at_call 17; refine (HS.out _).mono ?_; rintro e w1 ⟨rfl, hb1⟩; have hB := below_tail (show Below w.heap.size w _ from by repeat (first | exact Below.refl _ _ | refine below_allocs ?_ _)) hb1; have p0 := at_new (b := w.heap.size) hb1 (by repeat (first | (refine hp_new ?_; simp; done) | refine hp_old ?_)) 0 (.int .i64 r) rfl; have p1 := at_new (b := w.heap.size) hb1 (by repeat (first | (refine hp_new ?_; simp; done) | refine hp_old ?_)) 1 (.int .i64 c) rfl; have s0 := at_new (b := w.heap.size + 1) hb1 (by repeat (first | (refine hp_new ?_; simp; done) | refine hp_old ?_)) 0 (.int .i64 1) rfl; have s1 := at_new (b := w.heap.size + 1) hb1 (by repeat (first | (refine hp_new ?_; simp; done) | refine hp_old ?_)) 1 (.int .i64 a) rfl; have s2 := at_new (b := w.heap.size + 1) hb1 (by repeat (first | (refine hp_new ?_; simp; done) | refine hp_old ?_)) 2 (.int .i64 n) rfl) | (go_at_call 18; refine (Right10_any _ _).mono ?_; rintro e w2 ⟨rfl, rfl⟩))
      go_meet
      exact ⟨rfl, hB, p0.1, p1.1, s0.1, s1.1, s2.1⟩
  case rest =>
    obtain ⟨rfl, hB, hcells⟩ := hcut
    clear hL
    go_wp2_with fail
    refine wp_region_u 24 (fun w' => Below w.heap.size w w' ∧ (w'.cell? ⟨w.heap.size, 0, none⟩ = some (.int .i64 r) ∧ w'.cell? ⟨w.heap.size, 1, none⟩ = some (.int .i64 c) ∧ w'.cell? ⟨w.heap.size + 1, 0, none⟩ = some (.int .i64 k) ∧ w'.cell? ⟨w.heap.size + 1, 1, none⟩ = some (.int .i64 a) ∧ w'.cell? ⟨w.heap.size + 1, 2, none⟩ = some (.int .i64 n))) (by kernel_rfl) (by kernel_rfl) ?_ ?_
    · exact ⟨hB.drew, hcells⟩
    simp only [List.take_succ_cons, List.take_zero, List.drop_succ_cons, List.drop_zero]
    repeat (first
      | (refine seqU_skip (by rfl) ?_; simp only [Act.put, List.setIfInBounds_toArray, List.set_cons_zero, List.set_cons_succ])
      | (refine seqU_val ?_ (by rfl) ?_ ?_; rotate_left; · (intro w' hS; obtain ⟨_, _⟩ := hS; go_simp; first | done | with_reducible rfl)
         simp only [Act.put, List.setIfInBounds_toArray, List.set_cons_zero, List.set_cons_succ])
      | (refine seqU_call 16 #[.agg #[.int .i64 r, .int .i64 c], .agg #[.int .i64 k, .int .i64 a, .int .i64 n]] (.agg #[.int .i64 r2, .int .i64 c2]) (by rfl) ?_ (fun w' hS => (HM.out w').mono fun e w2 ⟨he, hb⟩ => ⟨he, ⟨below_tail hS.1 hb, holda hb hS.2.1, holda hb hS.2.2.1, holda hb hS.2.2.2.1, holda hb hS.2.2.2.2.1, holda hb hS.2.2.2.2.2⟩⟩) ?_; · (intro w'; go_simp; done)
         simp only [Act.put, List.setIfInBounds_toArray, List.set_cons_zero, List.set_cons_succ])
      | (refine seqU_call 19 #[.agg #[.int .i64 r, .int .i64 c], .agg #[.int .i64 k, .int .i64 a, .int .i64 n]] (.agg #[.int .i64 r2, .int .i64 c2]) (by rfl) ?_ (fun w' hS => (HRM.out w').mono fun e w2 ⟨he, hb⟩ => ⟨he, ⟨below_tail hS.1 hb, holda hb hS.2.1, holda hb hS.2.2.1, holda hb hS.2.2.2.1, holda hb hS.2.2.2.2.1, holda hb hS.2.2.2.2.2⟩⟩) ?_; · (intro w'; go_simp; done)
         simp only [Act.put, List.setIfInBounds_toArray, List.set_cons_zero, List.set_cons_succ])
      | (refine seqU_call 20 #[.agg #[.int .i64 k, .int .i64 a, .int .i64 n]] (.bool (rightS k a n)) (by rfl) ?_ (fun w' hS => (HR.out w').mono fun e w2 ⟨he, hb⟩ => ⟨he, ⟨below_tail hS.1 hb, holda hb hS.2.1, holda hb hS.2.2.1, holda hb hS.2.2.2.1, holda hb hS.2.2.2.2.1, holda hb hS.2.2.2.2.2⟩⟩) ?_; · (intro w'; go_simp; done)
         simp only [Act.put, List.setIfInBounds_toArray, List.set_cons_zero, List.set_cons_succ])
      | (refine seqU_call 17 #[.agg #[.int .i64 k, .int .i64 a, .int .i64 n]] (.bool (rightS k a n)) (by rfl) ?_ (fun w' hS => (HS.out w').mono fun e w2 ⟨he, hb⟩ => ⟨he, ⟨below_tail hS.1 hb, holda hb hS.2.1, holda hb hS.2.2.1, holda hb hS.2.2.2.1, holda hb hS.2.2.2.2.1, holda hb hS.2.2.2.2.2⟩⟩) ?_; · (intro w'; go_simp; done)
         simp only [Act.put, List.setIfInBounds_toArray, List.set_cons_zero, List.set_cons_succ])
      | (refine seqU_call 21 #[.agg #[.int .i64 r, .int .i64 c], .agg #[.int .i64 k, .int .i64 a, .int .i64 n]] (.bool L) (by rfl) ?_ (fun w' hS => (HL.out w').mono fun e w2 ⟨he, hb⟩ => ⟨he, ⟨below_tail hS.1 hb, holda hb hS.2.1, holda hb hS.2.2.1, holda hb hS.2.2.2.1, holda hb hS.2.2.2.2.1, holda hb hS.2.2.2.2.2⟩⟩) ?_; · (intro w'; go_simp; done)
         simp only [Act.put, List.setIfInBounds_toArray, List.set_cons_zero, List.set_cons_succ])
      | (refine seqU_call 14 #[] (.bool true) (by rfl) ?_ (fun w' hS => (awake10 w').mono fun e w2 ⟨he, hb⟩ => ⟨he, ⟨below_tail hS.1 hb, holda hb hS.2.1, holda hb hS.2.2.1, holda hb hS.2.2.2.1, holda hb hS.2.2.2.2.1, holda hb hS.2.2.2.2.2⟩⟩) ?_; · (intro w'; go_simp; done)
         simp only [Act.put, List.setIfInBounds_toArray, List.set_cons_zero, List.set_cons_succ]))
    refine seqU_nil (fun w' hS => ?_)
    obtain ⟨hB2, hc2⟩ := hS
    go_wp2
    go_ret
    exact ⟨by simp, hB2⟩
end Go.Proofs.Ytdfaldccopnoiaa
