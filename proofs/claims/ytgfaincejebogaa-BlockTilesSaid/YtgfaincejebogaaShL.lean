/- The walk of shift.Later. Conditions: none. -/
import Derived.Test.YtgfaincejebogaaShC
namespace Go.Proofs.Ytgfaincejebogaa
open Go.RowKit
set_option maxHeartbeats 400000 in
theorem Later_any (r c r' c' : Int) (w : World) :
    Calls Try.prog 20 #[posV r c, posV r' c'] w fun e w' => e = .returned (if lessB r c r' c' then posV r' c' else posV r c) ∧ Below w.heap.size w w' := by
  have HL := Less_hid r c r' c'
  generalize lessB r c r' c' = b at *
  unfold posV at *
  cases b
  · go_enter Try.func20, Try.ntmps20
    go_wp2_with (go_at_call 39; refine (HL.out _).mono ?_; rintro e w1 ⟨rfl, hb1⟩; have hB := below_tail (show Below w.heap.size w _ from by repeat (first | exact Below.refl _ _ | refine below_allocs ?_ _ | refine below_drewNs ?_ _ | refine Below.drew ?_)) hb1; have p0 := at_new (b := w.heap.size) hb1 (by repeat (first | (refine hp_new ?_; simp; done) | refine hp_old ?_ | refine hp_drewN ?_ | refine hp_drew ?_)) 0 (.int .i64 r) rfl; have p1 := at_new (b := w.heap.size) hb1 (by repeat (first | (refine hp_new ?_; simp; done) | refine hp_old ?_ | refine hp_drewN ?_ | refine hp_drew ?_)) 1 (.int .i64 c) rfl; have s0 := at_new (b := w.heap.size + 1) hb1 (by repeat (first | (refine hp_new ?_; simp; done) | refine hp_old ?_ | refine hp_drewN ?_ | refine hp_drew ?_)) 0 (.int .i64 r') rfl; have s1 := at_new (b := w.heap.size + 1) hb1 (by repeat (first | (refine hp_new ?_; simp; done) | refine hp_old ?_ | refine hp_drewN ?_ | refine hp_drew ?_)) 1 (.int .i64 c') rfl; have q0 := at_new (b := w.heap.size + 2) hb1 (by repeat (first | (refine hp_new ?_; simp; done) | refine hp_old ?_ | refine hp_drewN ?_ | refine hp_drew ?_)) 0 (.int .i64 0) rfl; have q1 := at_new (b := w.heap.size + 2) hb1 (by repeat (first | (refine hp_new ?_; simp; done) | refine hp_old ?_ | refine hp_drewN ?_ | refine hp_drew ?_)) 1 (.int .i64 0) rfl)
    have z := lt_of_cell q0.1
    refine bodyPost_ret (v := posV r c) (by simp [results, Try.results20, go_sem, posV, q0, q1]) rfl ⟨by simp [posV], ?_⟩
    repeat (first | exact hB | refine below_set ?_ (by omega) _)
  · go_enter Try.func20, Try.ntmps20
    go_wp2_with (go_at_call 39; refine (HL.out _).mono ?_; rintro e w1 ⟨rfl, hb1⟩; have hB := below_tail (show Below w.heap.size w _ from by repeat (first | exact Below.refl _ _ | refine below_allocs ?_ _ | refine below_drewNs ?_ _ | refine Below.drew ?_)) hb1; have p0 := at_new (b := w.heap.size) hb1 (by repeat (first | (refine hp_new ?_; simp; done) | refine hp_old ?_ | refine hp_drewN ?_ | refine hp_drew ?_)) 0 (.int .i64 r) rfl; have p1 := at_new (b := w.heap.size) hb1 (by repeat (first | (refine hp_new ?_; simp; done) | refine hp_old ?_ | refine hp_drewN ?_ | refine hp_drew ?_)) 1 (.int .i64 c) rfl; have s0 := at_new (b := w.heap.size + 1) hb1 (by repeat (first | (refine hp_new ?_; simp; done) | refine hp_old ?_ | refine hp_drewN ?_ | refine hp_drew ?_)) 0 (.int .i64 r') rfl; have s1 := at_new (b := w.heap.size + 1) hb1 (by repeat (first | (refine hp_new ?_; simp; done) | refine hp_old ?_ | refine hp_drewN ?_ | refine hp_drew ?_)) 1 (.int .i64 c') rfl; have q0 := at_new (b := w.heap.size + 2) hb1 (by repeat (first | (refine hp_new ?_; simp; done) | refine hp_old ?_ | refine hp_drewN ?_ | refine hp_drew ?_)) 0 (.int .i64 0) rfl; have q1 := at_new (b := w.heap.size + 2) hb1 (by repeat (first | (refine hp_new ?_; simp; done) | refine hp_old ?_ | refine hp_drewN ?_ | refine hp_drew ?_)) 1 (.int .i64 0) rfl)
    have z := lt_of_cell q0.1
    refine bodyPost_ret (v := posV r' c') (by simp [results, Try.results20, go_sem, posV, q0, q1]) rfl ⟨by simp [posV], ?_⟩
    repeat (first | exact hB | refine below_set ?_ (by omega) _)

end Go.Proofs.Ytgfaincejebogaa
