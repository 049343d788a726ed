/- Walks of shift.Move and of the document's Move: both return what the plain function mv says. Conditions: none. -/
import Derived.Test.YtgfaincejebogaaShA
import Derived.Test.YtgfaincejebogaaBase
namespace Go.Proofs.Ytgfaincejebogaa
open Go.RowKit

def mv (r c k a n : Int) : Int × Int :=
  if inB r = true ∧ inB c = true ∧ rightS k a n = true ∧ gapI k a ≤ r then
    if k = 0 then (r + n, c) else if r < gapI k a + n then (gapI k a, 0) else (r - n, c)
  else (r, c)
def posV (r c : Int) : Value := .agg #[.int .i64 r, .int .i64 c]
def shV (k a n : Int) : Value := .agg #[.int .i64 k, .int .i64 a, .int .i64 n]

theorem mv_in {r c k a n : Int} (h : inB r = true ∧ inB c = true ∧ rightS k a n = true ∧ gapI k a ≤ r) :
    posV (mv r c k a n).1 (mv r c k a n).2 = if k = 0 then posV (r + n) c else if r < gapI k a + n then posV (gapI k a) 0 else posV (r - n) c := by
  have e : mv r c k a n = if k = 0 then (r + n, c) else if r < gapI k a + n then (gapI k a, 0) else (r - n, c) := by rw [mv, if_pos h]
  rw [e]
  split
  · rfl
  · split <;> rfl
theorem rightS_true {k a n : Int} (h : rightS k a n = true) : 0 ≤ k ∧ k ≤ 2 ∧ 0 ≤ a ∧ a ≤ 1099511627776 ∧ 0 < n ∧ n ≤ 1099511627776 := by
  simp [rightS, inB] at h; omega
theorem gapI_bd {k a : Int} (h : 0 ≤ a) (h' : a ≤ 1099511627776) : 0 ≤ gapI k a ∧ gapI k a ≤ 1099511627776 := by unfold gapI; split <;> omega

theorem gap_hid (k a n : Int) : Hid (∀ w : World, Calls Try.prog 42 #[.agg #[.int .i64 k, .int .i64 a, .int .i64 n]] w fun e w' => e = .returned (.int .i64 (gapI k a)) ∧ Below w.heap.size w w') := Lib.hid (gap_any k a n)
theorem right_hid (r c : Int) : Hid (∀ w : World, Calls Try.prog 43 #[.agg #[.int .i64 r, .int .i64 c]] w fun e w' => e = .returned (.bool (inB r && inB c)) ∧ Below w.heap.size w w') := Lib.hid (right_any r c)
theorem Right_hid (k a n : Int) : Hid (∀ w : World, Calls Try.prog 28 #[.agg #[.int .i64 k, .int .i64 a, .int .i64 n]] w fun e w' => e = .returned (.bool (rightS k a n)) ∧ Below w.heap.size w w') := Lib.hid (Right_any k a n)

set_option maxHeartbeats 400000 in
theorem Move_core (r c k a n g : Int) (b s : Bool) (w : World) (h : b = false ∨ s = false ∨ r < g)
    (HG : Hid (∀ w : World, Calls Try.prog 42 #[.agg #[.int .i64 k, .int .i64 a, .int .i64 n]] w fun e w' => e = .returned (.int .i64 g) ∧ Below w.heap.size w w'))
    (HR : Hid (∀ w : World, Calls Try.prog 43 #[.agg #[.int .i64 r, .int .i64 c]] w fun e w' => e = .returned (.bool b) ∧ Below w.heap.size w w'))
    (HS : Hid (∀ w : World, Calls Try.prog 28 #[.agg #[.int .i64 k, .int .i64 a, .int .i64 n]] w fun e w' => e = .returned (.bool s) ∧ Below w.heap.size w w')) :
    Calls Try.prog 31 #[posV r c, shV k a n] w fun e w' => e = .returned (posV r c) ∧ Below w.heap.size w w' := by
  unfold posV shV
  cases b
  rotate_left
  cases s
  rotate_left
  have hl : r < g := by simpa using h
  all_goals
    clear h
    go_enter Try.func31, Try.ntmps31
    go_wp2_with (first | (go_at_call 42; refine (HG.out _).mono ?_; rintro e w1 ⟨rfl, hb1⟩; have hB := below_tail (show Below w.heap.size w _ from by repeat (first | exact Below.refl _ _ | refine below_allocs ?_ _ | refine below_drewNs ?_ _ | refine Below.drew ?_)) hb1; have p0 := at_new (b := w.heap.size) hb1 (by repeat (first | (refine hp_new ?_; simp; done) | refine hp_old ?_ | refine hp_drewN ?_ | refine hp_drew ?_)) 0 (.int .i64 r) rfl; have p1 := at_new (b := w.heap.size) hb1 (by repeat (first | (refine hp_new ?_; simp; done) | refine hp_old ?_ | refine hp_drewN ?_ | refine hp_drew ?_)) 1 (.int .i64 c) rfl; have s0 := at_new (b := w.heap.size + 1) hb1 (by repeat (first | (refine hp_new ?_; simp; done) | refine hp_old ?_ | refine hp_drewN ?_ | refine hp_drew ?_)) 0 (.int .i64 k) rfl; have s1 := at_new (b := w.heap.size + 1) hb1 (by repeat (first | (refine hp_new ?_; simp; done) | refine hp_old ?_ | refine hp_drewN ?_ | refine hp_drew ?_)) 1 (.int .i64 a) rfl; have s2 := at_new (b := w.heap.size + 1) hb1 (by repeat (first | (refine hp_new ?_; simp; done) | refine hp_old ?_ | refine hp_drewN ?_ | refine hp_drew ?_)) 2 (.int .i64 n) rfl; have q0 := at_new (b := w.heap.size + 2) hb1 (by repeat (first | (refine hp_new ?_; simp; done) | refine hp_old ?_ | refine hp_drewN ?_ | refine hp_drew ?_)) 0 (.int .i64 0) rfl; have q1 := at_new (b := w.heap.size + 2) hb1 (by repeat (first | (refine hp_new ?_; simp; done) | refine hp_old ?_ | refine hp_drewN ?_ | refine hp_drew ?_)) 1 (.int .i64 0) rfl) | (go_at_call 43; refine (HR.out _).mono ?_; rintro e w2 ⟨rfl, hb2⟩; replace p0 := hold hb2 p0; replace p1 := hold hb2 p1; replace s0 := hold hb2 s0; replace s1 := hold hb2 s1; replace s2 := hold hb2 s2; replace q0 := hold hb2 q0; replace q1 := hold hb2 q1; replace hB := below_tail hB hb2) | (go_at_call 28; refine (HS.out _).mono ?_; rintro e w3 ⟨rfl, hb3⟩; replace p0 := hold hb3 p0; replace p1 := hold hb3 p1; replace s0 := hold hb3 s0; replace s1 := hold hb3 s1; replace s2 := hold hb3 s2; replace q0 := hold hb3 q0; replace q1 := hold hb3 q1; replace hB := below_tail hB hb3))
    have z := lt_of_cell q0.1
    refine bodyPost_ret (v := posV r c) (by simp [results, Try.results31, go_sem, posV, q0, q1]) rfl ⟨rfl, ?_⟩
    exact below_set (below_set hB (by omega) _) (by omega) _

set_option maxHeartbeats 400000 in
theorem Move_in (r c k a n g : Int) (w : World) (h0 : 0 ≤ r) (h1 : r ≤ 1099511627776) (h2 : 0 ≤ g) (h3 : g ≤ 1099511627776) (h4 : 0 < n) (h5 : n ≤ 1099511627776) (h6 : g ≤ r)
    (HG : Hid (∀ w : World, Calls Try.prog 42 #[.agg #[.int .i64 k, .int .i64 a, .int .i64 n]] w fun e w' => e = .returned (.int .i64 g) ∧ Below w.heap.size w w'))
    (HR : Hid (∀ w : World, Calls Try.prog 43 #[.agg #[.int .i64 r, .int .i64 c]] w fun e w' => e = .returned (.bool true) ∧ Below w.heap.size w w'))
    (HS : Hid (∀ w : World, Calls Try.prog 28 #[.agg #[.int .i64 k, .int .i64 a, .int .i64 n]] w fun e w' => e = .returned (.bool true) ∧ Below w.heap.size w w')) :
    Calls Try.prog 31 #[posV r c, shV k a n] w fun e w' => e = .returned (if k = 0 then posV (r + n) c else if r < g + n then posV g 0 else posV (r - n) c) ∧ Below w.heap.size w w' := by
  by_cases hk : k = 0
  · subst hk
    unfold posV shV
    go_enter Try.func31, Try.ntmps31
    go_wp2_with (first | (go_at_call 42; refine (HG.out _).mono ?_; rintro e w1 ⟨rfl, hb1⟩; have hB := below_tail (show Below w.heap.size w _ from by repeat (first | exact Below.refl _ _ | refine below_allocs ?_ _ | refine below_drewNs ?_ _ | refine Below.drew ?_)) hb1; have p0 := at_new (b := w.heap.size) hb1 (by repeat (first | (refine hp_new ?_; simp; done) | refine hp_old ?_ | refine hp_drewN ?_ | refine hp_drew ?_)) 0 (.int .i64 r) rfl; have p1 := at_new (b := w.heap.size) hb1 (by repeat (first | (refine hp_new ?_; simp; done) | refine hp_old ?_ | refine hp_drewN ?_ | refine hp_drew ?_)) 1 (.int .i64 c) rfl; have s0 := at_new (b := w.heap.size + 1) hb1 (by repeat (first | (refine hp_new ?_; simp; done) | refine hp_old ?_ | refine hp_drewN ?_ | refine hp_drew ?_)) 0 (.int .i64 0) rfl; have s1 := at_new (b := w.heap.size + 1) hb1 (by repeat (first | (refine hp_new ?_; simp; done) | refine hp_old ?_ | refine hp_drewN ?_ | refine hp_drew ?_)) 1 (.int .i64 a) rfl; have s2 := at_new (b := w.heap.size + 1) hb1 (by repeat (first | (refine hp_new ?_; simp; done) | refine hp_old ?_ | refine hp_drewN ?_ | refine hp_drew ?_)) 2 (.int .i64 n) rfl; have q0 := at_new (b := w.heap.size + 2) hb1 (by repeat (first | (refine hp_new ?_; simp; done) | refine hp_old ?_ | refine hp_drewN ?_ | refine hp_drew ?_)) 0 (.int .i64 0) rfl; have q1 := at_new (b := w.heap.size + 2) hb1 (by repeat (first | (refine hp_new ?_; simp; done) | refine hp_old ?_ | refine hp_drewN ?_ | refine hp_drew ?_)) 1 (.int .i64 0) rfl) | (go_at_call 43; refine (HR.out _).mono ?_; rintro e w2 ⟨rfl, hb2⟩; replace p0 := hold hb2 p0; replace p1 := hold hb2 p1; replace s0 := hold hb2 s0; replace s1 := hold hb2 s1; replace s2 := hold hb2 s2; replace q0 := hold hb2 q0; replace q1 := hold hb2 q1; replace hB := below_tail hB hb2) | (go_at_call 28; refine (HS.out _).mono ?_; rintro e w3 ⟨rfl, hb3⟩; replace p0 := hold hb3 p0; replace p1 := hold hb3 p1; replace s0 := hold hb3 s0; replace s1 := hold hb3 s1; replace s2 := hold hb3 s2; replace q0 := hold hb3 q0; replace q1 := hold hb3 q1; replace hB := below_tail hB hb3))
    have z := lt_of_cell q0.1
    refine bodyPost_ret (v := posV (r + n) c) (by simp [results, Try.results31, go_sem, posV, q0, q1]) rfl ⟨by simp [posV], ?_⟩
    repeat (first | exact hB | refine below_set ?_ (by omega) _)
  · have hk0 : (k == 0) = false := by simpa using hk
    by_cases hl : r < g + n
    · rw [if_neg hk, if_pos hl]
      clear hk
      unfold posV shV
      go_enter Try.func31, Try.ntmps31
      go_wp2_with (first | (go_at_call 42; refine (HG.out _).mono ?_; rintro e w1 ⟨rfl, hb1⟩; have hB := below_tail (show Below w.heap.size w _ from by repeat (first | exact Below.refl _ _ | refine below_allocs ?_ _ | refine below_drewNs ?_ _ | refine Below.drew ?_)) hb1; have p0 := at_new (b := w.heap.size) hb1 (by repeat (first | (refine hp_new ?_; simp; done) | refine hp_old ?_ | refine hp_drewN ?_ | refine hp_drew ?_)) 0 (.int .i64 r) rfl; have p1 := at_new (b := w.heap.size) hb1 (by repeat (first | (refine hp_new ?_; simp; done) | refine hp_old ?_ | refine hp_drewN ?_ | refine hp_drew ?_)) 1 (.int .i64 c) rfl; have s0 := at_new (b := w.heap.size + 1) hb1 (by repeat (first | (refine hp_new ?_; simp; done) | refine hp_old ?_ | refine hp_drewN ?_ | refine hp_drew ?_)) 0 (.int .i64 k) rfl; have s1 := at_new (b := w.heap.size + 1) hb1 (by repeat (first | (refine hp_new ?_; simp; done) | refine hp_old ?_ | refine hp_drewN ?_ | refine hp_drew ?_)) 1 (.int .i64 a) rfl; have s2 := at_new (b := w.heap.size + 1) hb1 (by repeat (first | (refine hp_new ?_; simp; done) | refine hp_old ?_ | refine hp_drewN ?_ | refine hp_drew ?_)) 2 (.int .i64 n) rfl; have q0 := at_new (b := w.heap.size + 2) hb1 (by repeat (first | (refine hp_new ?_; simp; done) | refine hp_old ?_ | refine hp_drewN ?_ | refine hp_drew ?_)) 0 (.int .i64 0) rfl; have q1 := at_new (b := w.heap.size + 2) hb1 (by repeat (first | (refine hp_new ?_; simp; done) | refine hp_old ?_ | refine hp_drewN ?_ | refine hp_drew ?_)) 1 (.int .i64 0) rfl) | (go_at_call 43; refine (HR.out _).mono ?_; rintro e w2 ⟨rfl, hb2⟩; replace p0 := hold hb2 p0; replace p1 := hold hb2 p1; replace s0 := hold hb2 s0; replace s1 := hold hb2 s1; replace s2 := hold hb2 s2; replace q0 := hold hb2 q0; replace q1 := hold hb2 q1; replace hB := below_tail hB hb2) | (go_at_call 28; refine (HS.out _).mono ?_; rintro e w3 ⟨rfl, hb3⟩; replace p0 := hold hb3 p0; replace p1 := hold hb3 p1; replace s0 := hold hb3 s0; replace s1 := hold hb3 s1; replace s2 := hold hb3 s2; replace q0 := hold hb3 q0; replace q1 := hold hb3 q1; replace hB := below_tail hB hb3))
      have z := lt_of_cell q0.1
      refine bodyPost_ret (v := posV g 0) (by simp [results, Try.results31, go_sem, posV, q0, q1]) rfl ⟨by simp [posV], ?_⟩
      repeat (first | exact hB | refine below_set ?_ (by omega) _)
    · rw [if_neg hk, if_neg hl]
      clear hk
      unfold posV shV
      go_enter Try.func31, Try.ntmps31
      go_wp2_with (first | (go_at_call 42; refine (HG.out _).mono ?_; rintro e w1 ⟨rfl, hb1⟩; have hB := below_tail (show Below w.heap.size w _ from by repeat (first | exact Below.refl _ _ | refine below_allocs ?_ _ | refine below_drewNs ?_ _ | refine Below.drew ?_)) hb1; have p0 := at_new (b := w.heap.size) hb1 (by repeat (first | (refine hp_new ?_; simp; done) | refine hp_old ?_ | refine hp_drewN ?_ | refine hp_drew ?_)) 0 (.int .i64 r) rfl; have p1 := at_new (b := w.heap.size) hb1 (by repeat (first | (refine hp_new ?_; simp; done) | refine hp_old ?_ | refine hp_drewN ?_ | refine hp_drew ?_)) 1 (.int .i64 c) rfl; have s0 := at_new (b := w.heap.size + 1) hb1 (by repeat (first | (refine hp_new ?_; simp; done) | refine hp_old ?_ | refine hp_drewN ?_ | refine hp_drew ?_)) 0 (.int .i64 k) rfl; have s1 := at_new (b := w.heap.size + 1) hb1 (by repeat (first | (refine hp_new ?_; simp; done) | refine hp_old ?_ | refine hp_drewN ?_ | refine hp_drew ?_)) 1 (.int .i64 a) rfl; have s2 := at_new (b := w.heap.size + 1) hb1 (by repeat (first | (refine hp_new ?_; simp; done) | refine hp_old ?_ | refine hp_drewN ?_ | refine hp_drew ?_)) 2 (.int .i64 n) rfl; have q0 := at_new (b := w.heap.size + 2) hb1 (by repeat (first | (refine hp_new ?_; simp; done) | refine hp_old ?_ | refine hp_drewN ?_ | refine hp_drew ?_)) 0 (.int .i64 0) rfl; have q1 := at_new (b := w.heap.size + 2) hb1 (by repeat (first | (refine hp_new ?_; simp; done) | refine hp_old ?_ | refine hp_drewN ?_ | refine hp_drew ?_)) 1 (.int .i64 0) rfl) | (go_at_call 43; refine (HR.out _).mono ?_; rintro e w2 ⟨rfl, hb2⟩; replace p0 := hold hb2 p0; replace p1 := hold hb2 p1; replace s0 := hold hb2 s0; replace s1 := hold hb2 s1; replace s2 := hold hb2 s2; replace q0 := hold hb2 q0; replace q1 := hold hb2 q1; replace hB := below_tail hB hb2) | (go_at_call 28; refine (HS.out _).mono ?_; rintro e w3 ⟨rfl, hb3⟩; replace p0 := hold hb3 p0; replace p1 := hold hb3 p1; replace s0 := hold hb3 s0; replace s1 := hold hb3 s1; replace s2 := hold hb3 s2; replace q0 := hold hb3 q0; replace q1 := hold hb3 q1; replace hB := below_tail hB hb3))
      have z := lt_of_cell q0.1
      refine bodyPost_ret (v := posV (r - n) c) (by simp [results, Try.results31, go_sem, posV, q0, q1]) rfl ⟨by simp [posV], ?_⟩
      repeat (first | exact hB | refine below_set ?_ (by omega) _)

theorem Move_any (r c k a n : Int) (w : World) :
    Calls Try.prog 31 #[posV r c, shV k a n] w fun e w' => e = .returned (posV (mv r c k a n).1 (mv r c k a n).2) ∧ Below w.heap.size w w' := by
  by_cases h : inB r = true ∧ inB c = true ∧ rightS k a n = true ∧ gapI k a ≤ r
  · obtain ⟨a1, a2, a3, a4⟩ := h
    have b1 := inB_true a1
    have b3 := rightS_true a3
    have b4 := gapI_bd (k := k) b3.2.2.1 b3.2.2.2.1
    have HR := right_hid r c
    have HS := Right_hid k a n
    rw [a1, a2] at HR
    rw [a3] at HS
    refine (Move_in r c k a n (gapI k a) w b1.1 b1.2 b4.1 b4.2 b3.2.2.2.2.1 b3.2.2.2.2.2 a4 (gap_hid k a n) HR HS).mono fun e w' ⟨he, hb⟩ => ⟨?_, hb⟩
    rw [he, mv_in ⟨a1, a2, a3, a4⟩]
  · refine (Move_core r c k a n (gapI k a) (inB r && inB c) (rightS k a n) w ?_ (gap_hid k a n) (right_hid r c) (Right_hid k a n)).mono fun e w' ⟨he, hb⟩ => ⟨?_, hb⟩
    · cases h1 : inB r <;> cases h2 : inB c <;> cases h3 : rightS k a n <;> simp_all
    · rw [he, mv, if_neg h]

theorem Shift10_hid (k a n : Int) : Hid (∀ w : World, Calls Try.prog 32 #[.agg #[.int .i64 k, .int .i64 a, .int .i64 n]] w fun e w' => e = .returned (.bool (rightS k a n)) ∧ Below w.heap.size w w') := Lib.hid (Shift10_any k a n)
set_option maxHeartbeats 400000 in
theorem RMove_in (r c k a n g : Int) (w : World) (h0 : 0 ≤ r) (h1 : r ≤ 1099511627776) (h2 : 0 ≤ g) (h3 : g ≤ 1099511627776) (h4 : 0 < n) (h5 : n ≤ 1099511627776) (h6 : g ≤ r)
    (hr : inB r = true) (hc : inB c = true) (hg : k = 2 ∧ g = 0 ∨ (k == 2) = false ∧ g = a)
    (HS : Hid (∀ w : World, Calls Try.prog 32 #[.agg #[.int .i64 k, .int .i64 a, .int .i64 n]] w fun e w' => e = .returned (.bool true) ∧ Below w.heap.size w w')) :
    Calls Try.prog 35 #[posV r c, shV k a n] w fun e w' => e = .returned (if k = 0 then posV (r + n) c else if r < g + n then posV g 0 else posV (r - n) c) ∧ Below w.heap.size w w' := by
  rcases hg with ⟨rfl, rfl⟩ | ⟨hk2, rfl⟩
  · rw [if_neg (by omega)]
    by_cases hl : r < 0 + n
    · rw [if_pos hl]
      replace hl : r < n := by omega
      unfold posV shV
      go_enter Try.func35, Try.ntmps35
      go_wp2_with (first | (go_at_call 32; refine (HS.out _).mono ?_; rintro e w1 ⟨rfl, hb1⟩; have hB := below_tail (show Below w.heap.size w _ from by repeat (first | exact Below.refl _ _ | refine below_allocs ?_ _ | refine below_drewNs ?_ _ | refine Below.drew ?_)) hb1; have p0 := at_new (b := w.heap.size) hb1 (by repeat (first | (refine hp_new ?_; simp; done) | refine hp_old ?_ | refine hp_drewN ?_ | refine hp_drew ?_)) 0 (.int .i64 r) rfl; have p1 := at_new (b := w.heap.size) hb1 (by repeat (first | (refine hp_new ?_; simp; done) | refine hp_old ?_ | refine hp_drewN ?_ | refine hp_drew ?_)) 1 (.int .i64 c) rfl; have s0 := at_new (b := w.heap.size + 1) hb1 (by repeat (first | (refine hp_new ?_; simp; done) | refine hp_old ?_ | refine hp_drewN ?_ | refine hp_drew ?_)) 0 (.int .i64 2) rfl; have s1 := at_new (b := w.heap.size + 1) hb1 (by repeat (first | (refine hp_new ?_; simp; done) | refine hp_old ?_ | refine hp_drewN ?_ | refine hp_drew ?_)) 1 (.int .i64 a) rfl; have s2 := at_new (b := w.heap.size + 1) hb1 (by repeat (first | (refine hp_new ?_; simp; done) | refine hp_old ?_ | refine hp_drewN ?_ | refine hp_drew ?_)) 2 (.int .i64 n) rfl; have q0 := at_new (b := w.heap.size + 2) hb1 (by repeat (first | (refine hp_new ?_; simp; done) | refine hp_old ?_ | refine hp_drewN ?_ | refine hp_drew ?_)) 0 (.int .i64 0) rfl; have q1 := at_new (b := w.heap.size + 2) hb1 (by repeat (first | (refine hp_new ?_; simp; done) | refine hp_old ?_ | refine hp_drewN ?_ | refine hp_drew ?_)) 1 (.int .i64 0) rfl) | (go_at_call 5; refine (Right10_any _ _).mono ?_; rintro e w2 ⟨rfl, rfl⟩))
      have z := lt_of_cell q0.1
      refine bodyPost_ret (v := posV 0 0) (by simp [results, Try.results35, go_sem, posV, q0, q1]) rfl ⟨by simp [posV], ?_⟩
      repeat (first | exact hB | refine below_set ?_ (by omega) _)
    · rw [if_neg hl]
      replace hl : n ≤ r := by omega
      unfold posV shV
      go_enter Try.func35, Try.ntmps35
      go_wp2_with (first | (go_at_call 32; refine (HS.out _).mono ?_; rintro e w1 ⟨rfl, hb1⟩; have hB := below_tail (show Below w.heap.size w _ from by repeat (first | exact Below.refl _ _ | refine below_allocs ?_ _ | refine below_drewNs ?_ _ | refine Below.drew ?_)) hb1; have p0 := at_new (b := w.heap.size) hb1 (by repeat (first | (refine hp_new ?_; simp; done) | refine hp_old ?_ | refine hp_drewN ?_ | refine hp_drew ?_)) 0 (.int .i64 r) rfl; have p1 := at_new (b := w.heap.size) hb1 (by repeat (first | (refine hp_new ?_; simp; done) | refine hp_old ?_ | refine hp_drewN ?_ | refine hp_drew ?_)) 1 (.int .i64 c) rfl; have s0 := at_new (b := w.heap.size + 1) hb1 (by repeat (first | (refine hp_new ?_; simp; done) | refine hp_old ?_ | refine hp_drewN ?_ | refine hp_drew ?_)) 0 (.int .i64 2) rfl; have s1 := at_new (b := w.heap.size + 1) hb1 (by repeat (first | (refine hp_new ?_; simp; done) | refine hp_old ?_ | refine hp_drewN ?_ | refine hp_drew ?_)) 1 (.int .i64 a) rfl; have s2 := at_new (b := w.heap.size + 1) hb1 (by repeat (first | (refine hp_new ?_; simp; done) | refine hp_old ?_ | refine hp_drewN ?_ | refine hp_drew ?_)) 2 (.int .i64 n) rfl; have q0 := at_new (b := w.heap.size + 2) hb1 (by repeat (first | (refine hp_new ?_; simp; done) | refine hp_old ?_ | refine hp_drewN ?_ | refine hp_drew ?_)) 0 (.int .i64 0) rfl; have q1 := at_new (b := w.heap.size + 2) hb1 (by repeat (first | (refine hp_new ?_; simp; done) | refine hp_old ?_ | refine hp_drewN ?_ | refine hp_drew ?_)) 1 (.int .i64 0) rfl) | (go_at_call 5; refine (Right10_any _ _).mono ?_; rintro e w2 ⟨rfl, rfl⟩))
      have z := lt_of_cell q0.1
      refine bodyPost_ret (v := posV (r - n) c) (by simp [results, Try.results35, go_sem, posV, q0, q1]) rfl ⟨by simp [posV], ?_⟩
      repeat (first | exact hB | refine below_set ?_ (by omega) _)
  · by_cases hk : k = 0
    · subst hk
      rw [if_pos rfl]
      unfold posV shV
      go_enter Try.func35, Try.ntmps35
      go_wp2_with (first | (go_at_call 32; refine (HS.out _).mono ?_; rintro e w1 ⟨rfl, hb1⟩; have hB := below_tail (show Below w.heap.size w _ from by repeat (first | exact Below.refl _ _ | refine below_allocs ?_ _ | refine below_drewNs ?_ _ | refine Below.drew ?_)) hb1; have p0 := at_new (b := w.heap.size) hb1 (by repeat (first | (refine hp_new ?_; simp; done) | refine hp_old ?_ | refine hp_drewN ?_ | refine hp_drew ?_)) 0 (.int .i64 r) rfl; have p1 := at_new (b := w.heap.size) hb1 (by repeat (first | (refine hp_new ?_; simp; done) | refine hp_old ?_ | refine hp_drewN ?_ | refine hp_drew ?_)) 1 (.int .i64 c) rfl; have s0 := at_new (b := w.heap.size + 1) hb1 (by repeat (first | (refine hp_new ?_; simp; done) | refine hp_old ?_ | refine hp_drewN ?_ | refine hp_drew ?_)) 0 (.int .i64 0) rfl; have s1 := at_new (b := w.heap.size + 1) hb1 (by repeat (first | (refine hp_new ?_; simp; done) | refine hp_old ?_ | refine hp_drewN ?_ | refine hp_drew ?_)) 1 (.int .i64 g) rfl; have s2 := at_new (b := w.heap.size + 1) hb1 (by repeat (first | (refine hp_new ?_; simp; done) | refine hp_old ?_ | refine hp_drewN ?_ | refine hp_drew ?_)) 2 (.int .i64 n) rfl; have q0 := at_new (b := w.heap.size + 2) hb1 (by repeat (first | (refine hp_new ?_; simp; done) | refine hp_old ?_ | refine hp_drewN ?_ | refine hp_drew ?_)) 0 (.int .i64 0) rfl; have q1 := at_new (b := w.heap.size + 2) hb1 (by repeat (first | (refine hp_new ?_; simp; done) | refine hp_old ?_ | refine hp_drewN ?_ | refine hp_drew ?_)) 1 (.int .i64 0) rfl) | (go_at_call 5; refine (Right10_any _ _).mono ?_; rintro e w2 ⟨rfl, rfl⟩))
      have z := lt_of_cell q0.1
      refine bodyPost_ret (v := posV (r + n) c) (by simp [results, Try.results35, go_sem, posV, q0, q1]) rfl ⟨by simp [posV], ?_⟩
      repeat (first | exact hB | refine below_set ?_ (by omega) _)
    · have hk0 : (k == 0) = false := by simpa using hk
      rw [if_neg hk]
      clear hk
      by_cases hl : r < g + n
      · rw [if_pos hl]
        replace hl : r - g < n := by omega
        unfold posV shV
        go_enter Try.func35, Try.ntmps35
        go_wp2_with (first | (go_at_call 32; refine (HS.out _).mono ?_; rintro e w1 ⟨rfl, hb1⟩; have hB := below_tail (show Below w.heap.size w _ from by repeat (first | exact Below.refl _ _ | refine below_allocs ?_ _ | refine below_drewNs ?_ _ | refine Below.drew ?_)) hb1; have p0 := at_new (b := w.heap.size) hb1 (by repeat (first | (refine hp_new ?_; simp; done) | refine hp_old ?_ | refine hp_drewN ?_ | refine hp_drew ?_)) 0 (.int .i64 r) rfl; have p1 := at_new (b := w.heap.size) hb1 (by repeat (first | (refine hp_new ?_; simp; done) | refine hp_old ?_ | refine hp_drewN ?_ | refine hp_drew ?_)) 1 (.int .i64 c) rfl; have s0 := at_new (b := w.heap.size + 1) hb1 (by repeat (first | (refine hp_new ?_; simp; done) | refine hp_old ?_ | refine hp_drewN ?_ | refine hp_drew ?_)) 0 (.int .i64 k) rfl; have s1 := at_new (b := w.heap.size + 1) hb1 (by repeat (first | (refine hp_new ?_; simp; done) | refine hp_old ?_ | refine hp_drewN ?_ | refine hp_drew ?_)) 1 (.int .i64 g) rfl; have s2 := at_new (b := w.heap.size + 1) hb1 (by repeat (first | (refine hp_new ?_; simp; done) | refine hp_old ?_ | refine hp_drewN ?_ | refine hp_drew ?_)) 2 (.int .i64 n) rfl; have q0 := at_new (b := w.heap.size + 2) hb1 (by repeat (first | (refine hp_new ?_; simp; done) | refine hp_old ?_ | refine hp_drewN ?_ | refine hp_drew ?_)) 0 (.int .i64 0) rfl; have q1 := at_new (b := w.heap.size + 2) hb1 (by repeat (first | (refine hp_new ?_; simp; done) | refine hp_old ?_ | refine hp_drewN ?_ | refine hp_drew ?_)) 1 (.int .i64 0) rfl) | (go_at_call 5; refine (Right10_any _ _).mono ?_; rintro e w2 ⟨rfl, rfl⟩))
        have z := lt_of_cell q0.1
        refine bodyPost_ret (v := posV g 0) (by simp [results, Try.results35, go_sem, posV, q0, q1]) rfl ⟨by simp [posV], ?_⟩
        repeat (first | exact hB | refine below_set ?_ (by omega) _)
      · rw [if_neg hl]
        replace hl : n ≤ r - g := by omega
        unfold posV shV
        go_enter Try.func35, Try.ntmps35
        go_wp2_with (first | (go_at_call 32; refine (HS.out _).mono ?_; rintro e w1 ⟨rfl, hb1⟩; have hB := below_tail (show Below w.heap.size w _ from by repeat (first | exact Below.refl _ _ | refine below_allocs ?_ _ | refine below_drewNs ?_ _ | refine Below.drew ?_)) hb1; have p0 := at_new (b := w.heap.size) hb1 (by repeat (first | (refine hp_new ?_; simp; done) | refine hp_old ?_ | refine hp_drewN ?_ | refine hp_drew ?_)) 0 (.int .i64 r) rfl; have p1 := at_new (b := w.heap.size) hb1 (by repeat (first | (refine hp_new ?_; simp; done) | refine hp_old ?_ | refine hp_drewN ?_ | refine hp_drew ?_)) 1 (.int .i64 c) rfl; have s0 := at_new (b := w.heap.size + 1) hb1 (by repeat (first | (refine hp_new ?_; simp; done) | refine hp_old ?_ | refine hp_drewN ?_ | refine hp_drew ?_)) 0 (.int .i64 k) rfl; have s1 := at_new (b := w.heap.size + 1) hb1 (by repeat (first | (refine hp_new ?_; simp; done) | refine hp_old ?_ | refine hp_drewN ?_ | refine hp_drew ?_)) 1 (.int .i64 g) rfl; have s2 := at_new (b := w.heap.size + 1) hb1 (by repeat (first | (refine hp_new ?_; simp; done) | refine hp_old ?_ | refine hp_drewN ?_ | refine hp_drew ?_)) 2 (.int .i64 n) rfl; have q0 := at_new (b := w.heap.size + 2) hb1 (by repeat (first | (refine hp_new ?_; simp; done) | refine hp_old ?_ | refine hp_drewN ?_ | refine hp_drew ?_)) 0 (.int .i64 0) rfl; have q1 := at_new (b := w.heap.size + 2) hb1 (by repeat (first | (refine hp_new ?_; simp; done) | refine hp_old ?_ | refine hp_drewN ?_ | refine hp_drew ?_)) 1 (.int .i64 0) rfl) | (go_at_call 5; refine (Right10_any _ _).mono ?_; rintro e w2 ⟨rfl, rfl⟩))
        have z := lt_of_cell q0.1
        refine bodyPost_ret (v := posV (r - n) c) (by simp [results, Try.results35, go_sem, posV, q0, q1]) rfl ⟨by simp [posV], ?_⟩
        repeat (first | exact hB | refine below_set ?_ (by omega) _)

set_option maxHeartbeats 400000 in
theorem RMove_core (r c k a n : Int) (b1 b2 s : Bool) (w : World) (hr : inB r = b1) (hc : inB c = b2) (h : b1 = false ∨ b2 = false ∨ s = false ∨ r < gapI k a)
    (HS : Hid (∀ w : World, Calls Try.prog 32 #[.agg #[.int .i64 k, .int .i64 a, .int .i64 n]] w fun e w' => e = .returned (.bool s) ∧ Below w.heap.size w w')) :
    Calls Try.prog 35 #[posV r c, shV k a n] w fun e w' => e = .returned (posV r c) ∧ Below w.heap.size w w' := by
  have key : s = false ∨ s = true ∧ b1 = false ∨ s = true ∧ b1 = true ∧ b2 = false ∨ s = true ∧ b1 = true ∧ b2 = true ∧ k = 2 ∧ r < 0 ∨ s = true ∧ b1 = true ∧ b2 = true ∧ (k == 2) = false ∧ r < a := by
    by_cases hk : k = 2
    · cases s <;> cases b1 <;> cases b2 <;> simp_all [gapI]
    · have hk' : (k == 2) = false := by simpa using hk
      cases s <;> cases b1 <;> cases b2 <;> simp_all [gapI]
  clear h
  rcases key with rfl | ⟨rfl, rfl⟩ | ⟨rfl, rfl, rfl⟩ | ⟨rfl, rfl, rfl, rfl, hl⟩ | ⟨rfl, rfl, rfl, hk, hl⟩
  rotate_left 3
  · unfold posV shV
    go_enter Try.func35, Try.ntmps35
    go_wp2_with (first | (go_at_call 32; refine (HS.out _).mono ?_; rintro e w1 ⟨rfl, hb1⟩; have hB := below_tail (show Below w.heap.size w _ from by repeat (first | exact Below.refl _ _ | refine below_allocs ?_ _ | refine below_drewNs ?_ _ | refine Below.drew ?_)) hb1; have p0 := at_new (b := w.heap.size) hb1 (by repeat (first | (refine hp_new ?_; simp; done) | refine hp_old ?_ | refine hp_drewN ?_ | refine hp_drew ?_)) 0 (.int .i64 r) rfl; have p1 := at_new (b := w.heap.size) hb1 (by repeat (first | (refine hp_new ?_; simp; done) | refine hp_old ?_ | refine hp_drewN ?_ | refine hp_drew ?_)) 1 (.int .i64 c) rfl; have s0 := at_new (b := w.heap.size + 1) hb1 (by repeat (first | (refine hp_new ?_; simp; done) | refine hp_old ?_ | refine hp_drewN ?_ | refine hp_drew ?_)) 0 (.int .i64 2) rfl; have s1 := at_new (b := w.heap.size + 1) hb1 (by repeat (first | (refine hp_new ?_; simp; done) | refine hp_old ?_ | refine hp_drewN ?_ | refine hp_drew ?_)) 1 (.int .i64 a) rfl; have s2 := at_new (b := w.heap.size + 1) hb1 (by repeat (first | (refine hp_new ?_; simp; done) | refine hp_old ?_ | refine hp_drewN ?_ | refine hp_drew ?_)) 2 (.int .i64 n) rfl; have q0 := at_new (b := w.heap.size + 2) hb1 (by repeat (first | (refine hp_new ?_; simp; done) | refine hp_old ?_ | refine hp_drewN ?_ | refine hp_drew ?_)) 0 (.int .i64 0) rfl; have q1 := at_new (b := w.heap.size + 2) hb1 (by repeat (first | (refine hp_new ?_; simp; done) | refine hp_old ?_ | refine hp_drewN ?_ | refine hp_drew ?_)) 1 (.int .i64 0) rfl) | (go_at_call 5; refine (Right10_any _ _).mono ?_; rintro e w2 ⟨rfl, rfl⟩))
    have z := lt_of_cell q0.1
    refine bodyPost_ret (v := posV r c) (by simp [results, Try.results35, go_sem, posV, q0, q1]) rfl ⟨rfl, ?_⟩
    repeat (first | exact hB | refine below_set ?_ (by omega) _)
  all_goals
    unfold posV shV
    go_enter Try.func35, Try.ntmps35
    go_wp2_with (first | (go_at_call 32; refine (HS.out _).mono ?_; rintro e w1 ⟨rfl, hb1⟩; have hB := below_tail (show Below w.heap.size w _ from by repeat (first | exact Below.refl _ _ | refine below_allocs ?_ _ | refine below_drewNs ?_ _ | refine Below.drew ?_)) hb1; have p0 := at_new (b := w.heap.size) hb1 (by repeat (first | (refine hp_new ?_; simp; done) | refine hp_old ?_ | refine hp_drewN ?_ | refine hp_drew ?_)) 0 (.int .i64 r) rfl; have p1 := at_new (b := w.heap.size) hb1 (by repeat (first | (refine hp_new ?_; simp; done) | refine hp_old ?_ | refine hp_drewN ?_ | refine hp_drew ?_)) 1 (.int .i64 c) rfl; have s0 := at_new (b := w.heap.size + 1) hb1 (by repeat (first | (refine hp_new ?_; simp; done) | refine hp_old ?_ | refine hp_drewN ?_ | refine hp_drew ?_)) 0 (.int .i64 k) rfl; have s1 := at_new (b := w.heap.size + 1) hb1 (by repeat (first | (refine hp_new ?_; simp; done) | refine hp_old ?_ | refine hp_drewN ?_ | refine hp_drew ?_)) 1 (.int .i64 a) rfl; have s2 := at_new (b := w.heap.size + 1) hb1 (by repeat (first | (refine hp_new ?_; simp; done) | refine hp_old ?_ | refine hp_drewN ?_ | refine hp_drew ?_)) 2 (.int .i64 n) rfl; have q0 := at_new (b := w.heap.size + 2) hb1 (by repeat (first | (refine hp_new ?_; simp; done) | refine hp_old ?_ | refine hp_drewN ?_ | refine hp_drew ?_)) 0 (.int .i64 0) rfl; have q1 := at_new (b := w.heap.size + 2) hb1 (by repeat (first | (refine hp_new ?_; simp; done) | refine hp_old ?_ | refine hp_drewN ?_ | refine hp_drew ?_)) 1 (.int .i64 0) rfl) | (go_at_call 5; refine (Right10_any _ _).mono ?_; rintro e w2 ⟨rfl, rfl⟩))
    have z := lt_of_cell q0.1
    refine bodyPost_ret (v := posV r c) (by simp [results, Try.results35, go_sem, posV, q0, q1]) rfl ⟨rfl, ?_⟩
    repeat (first | exact hB | refine below_set ?_ (by omega) _)

theorem RMove_any (r c k a n : Int) (w : World) :
    Calls Try.prog 35 #[posV r c, shV k a n] w fun e w' => e = .returned (posV (mv r c k a n).1 (mv r c k a n).2) ∧ Below w.heap.size w w' := by
  by_cases h : inB r = true ∧ inB c = true ∧ rightS k a n = true ∧ gapI k a ≤ r
  · obtain ⟨a1, a2, a3, a4⟩ := h
    have b1 := inB_true a1
    have b3 := rightS_true a3
    have b4 := gapI_bd (k := k) b3.2.2.1 b3.2.2.2.1
    have HS := Shift10_hid k a n
    rw [a3] at HS
    refine (RMove_in r c k a n (gapI k a) w b1.1 b1.2 b4.1 b4.2 b3.2.2.2.2.1 b3.2.2.2.2.2 a4 a1 a2 (by by_cases h2 : k = 2 <;> simp [gapI, h2]) HS).mono fun e w' ⟨he, hb⟩ => ⟨?_, hb⟩
    rw [he, mv_in ⟨a1, a2, a3, a4⟩]
  · refine (RMove_core r c k a n (inB r) (inB c) (rightS k a n) w rfl rfl ?_ (Shift10_hid k a n)).mono fun e w' ⟨he, hb⟩ => ⟨?_, hb⟩
    · cases h1 : inB r <;> cases h2 : inB c <;> cases h3 : rightS k a n <;> simp_all
    · rw [he, mv, if_neg h]
end Go.Proofs.Ytgfaincejebogaa
