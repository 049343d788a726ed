/- Walks of shift.Lost, order, Less, and of the document's Less. Conditions: none. -/
import Derived.Test.YtgfaincejebogaaShB
namespace Go.Proofs.Ytgfaincejebogaa
open Go.RowKit

def lostB (r c k a n : Int) : Bool := inB r && inB c && rightS k a n && k != 0 && decide (gapI k a ≤ r) && decide (r < gapI k a + n)

set_option maxHeartbeats 400000 in
theorem Lost_core (r c k a n g : Int) (b s : Bool) (w : World) (h : b = true → s = true → 0 ≤ g ∧ g ≤ 1099511627776 ∧ 0 ≤ n ∧ n ≤ 1099511627776)
    (HG : Hid (∀ w : World, Calls Try.prog 42 #[.agg #[.int .i64 k, .int .i64 a, .int .i64 n]] w fun e w' => e = .returned (.int .i64 g) ∧ Below w.heap.size w w'))
    (HR : Hid (∀ w : World, Calls Try.prog 43 #[.agg #[.int .i64 r, .int .i64 c]] w fun e w' => e = .returned (.bool b) ∧ Below w.heap.size w w'))
    (HS : Hid (∀ w : World, Calls Try.prog 28 #[.agg #[.int .i64 k, .int .i64 a, .int .i64 n]] w fun e w' => e = .returned (.bool s) ∧ Below w.heap.size w w')) :
    Calls Try.prog 41 #[posV r c, shV k a n] w fun e w' => e = .returned (.bool (b && s && k != 0 && decide (g ≤ r) && decide (r < g + n))) ∧ Below w.heap.size w w' := by
  unfold posV shV
  have key : b = false ∨ b = true ∧ s = false ∨ b = true ∧ s = true ∧ (k != 0) = false ∨ b = true ∧ s = true ∧ (k != 0) = true ∧ ¬ g ≤ r ∨ b = true ∧ s = true ∧ (k != 0) = true ∧ g ≤ r := by
    cases b <;> cases s <;> cases hk : (k != 0) <;> by_cases hg : g ≤ r <;> simp [hg]
  rcases key with rfl | ⟨rfl, rfl⟩ | ⟨rfl, rfl, hk⟩ | ⟨rfl, rfl, hk, hg⟩ | ⟨rfl, rfl, hk, hg⟩
  · clear h
    go_enter Try.func41, Try.ntmps41
    go_wp2_with (first | (go_at_call 42; refine (HG.out _).mono ?_; rintro e w1 ⟨rfl, hb1⟩; have hB := below_tail (show Below w.heap.size w _ from by repeat (first | exact Below.refl _ _ | refine below_allocs ?_ _ | refine below_drewNs ?_ _ | refine Below.drew ?_)) hb1; have p0 := at_new (b := w.heap.size) hb1 (by repeat (first | (refine hp_new ?_; simp; done) | refine hp_old ?_ | refine hp_drewN ?_ | refine hp_drew ?_)) 0 (.int .i64 r) rfl; have p1 := at_new (b := w.heap.size) hb1 (by repeat (first | (refine hp_new ?_; simp; done) | refine hp_old ?_ | refine hp_drewN ?_ | refine hp_drew ?_)) 1 (.int .i64 c) rfl; have s0 := at_new (b := w.heap.size + 1) hb1 (by repeat (first | (refine hp_new ?_; simp; done) | refine hp_old ?_ | refine hp_drewN ?_ | refine hp_drew ?_)) 0 (.int .i64 k) rfl; have s1 := at_new (b := w.heap.size + 1) hb1 (by repeat (first | (refine hp_new ?_; simp; done) | refine hp_old ?_ | refine hp_drewN ?_ | refine hp_drew ?_)) 1 (.int .i64 a) rfl; have s2 := at_new (b := w.heap.size + 1) hb1 (by repeat (first | (refine hp_new ?_; simp; done) | refine hp_old ?_ | refine hp_drewN ?_ | refine hp_drew ?_)) 2 (.int .i64 n) rfl) | (go_at_call 43; refine (HR.out _).mono ?_; rintro e w2 ⟨rfl, hb2⟩; replace p0 := hold hb2 p0; replace p1 := hold hb2 p1; replace s0 := hold hb2 s0; replace s1 := hold hb2 s1; replace s2 := hold hb2 s2; replace hB := below_tail hB hb2) | (go_at_call 28; refine (HS.out _).mono ?_; rintro e w3 ⟨rfl, hb3⟩; replace p0 := hold hb3 p0; replace p1 := hold hb3 p1; replace s0 := hold hb3 s0; replace s1 := hold hb3 s1; replace s2 := hold hb3 s2; replace hB := below_tail hB hb3))
    go_ret
    exact ⟨by simp, hB⟩
  · clear h
    go_enter Try.func41, Try.ntmps41
    go_wp2_with (first | (go_at_call 42; refine (HG.out _).mono ?_; rintro e w1 ⟨rfl, hb1⟩; have hB := below_tail (show Below w.heap.size w _ from by repeat (first | exact Below.refl _ _ | refine below_allocs ?_ _ | refine below_drewNs ?_ _ | refine Below.drew ?_)) hb1; have p0 := at_new (b := w.heap.size) hb1 (by repeat (first | (refine hp_new ?_; simp; done) | refine hp_old ?_ | refine hp_drewN ?_ | refine hp_drew ?_)) 0 (.int .i64 r) rfl; have p1 := at_new (b := w.heap.size) hb1 (by repeat (first | (refine hp_new ?_; simp; done) | refine hp_old ?_ | refine hp_drewN ?_ | refine hp_drew ?_)) 1 (.int .i64 c) rfl; have s0 := at_new (b := w.heap.size + 1) hb1 (by repeat (first | (refine hp_new ?_; simp; done) | refine hp_old ?_ | refine hp_drewN ?_ | refine hp_drew ?_)) 0 (.int .i64 k) rfl; have s1 := at_new (b := w.heap.size + 1) hb1 (by repeat (first | (refine hp_new ?_; simp; done) | refine hp_old ?_ | refine hp_drewN ?_ | refine hp_drew ?_)) 1 (.int .i64 a) rfl; have s2 := at_new (b := w.heap.size + 1) hb1 (by repeat (first | (refine hp_new ?_; simp; done) | refine hp_old ?_ | refine hp_drewN ?_ | refine hp_drew ?_)) 2 (.int .i64 n) rfl) | (go_at_call 43; refine (HR.out _).mono ?_; rintro e w2 ⟨rfl, hb2⟩; replace p0 := hold hb2 p0; replace p1 := hold hb2 p1; replace s0 := hold hb2 s0; replace s1 := hold hb2 s1; replace s2 := hold hb2 s2; replace hB := below_tail hB hb2) | (go_at_call 28; refine (HS.out _).mono ?_; rintro e w3 ⟨rfl, hb3⟩; replace p0 := hold hb3 p0; replace p1 := hold hb3 p1; replace s0 := hold hb3 s0; replace s1 := hold hb3 s1; replace s2 := hold hb3 s2; replace hB := below_tail hB hb3))
    go_ret
    exact ⟨by simp, hB⟩
  · clear h
    go_enter Try.func41, Try.ntmps41
    go_wp2_with (first | (go_at_call 42; refine (HG.out _).mono ?_; rintro e w1 ⟨rfl, hb1⟩; have hB := below_tail (show Below w.heap.size w _ from by repeat (first | exact Below.refl _ _ | refine below_allocs ?_ _ | refine below_drewNs ?_ _ | refine Below.drew ?_)) hb1; have p0 := at_new (b := w.heap.size) hb1 (by repeat (first | (refine hp_new ?_; simp; done) | refine hp_old ?_ | refine hp_drewN ?_ | refine hp_drew ?_)) 0 (.int .i64 r) rfl; have p1 := at_new (b := w.heap.size) hb1 (by repeat (first | (refine hp_new ?_; simp; done) | refine hp_old ?_ | refine hp_drewN ?_ | refine hp_drew ?_)) 1 (.int .i64 c) rfl; have s0 := at_new (b := w.heap.size + 1) hb1 (by repeat (first | (refine hp_new ?_; simp; done) | refine hp_old ?_ | refine hp_drewN ?_ | refine hp_drew ?_)) 0 (.int .i64 k) rfl; have s1 := at_new (b := w.heap.size + 1) hb1 (by repeat (first | (refine hp_new ?_; simp; done) | refine hp_old ?_ | refine hp_drewN ?_ | refine hp_drew ?_)) 1 (.int .i64 a) rfl; have s2 := at_new (b := w.heap.size + 1) hb1 (by repeat (first | (refine hp_new ?_; simp; done) | refine hp_old ?_ | refine hp_drewN ?_ | refine hp_drew ?_)) 2 (.int .i64 n) rfl) | (go_at_call 43; refine (HR.out _).mono ?_; rintro e w2 ⟨rfl, hb2⟩; replace p0 := hold hb2 p0; replace p1 := hold hb2 p1; replace s0 := hold hb2 s0; replace s1 := hold hb2 s1; replace s2 := hold hb2 s2; replace hB := below_tail hB hb2) | (go_at_call 28; refine (HS.out _).mono ?_; rintro e w3 ⟨rfl, hb3⟩; replace p0 := hold hb3 p0; replace p1 := hold hb3 p1; replace s0 := hold hb3 s0; replace s1 := hold hb3 s1; replace s2 := hold hb3 s2; replace hB := below_tail hB hb3))
    go_ret
    exact ⟨by simp [hk], hB⟩
  · clear h
    go_enter Try.func41, Try.ntmps41
    go_wp2_with (first | (go_at_call 42; refine (HG.out _).mono ?_; rintro e w1 ⟨rfl, hb1⟩; have hB := below_tail (show Below w.heap.size w _ from by repeat (first | exact Below.refl _ _ | refine below_allocs ?_ _ | refine below_drewNs ?_ _ | refine Below.drew ?_)) hb1; have p0 := at_new (b := w.heap.size) hb1 (by repeat (first | (refine hp_new ?_; simp; done) | refine hp_old ?_ | refine hp_drewN ?_ | refine hp_drew ?_)) 0 (.int .i64 r) rfl; have p1 := at_new (b := w.heap.size) hb1 (by repeat (first | (refine hp_new ?_; simp; done) | refine hp_old ?_ | refine hp_drewN ?_ | refine hp_drew ?_)) 1 (.int .i64 c) rfl; have s0 := at_new (b := w.heap.size + 1) hb1 (by repeat (first | (refine hp_new ?_; simp; done) | refine hp_old ?_ | refine hp_drewN ?_ | refine hp_drew ?_)) 0 (.int .i64 k) rfl; have s1 := at_new (b := w.heap.size + 1) hb1 (by repeat (first | (refine hp_new ?_; simp; done) | refine hp_old ?_ | refine hp_drewN ?_ | refine hp_drew ?_)) 1 (.int .i64 a) rfl; have s2 := at_new (b := w.heap.size + 1) hb1 (by repeat (first | (refine hp_new ?_; simp; done) | refine hp_old ?_ | refine hp_drewN ?_ | refine hp_drew ?_)) 2 (.int .i64 n) rfl) | (go_at_call 43; refine (HR.out _).mono ?_; rintro e w2 ⟨rfl, hb2⟩; replace p0 := hold hb2 p0; replace p1 := hold hb2 p1; replace s0 := hold hb2 s0; replace s1 := hold hb2 s1; replace s2 := hold hb2 s2; replace hB := below_tail hB hb2) | (go_at_call 28; refine (HS.out _).mono ?_; rintro e w3 ⟨rfl, hb3⟩; replace p0 := hold hb3 p0; replace p1 := hold hb3 p1; replace s0 := hold hb3 s0; replace s1 := hold hb3 s1; replace s2 := hold hb3 s2; replace hB := below_tail hB hb3))
    go_ret
    exact ⟨by simp; intros; omega, hB⟩
  · obtain ⟨h1, h2, h3, h4⟩ := h rfl rfl
    clear h
    go_enter Try.func41, Try.ntmps41
    go_wp2_with (first | (go_at_call 42; refine (HG.out _).mono ?_; rintro e w1 ⟨rfl, hb1⟩; have hB := below_tail (show Below w.heap.size w _ from by repeat (first | exact Below.refl _ _ | refine below_allocs ?_ _ | refine below_drewNs ?_ _ | refine Below.drew ?_)) hb1; have p0 := at_new (b := w.heap.size) hb1 (by repeat (first | (refine hp_new ?_; simp; done) | refine hp_old ?_ | refine hp_drewN ?_ | refine hp_drew ?_)) 0 (.int .i64 r) rfl; have p1 := at_new (b := w.heap.size) hb1 (by repeat (first | (refine hp_new ?_; simp; done) | refine hp_old ?_ | refine hp_drewN ?_ | refine hp_drew ?_)) 1 (.int .i64 c) rfl; have s0 := at_new (b := w.heap.size + 1) hb1 (by repeat (first | (refine hp_new ?_; simp; done) | refine hp_old ?_ | refine hp_drewN ?_ | refine hp_drew ?_)) 0 (.int .i64 k) rfl; have s1 := at_new (b := w.heap.size + 1) hb1 (by repeat (first | (refine hp_new ?_; simp; done) | refine hp_old ?_ | refine hp_drewN ?_ | refine hp_drew ?_)) 1 (.int .i64 a) rfl; have s2 := at_new (b := w.heap.size + 1) hb1 (by repeat (first | (refine hp_new ?_; simp; done) | refine hp_old ?_ | refine hp_drewN ?_ | refine hp_drew ?_)) 2 (.int .i64 n) rfl) | (go_at_call 43; refine (HR.out _).mono ?_; rintro e w2 ⟨rfl, hb2⟩; replace p0 := hold hb2 p0; replace p1 := hold hb2 p1; replace s0 := hold hb2 s0; replace s1 := hold hb2 s1; replace s2 := hold hb2 s2; replace hB := below_tail hB hb2) | (go_at_call 28; refine (HS.out _).mono ?_; rintro e w3 ⟨rfl, hb3⟩; replace p0 := hold hb3 p0; replace p1 := hold hb3 p1; replace s0 := hold hb3 s0; replace s1 := hold hb3 s1; replace s2 := hold hb3 s2; replace hB := below_tail hB hb3))
    go_ret
    exact ⟨by simp [hk, hg], hB⟩
theorem Lost_any (r c k a n : Int) (w : World) :
    Calls Try.prog 41 #[posV r c, shV k a n] w fun e w' => e = .returned (.bool (lostB r c k a n)) ∧ Below w.heap.size w w' := by
  refine Lost_core r c k a n (gapI k a) (inB r && inB c) (rightS k a n) w ?_ (gap_hid k a n) (right_hid r c) (Right_hid k a n)
  intro _ hs
  have b3 := rightS_true hs
  have b4 := gapI_bd (k := k) b3.2.2.1 b3.2.2.2.1
  omega

def lessB (r c r' c' : Int) : Bool := decide (r < r') || (r == r' && decide (c < c'))
def ordI (r c r' c' : Int) : Int := if r = r' ∧ c = c' then 0 else if lessB r c r' c' then -1 else 1
set_option maxHeartbeats 400000 in
theorem order_any (r c r' c' : Int) (w : World) :
    Calls Try.prog 44 #[posV r c, posV r' c'] w fun e w' => e = .returned (.int .i64 (ordI r c r' c')) ∧ Below w.heap.size w w' := by
  unfold posV
  by_cases h1 : r = r'
  · subst h1
    have h1' : ¬ r < r := by omega
    by_cases h2 : c = c'
    · subst h2
      go_enter Try.func44, Try.ntmps44
      go_wp2
      go_ret
      exact ⟨by simp [ordI], below_allocs (below_allocs (Below.refl _ _) _) _⟩
    · have h2' : (c == c') = false := by simpa using h2
      by_cases h3 : c < c'
      · have e : ordI r c r c' = -1 := by simp [ordI, lessB, h2, h3]
        rw [e]; clear e h2
        go_enter Try.func44, Try.ntmps44
        go_wp2
        go_ret
        exact ⟨by simp, below_allocs (below_allocs (Below.refl _ _) _) _⟩
      · have e : ordI r c r c' = 1 := by simp [ordI, lessB, h2, h3]
        rw [e]; clear e h2
        go_enter Try.func44, Try.ntmps44
        go_wp2
        go_ret
        exact ⟨by simp, below_allocs (below_allocs (Below.refl _ _) _) _⟩
  · have h1' : (r == r') = false := by simpa using h1
    by_cases h2 : r < r'
    · have e : ordI r c r' c' = -1 := by simp [ordI, lessB, h1, h2]
      rw [e]; clear e h1
      go_enter Try.func44, Try.ntmps44
      go_wp2
      go_ret
      exact ⟨by simp, below_allocs (below_allocs (Below.refl _ _) _) _⟩
    · have e : ordI r c r' c' = 1 := by simp [ordI, lessB, h1, h2]
      rw [e]; clear e h1
      go_enter Try.func44, Try.ntmps44
      go_wp2
      go_ret
      exact ⟨by simp, below_allocs (below_allocs (Below.refl _ _) _) _⟩
theorem ordI_neg (r c r' c' : Int) : decide (ordI r c r' c' < 0) = lessB r c r' c' := by
  unfold ordI
  by_cases h : r = r' ∧ c = c'
  · obtain ⟨rfl, rfl⟩ := h
    simp [lessB]
  · rw [if_neg h]
    cases lessB r c r' c' <;> simp
theorem order_hid (r c r' c' : Int) : Hid (∀ w : World, Calls Try.prog 44 #[posV r c, posV r' c'] w fun e w' => e = .returned (.int .i64 (ordI r c r' c')) ∧ Below w.heap.size w w') := Lib.hid (order_any r c r' c')
set_option maxHeartbeats 400000 in
theorem Less_core (r c r' c' : Int) (i : Int) (w : World)
    (HO : Hid (∀ w : World, Calls Try.prog 44 #[.agg #[.int .i64 r, .int .i64 c], .agg #[.int .i64 r', .int .i64 c']] w fun e w' => e = .returned (.int .i64 i) ∧ Below w.heap.size w w')) :
    Calls Try.prog 39 #[posV r c, posV r' c'] w fun e w' => e = .returned (.bool (decide (i < 0))) ∧ Below w.heap.size w w' := by
  unfold posV
  go_enter Try.func39, Try.ntmps39
  go_wp2_with (go_at_call 44; refine (HO.out _).mono ?_; rintro e w1 ⟨rfl, hb1⟩; have hB := below_tail (show Below w.heap.size w _ from by repeat (first | exact Below.refl _ _ | refine below_allocs ?_ _ | refine below_drewNs ?_ _ | refine Below.drew ?_)) hb1; have p0 := at_new (b := w.heap.size) hb1 (by repeat (first | (refine hp_new ?_; simp; done) | refine hp_old ?_ | refine hp_drewN ?_ | refine hp_drew ?_)) 0 (.int .i64 r) rfl)
  go_ret
  exact ⟨by simp, hB⟩
theorem Less_any (r c r' c' : Int) (w : World) :
    Calls Try.prog 39 #[posV r c, posV r' c'] w fun e w' => e = .returned (.bool (lessB r c r' c')) ∧ Below w.heap.size w w' := by
  have := Less_core r c r' c' (ordI r c r' c') w (order_hid r c r' c')
  rw [ordI_neg] at this
  exact this
theorem Less_hid (r c r' c' : Int) : Hid (∀ w : World, Calls Try.prog 39 #[posV r c, posV r' c'] w fun e w' => e = .returned (.bool (lessB r c r' c')) ∧ Below w.heap.size w w') := Lib.hid (Less_any r c r' c')

set_option maxHeartbeats 400000 in
theorem RLess_any (r c r' c' : Int) (w : World) :
    Calls Try.prog 11 #[posV r c, posV r' c'] w fun e w' => e = .returned (.bool (lessB r c r' c')) ∧ Below w.heap.size w w' := by
  unfold posV
  by_cases h : r < r'
  · have e : lessB r c r' c' = true := by simp [lessB, h]
    rw [e]; clear e
    go_enter Try.func11, Try.ntmps11
    go_wp2
    go_ret
    exact ⟨by simp, below_allocs (below_allocs (Below.refl _ _) _) _⟩
  · by_cases h2 : r = r'
    · have e : lessB r c r' c' = decide (c < c') := by simp [lessB, h2]
      rw [e]; clear e
      subst h2
      go_enter Try.func11, Try.ntmps11
      go_wp2
      go_ret
      exact ⟨by simp, below_allocs (below_allocs (Below.refl _ _) _) _⟩
    · have h2' : (r == r') = false := by simpa using h2
      have e : lessB r c r' c' = false := by simp [lessB, h, h2]
      rw [e]; clear e h2
      go_enter Try.func11, Try.ntmps11
      go_wp2
      go_ret
      exact ⟨by simp, below_allocs (below_allocs (Below.refl _ _) _) _⟩

end Go.Proofs.Ytgfaincejebogaa
