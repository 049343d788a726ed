import Derived.Test.YtgfaincejebogaaRows
import Derived.WalkKit
import Derived.WalkSpells
import Derived.WalkLawsBesides
import Derived.Lib.Hide
namespace Go.Proofs.Ytgfaincejebogaa
open Go.RowKit

def inB (n : Int) : Bool := decide (0 ≤ n) && decide (n ≤ 1099511627776)
theorem inB_true {n : Int} (h : inB n = true) : 0 ≤ n ∧ n ≤ 1099511627776 := by simpa [inB] using h
theorem inB_of {n : Int} (h : 0 ≤ n) (h' : n ≤ 1099511627776) : inB n = true := by simp [inB, h, h']

set_option maxHeartbeats 400000 in
theorem in_any (n : Int) (w : World) :
    Calls Try.prog 40 #[.int .i64 n] w fun e w' => e = .returned (.bool (inB n)) ∧ w = w' := by
  by_cases h : 0 ≤ n
  · go_enter Try.func40, Try.ntmps40
    go_wp2
    go_ret
    simp [inB, h]
  · go_enter Try.func40, Try.ntmps40
    go_wp2
    go_ret
    simp [inB]; omega

set_option maxHeartbeats 400000 in
theorem Right10_any (n : Int) (w : World) :
    Calls Try.prog 5 #[.int .i64 n] w fun e w' => e = .returned (.bool (inB n)) ∧ w = w' := by
  by_cases h : 0 ≤ n
  · go_enter Try.func5, Try.ntmps5
    go_wp2
    go_ret
    simp [inB, h]
  · go_enter Try.func5, Try.ntmps5
    go_wp2
    go_ret
    simp [inB]; omega

set_option maxHeartbeats 400000 in
theorem right_any (r c : Int) (w : World) :
    Calls Try.prog 43 #[.agg #[.int .i64 r, .int .i64 c]] w fun e w' => e = .returned (.bool (inB r && inB c)) ∧ Below w.heap.size w w' := by
  cases h : inB r
  all_goals
    go_enter Try.func43, Try.ntmps43
    go_wp2_with (go_at_call 40; refine (in_any _ _).mono ?_; rintro e w' ⟨rfl, rfl⟩)
    go_ret
    exact ⟨by simp, (Below.refl _ _).alloc (Nat.le_refl _) _⟩

set_option maxHeartbeats 400000 in
theorem gap_two (a n : Int) (w : World) :
    Calls Try.prog 42 #[.agg #[.int .i64 2, .int .i64 a, .int .i64 n]] w fun e w' => e = .returned (.int .i64 0) ∧ Below w.heap.size w w' := by
  go_enter Try.func42, Try.ntmps42
  go_wp2
  go_ret
  exact ⟨rfl, (Below.refl _ _).alloc (Nat.le_refl _) _⟩
set_option maxHeartbeats 400000 in
theorem gap_not (k a n : Int) (hk : (k == 2) = false) (w : World) :
    Calls Try.prog 42 #[.agg #[.int .i64 k, .int .i64 a, .int .i64 n]] w fun e w' => e = .returned (.int .i64 a) ∧ Below w.heap.size w w' := by
  go_enter Try.func42, Try.ntmps42
  go_wp2
  go_ret
  exact ⟨rfl, (Below.refl _ _).alloc (Nat.le_refl _) _⟩
def gapI (k a : Int) : Int := if k = 2 then 0 else a
theorem gap_any (k a n : Int) (w : World) :
    Calls Try.prog 42 #[.agg #[.int .i64 k, .int .i64 a, .int .i64 n]] w fun e w' => e = .returned (.int .i64 (gapI k a)) ∧ Below w.heap.size w w' := by
  by_cases h : k = 2
  · subst h; exact gap_two a n w
  · have := gap_not k a n (by simpa using h) w
    simpa [gapI, h] using this

def rightS (k a n : Int) : Bool := (decide (0 ≤ k) && decide (k ≤ 2)) && inB a && inB n && decide (0 < n)
theorem rightS_false_k (k a n : Int) (h : k < 0 ∨ 2 < k) : rightS k a n = false := by
  simp [rightS]; omega
set_option maxHeartbeats 400000 in
theorem Right_any (k a n : Int) (w : World) :
    Calls Try.prog 28 #[.agg #[.int .i64 k, .int .i64 a, .int .i64 n]] w fun e w' => e = .returned (.bool (rightS k a n)) ∧ Below w.heap.size w w' := by
  by_cases hk : k = 0 ∨ k = 1 ∨ k = 2
  · have hk' : (decide (0 ≤ k) && decide (k ≤ 2)) = true := by simp; omega
    have e : rightS k a n = (inB a && inB n && decide (0 < n)) := by simp [rightS, hk']
    rw [e]; clear e hk'
    cases ha : inB a <;> cases hn : inB n <;> rcases hk with rfl | rfl | rfl
    all_goals
      go_enter Try.func28, Try.ntmps28
      go_wp2_with (go_at_call 40; refine (in_any _ _).mono ?_; rintro e w' ⟨rfl, rfl⟩)
      go_ret
      exact ⟨by simp, (Below.refl _ _).alloc (Nat.le_refl _) _⟩
  · have h0 : (k == 0) = false := by simp; omega
    have h1 : (k == 1) = false := by simp; omega
    have h2 : (k == 2) = false := by simp; omega
    rw [rightS_false_k k a n (by omega)]
    clear hk
    go_enter Try.func28, Try.ntmps28
    go_wp2
    go_ret
    exact ⟨by simp, (Below.refl _ _).alloc (Nat.le_refl _) _⟩

set_option maxHeartbeats 400000 in
theorem Shift10_any (k a n : Int) (w : World) :
    Calls Try.prog 32 #[.agg #[.int .i64 k, .int .i64 a, .int .i64 n]] w fun e w' => e = .returned (.bool (rightS k a n)) ∧ Below w.heap.size w w' := by
  by_cases hk : 0 ≤ k ∧ k ≤ 2
  · obtain ⟨h1, h2⟩ := hk
    have hr : rightS k a n = (inB a && inB n && decide (0 < n)) := by simp [rightS, h1, h2]
    rw [hr]; clear hr
    cases ha : inB a <;> cases hn : inB n
    · go_enter Try.func32, Try.ntmps32
      go_wp2_with (go_at_call 5; refine (Right10_any _ _).mono ?_; rintro e w' ⟨rfl, rfl⟩)
      go_ret
      exact ⟨by simp, (Below.refl _ _).alloc (Nat.le_refl _) _⟩
    · go_enter Try.func32, Try.ntmps32
      go_wp2_with (go_at_call 5; refine (Right10_any _ _).mono ?_; rintro e w' ⟨rfl, rfl⟩)
      go_ret
      exact ⟨by simp, (Below.refl _ _).alloc (Nat.le_refl _) _⟩
    · go_enter Try.func32, Try.ntmps32
      go_wp2_with (go_at_call 5; refine (Right10_any _ _).mono ?_; rintro e w' ⟨rfl, rfl⟩)
      go_ret
      exact ⟨by simp, (Below.refl _ _).alloc (Nat.le_refl _) _⟩
    · have hn0 := (inB_true hn).1
      by_cases hz : n = 0
      · subst hz
        go_enter Try.func32, Try.ntmps32
        go_wp2_with (go_at_call 5; refine (Right10_any _ _).mono ?_; rintro e w' ⟨rfl, rfl⟩)
        go_ret
        exact ⟨by simp, (Below.refl _ _).alloc (Nat.le_refl _) _⟩
      · have hz' : (n != 0) = true := by simpa using hz
        have hp : decide (0 < n) = true := by simp; omega
        rw [hp]
        clear hp hz
        go_enter Try.func32, Try.ntmps32
        go_wp2_with (go_at_call 5; refine (Right10_any _ _).mono ?_; rintro e w' ⟨rfl, rfl⟩)
        go_ret
        exact ⟨by simp, (Below.refl _ _).alloc (Nat.le_refl _) _⟩
  · rw [rightS_false_k k a n (by omega)]
    by_cases h1 : 0 ≤ k
    · have h2 : ¬ k ≤ 2 := by omega
      clear hk
      go_enter Try.func32, Try.ntmps32
      go_wp2
      go_ret
      exact ⟨by simp, (Below.refl _ _).alloc (Nat.le_refl _) _⟩
    · clear hk
      go_enter Try.func32, Try.ntmps32
      go_wp2
      go_ret
      exact ⟨by simp, (Below.refl _ _).alloc (Nat.le_refl _) _⟩

end Go.Proofs.Ytgfaincejebogaa
