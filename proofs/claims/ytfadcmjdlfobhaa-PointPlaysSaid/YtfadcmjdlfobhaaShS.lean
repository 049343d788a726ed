/- shift.order and the closure of shift.Sort, with the world behind them written out. Conditions: none. -/
import Derived.Test.YtfadcmjdlfobhaaShC
namespace Go.Proofs.Ytfadcmjdlfobhaa
open Go.RowKit

/-- Two places boxed. -/
def two (w : World) (r c r' c' : Int) : World := (w.alloc (.cells #[.int .i64 r, .int .i64 c] 30)).alloc (.cells #[.int .i64 r', .int .i64 c'] 30)
set_option maxHeartbeats 400000 in
theorem order_w (r c r' c' : Int) (w : World) :
    Calls Try.prog 69 #[posV r c, posV r' c'] w fun e w' => e = .returned (.int .i64 (ordI r c r' c')) ∧ w' = two w r c r' c' := by
  unfold posV
  by_cases h1 : r = r'
  · subst h1
    have h1' : ¬ r < r := by omega
    by_cases h2 : c = c'
    · subst h2
      go_enter Try.func69, Try.ntmps69
      go_wp2
      go_ret
      exact ⟨by simp [ordI], rfl⟩
    · have h2' : (c == c') = false := by simpa using h2
      by_cases h3 : c < c'
      · have e : ordI r c r c' = -1 := by simp [ordI, lessB, h2, h3]
        rw [e]; clear e h2
        go_enter Try.func69, Try.ntmps69
        go_wp2
        go_ret
        exact ⟨by simp, rfl⟩
      · have e : ordI r c r c' = 1 := by simp [ordI, lessB, h2, h3]
        rw [e]; clear e h2
        go_enter Try.func69, Try.ntmps69
        go_wp2
        go_ret
        exact ⟨by simp, rfl⟩
  · have h1' : (r == r') = false := by simpa using h1
    by_cases h2 : r < r'
    · have e : ordI r c r' c' = -1 := by simp [ordI, lessB, h1, h2]
      rw [e]; clear e h1
      go_enter Try.func69, Try.ntmps69
      go_wp2
      go_ret
      exact ⟨by simp, rfl⟩
    · have e : ordI r c r' c' = 1 := by simp [ordI, lessB, h1, h2]
      rw [e]; clear e h1
      go_enter Try.func69, Try.ntmps69
      go_wp2
      go_ret
      exact ⟨by simp, rfl⟩
theorem order_w_hid (r c r' c' : Int) : Hid (∀ w : World, Calls Try.prog 69 #[.agg #[.int .i64 r, .int .i64 c], .agg #[.int .i64 r', .int .i64 c']] w fun e w' => e = .returned (.int .i64 (ordI r c r' c')) ∧ w' = two w r c r' c') := Lib.hid (order_w r c r' c')
theorem Sort1_w (r c r' c' : Int) (w : World) :
    Calls Try.prog 68 #[posV r c, posV r' c'] w fun e w' => e = .returned (.int .i64 (ordI r c r' c')) ∧ w' = two (two w r c r' c') r c r' c' := by
  have HO := order_w_hid r c r' c'
  generalize ordI r c r' c' = i at HO ⊢
  unfold posV
  go_enter Try.func68, Try.ntmps68
  go_wp2_with (go_at_call 69; refine (HO.out _).mono ?_; rintro e w1 ⟨rfl, rfl⟩)
  go_ret
  exact ⟨rfl, rfl⟩
end Go.Proofs.Ytfadcmjdlfobhaa
