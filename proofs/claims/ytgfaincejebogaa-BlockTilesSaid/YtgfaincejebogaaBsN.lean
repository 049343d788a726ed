/- The law's test whether an operation is near. Conditions: none. -/
import Derived.Test.YtgfaincejebogaaBsF
namespace Go.Proofs.Ytgfaincejebogaa
open Go.RowKit

set_option maxHeartbeats 800000 in
theorem near19 (o : Bop) (w : World) : Calls Try.prog 8 #[.agg #[.int .i64 o.s.k, .int .i64 o.s.code, .bool o.s.has, .string o.s.text, .int .i64 o.r, .int .i64 o.c, .int .i64 o.k, .int .i64 o.a, .int .i64 o.n]] w fun e w' => e = .returned (.bool (nearB o)) ∧ Below w.heap.size w w' := by
  obtain ⟨⟨sk, sc, sh, st⟩, r, c, k, a, n⟩ := o
  unfold nearB
  simp only []
  by_cases h1 : r ≤ 1000000000 <;> by_cases h2 : c ≤ 1000000000 <;> by_cases h3 : a ≤ 1000000000 <;> by_cases h4 : n ≤ 1000000000
  all_goals
    go_enter Try.func8, Try.ntmps8
    go_wp2
    go_ret
    exact ⟨by simp [h1, h2, h3, h4], below_allocs (Below.refl _ _) _⟩
end Go.Proofs.Ytgfaincejebogaa
