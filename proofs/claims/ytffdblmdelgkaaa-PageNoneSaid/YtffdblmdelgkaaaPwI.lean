/- PageNone: the walk, at numbers as they come in. Conditions: as stated. -/
import Derived.Test.YtffdblmdelgkaaaPwN
namespace Go.Proofs.Ytffdblmdelgkaaa
open Go.RowKit

theorem PageNone_in (rows cols lines : Int) (w : World) (hr : (Lit.int .i64 rows).wf = true) (hc : (Lit.int .i64 cols).wf = true) (hl : (Lit.int .i64 lines).wf = true) :
    Calls Try.prog 3 #[.int .i64 rows, .int .i64 cols, .int .i64 lines] w (TruePost w) := by
  have ho := okI_of_wf hr
  by_cases hb : 40 < rows ∧ rows ≤ 1000
  · by_cases hf : (2 ≤ cols ∧ cols ≤ 1000) ∧ 0 ≤ lines ∧ lines ≤ 100000
    · obtain ⟨r, rfl⟩ : ∃ r : Nat, rows = r := ⟨rows.toNat, by omega⟩
      obtain ⟨c, rfl⟩ : ∃ c : Nat, cols = c := ⟨cols.toNat, by omega⟩
      obtain ⟨l, rfl⟩ : ∃ l : Nat, lines = l := ⟨lines.toNat, by omega⟩
      exact none_big_ok r c l w (by omega) (by omega) (by omega)
    · refine none_big_bad rows cols lines w ho hb ?_
      unfold fitsB
      rw [decide_eq_false_iff_not]
      omega
  · by_cases hf : (1 ≤ rows ∧ rows ≤ 1000 ∧ 2 ≤ cols ∧ cols ≤ 1000) ∧ 0 ≤ lines ∧ lines ≤ 100000
    · obtain ⟨r, rfl⟩ : ∃ r : Nat, rows = r := ⟨rows.toNat, by omega⟩
      obtain ⟨c, rfl⟩ : ∃ c : Nat, cols = c := ⟨cols.toNat, by omega⟩
      obtain ⟨l, rfl⟩ : ∃ l : Nat, lines = l := ⟨lines.toNat, by omega⟩
      exact none_small_ok r c l w (by omega) (by omega) (by omega)
    · refine none_small_bad rows cols lines w ho hb ?_
      unfold fitsB
      rw [decide_eq_false_iff_not]
      omega
end Go.Proofs.Ytffdblmdelgkaaa
