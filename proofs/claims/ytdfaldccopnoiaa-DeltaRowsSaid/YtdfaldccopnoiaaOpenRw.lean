/- A nil slice that came in has no room. Conditions: none. -/
import Derived.Test.YtdfaldccopnoiaaRwA
namespace Go.Proofs.Ytdfaldccopnoiaa
open Go.RowKit Go.ChangeShapes Go.WideShapes Go.Deep
section
variable {H : Type} {enc : TypeId × Value → H} {P : Program} {w : World} {base : Nat} {spare : Nat → Bool} {held : Bool}
theorem nil_cap {t e : TypeId} {len cap : Nat} {d : DataW H} {p : List MemPlace} (ht : P.underlying t = some (.slice e)) (h : DataW.Trod enc P w base spare held t (.slice none len cap) d p) : cap = 0 := by
  obtain ⟨fuel, hf⟩ := h
  rcases open_slice ht hf with ⟨hcs, _⟩ | ⟨a, len', cap', m, n, D, Pl, hcs, _⟩
  · simp only [Value.cells, List.cons.injEq, and_true, Value.slice.injEq] at hcs
    exact hcs.2.2
  · simp only [Value.cells, List.cons.injEq, and_true, Value.slice.injEq] at hcs
    cases hcs.1
end
end Go.Proofs.Ytdfaldccopnoiaa
