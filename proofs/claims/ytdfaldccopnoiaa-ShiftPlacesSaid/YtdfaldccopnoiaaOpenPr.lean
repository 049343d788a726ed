/- An argument of type [2]int, opened. Conditions: none. -/
import Derived.Test.YtdfaldccopnoiaaBase
import Derived.ProofKit
import Derived.OpenShut
import Derived.Lib.SmallJoins
namespace Go.Proofs.Ytdfaldccopnoiaa
open Go.RowKit Go.ChangeShapes Go.WideShapes Go.Joins
theorem open_pair {H : Type} {enc : TypeId × Value → H} {P : Program} {w : World} {base : Nat} {spare : Nat → Bool} {held : Bool} {r : Reach} {b0 : Nat} {t e : TypeId} {v : Value} {d : DataW H} {p : List MemPlace}
    (hs : P.underlying t = some (.array 2 e)) (he : P.underlying e = some (.int .i64)) (hC : P.cellsOf t = 2) (hE : P.cellsOf e = 1)
    (hv : Value.okWide P w r b0 t v) (h : DataW.Trod enc P w base spare held t v d p) : ∃ x y : Int, v = .agg #[.int .i64 x, .int .i64 y] := by
  simp only [Value.okWide, hs] at hv
  obtain ⟨cs, rfl, hsz, _⟩ := hv
  obtain ⟨c0, c1, rfl⟩ := array2 (hsz.trans hC)
  obtain ⟨fuel, hf⟩ := h
  obtain ⟨xs, m, _, _, _, hlen, hi⟩ := DataW.trod_array hs hf
  have h0 := hi 0 (by omega)
  have h1 := hi 1 (by omega)
  rw [hE] at h0 h1
  match xs, hlen with
  | [y0, y1], _ =>
    simp [Value.cells] at h0 h1
    obtain ⟨x, e0, -, -⟩ := DataW.trod_int he h0
    obtain ⟨y, e1, -, -⟩ := DataW.trod_int he h1
    simp only [List.cons.injEq, and_true] at e0 e1
    subst e0 e1
    exact ⟨x, y, rfl⟩
theorem cellsPair : Try.prog.cellsOf 50 = 2 := by kernel_rfl
theorem cellsInt : Try.prog.cellsOf 3 = 1 := by kernel_rfl
end Go.Proofs.Ytdfaldccopnoiaa
