/- A slice of shifts that came in reads as a list of shifts. Conditions: none. -/
import Derived.Test.YtdfaldccopnoiaaOpenSl
import Derived.Test.YtdfaldccopnoiaaShD
namespace Go.Proofs.Ytdfaldccopnoiaa
open Go.RowKit Go.ChangeShapes Go.WideShapes Go.Deep
section
variable {H : Type} {enc : TypeId × Value → H} {w : World} {base : Nat} {spare : Nat → Bool} {held : Bool}
set_option maxRecDepth 100000 in
theorem open_shifts {b0 : Nat} {r : Reach} {v : Value} {d : DataW H} {p : List MemPlace} (hv : Value.okWide Try.prog w r b0 34 v) (h : DataW.Trod enc Try.prog w base spare held 34 v d p) :
    ∃ (A : Option Addr) (l : List Sh) (cap : Nat), v = .slice A l.length cap ∧ l.length ≤ 9223372036854775807 ∧ ShAt w A l := by
  obtain ⟨A, len, cap, rfl, hl, hm, hc⟩ := open_rows Try.underlying34 Try.underlying23 (by kernel_rfl) (by kernel_rfl) (by decide) hv h
  unfold maxLen at hm
  rcases Nat.eq_zero_or_pos len with h0 | h0
  · subst h0
    exact ⟨A, [], cap, rfl, Nat.zero_le _, fun h => absurd h (by simp)⟩
  · obtain ⟨b, off, rfl, hc2⟩ := hc h0
    obtain ⟨l, hll, hq⟩ := list_of_forall (Q := fun i (s : Sh) => w.cell? ⟨b, off + i * 3, none⟩ = some (.int .i64 s.k) ∧ w.cell? ⟨b, off + i * 3 + 1, none⟩ = some (.int .i64 s.a) ∧ w.cell? ⟨b, off + i * 3 + 2, none⟩ = some (.int .i64 s.n)) len (fun i hi => by
      obtain ⟨u0, y0, n0, c0, t0⟩ := hc2 i hi 0 _ rfl
      obtain ⟨u1, y1, n1, c1, t1⟩ := hc2 i hi 1 _ rfl
      obtain ⟨u2, y2, n2, c2, t2⟩ := hc2 i hi 2 _ rfl
      obtain ⟨z0, e0, -, -⟩ := DataW.trod_int Try.underlying3 t0
      obtain ⟨z1, e1, -, -⟩ := DataW.trod_int Try.underlying3 t1
      obtain ⟨z2, e2, -, -⟩ := DataW.trod_int Try.underlying3 t2
      simp only [List.cons.injEq, and_true] at e0 e1 e2
      subst e0 e1 e2
      exact ⟨⟨z0, z1, z2⟩, c0, c1, c2⟩)
    subst hll
    exact ⟨_, l, cap, rfl, by omega, fun _ => ⟨b, off, rfl, hq⟩⟩
end
end Go.Proofs.Ytdfaldccopnoiaa
