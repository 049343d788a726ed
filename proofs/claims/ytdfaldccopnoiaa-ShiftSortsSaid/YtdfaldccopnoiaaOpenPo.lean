/- A slice of places that came in reads as a list of places. Conditions: none. -/
import Derived.Test.YtdfaldccopnoiaaOpenSl
import Derived.Test.YtdfaldccopnoiaaShSort
namespace Go.Proofs.Ytdfaldccopnoiaa
open Go.RowKit Go.ChangeShapes Go.WideShapes Go.Deep
section
variable {H : Type} {enc : TypeId × Value → H} {w : World} {base : Nat} {spare : Nat → Bool} {held : Bool}
set_option maxRecDepth 100000 in
theorem open_poss {b0 : Nat} {r : Reach} {v : Value} {d : DataW H} {p : List MemPlace} (hv : Value.okWide Try.prog w r b0 83 v) (h : DataW.Trod enc Try.prog w base spare held 83 v d p) :
    ∃ (A : Option Addr) (l : List P2) (cap : Nat), v = .slice A l.length cap ∧ l.length ≤ 9223372036854775807 ∧ GrAt encP 2 w A l := by
  obtain ⟨A, len, cap, rfl, hl, hm, hc⟩ := open_rows Try.underlying83 Try.underlying28 (by kernel_rfl) (by kernel_rfl) (by decide) hv h
  unfold maxLen at hm
  rcases Nat.eq_zero_or_pos len with h0 | h0
  · subst h0
    exact ⟨A, [], cap, rfl, Nat.zero_le _, fun h => absurd h (by simp)⟩
  · obtain ⟨b, off, rfl, hc2⟩ := hc h0
    obtain ⟨l, hll, hq⟩ := list_of_forall (Q := fun i (s : P2) => w.cell? ⟨b, off + i * 2, none⟩ = some (.int .i64 s.1) ∧ w.cell? ⟨b, off + i * 2 + 1, none⟩ = some (.int .i64 s.2)) len (fun i hi => by
      obtain ⟨u0, y0, n0, c0, t0⟩ := hc2 i hi 0 _ rfl
      obtain ⟨u1, y1, n1, c1, t1⟩ := hc2 i hi 1 _ rfl
      obtain ⟨z0, e0, -, -⟩ := DataW.trod_int Try.underlying3 t0
      obtain ⟨z1, e1, -, -⟩ := DataW.trod_int Try.underlying3 t1
      simp only [List.cons.injEq, and_true] at e0 e1
      subst e0 e1
      exact ⟨(z0, z1), c0, c1⟩)
    subst hll
    refine ⟨_, l, cap, rfl, by omega, fun _ => ⟨b, off, rfl, fun i x hx j v hv => ?_⟩⟩
    have h2 := hq i x hx
    match j with
    | 0 => obtain rfl : Value.int .i64 x.1 = v := by simpa [encP] using hv
           exact h2.1
    | 1 => obtain rfl : Value.int .i64 x.2 = v := by simpa [encP] using hv
           exact h2.2
    | j + 2 => simp [encP] at hv
end
end Go.Proofs.Ytdfaldccopnoiaa
