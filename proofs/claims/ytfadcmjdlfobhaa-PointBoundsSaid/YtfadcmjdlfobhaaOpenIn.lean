/- A slice of numbers that came in reads as a list of numbers. Conditions: none. -/
import Derived.Test.YtfadcmjdlfobhaaJuA
import Derived.Test.YtfadcmjdlfobhaaLawKit
import Derived.ChangeSlices
namespace Go.Proofs.Ytfadcmjdlfobhaa
open Go.RowKit Go.ChangeShapes Go.WideShapes
section
variable {H : Type} {enc : TypeId × Value → H} {w : World} {base : Nat} {spare : Nat → Bool} {held : Bool}
set_option maxRecDepth 100000 in
theorem okI_of_wf {x : Int} (h : (Lit.int .i64 x).wf = true) : okI x := by
  unfold okI
  simp [Lit.wf, IntKind.min, IntKind.max, IntKind.signed, IntKind.bits] at h
  omega
theorem u8_of_wf {x : Int} (h : (Lit.int .u8 x).wf = true) : 0 ≤ x ∧ x ≤ 255 := by
  simp [Lit.wf, IntKind.min, IntKind.max, IntKind.signed, IntKind.bits] at h
  omega
set_option maxRecDepth 100000 in
theorem open_intl {b0 : Nat} {r : Reach} {v : Value} {d : DataW H} {p : List MemPlace} (hv : Value.okWide Try.prog w r b0 53 v) (h : DataW.Trod enc Try.prog w base spare held 53 v d p) :
    ∃ (A : Option Addr) (l : List Int) (cap : Nat), v = .slice A l.length cap ∧ l.length ≤ 9223372036854775807 ∧ IntsAt w A l ∧ ∀ y ∈ l, okI y := by
  obtain ⟨a0, len, cap, rfl⟩ := okWide_slice Try.underlying53 hv
  obtain ⟨fuel, hf⟩ := h
  rcases open_ints Try.underlying53 Try.underlying3 (by kernel_rfl) hf with ⟨hcs, hx⟩ | ⟨a, len', cap', zs, hcs, _, hl, hm, hzl, hx, hc, hwf⟩
  · simp only [Value.cells, List.cons.injEq, and_true, Value.slice.injEq] at hcs
    obtain ⟨rfl, rfl, rfl⟩ := hcs
    exact ⟨none, [], 0, rfl, Nat.zero_le _, fun h => absurd h (by simp), fun y hy => by cases hy⟩
  · simp only [Value.cells, List.cons.injEq, and_true, Value.slice.injEq] at hcs
    obtain ⟨rfl, rfl, rfl⟩ := hcs
    unfold maxLen at hm
    have hle : len ≤ zs.length := by rw [hzl]; split <;> omega
    have hlen : (zs.take len).length = len := by simp; omega
    refine ⟨some a, zs.take len, cap, by rw [hlen], by omega, fun h0 => ?_, fun y hy => okI_of_wf (hwf y (List.mem_of_mem_take hy))⟩
    have hspot : a.spot = none := by
      have h1 := World.cell?_spot (hc 0 (by omega))
      simpa [Addr.add] using h1
    obtain ⟨b, off, spot⟩ := a
    simp only at hspot
    subst hspot
    refine ⟨b, off, rfl, fun i x hi => ?_⟩
    have hi' := List.getElem?_eq_some_iff.1 hi
    have hil : i < len := by have := hi'.1; omega
    have h2 := hc i (by omega)
    rw [add_lit'] at h2
    rw [h2]
    rw [List.getElem?_take_of_lt hil] at hi
    simp [List.getD, hi]
end
end Go.Proofs.Ytfadcmjdlfobhaa
