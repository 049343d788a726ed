/- Operations that came in, as the walks take them. Conditions: none. -/
import Derived.Test.YtfadcmjdlfobhaaOpenOv
namespace Go.Proofs.Ytfadcmjdlfobhaa
open Go.RowKit

theorem gr_map {α β : Type} {enc : α → List Value} {enc' : β → List Value} {k : Nat} {w : World} {A : Option Addr} {l : List α} (f : α → β) (hf : ∀ x, enc' (f x) = enc x) (h : GrAt enc k w A l) : GrAt enc' k w A (l.map f) := fun hl => by
  rw [List.length_map] at hl
  obtain ⟨b, off, e, hc⟩ := h hl
  refine ⟨b, off, e, fun i x hx j v hv => ?_⟩
  rw [List.getElem?_map] at hx
  obtain ⟨y, hy, rfl⟩ := Option.map_eq_some_iff.1 hx
  exact hc i y hy j v (by rw [← hf]; exact hv)
def toOv (o : Oq) : Ov := ⟨o.mv, o.p_r, o.p_c, o.s_k, o.s_a, o.s_n⟩
theorem gr_ov {w : World} {A : Option Addr} {l : List Oq} (h : GrAt encOq 6 w A l) : GrAt encO 6 w A (l.map toOv) := gr_map toOv (fun _ => rfl) h
end Go.Proofs.Ytfadcmjdlfobhaa
