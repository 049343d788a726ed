/- BlockBounds: the walk, at operations as they come in. Conditions: as stated. -/
import Derived.Test.YtgfaincejebogaaLwBl1
import Derived.Test.YtgfaincejebogaaOpenBo
namespace Go.Proofs.Ytgfaincejebogaa
open Go.RowKit

theorem gr_map {α β : Type} {enc : α → List Value} {enc' : β → List Value} {k : Nat} {w : World} {A : Option Addr} {l : List α} (f : α → β) (hf : ∀ x, enc' (f x) = enc x) (h : GrAt enc k w A l) : GrAt enc' k w A (l.map f) := fun hl => by
  rw [List.length_map] at hl
  obtain ⟨b, off, e, hc⟩ := h hl
  refine ⟨b, off, e, fun i x hx j v hv => ?_⟩
  rw [List.getElem?_map] at hx
  obtain ⟨y, hy, rfl⟩ := Option.map_eq_some_iff.1 hx
  exact hc i y hy j v (by rw [← hf]; exact hv)
def toBop (o : Oq) : Bop := ⟨⟨o.g_k, o.g_code, o.g_has, o.g_text⟩, o.p_r, o.p_c, o.s_k, o.s_a, o.s_n⟩
theorem gr_bop {w : World} {A : Option Addr} {l : List Oq} (h : GrAt encOq 9 w A l) : GrAt encB 9 w A (l.map toBop) := gr_map toBop (fun _ => rfl) h
theorem BlockBounds_in (m : Int) (A : Option Addr) (l : List Oq) (ca : Nat) (w : World) (hu : (Lit.int .u8 m).wf = true) (hz : l.length ≤ 9223372036854775807) (hl : GrAt encOq 9 w A l) :
    Calls Try.prog 4 #[.int .u8 m, .slice A l.length ca] w (TruePost w) := by
  have := BlockBounds_walk m A (l.map toBop) ca w (u8_of_wf hu).1 (u8_of_wf hu).2 (by simpa using hz) (gr_bop hl)
  simpa using this
end Go.Proofs.Ytgfaincejebogaa
