/- PagePlays: the walk, at operations as they come in. Conditions: as stated. -/
import Derived.Test.YtffdblmdelgkaaaGreatLwPp
import Derived.Test.YtffdblmdelgkaaaGreatOpenPp
namespace Go.Proofs.YtffdblmdelgkaaaGreat
open Go.RowKit

theorem cellsSz : Tryz.prog.cellsOf 23 = 3 := by kernel_rfl
theorem gr_map {α β : Type} {enc : α → List Value} {enc' : β → List Value} {k : Nat} {w : World} {A : Option Addr} {l : List α} (f : α → β) (hf : ∀ x, enc' (f x) = enc x) (h : GrAt enc k w A l) : GrAt enc' k w A (l.map f) := fun hl => by
  rw [List.length_map] at hl
  obtain ⟨b, off, e, hc⟩ := h hl
  refine ⟨b, off, e, fun i x hx j v hv => ?_⟩
  rw [List.getElem?_map] at hx
  obtain ⟨y, hy, rfl⟩ := Option.map_eq_some_iff.1 hx
  exact hc i y hy j v (by rw [← hf]; exact hv)
def toPop (o : Oq) : Pop := ⟨o.o_kind, o.o_x, o.o_n, o.o_r, ⟨o.o_at_f_k, o.o_at_f_n, o.o_at_b_k, o.o_at_b_n, o.o_at_fl⟩, o.y, o.top, o.bottom⟩
theorem gr_pop {w : World} {A : Option Addr} {l : List Oq} (h : GrAt encOq 12 w A l) : GrAt encPop 12 w A (l.map toPop) := gr_map toPop (fun _ => rfl) h
theorem pops_ok {l : List Oq} (h : ∀ c ∈ l, okOq c) : ∀ o ∈ l.map toPop, PopOk o := fun o ho => by
  obtain ⟨c, hc, rfl⟩ := List.mem_map.1 ho
  have := h c hc
  unfold okOq okI at this
  exact ⟨by unfold In64 toPop; simp only; omega, by unfold In64 toPop; simp only; omega⟩
theorem PagePlays_in (a b c : Int) (A : Option Addr) (l : List Oq) (ca : Nat) (w : World) (ha : (Lit.int .u8 a).wf = true) (hb : (Lit.int .u8 b).wf = true) (hc : (Lit.int .u8 c).wf = true) (hz : l.length ≤ 9223372036854775807) (hl : GrAt encOq 12 w A l) (hok : ∀ c ∈ l, okOq c) :
    Calls Tryz.prog 3 #[.agg #[.int .u8 a, .int .u8 b, .int .u8 c], .slice A l.length ca] w (TruePost w) := by
  have := PagePlays_walk a b c (u8_of_wf ha).1 (u8_of_wf hb).1 (u8_of_wf hc).1 A (l.map toPop) ca w (by simpa using hz) (gr_pop hl) (pops_ok hok)
  simpa using this
end Go.Proofs.YtffdblmdelgkaaaGreat
