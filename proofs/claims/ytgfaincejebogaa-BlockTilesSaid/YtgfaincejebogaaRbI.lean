/- The document's blocks: Shift. Conditions: as stated. -/
import Derived.Test.YtgfaincejebogaaRbH
namespace Go.Proofs.Ytgfaincejebogaa
open Go.RowKit

theorem RInv.drop {M : List Mk} {f : Fc} {F : List Fc} {ids : Int} (h : RInv M (f :: F) ids) (hF : F ≠ []) : RInv (M.filter (otherId f.id)) F ids := by
  refine ⟨fun m hm => ?_, fun _ => ?_, fun m hm => h.phs m (List.mem_filter.1 hm).1⟩
  · obtain ⟨hm1, hm2⟩ := List.mem_filter.1 hm
    obtain ⟨g, hg, e⟩ := h.idin m hm1
    rcases List.mem_cons.1 hg with rfl | hg
    · unfold otherId at hm2
      rw [e] at hm2
      simp at hm2
    · exact ⟨g, hg, e⟩
  · obtain ⟨g, hg, e⟩ := h.last (by simp)
    refine ⟨g, ?_, e⟩
    match F, hF with
    | a :: l, _ => simpa using hg
/-- What Shift's loops keep. -/
def RsSt (W : World) (q : Nat) (vM vF : Value) (m0 f0 : Nat) (most ids : Int) (dir : ByteArray) (wr : World) : Prop :=
  ∃ vM' vF' M' F', RbO wr q vM' vF' M' F' most ids dir ∧ RInv M' F' ids ∧ M'.length ≤ m0 ∧ F'.length ≤ f0 ∧ Mod (rfoot q vM vF) W wr ∧ ∀ g ∈ rfoot q vM' vF', g ∈ rfoot q vM vF ∨ W.heap.size ≤ g
set_option maxRecDepth 100000 in
set_option maxHeartbeats 6400000 in
theorem rshift_out {q : Nat} {vM vF : Value} {M : List Mk} {F : List Fc} {mo N : Nat} {ids : Int} {dir : ByteArray} (k a n : Int) (w : World) (h : RbO w q vM vF M F mo ids dir) (hi : RInv M F ids) (hl : F.length ≤ mo) (hm : M.length ≤ 4 * N) (hi0 : 0 ≤ ids) (hiN : ids ≤ N) (hr : rightS k a n = false) :
    Calls Try.prog 18 #[.pointer (some ⟨q, 0, none⟩), .agg #[.int .i64 k, .int .i64 a, .int .i64 n]] w (RkPost w q vM vF mo (N + 1)) := by
  have HR := Lib.hid (fun w => Shift10_any k a n w)
  rw [hr] at HR
  have hb0 : Below w.heap.size w (w.alloc (.cells #[.int .i64 k, .int .i64 a, .int .i64 n] 35)) := below_allocs (Below.refl _ _) _
  have HF : Hid (∀ w1, Below (w.alloc (.cells #[.int .i64 k, .int .i64 a, .int .i64 n] 35)).heap.size (w.alloc (.cells #[.int .i64 k, .int .i64 a, .int .i64 n] 35)) w1 → RkPost w q vM vF mo (N + 1) (.returned (.tuple #[])) w1) := Lib.hid (fun w1 hb => RkPost.same h hi hl hm hi0 hiN (below_tail hb0 hb))
  clear h hi hb0 hr
  go_enter Try.func18, Try.ntmps18
  go_wp2_with (go_at_call 32; refine (HR.out _).mono ?_; rintro e w1 ⟨rfl, hb1⟩)
  go_end0
  exact HF.out _ hb1
end Go.Proofs.Ytgfaincejebogaa
