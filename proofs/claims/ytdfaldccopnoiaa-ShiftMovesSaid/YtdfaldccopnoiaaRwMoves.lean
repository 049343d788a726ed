/- ShiftMoves, for every input: the call returns true, and its arguments read behind it as they read before. No condition. -/
import Derived.Test.YtdfaldccopnoiaaLwMoves
import Derived.Test.YtdfaldccopnoiaaLawKit
namespace Go.Proofs.Ytdfaldccopnoiaa
open Go.ChangeShapes Go.WideShapes Go.ChangeAt Go.RowKit Go.Joins

theorem cellsPos : Try.prog.cellsOf 28 = 2 := by kernel_rfl
theorem cellsShift : Try.prog.cellsOf 23 = 3 := by kernel_rfl

set_option maxRecDepth 100000 in
theorem shiftMoves_lifted (os : Os) (started : os.Started) (H : Type) (enc : TypeId × Value → H) :
    ReturnsInHanded {} Try.checked os 4 .any (Rows.shiftMovesSpec.pre6 enc Try.prog Try.f4 Rows.shiftMovesRow.domain false) (Rows.shiftMovesSpec.post enc Try.prog Try.f4 false true false false) := by
  refine returnsInHanded_of_change (C := Try.checked) own started (by kernel_rfl) Try.func4
    (ChangeSpec.witness6 (enc := enc) (C := Try.checked) false ⟨#[], #[.agg #[.int .i64 0, .int .i64 0], .agg #[.int .i64 0, .int .i64 0, .int .i64 0]], []⟩ 8 (by kernel_rfl) (by kernel_rfl) (by kernel_rfl) (by kernel_rfl)) ?_
  intro W base args ds gs before hval0 hW hcnd _
  have hval : ∀ (j : Nat) t v, Try.f4.params[j]? = some t → args[j]? = some v → Value.okWide Try.prog W .any base t v := hval0
  have hW' := hW
  obtain ⟨p, q, hA0, hV, rfl, hfz, hnd⟩ := hW
  have hA : DataW.TrodAll enc Try.prog W 0 (fun _ => true) true Try.f4.params.toList args.toList ds p := hA0
  rw [Try.params4] at hA hval
  obtain ⟨v0, v1, d0, d1, p0, p1, rfl, rfl, rfl, h0, h1⟩ := trodAll_two hA
  obtain ⟨rfl, rfl⟩ := trodVars_none hV
  have h0k := h0
  have h1k := h1
  obtain ⟨c0, c1, y0, y1, m0, rfl, -, -, hy0, hy1⟩ := open_agg2 Try.underlying28 (by kernel_rfl) cellsPos (hval 0 28 v0 rfl rfl) h0
  obtain ⟨b0, b1, b2, z0, z1, z2, m1, rfl, -, -, hz0, hz1, hz2⟩ := open_agg3 Try.underlying23 (by kernel_rfl) cellsShift (hval 1 23 v1 rfl rfl) h1
  obtain ⟨r, e0, -, -⟩ := DataW.trod_int Try.underlying3 hy0
  obtain ⟨c, e1, -, -⟩ := DataW.trod_int Try.underlying3 hy1
  obtain ⟨k, e2, -, -⟩ := DataW.trod_int Try.underlying3 hz0
  obtain ⟨a, e3, -, -⟩ := DataW.trod_int Try.underlying3 hz1
  obtain ⟨n, e4, -, -⟩ := DataW.trod_int Try.underlying3 hz2
  simp only [List.cons.injEq, and_true] at e0 e1 e2 e3 e4
  subst e0 e1 e2 e3 e4
  clear hA0 hval0 hA hval hy0 hy1 hz0 hz1 hz2 h0 h1
  refine (ShiftMoves_walk r c k a n W).mono fun e W' ⟨he, hb⟩ => ?_
  subst he
  exact ⟨_, rfl, post_of_below hW' (fun _ _ _ => trodAll_mk1 (shut_bool Try.underlying4 true))
    (fun sp hsp => trodAll_mk2 (stays laidOut (by kernel_rfl) (of_decide_eq_true (by kernel_rfl)) h0k hb (fun x hx => hW'.lt x hx) (by simp; intros; simp [*]) hsp) (stays laidOut (by kernel_rfl) (of_decide_eq_true (by kernel_rfl)) h1k hb (fun x hx => hW'.lt x hx) (by simp; intros; simp [*]) hsp))
    (fun _ _ => rfl) rfl hb (ok_one (by kernel_rfl) rfl (okWide_bool_mk Try.underlying4 true))⟩

theorem shiftMoves_holds : Rows.ShiftMovesSaid :=
  OpenClaim.holds_of_wide 4 Try.f4 rfl rfl rfl rfl rfl rfl rfl ⟨rfl, rfl, rfl, rfl, rfl⟩ rfl rfl rfl rfl rfl (by kernel_rfl) Try.func4 (by kernel_rfl)
    (of_decide_eq_true (by kernel_rfl)) (by unfold Func.isWrapper; first | (rw [if_pos (by decide +kernel)]; kernel_rfl) | (rw [if_neg (by decide +kernel)]; exact ⟨rfl, rfl⟩))
    (fun os started H enc _ => shiftMoves_lifted os started H enc)
#print axioms shiftMoves_holds
end Go.Proofs.Ytdfaldccopnoiaa
