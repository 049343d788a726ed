/- DeltaRows, for every input: the call returns true, and its arguments read behind it as they read before. No condition. -/
import Derived.Test.YtdfaldccopnoiaaLwDrows
import Derived.Test.YtdfaldccopnoiaaOpenRw
import Derived.Test.YtdfaldccopnoiaaLawKit
namespace Go.Proofs.Ytdfaldccopnoiaa
open Go.ChangeShapes Go.WideShapes Go.ChangeAt Go.RowKit Go.Joins

set_option maxRecDepth 100000 in
theorem deltaRows_lifted (os : Os) (started : os.Started) (H : Type) (enc : TypeId × Value → H) :
    ReturnsInHanded {} Try.checked os 10 .any (Rows.deltaRowsSpec.pre6 enc Try.prog Try.f10 Rows.deltaRowsRow.domain false) (Rows.deltaRowsSpec.post enc Try.prog Try.f10 false true false false) := by
  refine returnsInHanded_of_change (C := Try.checked) own started (by kernel_rfl) Try.func10
    (ChangeSpec.witness6 (enc := enc) (C := Try.checked) false ⟨#[], #[.slice none 0 0, .slice none 0 0, .int .u8 0], []⟩ 8 (by kernel_rfl) (by kernel_rfl) (by kernel_rfl) (by kernel_rfl)) ?_
  intro W base args ds gs before hval0 hW hcnd _
  have hval : ∀ (j : Nat) t v, Try.f10.params[j]? = some t → args[j]? = some v → Value.okWide Try.prog W .any base t v := hval0
  have hW' := hW
  obtain ⟨p, q, hA0, hV, rfl, hfz, hnd⟩ := hW
  have hA : DataW.TrodAll enc Try.prog W 0 (fun _ => true) true Try.f10.params.toList args.toList ds p := hA0
  rw [Try.params10] at hA hval
  obtain ⟨v0, v1, v2, d0, d1, d2, p0, p1, p2, rfl, rfl, rfl, h0, h1, h2⟩ := trodAll_three hA
  obtain ⟨rfl, rfl⟩ := trodVars_none hV
  have h0k := h0
  obtain ⟨A, l, ca, rfl, hca, hca2, hl⟩ := open_rws (hval 0 54 v0 rfl rfl) h0
  have hA0' : A = none → ca = 0 := fun e => by subst e; exact nil_cap Try.underlying54 h0k
  have h1k := h1
  obtain ⟨B, m, cb, rfl, hcb, hcb2, hm⟩ := open_rws (hval 1 54 v1 rfl rfl) h1
  have hB0 : B = none → cb = 0 := fun e => by subst e; exact nil_cap Try.underlying54 h1k
  have h2k := h2
  obtain ⟨n, rfl, -, -, hwf2⟩ := open_int Try.underlying5 (hval 2 5 v2 rfl rfl) h2
  clear hA0 hval0 hA hval h0 h1 h2
  refine (DeltaRows_walk A B l m ca cb n W hl hm hca hcb hca2 hcb2 hA0' hB0 (bounds_u8 hwf2).1 (bounds_u8 hwf2).2).mono fun e W' ⟨he, hb⟩ => ?_
  subst he
  exact ⟨_, rfl, post_of_below hW' (fun _ _ _ => trodAll_mk1 (shut_bool Try.underlying4 true))
    (fun sp hsp => trodAll_mk3 (stays laidOut (by kernel_rfl) (of_decide_eq_true (by kernel_rfl)) h0k hb (fun x hx => hW'.lt x hx) (by simp; try (intros; simp [*])) hsp) (stays laidOut (by kernel_rfl) (of_decide_eq_true (by kernel_rfl)) h1k hb (fun x hx => hW'.lt x hx) (by simp; try (intros; simp [*])) hsp) (stays laidOut (by kernel_rfl) (of_decide_eq_true (by kernel_rfl)) h2k hb (fun x hx => hW'.lt x hx) (by simp; try (intros; simp [*])) hsp))
    (fun _ _ => rfl) (by simp) hb (ok_one (by kernel_rfl) rfl (okWide_bool_mk Try.underlying4 true))⟩

theorem deltaRows_holds : Rows.DeltaRowsSaid :=
  OpenClaim.holds_of_wide 10 Try.f10 rfl rfl rfl rfl rfl rfl rfl ⟨rfl, rfl, rfl, rfl, rfl⟩ rfl rfl rfl rfl rfl (by kernel_rfl) Try.func10 (by kernel_rfl)
    (of_decide_eq_true (by kernel_rfl)) (by unfold Func.isWrapper; first | (rw [if_pos (by decide +kernel)]; kernel_rfl) | (rw [if_neg (by decide +kernel)]; exact ⟨rfl, rfl⟩))
    (fun os started H enc _ => deltaRows_lifted os started H enc)
#print axioms deltaRows_holds
end Go.Proofs.Ytdfaldccopnoiaa
