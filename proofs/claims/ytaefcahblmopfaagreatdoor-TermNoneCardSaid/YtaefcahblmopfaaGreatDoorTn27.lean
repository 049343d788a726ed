/- TermNone, for every input: the call returns true, and its arguments read behind it as they read before. Condition: the package-level variables that the row lists lie as the program's text lays them (tied). -/
import Derived.Test.YtaefcahblmopfaaGreatDoorTn25
import Derived.Test.YtaefcahblmopfaaGreatDoorTn26
import Derived.LaidMore
import Derived.Stop.Joined
import Derived.Stop.LaidErr
import Derived.Lib.LaidTab
import Derived.Laws.IdiomArrays
set_option linter.unusedVariables false
set_option linter.unusedSimpArgs false
namespace Go.Proofs.YtaefcahblmopfaaGreatDoor
open Go.ChangeShapes Go.WideShapes Go.ChangeAt Go.RowKit Go.Joins
theorem cellsA3 : Tryz.prog.cellsOf 22 = 3 := by kernel_rfl
theorem cellsI : Tryz.prog.cellsOf 3 = 1 := by kernel_rfl
set_option maxRecDepth 100000 in
theorem okWide_arr3 {W : World} {r : Reach} {base : Nat} {v : Value} (h : Value.okWide Tryz.prog W r base 22 v) : ∃ c0 c1 c2, v = .agg #[c0, c1, c2] := by
  simp only [Value.okWide, Tryz.underlying22] at h
  obtain ⟨cs, h1, h2, _⟩ := h
  obtain ⟨c0, c1, c2, h3⟩ := array3 (h2.trans cellsA3)
  exact ⟨c0, c1, c2, by rw [h1, h3]⟩
set_option maxRecDepth 100000 in
theorem termNone_lifted (os : Os) (started : os.Started) (H : Type) (enc : TypeId × Value → H) :
    ReturnsInHanded {} Tryz.checked os 3 .any (fun w args => (Rows.termNoneSpec.pre enc Tryz.prog Tryz.f3 [] false w args ∧ laidMetH Tryz.prog Rows.termNoneRow.laid w) ∧ sizedMet enc Tryz.prog Tryz.f3 (OpenSpec.ofChange Rows.termNoneSpec) false w args)
      (Rows.termNoneSpec.post enc Tryz.prog Tryz.f3 false true false false) := by
  refine returnsInHanded_of_change_and (C := Tryz.checked) (X := fun w _ => laidMetH Tryz.prog Rows.termNoneRow.laid w) (fun _ _ _ hh h => h.of_heap hh) own started (by kernel_rfl) Tryz.func3
    (ChangeSpec.witness_shaped (enc := enc) (C := Tryz.checked) (os := os) (X := fun w _ => laidMetH Tryz.prog Rows.termNoneRow.laid w) false (World.laidAll Tryz.prog os Rows.termNoneRow.laid) #[.agg #[.int .i64 0, .int .i64 0, .int .i64 0], .int .i64 0, .slice none 0 0] 8 (World.laidAll_os _ _ _) (shapedT os) (by as_aux_lemma => kernel_rfl) (by as_aux_lemma => kernel_rfl) (by as_aux_lemma => kernel_rfl) (door_metT os _)) ?_
  intro W base args ds gs before hval0 hW _ _ _ _
  have hval : ∀ (j : Nat) t v, Tryz.f3.params[j]? = some t → args[j]? = some v → Value.okWide Tryz.prog W .any base t v := hval0
  have hW' := hW
  obtain ⟨p, q, hA0, hV, rfl, hfz, hnd⟩ := hW
  have hA : DataW.TrodAll enc Tryz.prog W 0 (fun _ => true) true Tryz.f3.params.toList args.toList ds p := hA0
  rw [Tryz.params3] at hA hval
  obtain ⟨v0, v1, v2, d0, d1, d2, p0, p1, p2, rfl, rfl, rfl, h0, h1, h2⟩ := trodAll_three hA
  obtain ⟨rfl, rfl⟩ := trodVars_none hV
  have h0k := h0
  obtain ⟨c0, c1, c2, rfl⟩ := okWide_arr3 (hval 0 22 v0 rfl rfl)
  obtain ⟨fuel, hf0⟩ := h0
  obtain ⟨y0, y1, y2, m0, -, hy0, hy1, hy2⟩ := trod_array3 Tryz.underlying22 cellsI hf0
  obtain ⟨a, e0, -, -⟩ := DataW.trod_int Tryz.underlying3 hy0
  obtain ⟨b, e1, -, -⟩ := DataW.trod_int Tryz.underlying3 hy1
  obtain ⟨c, e2, -, -⟩ := DataW.trod_int Tryz.underlying3 hy2
  simp only [List.cons.injEq, and_true] at e0 e1 e2
  subst e0 e1 e2
  have h1k := h1
  obtain ⟨n, rfl, -, -, -⟩ := open_int Tryz.underlying3 (hval 1 3 v1 rfl rfl) h1
  have h2k := h2
  obtain ⟨A, l, ca, rfl⟩ := okWide_slice Tryz.underlying23 (hval 2 23 v2 rfl rfl)
  clear hA0 hval0 hA hval hf0 h1 h2 hy0 hy1 hy2
  refine (TermNone_walk a b c n A l ca W).mono fun e W' ⟨he, hb⟩ => ?_
  subst he
  exact ⟨_, rfl, post_of_below hW' (fun _ _ _ => trodAll_mk1 (shut_bool Tryz.underlying4 true))
    (fun sp hsp => trodAll_mk3 (stays laidOut (by kernel_rfl) (of_decide_eq_true (by kernel_rfl)) h0k hb (fun x hx => hW'.lt x hx) (by simp; try (intros; simp [*])) hsp) (stays laidOut (by kernel_rfl) (of_decide_eq_true (by kernel_rfl)) h1k hb (fun x hx => hW'.lt x hx) (by simp; try (intros; simp [*])) hsp) (stays laidOut (by kernel_rfl) (of_decide_eq_true (by kernel_rfl)) h2k hb (fun x hx => hW'.lt x hx) (by simp; try (intros; simp [*])) hsp))
    (fun _ _ => rfl) (by simp) hb (ok_one (by kernel_rfl) rfl (okWide_bool_mk Tryz.underlying4 true))⟩
end Go.Proofs.YtaefcahblmopfaaGreatDoor
