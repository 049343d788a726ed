/- The example of the statements of layer 25. Conditions: none. -/
import Derived.Test.YtfadcmjdlfobhaaJuF
import Derived.Test.YtfadcmjdlfobhaaJuG
namespace Go.Proofs.Ytfadcmjdlfobhaa
open Go.RowKit Go.Sort

theorem abc_at {w : World} (g : Nat) (h : w.heap[g]? = some (.cells #[.int .i64 3, .int .i64 7, .int .i64 9] 3 (0, 0))) : IntsAt w (some ⟨g, 0, none⟩) [3, 7, 9] := fun _ => ⟨g, 0, rfl, fun i x hx => by
  rw [Nat.zero_add]
  simp only [World.cell?, h]
  match i, hx with
  | 0, hx => simp at hx; subst hx; rfl
  | 1, hx => simp at hx; subst hx; rfl
  | 2, hx => simp at hx; subst hx; rfl⟩
set_option maxRecDepth 100000 in
set_option maxHeartbeats 3200000 in
theorem awake25 (w : World) : Calls Try.prog 30 #[] w fun e w' => e = .returned (.bool true) ∧ Below w.heap.size w w' := by
  have HN : Hid (∀ (g : Nat) (W : World), IntsAt W (some ⟨g, 0, none⟩) [3, 7, 9] → Calls Try.prog 37 #[.slice (some ⟨g, 0, none⟩) 3 3, .int .i64 3] W fun e w' => e = .returned (.tuple #[.int .i64 7, .bool true]) ∧ Below W.heap.size W w') :=
    Lib.hid fun g W h => Next_any (some ⟨g, 0, none⟩) [3, 7, 9] 3 3 W h (by decide)
  have HE : Hid (∀ (g : Nat) (W : World), IntsAt W (some ⟨g, 0, none⟩) [3, 7, 9] → Calls Try.prog 39 #[.slice (some ⟨g, 0, none⟩) 3 3, .int .i64 5] W fun e w' => e = .returned (.tuple #[.int .i64 3, .bool true]) ∧ Below W.heap.size W w') :=
    Lib.hid fun g W h => Nearest_any (some ⟨g, 0, none⟩) [3, 7, 9] 3 5 W h (by decide) (by intro y hy; simp at hy; unfold okI; omega) (by unfold okI; omega)
  have HT : Hid (∀ (g : Nat) (W : World), IntsAt W (some ⟨g, 0, none⟩) [3, 7, 9] → Calls Try.prog 33 #[.slice (some ⟨g, 0, none⟩) 3 3, .int .i64 3, .int .i64 5] W fun e w' => e = .returned (.int .i64 9) ∧ Below W.heap.size W w') :=
    Lib.hid fun g W h => Step_up (some ⟨g, 0, none⟩) [3, 7, 9] 3 3 5 W h (by decide) (by decide)
  have H0 := Lib.hid (abc_at (w := w.alloc (.cells #[.int .i64 3, .int .i64 7, .int .i64 9] 3)) w.heap.size (hp_new rfl))
  have hB0 := Lib.hid (below_allocs (Below.refl w.heap.size w) (.cells #[.int .i64 3, .int .i64 7, .int .i64 9] 3))
  go_enter Try.func30, Try.ntmps30
  go_wp2_with (first
    | (go_at_call 37; refine (HN.out _ _ H0.out).mono ?_; rintro e w1 ⟨rfl, hb1⟩; have H1 := Lib.hid (H0.out.below hb1))
    | (go_at_call 39; refine (HE.out _ _ H1.out).mono ?_; rintro e w2 ⟨rfl, hb2⟩; have H2 := Lib.hid (H1.out.below hb2))
    | (go_at_call 33; refine (HT.out _ _ H2.out).mono ?_; rintro e w3 ⟨rfl, hb3⟩))
  go_ret
  exact ⟨by simp, below_tail hB0.out (below_tail hb1 (below_tail hb2 hb3))⟩
end Go.Proofs.Ytfadcmjdlfobhaa
