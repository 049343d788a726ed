/- The program's store of points: New, the closures of Next and Ahead; a store that isn't there. Conditions: as stated. -/
import Derived.Test.YtfadcmjdlfobhaaPtD
namespace Go.Proofs.Ytfadcmjdlfobhaa
open Go.RowKit Go.Sort

theorem PtNew_no (most : Int) (w : World) (h : ¬ (1 ≤ most ∧ most ≤ 10000)) : Calls Try.prog 41 #[.int .i64 most] w fun e w' => e = .returned (.tuple #[.pointer none, .int .i64 1]) ∧ w = w' := by
  rcases (show most < 1 ∨ (1 ≤ most ∧ 10000 < most) by omega) with h1 | ⟨h1, h2⟩
  all_goals clear h
  · go_enter Try.func41, Try.ntmps41
    go_wp2
    go_ret2
    exact ⟨rfl, rfl⟩
  · go_enter Try.func41, Try.ntmps41
    go_wp2
    go_ret2
    exact ⟨rfl, rfl⟩
theorem PtNew_ok (most : Int) (w : World) (h1 : 1 ≤ most) (h2 : most ≤ 10000) : Calls Try.prog 41 #[.int .i64 most] w fun e w' =>
    e = .returned (.tuple #[.pointer (some ⟨w.heap.size, 0, none⟩), .int .i64 0]) ∧ PtSt w' w.heap.size [w.heap.size] most [] ∧ Below w.heap.size w w' := by
  go_enter Try.func41, Try.ntmps41
  go_wp2
  go_ret2
  refine ⟨rfl, ⟨.slice none 0 0, rfl, at_ (hp_new rfl) 0 _ rfl, (at_ (hp_new rfl) 1 _ rfl).1, World.ownsRow_nil _ _ _ _⟩, below_allocs (Below.refl _ _) _⟩
def NilPost (w : World) (e : Ending) (w' : World) : Prop := e = .returned (.tuple #[]) ∧ Below w.heap.size w w'
theorem PtAdd_nil (r c : Int) (w : World) : Calls Try.prog 23 #[.pointer none, .agg #[.int .i64 r, .int .i64 c]] w (NilPost w) := by
  go_enter Try.func23, Try.ntmps23
  go_wp2
  go_end0
  exact ⟨rfl, by repeat (first | exact Below.refl _ _ | refine below_drewNs ?_ _ | refine Below.drew ?_ | refine below_allocs ?_ _)⟩
theorem PtShift_nil (k a n : Int) (w : World) : Calls Try.prog 42 #[.pointer none, .agg #[.int .i64 k, .int .i64 a, .int .i64 n]] w (NilPost w) := by
  go_enter Try.func42, Try.ntmps42
  go_wp2
  go_end0
  exact ⟨rfl, by repeat (first | exact Below.refl _ _ | refine below_drewNs ?_ _ | refine Below.drew ?_ | refine below_allocs ?_ _)⟩
theorem PtLen_nil (w : World) : Calls Try.prog 17 #[.pointer none] w fun e w' => e = .returned (.int .i64 0) ∧ w = w' := by
  go_enter Try.func17, Try.ntmps17
  go_wp2
  go_ret
  exact ⟨rfl, rfl⟩
theorem PtPlaces_nil (w : World) : Calls Try.prog 21 #[.pointer none] w fun e w' => e = .returned (.slice none 0 0) ∧ w = w' := by
  go_enter Try.func21, Try.ntmps21
  go_wp2
  go_ret
  exact ⟨rfl, rfl⟩
theorem PtList_nil (w : World) : Calls Try.prog 19 #[.pointer none] w (PosPost w []) := by
  have HS := Lib.hid (Sort_any none [] 0 w (GrAt.nil _ _) (by simp))
  have e0 : sortP [] = [] := List.length_eq_zero_iff.1 (sortP_len [])
  rw [e0] at HS
  clear e0
  go_enter Try.func19, Try.ntmps19
  go_wp2_with (first
    | (go_at_call 21; refine (PtPlaces_nil _).mono ?_; rintro e w1 ⟨rfl, rfl⟩)
    | (go_at_call 47; refine HS.out.mono ?_; rintro e w2 ⟨v2, rfl, ho2, hb2⟩))
  go_ret
  exact ⟨_, rfl, ho2, hb2⟩
theorem PtPut_nil (A : Option Addr) (n c : Nat) (w : World) : Calls Try.prog 25 #[.pointer none, .slice A n c] w fun e w' => e = .returned (.int .i64 1) ∧ w = w' := by
  go_enter Try.func25, Try.ntmps25
  go_wp2
  go_ret
  exact ⟨rfl, rfl⟩
set_option maxHeartbeats 400000 in
theorem Next1_any (fb : Nat) (r c x y : Int) (w : World) (h0 : w.cell? ⟨fb, 0, none⟩ = some (.int .i64 r)) (h1 : w.cell? ⟨fb, 1, none⟩ = some (.int .i64 c)) :
    Calls Try.prog 51 #[.agg #[.int .i64 x, .int .i64 y], .pointer (some ⟨fb, 0, none⟩)] w fun e w' => e = .returned (.bool (ltP (r, c) (x, y))) ∧ Below w.heap.size w w' := by
  have HL := Less_hid r c x y
  simp only [posV] at HL
  change Hid (∀ w : World, Calls _ _ _ w fun e w' => e = .returned (.bool (ltP (r, c) (x, y))) ∧ Below w.heap.size w w') at HL
  generalize ltP (r, c) (x, y) = b at HL ⊢
  have hw := lt_of_cell h0
  go_enter Try.func51, Try.ntmps51
  go_wp2_with (go_at_call 52; refine (HL.out _).mono ?_; rintro e w1 ⟨rfl, hb1⟩)
  go_ret
  exact ⟨rfl, below_tail (below_allocs (Below.refl _ _) _) hb1⟩
set_option maxHeartbeats 400000 in
theorem Ahead1_any (fb : Nat) (r c x y : Int) (w : World) (h0 : w.cell? ⟨fb, 0, none⟩ = some (.int .i64 r)) (h1 : w.cell? ⟨fb, 1, none⟩ = some (.int .i64 c)) :
    Calls Try.prog 53 #[.agg #[.int .i64 x, .int .i64 y], .pointer (some ⟨fb, 0, none⟩)] w fun e w' => e = .returned (.bool (ltP (x, y) (r, c))) ∧ Below w.heap.size w w' := by
  have HL := Less_hid x y r c
  simp only [posV] at HL
  change Hid (∀ w : World, Calls _ _ _ w fun e w' => e = .returned (.bool (ltP (x, y) (r, c))) ∧ Below w.heap.size w w') at HL
  generalize ltP (x, y) (r, c) = b at HL ⊢
  have hw := lt_of_cell h0
  go_enter Try.func53, Try.ntmps53
  go_wp2_with (go_at_call 52; refine (HL.out _).mono ?_; rintro e w1 ⟨rfl, hb1⟩)
  go_ret
  exact ⟨rfl, below_tail (below_allocs (Below.refl _ _) _) hb1⟩
set_option maxHeartbeats 400000 in
theorem Ahead2_any (r c x y : Int) (w : World) :
    Calls Try.prog 54 #[.agg #[.int .i64 r, .int .i64 c], .agg #[.int .i64 x, .int .i64 y]] w fun e w' => e = .returned (.bool (ltP (x, y) (r, c))) ∧ Below w.heap.size w w' := by
  have HL := Less_hid x y r c
  simp only [posV] at HL
  change Hid (∀ w : World, Calls _ _ _ w fun e w' => e = .returned (.bool (ltP (x, y) (r, c))) ∧ Below w.heap.size w w') at HL
  generalize ltP (x, y) (r, c) = b at HL ⊢
  go_enter Try.func54, Try.ntmps54
  go_wp2_with (go_at_call 52; refine (HL.out _).mono ?_; rintro e w1 ⟨rfl, hb1⟩)
  go_ret
  exact ⟨rfl, below_tail (below_allocs (below_allocs (Below.refl _ _) _) _) hb1⟩
end Go.Proofs.Ytfadcmjdlfobhaa
