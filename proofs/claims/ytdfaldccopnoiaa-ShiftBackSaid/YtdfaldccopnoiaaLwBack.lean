/- ShiftBack: the walk of the law. Conditions: none. -/
import Derived.Test.YtdfaldccopnoiaaShD
import Derived.Test.YtdfaldccopnoiaaRegU
import Derived.Deep.DeepCutAuto
import Derived.Deep.RegionHeld3
namespace Go.Proofs.Ytdfaldccopnoiaa
open Go.RowKit

theorem back_plain (r c a n : Int) (h : inB (mv r c 0 a n).1 = true) : mvAll (r, c) [⟨0, a, n⟩, ⟨1, a, n⟩] = (r, c) := by
  show mv (mv r c 0 a n).1 (mv r c 0 a n).2 1 a n = (r, c)
  by_cases h1 : inB r = true ∧ inB c = true ∧ rightS 0 a n = true ∧ gapI 0 a ≤ r
  · have e : mv r c 0 a n = (r + n, c) := by unfold mv; rw [if_pos h1, if_pos rfl]
    rw [e] at h ⊢
    have hs := rightS_true h1.2.2.1
    have hs' : rightS 1 a n = true := by have := h1.2.2.1; simpa [rightS] using this
    have hg : gapI 1 a = a := rfl
    have hg' : gapI 0 a = a := rfl
    unfold mv
    rw [hg, if_pos ⟨h, h1.2.1, hs', by have := h1.2.2.2; rw [hg'] at this; omega⟩, if_neg (by omega), if_neg (by have := h1.2.2.2; rw [hg'] at this; omega)]
    exact Prod.ext (by simp) rfl
  · have e : mv r c 0 a n = (r, c) := by unfold mv; rw [if_neg h1]
    rw [e]
    have h2 : ¬ (inB r = true ∧ inB c = true ∧ rightS 1 a n = true ∧ gapI 1 a ≤ r) := by
      have hs' : rightS 1 a n = rightS 0 a n := by simp [rightS]
      rw [hs']; exact h1
    unfold mv; rw [if_neg h2]

theorem ShAt_two {W w1 : World} {b : Nat} {t : TypeId} {s0 s1 : Sh} (hb : Below W.heap.size W w1) (h : W.heap[b]? = some (.cells #[.int .i64 s0.k, .int .i64 s0.a, .int .i64 s0.n, .int .i64 s1.k, .int .i64 s1.a, .int .i64 s1.n] t (0, 0))) : ShAt w1 (some ⟨b, 0, none⟩) [s0, s1] := by
  intro _
  refine ⟨b, 0, rfl, fun i s hs => ?_⟩
  match i, hs with
  | 0, hs =>
    obtain rfl : s0 = s := by simpa using hs
    exact ⟨(at_new hb h 0 _ rfl).1, (at_new hb h 1 _ rfl).1, (at_new hb h 2 _ rfl).1⟩
  | 1, hs =>
    obtain rfl : s1 = s := by simpa using hs
    exact ⟨(at_new hb h 3 _ rfl).1, (at_new hb h 4 _ rfl).1, (at_new hb h 5 _ rfl).1⟩
  | i + 2, hs => simp at hs

set_option maxRecDepth 100000 in
set_option maxHeartbeats 1600000 in
theorem ShiftBack_walk (r c a n : Int) (w : World) :
    Calls Try.prog 6 #[posV r c, .int .i64 a, .int .i64 n] w fun e w' => e = .returned (.bool true) ∧ Below w.heap.size w w' := by
  have HM := Move_hid r c 0 a n
  have hp := back_plain r c a n
  have HA : Hid (mvAll (r, c) [⟨0, a, n⟩, ⟨1, a, n⟩] = (r, c) → ∀ (A : Option Addr) (w : World), ShAt w A [⟨0, a, n⟩, ⟨1, a, n⟩] → Calls Try.prog 22 #[.agg #[.int .i64 r, .int .i64 c], .slice A 2 2] w fun e w' => e = .returned (.agg #[.int .i64 r, .int .i64 c]) ∧ Below w.heap.size w w') := Lib.hid (fun hp A w h => by
    have := All_any r c A [⟨0, a, n⟩, ⟨1, a, n⟩] 2 w h (by simp)
    rw [hp] at this
    exact this)
  generalize mv r c 0 a n = q at *
  obtain ⟨q1, q2⟩ := q
  simp only at HM hp
  unfold posV shV at *
  cases hq : inB q1
  · clear hp
    go_enter Try.func6, Try.ntmps6
    go_wp2_with (first | (go_at_call 16; refine (HM.out _).mono ?_; rintro e w1 ⟨rfl, hb1⟩; have hB := below_tail (show Below w.heap.size w _ from by repeat (first | exact Below.refl _ _ | refine below_allocs ?_ _)) hb1) | (go_at_call 18; refine (Right10_any _ _).mono ?_; rintro e w2 ⟨rfl, rfl⟩) | (go_at_call 14; refine (awake10 _).mono ?_; rintro e w3 ⟨rfl, hb3⟩))
    go_ret
    exact ⟨by simp, below_tail (below_allocs hB _) hb3⟩
  · have HA2 := Lib.hid (HA.out (hp hq))
    clear hp HA
    go_enter Try.func6, Try.ntmps6
    go_wp2_with (first | (go_at_call 16; refine (HM.out _).mono ?_; rintro e w1 ⟨rfl, hb1⟩; have hB := below_tail (show Below w.heap.size w _ from by repeat (first | exact Below.refl _ _ | refine below_allocs ?_ _)) hb1; have p0 := at_new (b := w.heap.size) hb1 (by repeat (first | (refine hp_new ?_; simp; done) | refine hp_old ?_)) 0 (.int .i64 r) rfl; have p1 := at_new (b := w.heap.size) hb1 (by repeat (first | (refine hp_new ?_; simp; done) | refine hp_old ?_)) 1 (.int .i64 c) rfl; have s0 := at_new (b := w.heap.size + 1) hb1 (by repeat (first | (refine hp_new ?_; simp; done) | refine hp_old ?_)) 0 (.int .i64 0) rfl; have s1 := at_new (b := w.heap.size + 1) hb1 (by repeat (first | (refine hp_new ?_; simp; done) | refine hp_old ?_)) 1 (.int .i64 a) rfl; have s2 := at_new (b := w.heap.size + 1) hb1 (by repeat (first | (refine hp_new ?_; simp; done) | refine hp_old ?_)) 2 (.int .i64 n) rfl; have t0 := at_new (b := w.heap.size + 2) hb1 (by repeat (first | (refine hp_new ?_; simp; done) | refine hp_old ?_)) 0 (.int .i64 1) rfl; have t1 := at_new (b := w.heap.size + 2) hb1 (by repeat (first | (refine hp_new ?_; simp; done) | refine hp_old ?_)) 1 (.int .i64 a) rfl; have t2 := at_new (b := w.heap.size + 2) hb1 (by repeat (first | (refine hp_new ?_; simp; done) | refine hp_old ?_)) 2 (.int .i64 n) rfl; have hB1 : Below w.heap.size w (w1.alloc (.cells #[.int .i64 q1, .int .i64 q2] 28)) := below_allocs hB _) | (go_at_call 18; refine (Right10_any _ _).mono ?_; rintro e w2 ⟨rfl, rfl⟩))
    have zB := hB1
    replace p0 := hold_alloc (o := .cells #[.int .i64 q1, .int .i64 q2] 28) p0
    replace p1 := hold_alloc (o := .cells #[.int .i64 q1, .int .i64 q2] 28) p1
    replace s0 := hold_alloc (o := .cells #[.int .i64 q1, .int .i64 q2] 28) s0
    replace s1 := hold_alloc (o := .cells #[.int .i64 q1, .int .i64 q2] 28) s1
    replace s2 := hold_alloc (o := .cells #[.int .i64 q1, .int .i64 q2] 28) s2
    replace t0 := hold_alloc (o := .cells #[.int .i64 q1, .int .i64 q2] 28) t0
    replace t1 := hold_alloc (o := .cells #[.int .i64 q1, .int .i64 q2] 28) t1
    replace t2 := hold_alloc (o := .cells #[.int .i64 q1, .int .i64 q2] 28) t2
    generalize (w1.alloc (.cells #[.int .i64 q1, .int .i64 q2] 28)) = w2 at *
    clear hb1 hB zB hq
    go_region_held3 (fun w' => Below w.heap.size w w' ∧ w'.cell? ⟨w.heap.size, 0, none⟩ = some (.int .i64 r) ∧ w'.cell? ⟨w.heap.size, 1, none⟩ = some (.int .i64 c) ∧ w'.cell? ⟨w.heap.size + 1, 0, none⟩ = some (.int .i64 0) ∧ w'.cell? ⟨w.heap.size + 1, 1, none⟩ = some (.int .i64 a) ∧ w'.cell? ⟨w.heap.size + 1, 2, none⟩ = some (.int .i64 n) ∧ w'.cell? ⟨w.heap.size + 2, 0, none⟩ = some (.int .i64 1) ∧ w'.cell? ⟨w.heap.size + 2, 1, none⟩ = some (.int .i64 a) ∧ w'.cell? ⟨w.heap.size + 2, 2, none⟩ = some (.int .i64 n))
      (first | exact ⟨hB1.drew, p0.1, p1.1, s0.1, s1.1, s2.1, t0.1, t1.1, t2.1⟩ | (have hh := ‹Below w.heap.size w _ ∧ _›; first | exact ⟨below_tail hh.1 hb, holda hb hh.2.1, holda hb hh.2.2.1, holda hb hh.2.2.2.1, holda hb hh.2.2.2.2.1, holda hb hh.2.2.2.2.2.1, holda hb hh.2.2.2.2.2.2.1, holda hb hh.2.2.2.2.2.2.2.1, holda hb hh.2.2.2.2.2.2.2.2⟩ | exact ⟨below_tail hh.1 ((Below.refl _ _).alloc (Nat.le_refl _) _), holda ((Below.refl _ _).alloc (Nat.le_refl _) _) hh.2.1, holda ((Below.refl _ _).alloc (Nat.le_refl _) _) hh.2.2.1, holda ((Below.refl _ _).alloc (Nat.le_refl _) _) hh.2.2.2.1, holda ((Below.refl _ _).alloc (Nat.le_refl _) _) hh.2.2.2.2.1, holda ((Below.refl _ _).alloc (Nat.le_refl _) _) hh.2.2.2.2.2.1, holda ((Below.refl _ _).alloc (Nat.le_refl _) _) hh.2.2.2.2.2.2.1, holda ((Below.refl _ _).alloc (Nat.le_refl _) _) hh.2.2.2.2.2.2.2.1, holda ((Below.refl _ _).alloc (Nat.le_refl _) _) hh.2.2.2.2.2.2.2.2⟩ | exact hh))
      (first | (go_at_call 22; refine (HA2.out _ _ ?_).mono ?_; · exact ShAt_two (s0 := ⟨0, a, n⟩) (s1 := ⟨1, a, n⟩) (Below.refl _ _) (hp_new rfl)
                rintro e w3 ⟨rfl, hb⟩) | (go_at_call 14; refine (awake10 _).mono ?_; rintro e w3 ⟨rfl, hb⟩))
    all_goals
      go_wp2
      go_ret
      exact ⟨by simp, (‹Below w.heap.size w _ ∧ _›).1⟩
end Go.Proofs.Ytdfaldccopnoiaa
