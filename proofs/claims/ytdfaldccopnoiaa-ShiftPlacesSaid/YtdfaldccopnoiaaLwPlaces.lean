/- ShiftPlaces: the walk of the law. Conditions: none. -/
import Derived.Test.YtdfaldccopnoiaaShD
import Derived.Test.YtdfaldccopnoiaaBase2
import Derived.Test.YtdfaldccopnoiaaRegU
import Derived.Test.YtdfaldccopnoiaaLwMoves
import Derived.Deep.DeepCutAuto
import Derived.Deep.QuietTactic
import Derived.BigQuiet
namespace Go.Proofs.Ytdfaldccopnoiaa
open Go.RowKit

theorem RLess_hid (r c r' c' : Int) : Hid (∀ w : World, Calls Try.prog 26 #[posV r c, posV r' c'] w fun e w' => e = .returned (.bool (lessB r c r' c')) ∧ Below w.heap.size w w') := Lib.hid (RLess_any r c r' c')
theorem Later_hid (r c r' c' : Int) : Hid (∀ w : World, Calls Try.prog 28 #[posV r c, posV r' c'] w fun e w' => e = .returned (if lessB r c r' c' then posV r' c' else posV r c) ∧ Below w.heap.size w w') := Lib.hid (Later_any r c r' c')
theorem Clamp_hid (r c rows cols : Int) : Hid (∀ w : World, Calls Try.prog 29 #[posV r c, .int .i64 rows, .int .i64 cols] w fun e w' => e = .returned (posV (clampP r c rows cols).1 (clampP r c rows cols).2) ∧ Below w.heap.size w w') := Lib.hid (Clamp_any r c rows cols)

theorem clamp_plain (r c x y : Int) : clampP r c x y = (if r < 0 then 0 else if x ≤ r then max0 x else r, if r < 0 then 0 else if x ≤ r then 0 else (if (if y < c then y else c) < 0 then 0 else (if y < c then y else c))) := by
  unfold clampP max0 min2
  apply Prod.ext
  · simp only
    repeat' split
    all_goals first | rfl | (simp only; omega) | omega
  · simp only
    repeat' split
    all_goals first | rfl | (simp only; omega) | omega

set_option maxRecDepth 100000 in
set_option maxHeartbeats 1600000 in
theorem ShiftPlaces_walk (r c r' c' x y : Int) (w : World) :
    Calls Try.prog 9 #[posV r c, posV r' c', .agg #[.int .i64 x, .int .i64 y]] w fun e w' => e = .returned (.bool true) ∧ Below w.heap.size w w' := by
  have HL := Less_hid r c r' c'
  have HRL := RLess_hid r c r' c'
  have HT := Later_hid r c r' c'
  have HC := Clamp_hid r c x y
  unfold posV at *
  generalize lessB r c r' c' = L at *
  go_enter Try.func9, Try.ntmps9
  go_wp2_with fail
  go_quiet (fail)
  go_upto_if 18 with (go_at_call 26; refine (HRL.out _).mono ?_; rintro e w1 ⟨rfl, hb1⟩; have hB := below_tail (show Below w.heap.size w _ from by repeat (first | exact Below.refl _ _ | refine below_allocs ?_ _ | refine below_drewNs ?_ _ | refine Below.drew ?_)) hb1; have p0 := at_new (b := w.heap.size) hb1 (by repeat (first | (refine hp_new ?_; simp; done) | refine hp_old ?_ | refine hp_drewN ?_ | refine hp_drew ?_)) 0 (.int .i64 r) rfl; have p1 := at_new (b := w.heap.size) hb1 (by repeat (first | (refine hp_new ?_; simp; done) | refine hp_old ?_ | refine hp_drewN ?_ | refine hp_drew ?_)) 1 (.int .i64 c) rfl; have q0 := at_new (b := w.heap.size + 1) hb1 (by repeat (first | (refine hp_new ?_; simp; done) | refine hp_old ?_ | refine hp_drewN ?_ | refine hp_drew ?_)) 0 (.int .i64 r') rfl; have q1 := at_new (b := w.heap.size + 1) hb1 (by repeat (first | (refine hp_new ?_; simp; done) | refine hp_old ?_ | refine hp_drewN ?_ | refine hp_drew ?_)) 1 (.int .i64 c') rfl; have t0 := at_new (b := w.heap.size + 3) hb1 (by repeat (first | (refine hp_new ?_; simp; done) | refine hp_old ?_ | refine hp_drewN ?_ | refine hp_drew ?_)) 0 (.int .i64 r) rfl; have t1 := at_new (b := w.heap.size + 3) hb1 (by repeat (first | (refine hp_new ?_; simp; done) | refine hp_old ?_ | refine hp_drewN ?_ | refine hp_drew ?_)) 1 (.int .i64 c) rfl)
  go_cut [] (fun w' => Below w.heap.size w w' ∧ (w'.cell? ⟨w.heap.size, 0, none⟩ = some (.int .i64 r) ∧ w'.frozen? ⟨w.heap.size, 0, none⟩ = false) ∧ (w'.cell? ⟨w.heap.size, 1, none⟩ = some (.int .i64 c) ∧ w'.frozen? ⟨w.heap.size, 1, none⟩ = false) ∧ (w'.cell? ⟨w.heap.size + 1, 0, none⟩ = some (.int .i64 r') ∧ w'.frozen? ⟨w.heap.size + 1, 0, none⟩ = false) ∧ (w'.cell? ⟨w.heap.size + 1, 1, none⟩ = some (.int .i64 c') ∧ w'.frozen? ⟨w.heap.size + 1, 1, none⟩ = false) ∧ (w'.cell? ⟨w.heap.size + 3, 0, none⟩ = some (.int .i64 (if L then r' else r)) ∧ w'.frozen? ⟨w.heap.size + 3, 0, none⟩ = false) ∧ (w'.cell? ⟨w.heap.size + 3, 1, none⟩ = some (.int .i64 (if L then c' else c)) ∧ w'.frozen? ⟨w.heap.size + 3, 1, none⟩ = false))
  case first =>
    have z := lt_of_cell t0.1
    cases L
    · go_wp2
      go_meet
      exact ⟨hB, p0, p1, q0, q1, t0, t1⟩
    · go_wp2
      go_meet
      exact ⟨below_set (below_set hB (by omega) _) (by omega) _, hold_set (hold_set p0 (by omega)) (by omega), hold_set (hold_set p1 (by omega)) (by omega), hold_set (hold_set q0 (by omega)) (by omega), hold_set (hold_set q1 (by omega)) (by omega), hold_set (set_self t0) (by omega), set_self (hold_set t1 (by omega))⟩
  case rest =>
    clear hB p0 p1 q0 q1 t0 t1
    obtain ⟨hB, p0, p1, q0, q1, t0, t1⟩ := hcut
    generalize hlr : (if L then r' else r) = lr at t0
    generalize hlc : (if L then c' else c) = lc at t1
    have HLr := Lib.hid hlr
    have HLc := Lib.hid hlc
    clear hlr hlc
    have z := lt_of_cell t0.1
    go_upto_if 24 with (fail)
    have k0 := at_new (b := wc.heap.size) (W := wc.alloc (.cells #[.int .i64 r, .int .i64 c] 28)) (Below.refl _ _) (hp_new rfl) 0 _ rfl
    have k1 := at_new (b := wc.heap.size) (W := wc.alloc (.cells #[.int .i64 r, .int .i64 c] 28)) (Below.refl _ _) (hp_new rfl) 1 _ rfl
    replace hB := below_allocs hB (.cells #[.int .i64 r, .int .i64 c] 28)
    replace p0 := hold_alloc (o := .cells #[.int .i64 r, .int .i64 c] 28) p0
    replace p1 := hold_alloc (o := .cells #[.int .i64 r, .int .i64 c] 28) p1
    replace q0 := hold_alloc (o := .cells #[.int .i64 r, .int .i64 c] 28) q0
    replace q1 := hold_alloc (o := .cells #[.int .i64 r, .int .i64 c] 28) q1
    replace t0 := hold_alloc (o := .cells #[.int .i64 r, .int .i64 c] 28) t0
    replace t1 := hold_alloc (o := .cells #[.int .i64 r, .int .i64 c] 28) t1
    have z2 : w.heap.size + 3 < wc.heap.size := by omega
    have z3 := lt_of_cell k0.1
    generalize wc.alloc (.cells #[.int .i64 r, .int .i64 c] 28) = wd at hB p0 p1 q0 q1 t0 t1 k0 k1 z3 ⊢
    generalize wc.heap.size = g at k0 k1 z2 z3 ⊢
    clear z
    go_cut [] (fun w' => Below w.heap.size w w' ∧ (w'.cell? ⟨w.heap.size, 0, none⟩ = some (.int .i64 (r)) ∧ w'.frozen? ⟨w.heap.size, 0, none⟩ = false) ∧ (w'.cell? ⟨w.heap.size, 1, none⟩ = some (.int .i64 (c)) ∧ w'.frozen? ⟨w.heap.size, 1, none⟩ = false) ∧ (w'.cell? ⟨w.heap.size + 1, 0, none⟩ = some (.int .i64 (r')) ∧ w'.frozen? ⟨w.heap.size + 1, 0, none⟩ = false) ∧ (w'.cell? ⟨w.heap.size + 1, 1, none⟩ = some (.int .i64 (c')) ∧ w'.frozen? ⟨w.heap.size + 1, 1, none⟩ = false) ∧ (w'.cell? ⟨w.heap.size + 3, 0, none⟩ = some (.int .i64 (lr)) ∧ w'.frozen? ⟨w.heap.size + 3, 0, none⟩ = false) ∧ (w'.cell? ⟨w.heap.size + 3, 1, none⟩ = some (.int .i64 (lc)) ∧ w'.frozen? ⟨w.heap.size + 3, 1, none⟩ = false) ∧ (w'.cell? ⟨g, 0, none⟩ = some (.int .i64 (r)) ∧ w'.frozen? ⟨g, 0, none⟩ = false) ∧ (w'.cell? ⟨g, 1, none⟩ = some (.int .i64 (if y < c then y else c)) ∧ w'.frozen? ⟨g, 1, none⟩ = false))
    case first =>
      by_cases h : y < c
      · go_wp2
        go_meet
        rw [if_pos h]
        exact ⟨below_set hB (by omega) _, hold_set p0 (by omega), hold_set p1 (by omega), hold_set q0 (by omega), hold_set q1 (by omega), hold_set t0 (by omega), hold_set t1 (by omega), hold_set k0 (by omega), set_self k1⟩
      · go_wp2
        go_meet
        rw [if_neg (by omega)]
        exact ⟨hB, p0, p1, q0, q1, t0, t1, k0, k1⟩
    clear hB p0 p1 q0 q1 t0 t1 k0 k1 z3
    obtain ⟨hB, p0, p1, q0, q1, t0, t1, k0, k1⟩ := hcut
    generalize hd : (if y < c then y else c) = d at k1
    have HD := Lib.hid hd
    clear hd
    go_upto_if 29 with (fail)
    go_cut [] (fun w' => Below w.heap.size w w' ∧ (w'.cell? ⟨w.heap.size, 0, none⟩ = some (.int .i64 (r)) ∧ w'.frozen? ⟨w.heap.size, 0, none⟩ = false) ∧ (w'.cell? ⟨w.heap.size, 1, none⟩ = some (.int .i64 (c)) ∧ w'.frozen? ⟨w.heap.size, 1, none⟩ = false) ∧ (w'.cell? ⟨w.heap.size + 1, 0, none⟩ = some (.int .i64 (r')) ∧ w'.frozen? ⟨w.heap.size + 1, 0, none⟩ = false) ∧ (w'.cell? ⟨w.heap.size + 1, 1, none⟩ = some (.int .i64 (c')) ∧ w'.frozen? ⟨w.heap.size + 1, 1, none⟩ = false) ∧ (w'.cell? ⟨w.heap.size + 3, 0, none⟩ = some (.int .i64 (lr)) ∧ w'.frozen? ⟨w.heap.size + 3, 0, none⟩ = false) ∧ (w'.cell? ⟨w.heap.size + 3, 1, none⟩ = some (.int .i64 (lc)) ∧ w'.frozen? ⟨w.heap.size + 3, 1, none⟩ = false) ∧ (w'.cell? ⟨g, 0, none⟩ = some (.int .i64 (r)) ∧ w'.frozen? ⟨g, 0, none⟩ = false) ∧ (w'.cell? ⟨g, 1, none⟩ = some (.int .i64 (if d < 0 then 0 else d)) ∧ w'.frozen? ⟨g, 1, none⟩ = false))
    case first =>
      by_cases h : d < 0
      · go_wp2
        go_meet
        rw [if_pos h]
        exact ⟨below_set hB (by omega) _, hold_set p0 (by omega), hold_set p1 (by omega), hold_set q0 (by omega), hold_set q1 (by omega), hold_set t0 (by omega), hold_set t1 (by omega), hold_set k0 (by omega), set_self k1⟩
      · go_wp2
        go_meet
        rw [if_neg (by omega)]
        exact ⟨hB, p0, p1, q0, q1, t0, t1, k0, k1⟩
    clear hB p0 p1 q0 q1 t0 t1 k0 k1
    obtain ⟨hB, p0, p1, q0, q1, t0, t1, k0, k1⟩ := hcut
    generalize hd2 : (if d < 0 then 0 else d) = d2 at k1
    have HD2 := Lib.hid hd2
    clear hd2
    go_upto_region 10 with (fail)
    go_cut [43] (fun s43 w' => s43 = .bool (decide (x ≤ r)) ∧ Below w.heap.size w w' ∧ (w'.cell? ⟨w.heap.size, 0, none⟩ = some (.int .i64 (r)) ∧ w'.frozen? ⟨w.heap.size, 0, none⟩ = false) ∧ (w'.cell? ⟨w.heap.size, 1, none⟩ = some (.int .i64 (c)) ∧ w'.frozen? ⟨w.heap.size, 1, none⟩ = false) ∧ (w'.cell? ⟨w.heap.size + 1, 0, none⟩ = some (.int .i64 (r')) ∧ w'.frozen? ⟨w.heap.size + 1, 0, none⟩ = false) ∧ (w'.cell? ⟨w.heap.size + 1, 1, none⟩ = some (.int .i64 (c')) ∧ w'.frozen? ⟨w.heap.size + 1, 1, none⟩ = false) ∧ (w'.cell? ⟨w.heap.size + 3, 0, none⟩ = some (.int .i64 (lr)) ∧ w'.frozen? ⟨w.heap.size + 3, 0, none⟩ = false) ∧ (w'.cell? ⟨w.heap.size + 3, 1, none⟩ = some (.int .i64 (lc)) ∧ w'.frozen? ⟨w.heap.size + 3, 1, none⟩ = false) ∧ (w'.cell? ⟨g, 0, none⟩ = some (.int .i64 (r)) ∧ w'.frozen? ⟨g, 0, none⟩ = false) ∧ (w'.cell? ⟨g, 1, none⟩ = some (.int .i64 (d2)) ∧ w'.frozen? ⟨g, 1, none⟩ = false))
    case first =>
      by_cases h : x ≤ r
      · go_wp2
        go_meet
        exact ⟨by simp [h], hB, p0, p1, q0, q1, t0, t1, k0, k1⟩
      · by_cases h2 : 0 ≤ r
        · have h3 : ¬ x < 0 := by omega
          go_wp2
          go_meet
          exact ⟨by simp; omega, hB, p0, p1, q0, q1, t0, t1, k0, k1⟩
        · go_wp2
          go_meet
          exact ⟨by simp; omega, hB, p0, p1, q0, q1, t0, t1, k0, k1⟩
    clear hB p0 p1 q0 q1 t0 t1 k0 k1
    obtain ⟨rfl, hB, p0, p1, q0, q1, t0, t1, k0, k1⟩ := hcut
    go_upto_if 43 with (fail)
    go_cut [] (fun w' => Below w.heap.size w w' ∧ (w'.cell? ⟨w.heap.size, 0, none⟩ = some (.int .i64 (r)) ∧ w'.frozen? ⟨w.heap.size, 0, none⟩ = false) ∧ (w'.cell? ⟨w.heap.size, 1, none⟩ = some (.int .i64 (c)) ∧ w'.frozen? ⟨w.heap.size, 1, none⟩ = false) ∧ (w'.cell? ⟨w.heap.size + 1, 0, none⟩ = some (.int .i64 (r')) ∧ w'.frozen? ⟨w.heap.size + 1, 0, none⟩ = false) ∧ (w'.cell? ⟨w.heap.size + 1, 1, none⟩ = some (.int .i64 (c')) ∧ w'.frozen? ⟨w.heap.size + 1, 1, none⟩ = false) ∧ (w'.cell? ⟨w.heap.size + 3, 0, none⟩ = some (.int .i64 (lr)) ∧ w'.frozen? ⟨w.heap.size + 3, 0, none⟩ = false) ∧ (w'.cell? ⟨w.heap.size + 3, 1, none⟩ = some (.int .i64 (lc)) ∧ w'.frozen? ⟨w.heap.size + 3, 1, none⟩ = false) ∧ (w'.cell? ⟨g, 0, none⟩ = some (.int .i64 (if x ≤ r then max0 x else r)) ∧ w'.frozen? ⟨g, 0, none⟩ = false) ∧ (w'.cell? ⟨g, 1, none⟩ = some (.int .i64 (if x ≤ r then 0 else d2)) ∧ w'.frozen? ⟨g, 1, none⟩ = false))
    case first =>
      by_cases hx : x ≤ r
      · by_cases h4 : 0 < x
        · have e4 : max0 x = x := if_pos h4
          go_wp2
          go_meet
          rw [if_pos hx, if_pos hx]
          rw [e4]
          exact ⟨below_set (below_set hB (by omega) _) (by omega) _, hold_set (hold_set p0 (by omega)) (by omega), hold_set (hold_set p1 (by omega)) (by omega), hold_set (hold_set q0 (by omega)) (by omega), hold_set (hold_set q1 (by omega)) (by omega), hold_set (hold_set t0 (by omega)) (by omega), hold_set (hold_set t1 (by omega)) (by omega), hold_set (set_self k0) (by omega), set_self (hold_set k1 (by omega))⟩
        · have e4 : max0 x = 0 := if_neg h4
          by_cases h5 : x < 0
          · go_wp2
            go_meet
            rw [if_pos hx, if_pos hx, e4]
            exact ⟨below_set (below_set hB (by omega) _) (by omega) _, hold_set (hold_set p0 (by omega)) (by omega), hold_set (hold_set p1 (by omega)) (by omega), hold_set (hold_set q0 (by omega)) (by omega), hold_set (hold_set q1 (by omega)) (by omega), hold_set (hold_set t0 (by omega)) (by omega), hold_set (hold_set t1 (by omega)) (by omega), hold_set (set_self k0) (by omega), set_self (hold_set k1 (by omega))⟩
          · obtain rfl : x = 0 := by omega
            go_wp2
            go_meet
            rw [if_pos hx, if_pos hx, e4]
            exact ⟨below_set (below_set hB (by omega) _) (by omega) _, hold_set (hold_set p0 (by omega)) (by omega), hold_set (hold_set p1 (by omega)) (by omega), hold_set (hold_set q0 (by omega)) (by omega), hold_set (hold_set q1 (by omega)) (by omega), hold_set (hold_set t0 (by omega)) (by omega), hold_set (hold_set t1 (by omega)) (by omega), hold_set (set_self k0) (by omega), set_self (hold_set k1 (by omega))⟩
      · go_wp2
        go_meet
        rw [if_neg (by omega), if_neg (by omega)]
        exact ⟨hB, p0, p1, q0, q1, t0, t1, k0, k1⟩
    clear hB p0 p1 q0 q1 t0 t1 k0 k1
    obtain ⟨hB, p0, p1, q0, q1, t0, t1, k0, k1⟩ := hcut
    generalize hd3 : (if x ≤ r then max0 x else r) = d3 at k0
    have HD3 := Lib.hid hd3
    clear hd3
    generalize hd4 : (if x ≤ r then 0 else d2) = d4 at k1
    have HD4 := Lib.hid hd4
    clear hd4
    go_upto_if 49 with (fail)
    go_cut [] (fun w' => Below w.heap.size w w' ∧ (w'.cell? ⟨w.heap.size, 0, none⟩ = some (.int .i64 (r)) ∧ w'.frozen? ⟨w.heap.size, 0, none⟩ = false) ∧ (w'.cell? ⟨w.heap.size, 1, none⟩ = some (.int .i64 (c)) ∧ w'.frozen? ⟨w.heap.size, 1, none⟩ = false) ∧ (w'.cell? ⟨w.heap.size + 1, 0, none⟩ = some (.int .i64 (r')) ∧ w'.frozen? ⟨w.heap.size + 1, 0, none⟩ = false) ∧ (w'.cell? ⟨w.heap.size + 1, 1, none⟩ = some (.int .i64 (c')) ∧ w'.frozen? ⟨w.heap.size + 1, 1, none⟩ = false) ∧ (w'.cell? ⟨w.heap.size + 3, 0, none⟩ = some (.int .i64 (lr)) ∧ w'.frozen? ⟨w.heap.size + 3, 0, none⟩ = false) ∧ (w'.cell? ⟨w.heap.size + 3, 1, none⟩ = some (.int .i64 (lc)) ∧ w'.frozen? ⟨w.heap.size + 3, 1, none⟩ = false) ∧ (w'.cell? ⟨g, 0, none⟩ = some (.int .i64 (if r < 0 then 0 else d3)) ∧ w'.frozen? ⟨g, 0, none⟩ = false) ∧ (w'.cell? ⟨g, 1, none⟩ = some (.int .i64 (if r < 0 then 0 else d4)) ∧ w'.frozen? ⟨g, 1, none⟩ = false))
    case first =>
      by_cases h : r < 0
      · go_wp2
        go_meet
        rw [if_pos h, if_pos h]
        exact ⟨below_set (below_set hB (by omega) _) (by omega) _, hold_set (hold_set p0 (by omega)) (by omega), hold_set (hold_set p1 (by omega)) (by omega), hold_set (hold_set q0 (by omega)) (by omega), hold_set (hold_set q1 (by omega)) (by omega), hold_set (hold_set t0 (by omega)) (by omega), hold_set (hold_set t1 (by omega)) (by omega), hold_set (set_self k0) (by omega), set_self (hold_set k1 (by omega))⟩
      · go_wp2
        go_meet
        rw [if_neg (by omega), if_neg (by omega)]
        exact ⟨hB, p0, p1, q0, q1, t0, t1, k0, k1⟩
    clear hB p0 p1 q0 q1 t0 t1 k0 k1
    obtain ⟨hB, p0, p1, q0, q1, t0, t1, k0, k1⟩ := hcut
    have hkk : clampP r c x y = (if r < 0 then 0 else d3, if r < 0 then 0 else d4) := by
      rw [← HD4.out, ← HD3.out, ← HD2.out, ← HD.out]
      exact clamp_plain r c x y
    rw [hkk] at HC
    clear hkk HD HD2 HD3 HD4
    generalize (if r < 0 then 0 else d3) = kr at k0 HC
    generalize (if r < 0 then 0 else d4) = kc at k1 HC
    simp only at HC
    have HT2 : Hid (∀ w : World, Calls Try.prog 28 #[.agg #[.int .i64 r, .int .i64 c], .agg #[.int .i64 r', .int .i64 c']] w fun e w' => e = .returned (.agg #[.int .i64 lr, .int .i64 lc]) ∧ Below w.heap.size w w') := by
      rw [← HLr.out, ← HLc.out]
      have := HT
      cases L
      · exact this
      · exact this
    clear HT HLr HLc
    go_wp2_with fail
    refine wp_region_u 25 (fun w' => Below w.heap.size w w' ∧ w'.cell? ⟨w.heap.size, 0, none⟩ = some (.int .i64 r) ∧ w'.cell? ⟨w.heap.size, 1, none⟩ = some (.int .i64 c) ∧ w'.cell? ⟨w.heap.size + 1, 0, none⟩ = some (.int .i64 r') ∧ w'.cell? ⟨w.heap.size + 1, 1, none⟩ = some (.int .i64 c') ∧ w'.cell? ⟨w.heap.size + 3, 0, none⟩ = some (.int .i64 lr) ∧ w'.cell? ⟨w.heap.size + 3, 1, none⟩ = some (.int .i64 lc) ∧ w'.cell? ⟨g, 0, none⟩ = some (.int .i64 kr) ∧ w'.cell? ⟨g, 1, none⟩ = some (.int .i64 kc)) (by kernel_rfl) (by kernel_rfl) ?_ ?_
    · exact ⟨hB.drew, p0.1, p1.1, q0.1, q1.1, t0.1, t1.1, k0.1, k1.1⟩
    simp only [List.take_succ_cons, List.take_zero, List.drop_succ_cons, List.drop_zero]
    repeat (first
      | (refine seqU_skip (by rfl) ?_; simp only [Act.put, List.setIfInBounds_toArray, List.set_cons_zero, List.set_cons_succ])
      | (refine seqU_val ?_ (by rfl) ?_ ?_; rotate_left; · (intro w' hS; obtain ⟨_, _⟩ := hS; go_simp; first | done | with_reducible rfl)
         simp only [Act.put, List.setIfInBounds_toArray, List.set_cons_zero, List.set_cons_succ])
      | (refine seqU_call 27 #[.agg #[.int .i64 r, .int .i64 c], .agg #[.int .i64 r', .int .i64 c']] (.bool L) (by rfl) ?_ (fun w' hS => (HL.out w').mono fun e w2 ⟨he, hb⟩ => ⟨he, ⟨below_tail hS.1 hb, holda hb hS.2.1, holda hb hS.2.2.1, holda hb hS.2.2.2.1, holda hb hS.2.2.2.2.1, holda hb hS.2.2.2.2.2.1, holda hb hS.2.2.2.2.2.2.1, holda hb hS.2.2.2.2.2.2.2.1, holda hb hS.2.2.2.2.2.2.2.2⟩⟩) ?_; · (intro w'; go_simp; done)
         simp only [Act.put, List.setIfInBounds_toArray, List.set_cons_zero, List.set_cons_succ])
      | (refine seqU_call 26 #[.agg #[.int .i64 r, .int .i64 c], .agg #[.int .i64 r', .int .i64 c']] (.bool L) (by rfl) ?_ (fun w' hS => (HRL.out w').mono fun e w2 ⟨he, hb⟩ => ⟨he, ⟨below_tail hS.1 hb, holda hb hS.2.1, holda hb hS.2.2.1, holda hb hS.2.2.2.1, holda hb hS.2.2.2.2.1, holda hb hS.2.2.2.2.2.1, holda hb hS.2.2.2.2.2.2.1, holda hb hS.2.2.2.2.2.2.2.1, holda hb hS.2.2.2.2.2.2.2.2⟩⟩) ?_; · (intro w'; go_simp; done)
         simp only [Act.put, List.setIfInBounds_toArray, List.set_cons_zero, List.set_cons_succ])
      | (refine seqU_call 28 #[.agg #[.int .i64 r, .int .i64 c], .agg #[.int .i64 r', .int .i64 c']] (.agg #[.int .i64 lr, .int .i64 lc]) (by rfl) ?_ (fun w' hS => (HT2.out w').mono fun e w2 ⟨he, hb⟩ => ⟨he, ⟨below_tail hS.1 hb, holda hb hS.2.1, holda hb hS.2.2.1, holda hb hS.2.2.2.1, holda hb hS.2.2.2.2.1, holda hb hS.2.2.2.2.2.1, holda hb hS.2.2.2.2.2.2.1, holda hb hS.2.2.2.2.2.2.2.1, holda hb hS.2.2.2.2.2.2.2.2⟩⟩) ?_; · (intro w'; go_simp; done)
         simp only [Act.put, List.setIfInBounds_toArray, List.set_cons_zero, List.set_cons_succ])
      | (refine seqU_call 29 #[.agg #[.int .i64 r, .int .i64 c], .int .i64 x, .int .i64 y] (.agg #[.int .i64 kr, .int .i64 kc]) (by rfl) ?_ (fun w' hS => (HC.out w').mono fun e w2 ⟨he, hb⟩ => ⟨he, ⟨below_tail hS.1 hb, holda hb hS.2.1, holda hb hS.2.2.1, holda hb hS.2.2.2.1, holda hb hS.2.2.2.2.1, holda hb hS.2.2.2.2.2.1, holda hb hS.2.2.2.2.2.2.1, holda hb hS.2.2.2.2.2.2.2.1, holda hb hS.2.2.2.2.2.2.2.2⟩⟩) ?_; · (intro w'; go_simp; done)
         simp only [Act.put, List.setIfInBounds_toArray, List.set_cons_zero, List.set_cons_succ])
      | (refine seqU_call 14 #[] (.bool true) (by rfl) ?_ (fun w' hS => (awake10 w').mono fun e w2 ⟨he, hb⟩ => ⟨he, ⟨below_tail hS.1 hb, holda hb hS.2.1, holda hb hS.2.2.1, holda hb hS.2.2.2.1, holda hb hS.2.2.2.2.1, holda hb hS.2.2.2.2.2.1, holda hb hS.2.2.2.2.2.2.1, holda hb hS.2.2.2.2.2.2.2.1, holda hb hS.2.2.2.2.2.2.2.2⟩⟩) ?_; · (intro w'; go_simp; done)
         simp only [Act.put, List.setIfInBounds_toArray, List.set_cons_zero, List.set_cons_succ]))
    refine seqU_nil (fun w' hS => ?_)
    obtain ⟨hB2, hc2⟩ := hS
    go_wp2
    go_ret
    exact ⟨by simp, hB2⟩
end Go.Proofs.Ytdfaldccopnoiaa
