/- Walks of shift.All and shift.Clamp. Conditions: none. -/
import Derived.Test.YtdfaldccopnoiaaShC
namespace Go.Proofs.Ytdfaldccopnoiaa
open Go.RowKit

theorem Move_hid (r c k a n : Int) : Hid (∀ w : World, Calls Try.prog 16 #[posV r c, shV k a n] w fun e w' => e = .returned (posV (mv r c k a n).1 (mv r c k a n).2) ∧ Below w.heap.size w w') := Lib.hid (Move_any r c k a n)
structure Sh where
  k : Int
  a : Int
  n : Int
def Sh.wf (s : Sh) : Prop := (Lit.int .i64 s.k).wf = true ∧ (Lit.int .i64 s.a).wf = true ∧ (Lit.int .i64 s.n).wf = true
def mvs (p : Int × Int) (s : Sh) : Int × Int := mv p.1 p.2 s.k s.a s.n
def mvAll (p : Int × Int) (l : List Sh) : Int × Int := l.foldl mvs p
/-- A slice of shifts that reads as a list. -/
def ShAt (w : World) (A : Option Addr) (l : List Sh) : Prop :=
  0 < l.length → ∃ b off, A = some ⟨b, off, none⟩ ∧ ∀ i s, l[i]? = some s → w.cell? ⟨b, off + i * 3, none⟩ = some (.int .i64 s.k) ∧ w.cell? ⟨b, off + i * 3 + 1, none⟩ = some (.int .i64 s.a) ∧ w.cell? ⟨b, off + i * 3 + 2, none⟩ = some (.int .i64 s.n)
theorem ShAt.below {w w1 : World} {A : Option Addr} {l : List Sh} (h : ShAt w A l) (hb : Below w.heap.size w w1) : ShAt w1 A l := fun hl => by
  obtain ⟨b, off, e, hc⟩ := h hl
  exact ⟨b, off, e, fun i s hs => let ⟨x, y, z⟩ := hc i s hs; ⟨holda hb x, holda hb y, holda hb z⟩⟩
theorem mvAll_take (p : Int × Int) (l : List Sh) (k : Nat) (s : Sh) (h : l[k]? = some s) : mvAll p (l.take (k + 1)) = mvs (mvAll p (l.take k)) s := by
  have hk : k < l.length := (List.getElem?_eq_some_iff.1 h).1
  rw [List.take_succ_eq_append_getElem hk]
  have e : l[k] = s := (List.getElem?_eq_some_iff.1 h).2
  rw [e]
  simp [mvAll]

set_option maxHeartbeats 800000 in
theorem All_any (r c : Int) (A : Option Addr) (l : List Sh) (cap : Nat) (w : World) (hl : ShAt w A l) (hm : l.length ≤ 9223372036854775807) :
    Calls Try.prog 22 #[posV r c, .slice A l.length cap] w fun e w' => e = .returned (posV (mvAll (r, c) l).1 (mvAll (r, c) l).2) ∧ Below w.heap.size w w' := by
  have HL := Lib.hid hl
  clear hl
  unfold posV
  go_enter Try.func22, Try.ntmps22
  go_wp2
  go_loopw [9] (fun i wr => ∃ k : Nat, k ≤ l.length ∧ i = .int .i64 k ∧ Below w.heap.size w wr ∧ (wr.cell? ⟨w.heap.size, 0, none⟩ = some (.int .i64 (mvAll (r, c) (l.take k)).1) ∧ wr.frozen? ⟨w.heap.size, 0, none⟩ = false) ∧ (wr.cell? ⟨w.heap.size, 1, none⟩ = some (.int .i64 (mvAll (r, c) (l.take k)).2) ∧ wr.frozen? ⟨w.heap.size, 1, none⟩ = false)
      ∧ (wr.cell? ⟨w.heap.size + 1, 0, none⟩ = some (.int .i64 0) ∧ wr.frozen? ⟨w.heap.size + 1, 0, none⟩ = false) ∧ (wr.cell? ⟨w.heap.size + 1, 1, none⟩ = some (.int .i64 0) ∧ wr.frozen? ⟨w.heap.size + 1, 1, none⟩ = false)) (fun i _ => l.length - (intOf i).toNat)
  case atStart =>
    exact ⟨0, Nat.zero_le _, rfl, below_allocs (below_allocs (Below.refl _ _) _) _, hold_alloc (at_new (Below.refl _ _) (hp_new rfl) 0 _ rfl), hold_alloc (at_new (Below.refl _ _) (hp_new rfl) 1 _ rfl), at_new (Below.refl _ _) (hp_new (by simp)) 0 _ rfl, at_new (Below.refl _ _) (hp_new (by simp)) 1 _ rfl⟩
  case round =>
    obtain ⟨k, hk, rfl, hB, p0, p1, q0, q1⟩ := hrel
    by_cases hlt : k < l.length
    · obtain ⟨s, hs⟩ : ∃ s, l[k]? = some s := ⟨l[k], List.getElem?_eq_getElem hlt⟩
      obtain ⟨b, off, hA, hc⟩ := HL.out (by omega)
      obtain ⟨c0, c1, c2⟩ := hc k s hs
      replace c0 := holda hB c0
      replace c1 := holda hB c1
      replace c2 := holda hB c2
      clear hc
      subst hA
      have HM := Move_hid (mvAll (r, c) (l.take k)).1 (mvAll (r, c) (l.take k)).2 s.k s.a s.n
      have z0 := lt_of_cell p0.1
      have z1 := lt_of_cell q0.1
      unfold posV shV at HM
      generalize hp : mvAll (r, c) (l.take k) = p at *
      obtain ⟨pr, pc⟩ := p
      have hq := mvAll_take (r, c) l k s hs
      rw [hp] at hq
      have hq' : mvs (pr, pc) s = mv pr pc s.k s.a s.n := rfl
      rw [hq'] at hq
      generalize mv pr pc s.k s.a s.n = q at *
      obtain ⟨qr, qc⟩ := q
      simp only at p0 p1 HM
      have HQ := Lib.hid hq
      clear hq hq' hp
      go_wp2_with (go_at_call 16; refine (HM.out _).mono ?_; rintro e w1 ⟨rfl, hb1⟩; replace p0 := hold hb1 (hold_alloc p0); replace p1 := hold hb1 (hold_alloc p1); replace q0 := hold hb1 (hold_alloc q0); replace q1 := hold hb1 (hold_alloc q1); replace hB := below_tail (below_allocs hB _) hb1)
      go_roundw
      case rel =>
        refine ⟨k + 1, by omega, by go_num, below_set (below_set hB (by omega) _) (by omega) _, ?_⟩
        rw [HQ.out]
        exact ⟨hold_set (set_self p0) (by simp), set_self (hold_set p1 (by simp)), hold_set (hold_set q0 (by simp)) (by simp), hold_set (hold_set q1 (by simp)) (by simp)⟩
      case measure => simp [intOf]; omega
    · obtain rfl : k = l.length := by omega
      rw [List.take_length] at p0 p1
      have z0 := lt_of_cell p0.1
      have z1 := lt_of_cell q0.1
      generalize hp : mvAll (r, c) l = p at p0 p1
      obtain ⟨pr, pc⟩ := p
      simp only at p0 p1
      have HP := Lib.hid hp
      clear hp
      go_wp2
      refine bodyPost_ret (v := posV pr pc) (by simp [results, Try.results22, go_sem, posV, q0, q1]) rfl ⟨by rw [HP.out]; rfl, ?_⟩
      exact below_set (below_set hB (by omega) _) (by omega) _

theorem All_hid (r c : Int) (A : Option Addr) (l : List Sh) (cap : Nat) (hm : l.length ≤ 9223372036854775807) : Hid (∀ w : World, ShAt w A l → Calls Try.prog 22 #[posV r c, .slice A l.length cap] w fun e w' => e = .returned (posV (mvAll (r, c) l).1 (mvAll (r, c) l).2) ∧ Below w.heap.size w w') := Lib.hid fun w h => All_any r c A l cap w h hm

def max0 (n : Int) : Int := if 0 < n then n else 0
def min2 (a b : Int) : Int := if a ≤ b then a else b
def clampP (r c rows cols : Int) : Int × Int :=
  if r < 0 then (0, 0) else if max0 rows ≤ r then (max0 rows, 0) else (r, max0 (min2 c cols))
set_option maxHeartbeats 400000 in
theorem Clamp_any (r c rows cols : Int) (w : World) :
    Calls Try.prog 29 #[posV r c, .int .i64 rows, .int .i64 cols] w fun e w' => e = .returned (posV (clampP r c rows cols).1 (clampP r c rows cols).2) ∧ Below w.heap.size w w' := by
  unfold posV
  by_cases h : r < 0
  · have e : clampP r c rows cols = (0, 0) := by rw [clampP, if_pos h]
    rw [e]; clear e
    go_enter Try.func29, Try.ntmps29
    go_wp2
    refine bodyPost_ret (v := posV 0 0) (by simp [results, Try.results29, go_sem, posV]) rfl ⟨by simp [posV], ?_⟩
    repeat (first | exact Below.refl _ _ | refine below_set ?_ (by omega) _ | refine below_allocs ?_ _)
  · by_cases h1 : 0 < rows
    rotate_left
    · have e : clampP r c rows cols = (0, 0) := by unfold clampP max0 min2; repeat (first | rw [if_pos (by omega)] | rw [if_neg (by omega)])
      rw [e]; clear e
      go_enter Try.func29, Try.ntmps29
      go_wp2
      refine bodyPost_ret (v := posV (0) (0)) (by simp [results, Try.results29, go_sem, posV]) rfl ⟨by simp [posV], ?_⟩
      repeat (first | exact Below.refl _ _ | refine below_set ?_ (by omega) _ | refine below_allocs ?_ _)
    by_cases h2 : rows ≤ r
    · have e : clampP r c rows cols = (rows, 0) := by unfold clampP max0 min2; repeat (first | rw [if_pos (by omega)] | rw [if_neg (by omega)])
      rw [e]; clear e
      go_enter Try.func29, Try.ntmps29
      go_wp2
      refine bodyPost_ret (v := posV (rows) (0)) (by simp [results, Try.results29, go_sem, posV]) rfl ⟨by simp [posV], ?_⟩
      repeat (first | exact Below.refl _ _ | refine below_set ?_ (by omega) _ | refine below_allocs ?_ _)
    by_cases h3 : c ≤ cols
    · by_cases h4 : 0 < c
      · have e : clampP r c rows cols = (r, c) := by unfold clampP max0 min2; repeat (first | rw [if_pos (by omega)] | rw [if_neg (by omega)])
        rw [e]; clear e
        go_enter Try.func29, Try.ntmps29
        go_wp2
        refine bodyPost_ret (v := posV (r) (c)) (by simp [results, Try.results29, go_sem, posV]) rfl ⟨by simp [posV], ?_⟩
        repeat (first | exact Below.refl _ _ | refine below_set ?_ (by omega) _ | refine below_allocs ?_ _)
      · have e : clampP r c rows cols = (r, 0) := by unfold clampP max0 min2; repeat (first | rw [if_pos (by omega)] | rw [if_neg (by omega)])
        rw [e]; clear e
        go_enter Try.func29, Try.ntmps29
        go_wp2
        refine bodyPost_ret (v := posV (r) (0)) (by simp [results, Try.results29, go_sem, posV]) rfl ⟨by simp [posV], ?_⟩
        repeat (first | exact Below.refl _ _ | refine below_set ?_ (by omega) _ | refine below_allocs ?_ _)
    · by_cases h4 : 0 < cols
      · have e : clampP r c rows cols = (r, cols) := by unfold clampP max0 min2; repeat (first | rw [if_pos (by omega)] | rw [if_neg (by omega)])
        rw [e]; clear e
        go_enter Try.func29, Try.ntmps29
        go_wp2
        refine bodyPost_ret (v := posV (r) (cols)) (by simp [results, Try.results29, go_sem, posV]) rfl ⟨by simp [posV], ?_⟩
        repeat (first | exact Below.refl _ _ | refine below_set ?_ (by omega) _ | refine below_allocs ?_ _)
      · have e : clampP r c rows cols = (r, 0) := by unfold clampP max0 min2; repeat (first | rw [if_pos (by omega)] | rw [if_neg (by omega)])
        rw [e]; clear e
        go_enter Try.func29, Try.ntmps29
        go_wp2
        refine bodyPost_ret (v := posV (r) (0)) (by simp [results, Try.results29, go_sem, posV]) rfl ⟨by simp [posV], ?_⟩
        repeat (first | exact Below.refl _ _ | refine below_set ?_ (by omega) _ | refine below_allocs ?_ _)
end Go.Proofs.Ytdfaldccopnoiaa
