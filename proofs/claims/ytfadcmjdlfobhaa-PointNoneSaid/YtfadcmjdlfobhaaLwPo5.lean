/- PointNone: a store that isn't there; the walk of the law. Conditions: as stated. -/
import Derived.Test.YtfadcmjdlfobhaaPsD
namespace Go.Proofs.Ytfadcmjdlfobhaa
open Go.RowKit Go.Sort

set_option maxRecDepth 100000 in
set_option maxHeartbeats 1600000 in
theorem Best_nil (f g : Value) (w : World) : Calls Try.prog 50 #[.pointer none, f, g] w (BestPost w none) := by
  go_enter Try.func50, Try.ntmps50
  go_wp2_with (go_at_call 21; refine (PtPlaces_nil _).mono ?_; rintro e w1 ⟨rfl, hw1⟩; subst hw1)
  go_loop [9, 15] (fun s9 i => s9 = .bool false ∧ i = .int .i64 0) (fun _ _ => 0)
  case atStart => exact ⟨rfl, rfl⟩
  case round =>
    obtain ⟨rfl, rfl⟩ := hrel
    obtain ⟨⟨r0, -⟩, r1, -⟩ := set_two (W := (w.alloc (.cells #[.int .i64 0, .int .i64 0] 30)).alloc (.cells #[.int .i64 0, .int .i64 0] 30)) (u' := .int .i64 0) (v' := .int .i64 0) (at_ (hp_old (hp_new rfl)) 0 _ rfl) (at_ (hp_old (hp_new rfl)) 1 _ rfl)
    have R0 := Lib.hid r0
    have R1 := Lib.hid r1
    clear r0 r1
    go_wp2
    try simp only [Exit.inBlock, Exit.then]
    refine bodyPost_ret (ret_pos rfl _ _ w.heap.size 0 0 rfl (by go_simp) (by go_simp)) rfl ?_
    exact ⟨rfl, by repeat (first | exact Below.refl _ _ | refine below_drewNs ?_ _ | refine Below.drew ?_ | refine below_allocs ?_ _)⟩
set_option maxRecDepth 100000 in
set_option maxHeartbeats 1600000 in
theorem PtNext_nil (r c : Int) (w : World) : Calls Try.prog 28 #[.pointer none, .agg #[.int .i64 r, .int .i64 c]] w (BestPost w none) := by
  have HB := Lib.hid (fun f g w => Best_nil f g w)
  have hmf : ∀ (fn : Fn) (first cap : Array Value) (w : World), (Instr.makeFunc fn first cap).run Try.prog w = .ok (.func fn first cap) w := fun _ _ _ _ => rfl
  go_enter Try.func28, Try.ntmps28
  go_wp2_with (go_at_call 50; refine (HB.out _ _ _).mono ?_; rintro e w1 ⟨rfl, hb1⟩; have hB := below_tail (show Below w.heap.size w _ from by repeat (first | exact Below.refl _ _ | refine below_allocs ?_ _ | refine below_drewNs ?_ _ | refine Below.drew ?_)) hb1; have a0 := at_new (b := w.heap.size + 1) hb1 (by repeat (first | (refine hp_new ?_; simp; done) | refine hp_old ?_ | refine hp_drewN ?_ | refine hp_drew ?_)) 0 (.int .i64 0) rfl; have a1 := at_new (b := w.heap.size + 1) hb1 (by repeat (first | (refine hp_new ?_; simp; done) | refine hp_old ?_ | refine hp_drewN ?_ | refine hp_drew ?_)) 1 (.int .i64 0) rfl)
  obtain ⟨⟨r0, -⟩, r1, -⟩ := set_two (u' := .int .i64 0) (v' := .int .i64 0) a0 a1
  try simp only [Exit.inBlock, Exit.then]
  refine bodyPost_ret (ret_pos rfl _ _ (w.heap.size + 1) _ _ rfl r0 r1) rfl ?_
  exact ⟨rfl, (((Mod.of_below (X := []) hB).setCell (a := ⟨w.heap.size + 1, 0, none⟩) (.inr (by simp)) _).setCell (a := ⟨w.heap.size + 1, 1, none⟩) (.inr (by simp)) _).below (fun g hg => by cases hg) (Nat.le_refl _)⟩
set_option maxRecDepth 100000 in
set_option maxHeartbeats 1600000 in
theorem PtAhead_nil (r c : Int) (w : World) : Calls Try.prog 29 #[.pointer none, .agg #[.int .i64 r, .int .i64 c]] w (BestPost w none) := by
  have HB := Lib.hid (fun f g w => Best_nil f g w)
  have hmf : ∀ (fn : Fn) (first cap : Array Value) (w : World), (Instr.makeFunc fn first cap).run Try.prog w = .ok (.func fn first cap) w := fun _ _ _ _ => rfl
  go_enter Try.func29, Try.ntmps29
  go_wp2_with (go_at_call 50; refine (HB.out _ _ _).mono ?_; rintro e w1 ⟨rfl, hb1⟩; have hB := below_tail (show Below w.heap.size w _ from by repeat (first | exact Below.refl _ _ | refine below_allocs ?_ _ | refine below_drewNs ?_ _ | refine Below.drew ?_)) hb1; have a0 := at_new (b := w.heap.size + 1) hb1 (by repeat (first | (refine hp_new ?_; simp; done) | refine hp_old ?_ | refine hp_drewN ?_ | refine hp_drew ?_)) 0 (.int .i64 0) rfl; have a1 := at_new (b := w.heap.size + 1) hb1 (by repeat (first | (refine hp_new ?_; simp; done) | refine hp_old ?_ | refine hp_drewN ?_ | refine hp_drew ?_)) 1 (.int .i64 0) rfl)
  obtain ⟨⟨r0, -⟩, r1, -⟩ := set_two (u' := .int .i64 0) (v' := .int .i64 0) a0 a1
  try simp only [Exit.inBlock, Exit.then]
  refine bodyPost_ret (ret_pos rfl _ _ (w.heap.size + 1) _ _ rfl r0 r1) rfl ?_
  exact ⟨rfl, (((Mod.of_below (X := []) hB).setCell (a := ⟨w.heap.size + 1, 0, none⟩) (.inr (by simp)) _).setCell (a := ⟨w.heap.size + 1, 1, none⟩) (.inr (by simp)) _).below (fun g hg => by cases hg) (Nat.le_refl _)⟩
def NewPost (w : World) (v : Value) (z : Int) (e : Ending) (w' : World) : Prop := e = .returned (.tuple #[v, .int .i64 z]) ∧ Below w.heap.size w w'
set_option maxRecDepth 100000 in
set_option maxHeartbeats 3200000 in
theorem PointNone_walk (mo r c k a n : Int) (w : World) :
    Calls Try.prog 11 #[.int .i64 mo, .agg #[.int .i64 r, .int .i64 c], .agg #[.int .i64 k, .int .i64 a, .int .i64 n]] w (TruePost w) := by
  have HAW := Lib.hid (fun w => awake20 w)
  have HNX := Lib.hid (fun w => PtNext_nil r c w)
  have HAX := Lib.hid (fun w => PtAhead_nil r c w)
  unfold BestPost at HNX HAX
  have HL := Lib.hid (fun w => PtList_nil w)
  have HP : Hid (∀ w1 : World, Below ((w.alloc (.cells #[.int .i64 r, .int .i64 c] 30)).alloc (.cells #[.int .i64 k, .int .i64 a, .int .i64 n] 32)).heap.size ((w.alloc (.cells #[.int .i64 r, .int .i64 c] 30)).alloc (.cells #[.int .i64 k, .int .i64 a, .int .i64 n] 32)) w1 → w1.cell? ⟨w.heap.size, 0, none⟩ = some (.int .i64 r) ∧ w1.cell? ⟨w.heap.size, 1, none⟩ = some (.int .i64 c) ∧ w1.cell? ⟨w.heap.size + 1, 0, none⟩ = some (.int .i64 k) ∧ w1.cell? ⟨w.heap.size + 1, 1, none⟩ = some (.int .i64 a) ∧ w1.cell? ⟨w.heap.size + 1, 2, none⟩ = some (.int .i64 n) ∧ Below w.heap.size w w1) :=
    Lib.hid fun w1 hb => ⟨(hold hb (at_new (Below.refl _ _) (hp_old (hp_new rfl)) 0 _ rfl)).1, (hold hb (at_new (Below.refl _ _) (hp_old (hp_new rfl)) 1 _ rfl)).1, (hold hb (at_new (Below.refl _ _) (hp_new (by simp)) 0 _ rfl)).1, (hold hb (at_new (Below.refl _ _) (hp_new (by simp)) 1 _ rfl)).1, (hold hb (at_new (Below.refl _ _) (hp_new (by simp)) 2 _ rfl)).1, below_tail (below_allocs (below_allocs (Below.refl _ _) _) _) hb⟩
  obtain ⟨b, hb⟩ : ∃ b : Bool, b = (decide (1 ≤ mo) && decide (mo ≤ 10000)) := ⟨_, rfl⟩
  have hcases : (b = true ∧ 1 ≤ mo ∧ mo ≤ 10000) ∨ (b = false ∧ 1 ≤ mo ∧ 10000 < mo) ∨ (b = false ∧ mo < 1) := by
    rw [hb]; simp; omega
  have HN : Hid (∀ w, b = true → Calls Try.prog 41 #[.int .i64 mo] w (NewPost w (.pointer (some ⟨w.heap.size, 0, none⟩)) 0)) := Lib.hid (fun w hbt => (PtNew_ok mo w (by rw [hb] at hbt; simp at hbt; omega) (by rw [hb] at hbt; simp at hbt; omega)).mono fun e w' ⟨he, _, hw⟩ => ⟨he, hw⟩)
  have HN2 : Hid (∀ w, b = false → Calls Try.prog 41 #[.int .i64 mo] w (NewPost w (.pointer none) 1)) := Lib.hid (fun w hbf => (PtNew_no mo w (by rw [hb] at hbf; simp at hbf; omega)).mono fun e w' ⟨he, hw⟩ => ⟨he, by rw [hw]; exact Below.refl _ _⟩)
  clear hb
  rcases hcases with ⟨rfl, hm1, hm2⟩ | ⟨rfl, hm1, hm2⟩ | ⟨rfl, hm1⟩
  all_goals (
    go_enter Try.func11, Try.ntmps11
    go_wp2_with (first
      | (go_at_call 41; refine (HN.out _ rfl).mono ?_; rintro e w1 ⟨rfl, hb1⟩; obtain ⟨p0, p1, q0, q1, q2, hB⟩ := HP.out _ hb1; clear hb1)
      | (go_at_call 41; refine (HN2.out _ rfl).mono ?_; rintro e w1 ⟨rfl, hb1⟩; obtain ⟨p0, p1, q0, q1, q2, hB⟩ := HP.out _ hb1; clear hb1)
      | (go_at_call 23; refine (PtAdd_nil r c _).mono ?_; rintro e w2 ⟨rfl, hb2⟩; replace hB := below_tail hB hb2; replace p0 := holda hb2 p0; replace p1 := holda hb2 p1; replace q0 := holda hb2 q0; replace q1 := holda hb2 q1; replace q2 := holda hb2 q2; clear hb2)
      | (go_at_call 42; refine (PtShift_nil k a n _).mono ?_; rintro e w3 ⟨rfl, hb3⟩; replace hB := below_tail hB hb3; replace p0 := holda hb3 p0; replace p1 := holda hb3 p1; clear hb3 q0 q1 q2)
      | (go_at_call 28; refine (HNX.out _).mono ?_; rintro e w4 ⟨rfl, hb4⟩; replace hB := below_tail hB hb4; replace p0 := holda hb4 p0; replace p1 := holda hb4 p1; have hlt4 := lt_of_cell p0; clear hb4)
      | (go_at_call 29; refine (HAX.out _).mono ?_; rintro e w5 ⟨rfl, hb5⟩; replace hB := below_tail (below_tail hB (below_allocs (Below.refl _ _) _)) hb5; clear hb5 p0 p1)
      | (go_at_call 19; refine (HL.out _).mono ?_; rintro e w6 ⟨v6, rfl, ho6, hb6⟩; obtain ⟨A6, c6, rfl⟩ := row_form ho6; replace hB := below_tail (below_tail hB (below_allocs (Below.refl _ _) _)) hb6; clear hb6 ho6)
      | (go_at_call 21; refine (PtPlaces_nil _).mono ?_; rintro e w7 ⟨rfl, hw7⟩; subst hw7)
      | (go_at_call 25; refine (PtPut_nil _ _ _ _).mono ?_; rintro e w8 ⟨rfl, hw8⟩; subst hw8)
      | (go_at_call 17; refine (PtLen_nil _).mono ?_; rintro e w9 ⟨rfl, hw9⟩; subst hw9)
      | (go_at_call 14; refine (HAW.out _).mono ?_; rintro e w10 ⟨rfl, hb10⟩))
    go_ret
    exact ⟨rfl, below_tail hB hb10⟩)
end Go.Proofs.Ytfadcmjdlfobhaa
