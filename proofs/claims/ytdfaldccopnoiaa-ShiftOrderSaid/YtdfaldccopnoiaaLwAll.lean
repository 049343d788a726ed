/- ShiftAll: the walk of the law. Conditions: none. -/
import Derived.Test.YtdfaldccopnoiaaShD
import Derived.Test.YtdfaldccopnoiaaRegU
import Derived.Test.YtdfaldccopnoiaaLwMoves
import Derived.Deep.DeepCutAuto
namespace Go.Proofs.Ytdfaldccopnoiaa
open Go.RowKit

theorem ShAt.at_ {w : World} {A : Option Addr} {l : List Sh} (h : ShAt w A l) {k : Nat} (hk : k < l.length) : ∃ b off s, A = some ⟨b, off, none⟩ ∧ l[k]? = some s ∧ w.cell? ⟨b, off + k * 3, none⟩ = some (.int .i64 s.k) ∧ w.cell? ⟨b, off + k * 3 + 1, none⟩ = some (.int .i64 s.a) ∧ w.cell? ⟨b, off + k * 3 + 2, none⟩ = some (.int .i64 s.n) := by
  obtain ⟨b, off, hA, hc⟩ := h (by omega)
  exact ⟨b, off, l[k], hA, List.getElem?_eq_getElem hk, hc k _ (List.getElem?_eq_getElem hk)⟩
theorem RMoves_hid (p : Int × Int) (s : Sh) : Hid (∀ w : World, Calls Try.prog 19 #[.agg #[.int .i64 p.1, .int .i64 p.2], .agg #[.int .i64 s.k, .int .i64 s.a, .int .i64 s.n]] w fun e w' => e = .returned (.agg #[.int .i64 (mvs p s).1, .int .i64 (mvs p s).2]) ∧ Below w.heap.size w w') := Lib.hid (RMove_any p.1 p.2 s.k s.a s.n)

set_option maxRecDepth 100000 in
set_option maxHeartbeats 1600000 in
theorem ShiftAll_walk (r c : Int) (A : Option Addr) (l : List Sh) (cap : Nat) (w : World) (hm : l.length ≤ 9223372036854775807) (hl : ShAt w A l) :
    Calls Try.prog 5 #[posV r c, .slice A l.length cap] w fun e w' => e = .returned (.bool true) ∧ Below w.heap.size w w' := by
  have HL := Lib.hid hl
  have HA := All_hid r c A l cap hm
  clear hl
  unfold posV at *
  by_cases hbig : 100 < l.length
  · clear HA HL
    go_enter Try.func5, Try.ntmps5
    go_wp2_with (go_at_call 14; refine (awake10 _).mono ?_; rintro e w3 ⟨rfl, hb3⟩)
    go_ret
    exact ⟨by simp, below_tail (below_allocs (Below.refl _ _) _) hb3⟩
  · go_enter Try.func5, Try.ntmps5
    go_wp2_with fail
    go_loopw [6] (fun i wr => ∃ k : Nat, k ≤ l.length ∧ i = .int .i64 k ∧ Below w.heap.size w wr ∧ (wr.cell? ⟨w.heap.size, 0, none⟩ = some (.int .i64 r)) ∧ (wr.cell? ⟨w.heap.size, 1, none⟩ = some (.int .i64 c))
      ∧ (wr.cell? ⟨w.heap.size + 1, 0, none⟩ = some (.int .i64 (mvAll (r, c) (l.take k)).1) ∧ wr.frozen? ⟨w.heap.size + 1, 0, none⟩ = false) ∧ (wr.cell? ⟨w.heap.size + 1, 1, none⟩ = some (.int .i64 (mvAll (r, c) (l.take k)).2) ∧ wr.frozen? ⟨w.heap.size + 1, 1, none⟩ = false)) (fun i _ => l.length - (intOf i).toNat)
    case atStart =>
      exact ⟨0, Nat.zero_le _, rfl, below_allocs (below_allocs (Below.refl _ _) _) _, (hold_alloc (at_new (Below.refl _ _) (hp_new rfl) 0 _ rfl)).1, (hold_alloc (at_new (Below.refl _ _) (hp_new rfl) 1 _ rfl)).1, at_new (Below.refl _ _) (hp_new (by simp)) 0 _ rfl, at_new (Below.refl _ _) (hp_new (by simp)) 1 _ rfl⟩
    case round =>
      obtain ⟨k, hk, rfl, hB, p0, p1, q0, q1⟩ := hrel
      by_cases hlt : k < l.length
      · obtain ⟨b, off, s, hA, hs, c0, c1, c2⟩ := (HL.out).at_ hlt
        replace c0 := holda hB c0
        replace c1 := holda hB c1
        replace c2 := holda hB c2
        subst hA
        have HM := RMoves_hid (mvAll (r, c) (l.take k)) s
        have HT := Lib.hid (mvAll_take (r, c) l k s hs)
        clear hs HA
        have z0 := World.block_lt_of_cell? wr _ p0
        have z1 := lt_of_cell q0.1
        generalize hp : mvAll (r, c) (l.take k) = p at q0 q1 HM HT
        generalize hq : mvs p s = q at HM HT
        obtain ⟨qr, qc⟩ := q
        simp only at HM z0
        clear hp hq
        go_wp2_with fail
        refine wp_region_u 6 (fun w' => Below wr.heap.size wr w' ∧ w'.cell? ⟨b, off + k * 3, none⟩ = some (.int .i64 s.k) ∧ w'.cell? ⟨b, off + k * 3 + 1, none⟩ = some (.int .i64 s.a) ∧ w'.cell? ⟨b, off + k * 3 + 2, none⟩ = some (.int .i64 s.n) ∧ w'.cell? ⟨w.heap.size + 1, 0, none⟩ = some (.int .i64 p.1) ∧ w'.cell? ⟨w.heap.size + 1, 1, none⟩ = some (.int .i64 p.2)) (by kernel_rfl) (by kernel_rfl) ?_ ?_
        · exact ⟨(Below.refl _ _).drew, c0, c1, c2, q0.1, q1.1⟩
        simp only [List.take_succ_cons, List.take_zero, List.drop_succ_cons, List.drop_zero]
        repeat (first
          | (refine seqU_skip (by rfl) ?_; simp only [Act.put, List.setIfInBounds_toArray, List.set_cons_zero, List.set_cons_succ])
          | (refine seqU_val ?_ (by rfl) ?_ ?_; rotate_left; · (intro w' hS; obtain ⟨_, _⟩ := hS; go_simp; first | done | with_reducible rfl)
             simp only [Act.put, List.setIfInBounds_toArray, List.set_cons_zero, List.set_cons_succ])
          | (refine seqU_call 19 #[.agg #[.int .i64 p.1, .int .i64 p.2], .agg #[.int .i64 s.k, .int .i64 s.a, .int .i64 s.n]] (.agg #[.int .i64 qr, .int .i64 qc]) (by rfl) ?_ (fun w' hS => (HM.out w').mono fun e w2 ⟨he, hb⟩ => ⟨he, ⟨below_tail hS.1 hb, holda hb hS.2.1, holda hb hS.2.2.1, holda hb hS.2.2.2.1, holda hb hS.2.2.2.2.1, holda hb hS.2.2.2.2.2⟩⟩) ?_; · (intro w'; go_simp; done)
             simp only [Act.put, List.setIfInBounds_toArray, List.set_cons_zero, List.set_cons_succ]))
        refine seqU_nil (fun w' hS => ?_)
        have hB2 := below_tail hB hS.1
        replace p0 := holda hS.1 p0
        replace p1 := holda hS.1 p1
        replace q0 := hold hS.1 q0
        replace q1 := hold hS.1 q1
        clear hS
        go_wp2
        go_roundw
        case rel =>
          refine ⟨k + 1, by omega, by go_num, below_set (below_set hB2 (by omega) _) (by omega) _, ?_⟩
          rw [HT.out]
          exact ⟨by simp [go_sem, p0], by simp [go_sem, p1], hold_set (set_self q0) (by simp), set_self (hold_set q1 (by simp))⟩
        case measure => simp [intOf]; omega
      · obtain rfl : k = l.length := by omega
        rw [List.take_length] at q0 q1
        have z0 := World.block_lt_of_cell? wr _ p0
        generalize mvAll (r, c) l = q at *
        obtain ⟨qr, qc⟩ := q
        simp only at HA q0 q1
        go_wp2_with fail
        refine wp_region_u 8 (fun w' => (Below w.heap.size w w' ∧ ShAt w' A l) ∧ w'.cell? ⟨w.heap.size, 0, none⟩ = some (.int .i64 r) ∧ w'.cell? ⟨w.heap.size, 1, none⟩ = some (.int .i64 c) ∧ w'.cell? ⟨w.heap.size + 1, 0, none⟩ = some (.int .i64 qr) ∧ w'.cell? ⟨w.heap.size + 1, 1, none⟩ = some (.int .i64 qc)) (by kernel_rfl) (by kernel_rfl) ?_ ?_
        · exact ⟨⟨hB.drew, HL.out.below hB.drew⟩, p0, p1, q0.1, q1.1⟩
        simp only [List.take_succ_cons, List.take_zero, List.drop_succ_cons, List.drop_zero]
        repeat (first
          | (refine seqU_skip (by rfl) ?_; simp only [Act.put, List.setIfInBounds_toArray, List.set_cons_zero, List.set_cons_succ])
          | (refine seqU_val ?_ (by rfl) ?_ ?_; rotate_left; · (intro w' hS; obtain ⟨⟨_, _⟩, _⟩ := hS; go_simp; first | done | with_reducible rfl)
             simp only [Act.put, List.setIfInBounds_toArray, List.set_cons_zero, List.set_cons_succ])
          | (refine seqU_call 22 #[.agg #[.int .i64 r, .int .i64 c], .slice A l.length cap] (.agg #[.int .i64 qr, .int .i64 qc]) (by rfl) ?_ (fun w' hS => (HA.out w' hS.1.2).mono fun e w2 ⟨he, hb⟩ => ⟨he, ⟨below_tail hS.1.1 hb, hS.1.2.below hb⟩, holda hb hS.2.1, holda hb hS.2.2.1, holda hb hS.2.2.2.1, holda hb hS.2.2.2.2⟩) ?_; · (intro w'; go_simp; done)
             simp only [Act.put, List.setIfInBounds_toArray, List.set_cons_zero, List.set_cons_succ])
          | (refine seqU_call 14 #[] (.bool true) (by rfl) ?_ (fun w' hS => (awake10 w').mono fun e w2 ⟨he, hb⟩ => ⟨he, ⟨below_tail hS.1.1 hb, hS.1.2.below hb⟩, holda hb hS.2.1, holda hb hS.2.2.1, holda hb hS.2.2.2.1, holda hb hS.2.2.2.2⟩) ?_; · (intro w'; go_simp; done)
             simp only [Act.put, List.setIfInBounds_toArray, List.set_cons_zero, List.set_cons_succ]))
        refine seqU_nil (fun w' hS => ?_)
        have hB2 := hS.1.1
        clear hS
        go_wp2
        go_ret
        exact ⟨by simp, hB2⟩
end Go.Proofs.Ytdfaldccopnoiaa
