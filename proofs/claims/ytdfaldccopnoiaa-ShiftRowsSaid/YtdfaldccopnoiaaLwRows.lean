/- ShiftRows: the walk of the law. Conditions: none. -/
import Derived.Test.YtdfaldccopnoiaaShR
import Derived.Test.YtdfaldccopnoiaaRegU
namespace Go.Proofs.Ytdfaldccopnoiaa
open Go.RowKit

set_option maxRecDepth 100000 in
set_option maxHeartbeats 1600000 in
theorem ShiftRows_out (n k a m c : Int) (w : World) (h : 60 < n ∨ a < 0 ∨ 60 < a ∨ m < 1 ∨ 60 < m ∨ k < 0 ∨ 2 < k) :
    Calls Try.prog 3 #[.int .u8 n, shV k a m, .int .u8 c] w fun e w' => e = .returned (.bool true) ∧ Below w.heap.size w w' := by
  unfold shV
  by_cases h1 : 60 < n
  · clear h
    go_enter Try.func3, Try.ntmps3
    go_wp2_with (go_at_call 14; refine (awake10 _).mono ?_; rintro e w3 ⟨rfl, hb3⟩)
    go_ret
    exact ⟨by simp, below_tail (below_allocs (Below.refl _ _) _) hb3⟩
  by_cases h2 : a < 0
  · clear h
    go_enter Try.func3, Try.ntmps3
    go_wp2_with (go_at_call 14; refine (awake10 _).mono ?_; rintro e w3 ⟨rfl, hb3⟩)
    go_ret
    exact ⟨by simp, below_tail (below_allocs (Below.refl _ _) _) hb3⟩
  by_cases h3 : 60 < a
  · clear h
    go_enter Try.func3, Try.ntmps3
    go_wp2_with (go_at_call 14; refine (awake10 _).mono ?_; rintro e w3 ⟨rfl, hb3⟩)
    go_ret
    exact ⟨by simp, below_tail (below_allocs (Below.refl _ _) _) hb3⟩
  by_cases h4 : m < 1
  · clear h
    go_enter Try.func3, Try.ntmps3
    go_wp2_with (go_at_call 14; refine (awake10 _).mono ?_; rintro e w3 ⟨rfl, hb3⟩)
    go_ret
    exact ⟨by simp, below_tail (below_allocs (Below.refl _ _) _) hb3⟩
  by_cases h5 : 60 < m
  · clear h
    go_enter Try.func3, Try.ntmps3
    go_wp2_with (go_at_call 14; refine (awake10 _).mono ?_; rintro e w3 ⟨rfl, hb3⟩)
    go_ret
    exact ⟨by simp, below_tail (below_allocs (Below.refl _ _) _) hb3⟩
  by_cases h6 : k < 0
  · clear h
    go_enter Try.func3, Try.ntmps3
    go_wp2_with (go_at_call 14; refine (awake10 _).mono ?_; rintro e w3 ⟨rfl, hb3⟩)
    go_ret
    exact ⟨by simp, below_tail (below_allocs (Below.refl _ _) _) hb3⟩
  by_cases h7 : 2 < k
  · clear h
    go_enter Try.func3, Try.ntmps3
    go_wp2_with (go_at_call 14; refine (awake10 _).mono ?_; rintro e w3 ⟨rfl, hb3⟩)
    go_ret
    exact ⟨by simp, below_tail (below_allocs (Below.refl _ _) _) hb3⟩
  · exfalso; omega

theorem Rows_hid (n k a m : Int) (hn : 0 ≤ n) (hn2 : n ≤ 60) (hk : 0 ≤ k) (hk2 : k ≤ 2) (ha : 0 ≤ a) (ha2 : a ≤ 60) (hm : 1 ≤ m) (hm2 : m ≤ 60) :
    Hid (∀ w : World, Calls Try.prog 15 #[.int .i64 n, .agg #[.int .i64 k, .int .i64 a, .int .i64 m]] w (RowsPost k a m w)) := Lib.hid fun w => Rows_any n k a m w hn hn2 hk hk2 ha ha2 hm hm2

set_option maxRecDepth 100000 in
set_option maxHeartbeats 1600000 in
theorem ShiftRows_in (n k a m c : Int) (w : World) (hn : 0 ≤ n) (hn2 : n ≤ 60) (hk : 0 ≤ k) (hk2 : k ≤ 2) (ha : 0 ≤ a) (ha2 : a ≤ 60) (hm : 1 ≤ m) (hm2 : m ≤ 60) (hc : 0 ≤ c) (hc2 : c ≤ 255) :
    Calls Try.prog 3 #[.int .u8 n, shV k a m, .int .u8 c] w fun e w' => e = .returned (.bool true) ∧ Below w.heap.size w w' := by
  have HR := Rows_hid n k a m hn hn2 hk hk2 ha ha2 hm hm2
  have CB := Lib.hid (inB_of hc (by omega : c ≤ 1099511627776))
  unfold shV
  go_enter Try.func3, Try.ntmps3
  go_wp2_with fail
  refine (HR.out _).mono ?_
  rintro e w1 ⟨v, xs, rfl, hown, hok, hle, hb1⟩
  have OK := Lib.hid hok
  clear hok HR
  have hB := below_tail (show Below w.heap.size w _ from by repeat (first | exact Below.refl _ _ | refine below_allocs ?_ _ | refine below_drewNs ?_ _ | refine Below.drew ?_)) hb1; have s0 := at_new (b := w.heap.size) hb1 (by repeat (first | (refine hp_new ?_; simp; done) | refine hp_old ?_ | refine hp_drewN ?_ | refine hp_drew ?_)) 0 (.int .i64 k) rfl; have s1 := at_new (b := w.heap.size) hb1 (by repeat (first | (refine hp_new ?_; simp; done) | refine hp_old ?_ | refine hp_drewN ?_ | refine hp_drew ?_)) 1 (.int .i64 a) rfl; have s2 := at_new (b := w.heap.size) hb1 (by repeat (first | (refine hp_new ?_; simp; done) | refine hp_old ?_ | refine hp_drewN ?_ | refine hp_drew ?_)) 2 (.int .i64 m) rfl
  clear hb1
  rcases hown.2 with ⟨rfl, hxn⟩ | ⟨g, cap, cur, rfl, hg, hgh, hcap, hmax, hcur, htake⟩
  · go_wp2_with fail
    go_loopw [8] (fun i wr => i = .int .i64 0 ∧ Below w.heap.size w wr) (fun _ _ => 0)
    case atStart => exact ⟨rfl, hB⟩
    case round =>
      obtain ⟨rfl, hB2⟩ := hrel
      go_wp2_with (go_at_call 14; refine (awake10 _).mono ?_; rintro e w3 ⟨rfl, hb3⟩)
      go_ret
      exact ⟨by simp, below_tail hB2 hb3⟩
  · have hcell : ∀ (j : Nat) (x : Int), xs[j]? = some x → w1.cell? ⟨g, j, none⟩ = some (.int .i64 x) := by
      intro j x hj
      have h1 := hown.cellAt (g := g) (cap := cap) j (by have := (List.getElem?_eq_some_iff.1 hj).1; omega)
      rw [h1]
      simp [vals, hj]
    have HC := Lib.hid hcell
    clear hcell hown hgh hcur htake
    go_wp2_with fail
    go_loopw [8] (fun i wr => ∃ j : Nat, j ≤ xs.length ∧ i = .int .i64 j ∧ Below w.heap.size w wr ∧ Below w1.heap.size w1 wr) (fun i _ => xs.length - (intOf i).toNat)
    case atStart => exact ⟨0, Nat.zero_le _, rfl, hB, Below.refl _ _⟩
    case round =>
      obtain ⟨j, hj, rfl, hB2, hB3⟩ := hrel
      by_cases hlt : j < xs.length
      rotate_left
      · go_wp2_with (go_at_call 14; refine (awake10 _).mono ?_; rintro e w3 ⟨rfl, hb3⟩)
        go_ret
        exact ⟨by simp, below_tail hB2 hb3⟩
      obtain ⟨x, hx⟩ : ∃ x, xs[j]? = some x := ⟨xs[j], List.getElem?_eq_getElem hlt⟩
      have c0 := holda hB3 (HC.out j x hx)
      replace s0 := holda hB3 s0.1
      replace s1 := holda hB3 s1.1
      replace s2 := holda hB3 s2.1
      have HX := Lib.hid hx
      clear hx
      by_cases hx0 : 0 ≤ x
      · have HM := Move_hid x c k a m
        rw [OK.out j x HX.out hx0 c CB.out] at HM
        unfold posV shV at HM
        have hcw : IntKind.i64.wrap c = c := IntWalk.i64_in _ (by omega)
        go_wp2_with fail
        refine wp_region_u 20 (fun w' => Below wr.heap.size wr w' ∧ w'.cell? ⟨g, j, none⟩ = some (.int .i64 x) ∧ w'.cell? ⟨w.heap.size, 0, none⟩ = some (.int .i64 k) ∧ w'.cell? ⟨w.heap.size, 1, none⟩ = some (.int .i64 a) ∧ w'.cell? ⟨w.heap.size, 2, none⟩ = some (.int .i64 m)) (by kernel_rfl) (by kernel_rfl) ?_ ?_
        · exact ⟨(Below.refl _ _).drew, c0, s0, s1, s2⟩
        simp only [List.take_succ_cons, List.take_zero, List.drop_succ_cons, List.drop_zero]
        repeat (first
          | (refine seqU_skip (by rfl) ?_; simp only [Act.put, List.setIfInBounds_toArray, List.set_cons_zero, List.set_cons_succ])
          | (refine seqU_val ?_ (by rfl) ?_ ?_; rotate_left; · (intro w' hS; obtain ⟨_, _⟩ := hS; go_simp; first | done | with_reducible rfl)
             simp only [Act.put, List.setIfInBounds_toArray, List.set_cons_zero, List.set_cons_succ])
          | (refine seqU_call 16 #[.agg #[.int .i64 x, .int .i64 c], .agg #[.int .i64 k, .int .i64 a, .int .i64 m]] (.agg #[.int .i64 j, .int .i64 c]) (by rfl) ?_ (fun w' hS => (HM.out w').mono fun e w2 ⟨he, hb⟩ => ⟨he, ⟨below_tail hS.1 hb, holda hb hS.2.1, holda hb hS.2.2.1, holda hb hS.2.2.2.1, holda hb hS.2.2.2.2⟩⟩) ?_; · (intro w'; go_simp; done)
             simp only [Act.put, List.setIfInBounds_toArray, List.set_cons_zero, List.set_cons_succ]))
        refine seqU_nil (fun w' hS => ?_)
        have hB4 := hS.1
        clear hS
        go_wp2
        go_roundw
        case rel => exact ⟨j + 1, by omega, by go_num, below_tail hB2 hB4, below_tail hB3 hB4⟩
        case measure => simp [intOf]; omega
      · have hd : decide (0 ≤ x) = false := by simpa using hx0
        go_wp2_with fail
        refine wp_region_u 20 (fun w' => Below wr.heap.size wr w' ∧ w'.cell? ⟨g, j, none⟩ = some (.int .i64 x)) (by kernel_rfl) (by kernel_rfl) ?_ ?_
        · exact ⟨(Below.refl _ _).drew, c0⟩
        simp only [List.take_succ_cons, List.take_zero, List.drop_succ_cons, List.drop_zero]
        repeat (first
          | (refine seqU_skip (by rfl) ?_; simp only [Act.put, List.setIfInBounds_toArray, List.set_cons_zero, List.set_cons_succ])
          | (refine seqU_val ?_ (by rfl) ?_ ?_; rotate_left; · (intro w' hS; obtain ⟨_, _⟩ := hS; go_simp; first | done | with_reducible rfl)
             simp only [Act.put, List.setIfInBounds_toArray, List.set_cons_zero, List.set_cons_succ]))
        refine seqU_nil (fun w' hS => ?_)
        have hB4 := hS.1
        clear hS
        go_wp2
        go_roundw
        case rel => exact ⟨j + 1, by omega, by go_num, below_tail hB2 hB4, below_tail hB3 hB4⟩
        case measure => simp [intOf]; omega

theorem ShiftRows_walk (n k a m c : Int) (w : World) (hn : 0 ≤ n) (hc : 0 ≤ c) (hc2 : c ≤ 255) :
    Calls Try.prog 3 #[.int .u8 n, shV k a m, .int .u8 c] w fun e w' => e = .returned (.bool true) ∧ Below w.heap.size w w' := by
  by_cases h : 60 < n ∨ a < 0 ∨ 60 < a ∨ m < 1 ∨ 60 < m ∨ k < 0 ∨ 2 < k
  · exact ShiftRows_out n k a m c w h
  · exact ShiftRows_in n k a m c w hn (by omega) (by omega) (by omega) (by omega) (by omega) (by omega) (by omega) hc hc2
end Go.Proofs.Ytdfaldccopnoiaa
