/- Walks on screens, read-only: fits, Moved. Conditions: none. -/
import Derived.Test.YtdfaldccopnoiaaRwB
namespace Go.Proofs.Ytdfaldccopnoiaa
open Go.RowKit

theorem Equal_hidW (A B : Option Addr) (l m : List Cl) (ca cb : Nat) (hz : l.length ≤ 9223372036854775807) (hz2 : m.length ≤ 9223372036854775807) :
    Hid (∀ w : World, ClsAt w A l → ClsAt w B m → Calls Try.prog 46 #[.slice A l.length ca, .slice B m.length cb] w fun e w' => e = .returned (.bool (decide (l = m))) ∧ Below w.heap.size w w') :=
  Lib.hid fun w hl hm => EqualCells_any A B l m ca cb w hl hm (by omega) (by omega)
def rwV (r : Rw) : Value := .agg #[.slice r.A r.cs.length r.cap, .bool r.cont]

set_option maxRecDepth 100000 in
set_option maxHeartbeats 1600000 in
theorem fits1_any (x y : Rw) (w : World) (hx : ClsAt w x.A x.cs) (hy : ClsAt w y.A y.cs) (hz : x.cs.length ≤ 9223372036854775807) (hz2 : y.cs.length ≤ 9223372036854775807) :
    Calls Try.prog 64 #[rwV x, rwV y] w fun e w' => e = .returned (.bool (decide (x.cs = y.cs))) ∧ Below w.heap.size w w' := by
  have HS := Equal_hidW x.A y.A x.cs y.cs x.cap y.cap hz hz2
  have HX := Lib.hid hx
  have HY := Lib.hid hy
  clear hx hy
  generalize hD : decide (x.cs = y.cs) = D at HS ⊢
  clear hD
  unfold rwV
  go_enter Try.func64, Try.ntmps64
  go_wp2_with (go_at_call 46; refine (HS.out _ (HX.out.below (by repeat (first | exact Below.refl _ _ | refine below_allocs ?_ _))) (HY.out.below (by repeat (first | exact Below.refl _ _ | refine below_allocs ?_ _)))).mono ?_; rintro e w1 ⟨rfl, hb⟩; have hB := below_tail (show Below w.heap.size w _ from by repeat (first | exact Below.refl _ _ | refine below_allocs ?_ _)) hb)
  go_ret
  exact ⟨rfl, hB⟩

theorem fits1_hid (x y : Rw) (hz : x.cs.length ≤ 9223372036854775807) (hz2 : y.cs.length ≤ 9223372036854775807) :
    Hid (∀ w : World, ClsAt w x.A x.cs → ClsAt w y.A y.cs → Calls Try.prog 64 #[.agg #[.slice x.A x.cs.length x.cap, .bool x.cont], .agg #[.slice y.A y.cs.length y.cap, .bool y.cont]] w fun e w' => e = .returned (.bool (decide (x.cs = y.cs))) ∧ Below w.heap.size w w') :=
  Lib.hid fun w hx hy => fits1_any x y w hx hy hz hz2

set_option maxRecDepth 100000 in
set_option maxHeartbeats 1600000 in
theorem EqualFunc_any (A B : Option Addr) (l m : List Rw) (ca cb : Nat) (w : World) (hl : RwsAt w A l) (hm : RwsAt w B m) (hlen : l.length = m.length) (hz : l.length ≤ 400) :
    Calls Try.prog 63 #[.slice A l.length ca, .slice B m.length cb, .func (.func 64) #[] #[]] w fun e w' => e = .returned (.bool (decide (conts l = conts m))) ∧ Below w.heap.size w w' := by
  have HL := Lib.hid hl
  have HM := Lib.hid hm
  have HE := Lib.hid hlen
  have hle : l.length ≤ m.length := by omega
  have hge : m.length ≤ l.length := by omega
  have h' : ((l.length : Int) != (m.length : Int)) = false := by simp; omega
  clear hl hm hlen
  generalize hX : decide (conts l = conts m) = X
  have HX := Lib.hid hX
  clear hX
  go_enter Try.func63, Try.ntmps63
  go_wp2_with fail
  go_loopw [17] (fun i wr => ∃ k : Nat, k ≤ l.length ∧ i = .int .i64 k ∧ Below w.heap.size w wr ∧ (conts l).take k = (conts m).take k) (fun i _ => l.length - (intOf i).toNat)
  case atStart => exact ⟨0, Nat.zero_le _, rfl, Below.refl _ _, rfl⟩
  case round =>
    obtain ⟨k, hk, rfl, hB, htk⟩ := hrel
    have HT := Lib.hid htk
    clear htk
    by_cases hlt : k < l.length
    rotate_left
    · go_wp2
      go_ret
      refine ⟨?_, hB⟩
      have h1 := HT.out
      rw [List.take_of_length_le (by rw [conts_len]; omega), List.take_of_length_le (by rw [conts_len]; omega)] at h1
      rw [← HX.out, h1]; simp
    · have hltm : k < m.length := by omega
      obtain ⟨b, off, x, rfl, hx, cx⟩ := HL.out.at_ hlt
      obtain ⟨b', off', y, rfl, hy, cy⟩ := HM.out.at_ hltm
      have HXX := Lib.hid hx
      have HYY := Lib.hid hy
      clear hx hy
      replace cx := cx.below hB
      replace cy := cy.below hB
      have HS := fits1_hid x y cx.2.2 cy.2.2
      have c0 := cx.1.1
      have c1 := cx.1.2
      have d0 := cy.1.1
      have d1 := cy.1.2
      have z0 := lt_of_cell c0
      have z1 := lt_of_cell d0
      have CX := Lib.hid cx.2.1
      have CY := Lib.hid cy.2.1
      clear cx cy
      generalize hD : decide (x.cs = y.cs) = D at HS
      have HD := Lib.hid hD
      clear hD
      go_wp2_with (go_at_call 64; refine (HS.out _ (CX.out.below (by repeat (first | exact Below.refl _ _ | refine below_allocs ?_ _))) (CY.out.below (by repeat (first | exact Below.refl _ _ | refine below_allocs ?_ _)))).mono ?_; rintro e w1 ⟨rfl, hb⟩; have hB4 := below_tail (show Below wr.heap.size wr _ from by repeat (first | exact Below.refl _ _ | refine below_allocs ?_ _)) hb; clear hb; cases D)
      · go_ret
        refine ⟨?_, below_tail hB hB4⟩
        obtain rfl : X = false := by
          rw [← HX.out, decide_eq_false_iff_not]
          exact ne_of_at (conts_at HXX.out) (conts_at HYY.out) (of_decide_eq_false HD.out)
        rfl
      · go_roundw
        case rel => exact ⟨k + 1, by omega, by go_num, below_tail hB hB4, take_eq_succ (conts_at HXX.out) (conts_at HYY.out) HT.out (of_decide_eq_true HD.out)⟩
        case measure => simp [intOf]; omega
end Go.Proofs.Ytdfaldccopnoiaa
