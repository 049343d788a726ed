/- The document's widths. Conditions: none. -/
import Derived.Test.YtffdblmdelgkaaaGreatPaN
namespace Go.Proofs.YtffdblmdelgkaaaGreat
open Go.RowKit

def RTabPost (l : List (Int × Int)) (w : World) (e : Ending) (w' : World) : Prop := ∃ g, e = .returned (.slice (some ⟨g, 0, none⟩) (l.length * 2) (l.length * 2)) ∧ GrAt encPr 2 w' (some ⟨g, 0, none⟩) l ∧ Below w.heap.size w w'
set_option maxRecDepth 100000 in
set_option maxHeartbeats 1600000 in
theorem rmarks_any (w : World) : Calls Tryz.prog 119 #[] w (RTabPost marksT w) := by
  go_enter Tryz.func119, Tryz.ntmps119
  go_wp2
  go_ret
  exact ⟨w.heap.size, rfl, gr_lit encPr_len (l := marksT) (hp_new rfl), below_allocs (Below.refl _ _) _⟩
set_option maxRecDepth 100000 in
set_option maxHeartbeats 1600000 in
theorem rwides_any (w : World) : Calls Tryz.prog 120 #[] w (RTabPost widesT w) := by
  go_enter Tryz.func120, Tryz.ntmps120
  go_wp2
  go_ret
  exact ⟨w.heap.size, rfl, gr_lit encPr_len (l := widesT) (hp_new rfl), below_allocs (Below.refl _ _) _⟩
set_option maxRecDepth 100000 in
set_option maxHeartbeats 3200000 in
theorem rin_any (r : Int) (a : Nat) (l : List (Int × Int)) (w : World) (hl : GrAt encPr 2 w (some ⟨a, 0, none⟩) l) (hz : l.length ≤ 1000) :
    Calls Tryz.prog 118 #[.slice (some ⟨a, 0, none⟩) (l.length * 2) (l.length * 2), .int .i32 r] w fun e w' => e = .returned (.bool (amongB l r)) ∧ w = w' := by
  obtain ⟨L2, hL2⟩ : ∃ L2, l.length * 2 = L2 := ⟨_, rfl⟩
  rw [hL2]
  have HL := Lib.hid hl
  have HL2 := Lib.hid hL2
  clear hl hL2
  go_enter Tryz.func118, Tryz.ntmps118
  go_wp2_with fail
  go_loopw [5] (fun s5 wr => ∃ i j : Nat, s5 = .int .i64 j ∧ j = i * 2 ∧ i ≤ l.length ∧ amongB (l.take i) r = false ∧ wr = w) (fun s5 _ => L2 - (intOf s5).toNat)
  case atStart => exact ⟨0, 0, rfl, rfl, Nat.zero_le _, rfl, rfl⟩
  case round =>
    obtain ⟨i, j, rfl, hij, hi, hf, rfl⟩ := hrel
    have HIJ := Lib.hid hij
    have HF := Lib.hid hf
    clear hf
    by_cases hlt : i < l.length
    rotate_left
    · have hge : ¬ (j : Int) < (L2 : Int) := by have := HL2.out; omega
      have HE : Hid (amongB l r = false) := Lib.hid (by have := HF.out; rwa [List.take_of_length_le (by omega)] at this)
      clear hij
      go_wp2
      go_ret
      exact ⟨by rw [HE.out]; rfl, rfl⟩
    · have hltI : (j : Int) < (L2 : Int) := by have := HL2.out; omega
      obtain ⟨j1, hj1⟩ : ∃ j1 : Nat, j1 = j + 1 := ⟨_, rfl⟩
      have hj1I : (j : Int) + 1 = (j1 : Int) := by omega
      have hwj1 : IntKind.i64.wrap (j1 : Int) = (j1 : Int) := IntWalk.i64_in _ (by omega)
      have hj1L : (j1 : Int) < (L2 : Int) := by have := HL2.out; omega
      obtain ⟨j2, hj2⟩ : ∃ j2 : Nat, j2 = j + 2 := ⟨_, rfl⟩
      have hj2I : (j : Int) + 2 = (j2 : Int) := by omega
      have hwj2 : IntKind.i64.wrap (j2 : Int) = (j2 : Int) := IntWalk.i64_in _ (by omega)
      obtain ⟨b, off, x, e, hx, hc⟩ := HL.out.at_ hlt
      simp only [Option.some.injEq, Addr.mk.injEq, and_true] at e
      obtain ⟨rfl, rfl⟩ := e
      have y0 : wr.cell? ⟨a, j, none⟩ = some (.int .i32 x.1) := by have := hc 0 _ rfl; rw [hij]; simpa using this
      have y1 : wr.cell? ⟨a, j1, none⟩ = some (.int .i32 x.2) := by have := hc 1 _ rfl; rw [hj1, hij]; simpa using this
      have HX := Lib.hid hx
      have HJ2 := Lib.hid hj2
      have hjL : j < L2 := by omega
      have hj1LN : j1 < L2 := by omega
      clear hc hx hij hj1 hj2
      by_cases h1 : x.1 ≤ r
      · by_cases h2 : r ≤ x.2
        · have HE : Hid (amongB l r = true) := Lib.hid (among_of_take (k := i + 1) (by rw [among_take HX.out]; unfold inPr; simp [h1, h2]))
          go_wp2
          go_ret
          exact ⟨by rw [HE.out]; rfl, rfl⟩
        · have HE : Hid (amongB (l.take (i + 1)) r = false) := Lib.hid (by rw [among_take HX.out, HF.out]; unfold inPr; simp; omega)
          go_wp2
          go_roundw
          case rel => exact ⟨i + 1, j2, by go_num, by have := HIJ.out; have := HJ2.out; omega, by omega, HE.out, by first | rfl | trivial⟩
          case measure => have := HJ2.out; simp [intOf]; omega
      · have HE : Hid (amongB (l.take (i + 1)) r = false) := Lib.hid (by rw [among_take HX.out, HF.out]; unfold inPr; simp; omega)
        go_wp2
        go_roundw
        case rel => exact ⟨i + 1, j2, by go_num, by have := HIJ.out; have := HJ2.out; omega, by omega, HE.out, by first | rfl | trivial⟩
        case measure => have := HJ2.out; simp [intOf]; omega
theorem noneW_cases (r : Int) : (noneW r = true ∧ (r < 32 ∨ (126 < r ∧ r < 160 ∧ ¬ r < 32) ∨ (55295 < r ∧ r < 57344 ∧ 126 < r ∧ ¬ r < 160 ∧ ¬ r < 32) ∨ (1114111 < r ∧ 55295 < r ∧ ¬ r < 57344 ∧ 126 < r ∧ ¬ r < 160 ∧ ¬ r < 32))) ∨
    (noneW r = false ∧ ((¬ r < 32 ∧ ¬ 126 < r ∧ ¬ 55295 < r ∧ ¬ 1114111 < r) ∨ (¬ r < 32 ∧ 126 < r ∧ ¬ r < 160 ∧ ¬ 55295 < r ∧ ¬ 1114111 < r) ∨ (¬ r < 32 ∧ 126 < r ∧ ¬ r < 160 ∧ 55295 < r ∧ ¬ r < 57344 ∧ ¬ 1114111 < r))) := by
  unfold noneW
  simp only [Bool.or_eq_true, Bool.and_eq_true, decide_eq_true_eq, Bool.or_eq_false_iff, Bool.and_eq_false_iff, decide_eq_false_iff_not]
  omega
set_option maxRecDepth 100000 in
set_option maxHeartbeats 3200000 in
theorem rOf_any (r : Int) (w : World) : Calls Tryz.prog 71 #[.int .i32 r] w fun e w' => e = .returned (.int .i64 (widOf r)) ∧ Below w.heap.size w w' := by
  have HM := Lib.hid (fun w => rmarks_any w)
  have HW := Lib.hid (fun w => rwides_any w)
  have HA1 := Lib.hid (fun a w hl => rin_any r a marksT w hl (by decide))
  have HA2 := Lib.hid (fun a w hl => rin_any r a widesT w hl (by decide))
  unfold widOf
  rcases noneW_cases r with ⟨hn, h⟩ | ⟨hn, h⟩
  · rw [hn]
    clear hn HM HW HA1 HA2
    rcases h with h1 | ⟨h1, h2, h3⟩ | ⟨h1, h2, h3, h4, h5⟩ | ⟨h1, h2, h3, h4, h5, h6⟩
    all_goals
      go_enter Tryz.func71, Tryz.ntmps71
      go_wp2
      go_ret
      exact ⟨rfl, Below.refl _ _⟩
  · rw [hn]
    clear hn
    generalize amongB marksT r = b1 at HA1
    generalize amongB widesT r = b2 at HA2
    rcases h with ⟨h1, h2, h3, h4⟩ | ⟨h1, h2, h3, h4, h5⟩ | ⟨h1, h2, h3, h4, h5, h6⟩ <;> cases b1 <;> cases b2
    all_goals
      go_enter Tryz.func71, Tryz.ntmps71
      go_wp2_with (first
        | (go_at_call 119; refine (HM.out _).mono ?_; rintro e w2 ⟨g, rfl, hg, hb2⟩; have HG := Lib.hid hg; have HB := Lib.hid hb2; clear hg hb2)
        | (go_at_call 120; refine (HW.out _).mono ?_; rintro e w4 ⟨g2, rfl, hg, hb2⟩; have HG2 := Lib.hid hg; have HB3 := Lib.hid (below_tail HB.out hb2); clear hg hb2)
        | (go_at_call 118; first
            | (have hpv := HB3.out; clear hpv; refine (HA2.out _ _ HG2.out).mono ?_; rintro e w5 ⟨rfl, rfl⟩)
            | (refine (HA1.out _ _ HG.out).mono ?_; rintro e w3 ⟨rfl, rfl⟩)))
      go_ret
      exact ⟨rfl, by first | exact HB3.out | exact HB.out⟩
end Go.Proofs.YtffdblmdelgkaaaGreat
