/- Widths of scalars: among, Of. Conditions: none. -/
import Derived.Test.YtffdblmdelgkaaaGreatWdA
namespace Go.Proofs.YtffdblmdelgkaaaGreat
open Go.RowKit

def inPr (r : Int) (x : Int × Int) : Bool := decide (x.1 ≤ r) && decide (r ≤ x.2)
theorem among_take {l : List (Int × Int)} {r : Int} {k : Nat} {x : Int × Int} (hx : l[k]? = some x) : amongB (l.take (k + 1)) r = (amongB (l.take k) r || inPr r x) := by
  have hk := List.getElem?_eq_some_iff.1 hx
  rw [List.take_succ_eq_append_getElem hk.1, hk.2]
  unfold amongB inPr
  simp
theorem among_of_take {l : List (Int × Int)} {r : Int} {k : Nat} (h : amongB (l.take k) r = true) : amongB l r = true := by
  unfold amongB at h ⊢
  rw [List.any_eq_true] at h ⊢
  obtain ⟨x, hx, h⟩ := h
  exact ⟨x, List.mem_of_mem_take hx, h⟩
def IxPost (l : List (Int × Int)) (r : Int) (w : World) (e : Ending) (w' : World) : Prop := ∃ n : Int, e = .returned (.int .i64 n) ∧ decide (0 ≤ n) = amongB l r ∧ Below w.heap.size w w'
set_option maxRecDepth 100000 in
set_option maxHeartbeats 1600000 in
theorem indexPr_any (r : Int) (g a : Nat) (l : List (Int × Int)) (w : World) (hg : w.cell? ⟨g, 0, none⟩ = some (.int .i32 r)) (hl : GrAt encPr 2 w (some ⟨a, 0, none⟩) l) (hz : l.length ≤ 1000) :
    Calls Tryz.prog 155 #[.slice (some ⟨a, 0, none⟩) l.length l.length, .func (.func 154) #[] #[.pointer (some ⟨g, 0, none⟩)]] w (IxPost l r w) := by
  have HG := Lib.hid hg
  have HL := Lib.hid hl
  clear hg hl
  go_enter Tryz.func155, Tryz.ntmps155
  go_wp2_with fail
  go_loopw [8] (fun s8 wr => ∃ k : Nat, k ≤ l.length ∧ s8 = .int .i64 k ∧ amongB (l.take k) r = false ∧ Below w.heap.size w wr) (fun s8 _ => l.length - (intOf s8).toNat)
  case atStart => exact ⟨0, Nat.zero_le _, rfl, rfl, Below.refl _ _⟩
  case round =>
    obtain ⟨k, hk, rfl, hno, hb⟩ := hrel
    have HNO := Lib.hid hno
    have HB := Lib.hid hb
    clear hno hb
    by_cases hlt : k < l.length
    rotate_left
    · have hge : ¬ (k : Int) < (l.length : Int) := by omega
      go_wp2
      go_ret
      refine ⟨-1, rfl, ?_, HB.out⟩
      have := HNO.out
      rw [List.take_of_length_le (by omega)] at this
      rw [this]; rfl
    · have hltI : (k : Int) < (l.length : Int) := by omega
      obtain ⟨b, off, x, hA, hx, cx⟩ := (HL.out.below HB.out).at_ hlt
      simp only [Option.some.injEq, Addr.mk.injEq, and_true] at hA
      obtain ⟨rfl, rfl⟩ := hA
      have c0 : wr.cell? ⟨a, k * 2, none⟩ = some (.int .i32 x.1) := by have := cx 0 _ rfl; rwa [Nat.zero_add] at this
      have c1 : wr.cell? ⟨a, k * 2 + 1, none⟩ = some (.int .i32 x.2) := by have := cx 1 _ rfl; rwa [Nat.zero_add] at this
      have HT := Lib.hid (among_take (r := r) hx)
      have HC := Lib.hid (among1_any r g x wr (holda HB.out HG.out))
      have HO := Lib.hid (fun h => among_of_take (l := l) (r := r) (k := k + 1) h)
      cases hp : inPr r x with
      | false =>
        have HP := Lib.hid hp
        have HC2 : Hid (Calls Tryz.prog 154 #[.agg #[.int .i32 x.1, .int .i32 x.2], .pointer (some ⟨g, 0, none⟩)] wr fun e w' => e = .returned (.bool false) ∧ Below wr.heap.size wr w') := Lib.hid (HC.out.mono fun e w' ⟨he, hb⟩ => ⟨by rw [he]; unfold inPr at hp; rw [hp], hb⟩)
        clear hx cx hp
        go_wp2_with (go_at_call 154; refine HC2.out.mono ?_; rintro e w1 ⟨rfl, hb1⟩)
        go_roundw
        case rel => exact ⟨k + 1, by omega, by go_num, by rw [HT.out, HNO.out, HP.out]; rfl, below_tail HB.out hb1⟩
        case measure => simp [intOf]; omega
      | true =>
        have HP := Lib.hid hp
        have HC2 : Hid (Calls Tryz.prog 154 #[.agg #[.int .i32 x.1, .int .i32 x.2], .pointer (some ⟨g, 0, none⟩)] wr fun e w' => e = .returned (.bool true) ∧ Below wr.heap.size wr w') := Lib.hid (HC.out.mono fun e w' ⟨he, hb⟩ => ⟨by rw [he]; unfold inPr at hp; rw [hp], hb⟩)
        clear hx cx hp
        go_wp2_with (go_at_call 154; refine HC2.out.mono ?_; rintro e w1 ⟨rfl, hb1⟩)
        go_ret
        refine ⟨k, rfl, ?_, below_tail HB.out hb1⟩
        rw [HO.out (by rw [HT.out, HP.out]; simp)]
        simp
def AmPost (l : List (Int × Int)) (r : Int) (w : World) (e : Ending) (w' : World) : Prop := e = .returned (.bool (amongB l r)) ∧ Below w.heap.size w w'
theorem containsPr_any (r : Int) (g a : Nat) (l : List (Int × Int)) (w : World) (hg : w.cell? ⟨g, 0, none⟩ = some (.int .i32 r)) (hl : GrAt encPr 2 w (some ⟨a, 0, none⟩) l) (hz : l.length ≤ 1000) :
    Calls Tryz.prog 153 #[.slice (some ⟨a, 0, none⟩) l.length l.length, .func (.func 154) #[] #[.pointer (some ⟨g, 0, none⟩)]] w (AmPost l r w) := by
  have HI := Lib.hid (indexPr_any r g a l w hg hl hz)
  clear hg hl
  go_enter Tryz.func153, Tryz.ntmps153
  go_wp2_with (go_at_call 155; refine HI.out.mono ?_; rintro e w1 ⟨n, rfl, hn, hb⟩; have HN := Lib.hid hn; clear hn)
  go_ret
  exact ⟨by rw [HN.out]; rfl, hb⟩
theorem among_any (r : Int) (a : Nat) (l : List (Int × Int)) (w : World) (hl : GrAt encPr 2 w (some ⟨a, 0, none⟩) l) (hz : l.length ≤ 1000) :
    Calls Tryz.prog 144 #[.slice (some ⟨a, 0, none⟩) l.length l.length, .int .i32 r] w (AmPost l r w) := by
  have hb0 := below_allocs (Below.refl w.heap.size w) (.cells #[.int .i32 r] 21)
  have HC := Lib.hid (containsPr_any r w.heap.size a l _ (at_ (hp_new rfl) 0 _ rfl).1 (hl.below hb0) hz)
  have HB0 := Lib.hid hb0
  clear hl hb0
  go_enter Tryz.func144, Tryz.ntmps144
  go_wp2_with (go_at_call 153; refine HC.out.mono ?_; rintro e w1 ⟨rfl, hb⟩)
  go_ret
  exact ⟨rfl, below_tail HB0.out hb⟩
set_option maxHeartbeats 1600000 in
theorem widOf_any (r : Int) (w : World) : Calls Tryz.prog 116 #[.int .i32 r] w fun e w' => e = .returned (.int .i64 (widOf r)) ∧ Below w.heap.size w w' := by
  have HN := Lib.hid (fun w => wnone_any r w)
  by_cases h0 : r < 768
  · have hw := widOf_low h0
    rw [hw]
    clear hw
    cases hn : noneW r with
    | true =>
      rw [hn] at HN
      clear hn
      go_enter Tryz.func116, Tryz.ntmps116
      go_wp2_with (go_at_call 143; refine (HN.out _).mono ?_; rintro e w1 ⟨rfl, rfl⟩)
      go_ret
      exact ⟨rfl, Below.refl _ _⟩
    | false =>
      rw [hn] at HN
      clear hn
      go_enter Tryz.func116, Tryz.ntmps116
      go_wp2_with (go_at_call 143; refine (HN.out _).mono ?_; rintro e w1 ⟨rfl, rfl⟩)
      go_ret
      exact ⟨rfl, Below.refl _ _⟩
  · have HM := Lib.hid (fun w => wmarks_any w)
    have HW := Lib.hid (fun w => wwides_any w)
    have HA1 := Lib.hid (fun a w hl => among_any r a marksT w hl (by decide))
    have HA2 := Lib.hid (fun a w hl => among_any r a widesT w hl (by decide))
    unfold widOf
    unfold AmPost at HA1 HA2
    generalize noneW r = b0 at HN
    generalize amongB marksT r = b1 at HA1
    generalize amongB widesT r = b2 at HA2
    cases b0 <;> cases b1 <;> cases b2
    all_goals
      go_enter Tryz.func116, Tryz.ntmps116
      go_wp2_with (first
        | (go_at_call 143; refine (HN.out _).mono ?_; rintro e w1 ⟨rfl, rfl⟩)
        | (go_at_call 145; refine (HM.out _).mono ?_; rintro e w2 ⟨g, rfl, hg, hb2⟩; have HG := Lib.hid hg; have HB := Lib.hid hb2; clear hg hb2)
        | (go_at_call 146; refine (HW.out _).mono ?_; rintro e w4 ⟨g2, rfl, hg, hb2⟩; have HG2 := Lib.hid hg; have HB3 := Lib.hid (below_tail HB2.out hb2); clear hg hb2)
        | (go_at_call 144; first
            | (have hpv := HB3.out; clear hpv; refine (HA2.out _ _ HG2.out).mono ?_; rintro e w5 ⟨rfl, hb3⟩; have HB4 := Lib.hid (below_tail HB3.out hb3); clear hb3)
            | (refine (HA1.out _ _ HG.out).mono ?_; rintro e w3 ⟨rfl, hb3⟩; have HB2 := Lib.hid (below_tail HB.out hb3); clear hb3)))
      go_ret
      exact ⟨rfl, by first | exact HB4.out | exact HB2.out | exact Below.refl _ _⟩
end Go.Proofs.YtffdblmdelgkaaaGreat
