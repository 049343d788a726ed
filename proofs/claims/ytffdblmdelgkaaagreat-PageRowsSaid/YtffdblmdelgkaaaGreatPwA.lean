/- Pages: the document's example. Conditions: none. -/
import Derived.Test.YtffdblmdelgkaaaGreatPaN
namespace Go.Proofs.YtffdblmdelgkaaaGreat
open Go.RowKit

theorem contP_gone (g : Pg) (y : Int) (b : Bool) : (contP g y b).hist.length = g.hist.length ∧ (contP g y b).gone = g.gone := by
  obtain ⟨h1, h2, -⟩ := contP_hist g y b
  exact ⟨by rw [h1], h2⟩
theorem up_one (g : Pg) (bo : Nat) (b : Col) (hr : g.room = 1) (hh : g.hist.length ≤ 1) : (upP g 0 bo b).hist.length = 1 ∧ (upP g 0 bo b).gone = (if g.hist.length = 1 then g.gone + 1 else g.gone) := by
  unfold upP
  rw [if_neg (by omega)]
  simp only []
  obtain ⟨a1, a2⟩ := contP_gone { (if (pushP (tellP g 0 ((g.hist.length : Int) + bo + 1) 1) (g.scr.getD 0 ⟨[], false⟩)).2 = true then tellP (pushP (tellP g 0 ((g.hist.length : Int) + bo + 1) 1) (g.scr.getD 0 ⟨[], false⟩)).1 2 0 1 else (pushP (tellP g 0 ((g.hist.length : Int) + bo + 1) 1) (g.scr.getD 0 ⟨[], false⟩)).1) with scr := slideUp g.scr 0 bo (blankR g.cols b) } ((bo : Int) + 1) false
  rw [a1, a2, pushP_eq _ _ (show (tellP g 0 ((g.hist.length : Int) + bo + 1) 1).hist.length ≤ _ from by show g.hist.length ≤ g.room; omega)]
  simp only []
  show (if decide (g.hist.length = g.room) = true then _ else _ : Pg).hist.length = 1 ∧ (if decide (g.hist.length = g.room) = true then _ else _ : Pg).gone = _
  by_cases h : g.hist.length = 1
  · rw [if_pos (decide_eq_true (show g.hist.length = g.room by omega)), if_pos h]
    refine ⟨?_, ?_⟩
    · show (pushH g.room g.hist _).length = 1
      unfold pushH
      rw [if_neg (by omega), if_pos (by omega), List.length_append, List.length_drop, List.length_singleton]
      omega
    · show pushG g.room g.hist g.gone = _
      unfold pushG
      rw [if_pos (by omega)]
  · rw [if_neg (show ¬ decide (g.hist.length = g.room) = true from by rw [decide_eq_false (show ¬ g.hist.length = g.room by omega)]; decide), if_neg h]
    refine ⟨?_, ?_⟩
    · show (pushH g.room g.hist _).length = 1
      unfold pushH
      rw [if_neg (by omega), if_neg (by omega), List.length_append, List.length_singleton]
      omega
    · show pushG g.room g.hist g.gone = _
      unfold pushG
      rw [if_neg (by omega)]
def aw1 : Pg := rowP (newP 2 2 1) 0 (fun l => putL l 0 97 ⟨0, 0, 0, 0, 0⟩)
def aw2 : Pg := timesP aw1 0 1 2 (fun t bo g => upP g t bo zeroCol)
def aw3 : Pg := timesP aw2 0 1 1 (fun t bo g => upP g t bo zeroCol)
theorem aw1_ok : aw1.scr.length = 2 ∧ aw1.hist.length = 0 ∧ aw1.gone = 0 ∧ aw1.room = 1 ∧ aw1.told.length = 0 := by
  unfold aw1
  refine ⟨?_, ?_, ?_, ?_, ?_⟩
  · rw [(rowP_len _ _).1]; rfl
  all_goals (unfold rowP; split <;> rfl)
theorem aw2_eq : aw2 = upP (upP aw1 0 1 zeroCol) 0 1 zeroCol := by
  unfold aw2 timesP
  have h := aw1_ok
  rw [if_pos (by unfold inP; rw [h.1]; rfl)]
  rfl
theorem aw2_ok : aw2.scr.length = 2 ∧ aw2.hist.length = 1 ∧ aw2.gone = 1 ∧ aw2.room = 1 ∧ aw2.told.length ≤ 10 := by
  rw [aw2_eq]
  obtain ⟨h1, h2, h3, h4, h5⟩ := aw1_ok
  have c1 := calm_up zeroCol 0 1 aw1 (by omega) (by omega)
  have u1 := up_one aw1 1 zeroCol h4 (by omega)
  simp only at c1
  have c2 := calm_up zeroCol 0 1 (upP aw1 0 1 zeroCol) (by omega) (by omega)
  have u2 := up_one (upP aw1 0 1 zeroCol) 1 zeroCol (by omega) (by omega)
  simp only at c2
  rw [if_neg (by omega)] at u1
  rw [if_pos u1.1] at u2
  refine ⟨by omega, u2.1, by rw [u2.2, u1.2, h3]; rfl, by omega, by omega⟩
theorem aw3_eq : aw3 = upP aw2 0 1 zeroCol := by
  unfold aw3 timesP
  have h := aw2_ok
  rw [if_pos (by unfold inP; rw [h.1]; rfl)]
  rfl
theorem aw3_ok : aw3.scr.length = 2 ∧ aw3.hist.length = 1 ∧ aw3.gone = 2 := by
  rw [aw3_eq]
  obtain ⟨h1, h2, h3, h4, h5⟩ := aw2_ok
  have c1 := calm_up zeroCol 0 1 aw2 (by omega) (by omega)
  have u1 := up_one aw2 1 zeroCol h4 (by omega)
  simp only at c1
  rw [if_pos h2] at u1
  exact ⟨by omega, u1.1, by rw [u1.2, h3]; rfl⟩
set_option maxRecDepth 100000 in
set_option maxHeartbeats 3200000 in
theorem awake13 (w : World) : Calls Tryz.prog 7 #[] w (TruePost w) := by
  have HN := Lib.hid (pnew_ok 2 2 1 w (by omega) (by omega) (by omega) (by omega) (by omega))
  go_enter Tryz.func7, Tryz.ntmps7
  go_upto_region 4 with (go_at_call 23; refine HN.out.mono ?_; rintro e w1 ⟨q, rfl, hq, hb⟩; have HQ := Lib.hid hq; have HB := Lib.hid hb; clear hq hb)
  have H1 := Lib.hid (pPut_any HQ.out 0 0 97 ⟨0, 0, 0, 0, 0⟩)
  have H2 : Hid (∀ w2, PgRes w.heap.size w1 q aw1 w2 → Calls Tryz.prog 25 #[.pointer (some ⟨q.P, 0, none⟩), .int .i64 0, .int .i64 1, .int .i64 2, .agg #[.int .i64 0, .int .i64 0]] w2 (PgPost w.heap.size w1 q aw2)) := Lib.hid (fun w2 hs => pg_then hs (fun q1 e h => by rw [← e]; exact pUp_any h 0 1 2 zeroCol (by have := aw1_ok; omega) (by omega) (by omega)))
  have H3 : Hid (∀ w2, PgRes w.heap.size w1 q aw2 w2 → Calls Tryz.prog 25 #[.pointer (some ⟨q.P, 0, none⟩), .int .i64 0, .int .i64 1, .int .i64 1, .agg #[.int .i64 0, .int .i64 0]] w2 (PgPost w.heap.size w1 q aw3)) := Lib.hid (fun w2 hs => pg_then hs (fun q1 e h => by rw [← e]; exact pUp_any h 0 1 1 zeroCol (by have := aw2_ok; omega) (by omega) (by omega)))
  have H4 : Hid (∀ w2, PgRes w.heap.size w1 q aw3 w2 → Calls Tryz.prog 17 #[.pointer (some ⟨q.P, 0, none⟩)] w2 fun e w3 => e = .returned (.int .i64 1) ∧ w2 = w3) := Lib.hid (fun w2 hs => by have := base_then hs; rw [aw3_ok.2.1] at this; exact this)
  have H5 : Hid (∀ w2, PgRes w.heap.size w1 q aw3 w2 → Calls Tryz.prog 26 #[.pointer (some ⟨q.P, 0, none⟩)] w2 fun e w3 => e = .returned (.int .u64 2) ∧ w2 = w3) := Lib.hid (fun w2 hs => by
    obtain ⟨q1, e1, -, h1, -⟩ := hs
    have := pGone_any h1
    rw [e1, aw3_ok.2.2] at this
    exact this)
  have H6 : Hid (∀ w2, PgRes w.heap.size w1 q aw3 w2 → Calls Tryz.prog 16 #[.pointer (some ⟨q.P, 0, none⟩)] w2 fun e w3 => (∃ A c, e = .returned (.slice A 3 c)) ∧ Below w2.heap.size w2 w3) := Lib.hid (fun w2 hs => by
    obtain ⟨q1, e1, -, h1, -⟩ := hs
    have := pAll_any h1
    rw [e1] at this
    refine this.mono ?_
    rintro e w3 ⟨v, L, rfl, hro, hmp, hb⟩
    obtain ⟨A, c, rfl⟩ := row_form hro.1
    have hl : L.length = 3 := by have := congrArg List.length hmp; have := aw3_ok; simp at *; omega
    exact ⟨⟨A, c, by rw [hl]⟩, hb⟩)
  have HLT := Lib.hid HQ.out.lt
  go_wp2_with (first
    | (go_at_call 24; (with_reducible refine H1.out.mono ?_); rintro e w2 ⟨rfl, hs⟩; have HS1 : Hid (PgRes w.heap.size w1 q aw1 w2) := Lib.hid hs; clear hs)
    | (go_at_call 25; first
        | (have hpv := HS2.out; clear hpv; (with_reducible refine (H3.out _ HS2.out).mono ?_); rintro e w4 ⟨rfl, hs⟩; have HS3 := Lib.hid hs; clear hs)
        | ((with_reducible refine (H2.out _ HS1.out).mono ?_); rintro e w3 ⟨rfl, hs⟩; have HS2 := Lib.hid hs; clear hs))
    | (go_at_call 17; (with_reducible refine (H4.out _ HS3.out).mono ?_); rintro e w9 ⟨rfl, rfl⟩)
    | (go_at_call 26; (with_reducible refine (H5.out _ HS3.out).mono ?_); rintro e w9 ⟨rfl, rfl⟩)
    | (go_at_call 16; (with_reducible refine (H6.out _ HS3.out).mono ?_); rintro e w5 ⟨⟨A5, c5, rfl⟩, hb⟩; have HB5 := Lib.hid hb; clear hb))
  go_ret
  refine ⟨rfl, ?_⟩
  obtain ⟨q', -, -, -, hm, -⟩ := HS3.out
  exact (HB.out.trans (hm.below (B := w.heap.size) (fun b hb => (HLT.out b hb).1) HB.out.size)).trans (HB5.out.mono (Nat.le_trans HB.out.size hm.size))
end Go.Proofs.YtffdblmdelgkaaaGreat
