/- jump.Step, on and back. Conditions: as stated. -/
import Derived.Test.YtfadcmjdlfobhaaJuE
namespace Go.Proofs.Ytfadcmjdlfobhaa
open Go.RowKit Go.Sort

set_option maxRecDepth 100000 in
set_option maxHeartbeats 3200000 in
theorem Step_up (A : Option Addr) (l : List Int) (ca : Nat) (a n : Int) (w : World) (hl : IntsAt w A l) (hz : l.length ≤ 1000) (hn : 0 ≤ n) :
    Calls Try.prog 33 #[.slice A l.length ca, .int .i64 a, .int .i64 n] w fun e w' => e = .returned (.int .i64 (up l n.toNat a)) ∧ Below w.heap.size w w' := by
  have HS := Lib.hid (JSort_any A l ca w hl (by omega))
  have hsl := srtd_len l
  have HR := Lib.hid (srtd_ok l).1
  rw [← up_congr (srtd_ok l).2 a]
  clear hl
  generalize srtd l = s at HS hsl HR ⊢
  obtain ⟨M, hM, hM2, hU⟩ : ∃ M : Nat, min n ((s.length : Int) + 1) = (M : Int) ∧ M ≤ 1001 ∧ up s n.toNat a = up s M a := by
    by_cases h : n ≤ (s.length : Int) + 1
    · exact ⟨n.toNat, by omega, by omega, rfl⟩
    · exact ⟨s.length + 1, by omega, by omega, up_big (by omega) (by omega)⟩
  rw [hU]
  have HU := Lib.hid hU
  clear hU
  have key : (n = (M : Int) ∧ (M : Int) ≤ (s.length : Int) + 1) ∨ ((M : Int) = (s.length : Int) + 1 ∧ (s.length : Int) + 1 < n) := by omega
  clear hM
  rcases key with ⟨rfl, hM⟩ | ⟨hM, hM3⟩
  all_goals
    go_enter Try.func33, Try.ntmps33
    go_wp2_with (go_at_call 35; refine HS.out.mono ?_; rintro e w1 ⟨v, rfl, how, hb1⟩; obtain ⟨A1, c1, rfl, -, -, -, hg⟩ := ints_of_owns how rfl; have HG := Lib.hid hg; have HB1 := Lib.hid hb1; clear how hg hb1)
    try rw [← hM]
    go_loopw [1, 29] (fun at_ i wr => ∃ k : Nat, k ≤ M ∧ i = .int .i64 k ∧ at_ = .int .i64 (up s k a) ∧ Below w1.heap.size w1 wr) (fun _ i _ => M - (intOf i).toNat)
    case atStart => exact ⟨0, Nat.zero_le _, rfl, rfl, Below.refl _ _⟩
    case round =>
      obtain ⟨k, hk, rfl, rfl, hB⟩ := hrel
      by_cases hlt : k < M
      rotate_left
      · obtain rfl : k = M := by omega
        go_wp2
        go_ret
        exact ⟨rfl, below_tail HB1.out hB⟩
      · have HN := Lib.hid (next_any A1 s c1 (up s k a) wr (HG.out.below hB) (by omega) HR.out)
        have hlt' : (k : Int) < (M : Int) := by omega
        have hst := up_stay (l := s) (a := a) (n := k)
        have hsu : up s (k + 1) a = (nxt s (up s k a)).getD (up s k a) := rfl
        have HST := Lib.hid hst
        have HSU := Lib.hid hsu
        clear hst hsu
        generalize hx : up s k a = x at HN HST HSU
        generalize ho : nxt s x = o at HN HST HSU
        clear hx ho
        cases o with
        | none =>
          go_wp2_with (go_at_call 55; refine HN.out.mono ?_; rintro e w3 ⟨rfl, hb3⟩; simp only [optI, Option.getD_none, Option.isSome_none])
          go_ret
          refine ⟨?_, below_tail HB1.out (below_tail hB hb3)⟩
          rw [HST.out (by first | rfl | trivial) M (by omega)]
          rfl
        | some y =>
          go_wp2_with (go_at_call 55; refine HN.out.mono ?_; rintro e w3 ⟨rfl, hb3⟩; simp only [optI, Option.getD_some, Option.isSome_some])
          go_roundw
          case rel => exact ⟨k + 1, by omega, by go_num, by rw [HSU.out]; rfl, below_tail hB hb3⟩
          case measure => simp [intOf]; omega
set_option maxRecDepth 100000 in
set_option maxHeartbeats 3200000 in
theorem Step_dn (A : Option Addr) (l : List Int) (ca : Nat) (a n : Int) (w : World) (hl : IntsAt w A l) (hz : l.length ≤ 1000) (hn : n < 0) :
    Calls Try.prog 33 #[.slice A l.length ca, .int .i64 a, .int .i64 n] w fun e w' => e = .returned (.int .i64 (dn l (-n).toNat a)) ∧ Below w.heap.size w w' := by
  have HS := Lib.hid (JSort_any A l ca w hl (by omega))
  have hsl := srtd_len l
  have HR := Lib.hid (srtd_ok l).1
  rw [← dn_congr (srtd_ok l).2 a]
  clear hl
  generalize srtd l = s at HS hsl HR ⊢
  obtain ⟨M, hM, hM2, hU⟩ : ∃ M : Nat, min (-n) ((s.length : Int) + 1) = (M : Int) ∧ M ≤ 1001 ∧ dn s (-n).toNat a = dn s M a := by
    by_cases h : -n ≤ (s.length : Int) + 1
    · exact ⟨(-n).toNat, by omega, by omega, rfl⟩
    · exact ⟨s.length + 1, by omega, by omega, dn_big (by omega) (by omega)⟩
  rw [hU]
  clear hU
  have HM := Lib.hid (show min (-max n (-(s.length : Int) - 1)) ((s.length : Int) + 1) = (M : Int) by omega)
  clear hM
  go_enter Try.func33, Try.ntmps33
  go_wp2_with (go_at_call 35; refine HS.out.mono ?_; rintro e w1 ⟨v, rfl, how, hb1⟩; obtain ⟨A1, c1, rfl, -, -, -, hg⟩ := ints_of_owns how rfl; have HG := Lib.hid hg; have HB1 := Lib.hid hb1; clear how hg hb1)
  rw [HM.out]
  go_loopw [1, 29] (fun at_ i wr => ∃ k : Nat, k ≤ M ∧ i = .int .i64 k ∧ at_ = .int .i64 (dn s k a) ∧ Below w1.heap.size w1 wr) (fun _ i _ => M - (intOf i).toNat)
  case atStart => exact ⟨0, Nat.zero_le _, rfl, rfl, Below.refl _ _⟩
  case round =>
    obtain ⟨k, hk, rfl, rfl, hB⟩ := hrel
    by_cases hlt : k < M
    rotate_left
    · obtain rfl : k = M := by omega
      go_wp2
      go_ret
      exact ⟨rfl, below_tail HB1.out hB⟩
    · have HN := Lib.hid (ahead_any A1 s c1 (dn s k a) wr (HG.out.below hB) (by omega) HR.out)
      have hlt' : (k : Int) < (M : Int) := by omega
      have hst := dn_stay (l := s) (a := a) (n := k)
      have hsu : dn s (k + 1) a = (ahd s (dn s k a)).getD (dn s k a) := rfl
      have HST := Lib.hid hst
      have HSU := Lib.hid hsu
      clear hst hsu
      generalize hx : dn s k a = x at HN HST HSU
      generalize ho : ahd s x = o at HN HST HSU
      clear hx ho
      cases o with
      | none =>
        go_wp2_with (go_at_call 56; refine HN.out.mono ?_; rintro e w3 ⟨rfl, hb3⟩; simp only [optI, Option.getD_none, Option.isSome_none])
        go_ret
        refine ⟨?_, below_tail HB1.out (below_tail hB hb3)⟩
        rw [HST.out (by first | rfl | trivial) M (by omega)]
        rfl
      | some y =>
        go_wp2_with (go_at_call 56; refine HN.out.mono ?_; rintro e w3 ⟨rfl, hb3⟩; simp only [optI, Option.getD_some, Option.isSome_some])
        go_roundw
        case rel => exact ⟨k + 1, by omega, by go_num, by rw [HSU.out]; rfl, below_tail hB hb3⟩
        case measure => simp [intOf]; omega
end Go.Proofs.Ytfadcmjdlfobhaa
