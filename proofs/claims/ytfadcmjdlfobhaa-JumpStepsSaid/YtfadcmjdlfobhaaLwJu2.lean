/- JumpSteps, JumpNext, JumpBack: the walks of the laws. Conditions: none. -/
import Derived.Test.YtfadcmjdlfobhaaJuH
namespace Go.Proofs.Ytfadcmjdlfobhaa
open Go.RowKit Go.Sort

theorem up_min {l : List Int} {a n : Int} {K : Nat} (hz : l.length ≤ 60) (hn : 0 ≤ n) (hK : min 100 n = (K : Int)) : up l n.toNat a = up l K a := by
  by_cases h : n ≤ 100
  · rw [show n.toNat = K by omega]
  · exact up_big (by omega) (by omega)
theorem dn_min {l : List Int} {a n : Int} {K : Nat} (hz : l.length ≤ 60) (hn : n < 0) (hK : min 100 (-n) = (K : Int)) : dn l (-n).toNat a = dn l K a := by
  by_cases h : -n ≤ 100
  · rw [show (-n).toNat = K by omega]
  · exact dn_big (by omega) (by omega)
set_option maxRecDepth 100000 in
set_option maxHeartbeats 3200000 in
theorem JumpSteps_walk (A : Option Addr) (l : List Int) (ca : Nat) (a n : Int) (w : World) (hm : l.length ≤ 9223372036854775807) (hl : IntsAt w A l) :
    Calls Try.prog 7 #[.slice A l.length ca, .int .i64 a, .int .i64 n] w fun e w' => e = .returned (.bool true) ∧ Below w.heap.size w w' := by
  have HL := Lib.hid hl
  clear hl
  by_cases hbig : 60 < l.length
  · go_enter Try.func7, Try.ntmps7
    go_wp2_with (go_at_call 30; refine (awake25 _).mono ?_; rintro e w3 ⟨rfl, hb3⟩)
    go_ret
    exact ⟨by simp, hb3⟩
  · by_cases hn : 0 ≤ n
    · obtain ⟨K, hK⟩ : ∃ K : Nat, min 100 n = (K : Int) := ⟨(min 100 n).toNat, by omega⟩
      have HM := Lib.hid (up_min (l := l) (a := a) (by omega) hn hK)
      have hK1 : (K : Int) ≤ 100 := by omega
      have hK2 : (K : Int) ≤ n := by omega
      have HK3 := Lib.hid (show (K : Int) = 100 ∨ (K : Int) = n by omega)
      clear hK
      go_enter Try.func7, Try.ntmps7
      go_wp2_with (go_at_call 30; refine (awake25 _).mono ?_; rintro e w1 ⟨rfl, hb1⟩)
      have HL1 := Lib.hid (HL.out.below hb1)
      have HB1 := Lib.hid hb1
      clear hb1 HL
      go_loop [7, 8] (fun t i => ∃ k : Nat, k ≤ K ∧ i = .int .i64 k ∧ t = .int .i64 (up l k a)) (fun _ i => K - (intOf i).toNat)
      case atStart => exact ⟨0, Nat.zero_le _, rfl, rfl⟩
      case round =>
        obtain ⟨k, hk, rfl, rfl⟩ := hrel
        by_cases hlt : k < K
        rotate_left
        · obtain rfl : k = K := by omega
          generalize hu : up l k a = u at HM
          clear hu
          by_cases h100 : (k : Int) < 100
          · have hkn : ¬ (k : Int) < n := by have := HK3.out; omega
            go_wp2
            go_loop [7, 11] (fun t i => i = .int .i64 0 ∧ t = .int .i64 u) (fun _ _ => 0)
            case atStart => exact ⟨rfl, rfl⟩
            case round =>
              obtain ⟨rfl, rfl⟩ := hrel
              have hn0 : ¬ n < 0 := by omega
              have HS := Lib.hid (Step_up A l ca a n w1 HL1.out (by omega) hn)
              rw [HM.out] at HS
              go_wp2_with (go_at_call 33; refine HS.out.mono ?_; rintro e w4 ⟨rfl, hb4⟩)
              go_ret
              exact ⟨by simp, below_tail HB1.out hb4⟩
          · go_wp2
            go_loop [7, 11] (fun t i => i = .int .i64 0 ∧ t = .int .i64 u) (fun _ _ => 0)
            case atStart => exact ⟨rfl, rfl⟩
            case round =>
              obtain ⟨rfl, rfl⟩ := hrel
              have hn0 : ¬ n < 0 := by omega
              have HS := Lib.hid (Step_up A l ca a n w1 HL1.out (by omega) hn)
              rw [HM.out] at HS
              go_wp2_with (go_at_call 33; refine HS.out.mono ?_; rintro e w4 ⟨rfl, hb4⟩)
              go_ret
              exact ⟨by simp, below_tail HB1.out hb4⟩
        · have hk1 : (k : Int) < 100 := by omega
          have hk2 : (k : Int) < n := by omega
          have HN := Lib.hid (RNext_any A l ca (up l k a) w1 HL1.out (by omega))
          have HSU := Lib.hid (show up l (k + 1) a = (nxt l (up l k a)).getD (up l k a) from rfl)
          generalize up l k a = x at HN HSU ⊢
          generalize nxt l x = o at HN HSU
          cases o with
          | none =>
            go_wp2_with (go_at_call 31; refine HN.out.mono ?_; rintro e w3 ⟨rfl, rfl⟩; simp only [optI, Option.getD_none, Option.isSome_none])
            go_round
            case rel => exact ⟨k + 1, by omega, by go_num, by rw [HSU.out]; rfl⟩
            case measure => simp [intOf]; omega
          | some y =>
            go_wp2_with (go_at_call 31; refine HN.out.mono ?_; rintro e w3 ⟨rfl, rfl⟩; simp only [optI, Option.getD_some, Option.isSome_some])
            go_round
            case rel => exact ⟨k + 1, by omega, by go_num, by rw [HSU.out]; rfl⟩
            case measure => simp [intOf]; omega
    · have hn' : n < 0 := by omega
      obtain ⟨K, hK⟩ : ∃ K : Nat, min 100 (-n) = (K : Int) := ⟨(min 100 (-n)).toNat, by omega⟩
      have HM := Lib.hid (dn_min (l := l) (a := a) (by omega) hn' hK)
      have hK1 : (K : Int) ≤ 100 := by omega
      have hK2 : (K : Int) ≤ -n := by omega
      have HK3 := Lib.hid (show (K : Int) = 100 ∨ (K : Int) = -n by omega)
      clear hK
      go_enter Try.func7, Try.ntmps7
      go_wp2_with (go_at_call 30; refine (awake25 _).mono ?_; rintro e w1 ⟨rfl, hb1⟩)
      have HL1 := Lib.hid (HL.out.below hb1)
      have HB1 := Lib.hid hb1
      clear hb1 HL
      go_loop [7, 8] (fun t i => i = .int .i64 0 ∧ t = .int .i64 a) (fun _ _ => 0)
      case atStart => exact ⟨rfl, rfl⟩
      case round =>
        obtain ⟨rfl, rfl⟩ := hrel
        go_wp2
        go_loop [7, 11] (fun t i => ∃ k : Nat, k ≤ K ∧ i = .int .i64 (-(k : Int)) ∧ t = .int .i64 (dn l k a)) (fun _ i => K - (-(intOf i)).toNat)
        case atStart => exact ⟨0, Nat.zero_le _, rfl, rfl⟩
        case round =>
          obtain ⟨k, hk, rfl, rfl⟩ := hrel
          by_cases hlt : k < K
          rotate_left
          · obtain rfl : k = K := by omega
            generalize hu : dn l k a = u at HM
            clear hu
            have HS := Lib.hid (Step_dn A l ca a n w1 HL1.out (by omega) hn')
            rw [HM.out] at HS
            by_cases hk4 : (k : Int) = 100
            · have hk5 : ¬ (-100 < -(k : Int)) := by omega
              go_wp2_with (go_at_call 33; refine HS.out.mono ?_; rintro e w4 ⟨rfl, hb4⟩)
              go_ret
              exact ⟨by simp, below_tail HB1.out hb4⟩
            · have hk5 : -100 < -(k : Int) := by omega
              have hk6 : ¬ (n < -(k : Int)) := by have := HK3.out; omega
              go_wp2_with (go_at_call 33; refine HS.out.mono ?_; rintro e w4 ⟨rfl, hb4⟩)
              go_ret
              exact ⟨by simp, below_tail HB1.out hb4⟩
          · have hk1 : -100 < -(k : Int) := by omega
            have hk2 : n < -(k : Int) := by omega
            have HN := Lib.hid (RAhead_any A l ca (dn l k a) w1 HL1.out (by omega))
            have HSU := Lib.hid (show dn l (k + 1) a = (ahd l (dn l k a)).getD (dn l k a) from rfl)
            generalize dn l k a = x at HN HSU ⊢
            generalize ahd l x = o at HN HSU
            cases o with
            | none =>
              go_wp2_with (go_at_call 32; refine HN.out.mono ?_; rintro e w3 ⟨rfl, rfl⟩; simp only [optI, Option.getD_none, Option.isSome_none])
              go_round
              case rel => exact ⟨k + 1, by omega, by congr 1; omega, by rw [HSU.out]; rfl⟩
              case measure => simp [intOf]; omega
            | some y =>
              go_wp2_with (go_at_call 32; refine HN.out.mono ?_; rintro e w3 ⟨rfl, rfl⟩; simp only [optI, Option.getD_some, Option.isSome_some])
              go_round
              case rel => exact ⟨k + 1, by omega, by congr 1; omega, by rw [HSU.out]; rfl⟩
              case measure => simp [intOf]; omega
end Go.Proofs.Ytfadcmjdlfobhaa
