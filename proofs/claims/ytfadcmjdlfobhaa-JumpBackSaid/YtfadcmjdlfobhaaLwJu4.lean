/- JumpBack: the walk of the law. Conditions: none. -/
import Derived.Test.YtfadcmjdlfobhaaJuH
namespace Go.Proofs.Ytfadcmjdlfobhaa
open Go.RowKit Go.Sort

set_option maxRecDepth 100000 in
set_option maxHeartbeats 3200000 in
theorem JumpBack_walk (A : Option Addr) (l : List Int) (ca : Nat) (i n : Int) (w : World) (hm : l.length ≤ 9223372036854775807) (hl : IntsAt w A l) (hi : 0 ≤ i ∧ i ≤ 255) (hn : 0 ≤ n ∧ n ≤ 255) :
    Calls Try.prog 9 #[.slice A l.length ca, .int .u8 i, .int .u8 n] w fun e w' => e = .returned (.bool true) ∧ Below w.heap.size w w' := by
  have HL := Lib.hid hl
  clear hl
  by_cases h0 : l.length = 0
  · have h0' : ((l.length : Int) == 0) = true := by simp [h0]
    clear h0
    go_enter Try.func9, Try.ntmps9
    go_wp2_with (go_at_call 30; refine (awake25 _).mono ?_; rintro e w3 ⟨rfl, hb3⟩)
    go_ret
    exact ⟨by simp, hb3⟩
  have h0' : ((l.length : Int) == 0) = false := by simp; exact fun e => h0 (by rw [e]; rfl)
  have hpos : 0 < l.length := by omega
  clear h0
  by_cases hbig : 60 < l.length
  · go_enter Try.func9, Try.ntmps9
    go_wp2_with (go_at_call 30; refine (awake25 _).mono ?_; rintro e w3 ⟨rfl, hb3⟩)
    go_ret
    exact ⟨by simp, hb3⟩
  obtain ⟨hi1, hi2⟩ := hi
  obtain ⟨hn1, hn2⟩ := hn
  obtain ⟨q, hq⟩ : ∃ q : Nat, i % (l.length : Int) = (q : Int) := ⟨(i % (l.length : Int)).toNat, by have := Int.emod_nonneg i (show (l.length : Int) ≠ 0 by omega); omega⟩
  have hql : (q : Int) < (l.length : Int) := by rw [← hq]; exact Int.emod_lt_of_pos _ (by omega)
  obtain ⟨K, hK⟩ : ∃ K : Nat, n % 60 = (K : Int) := ⟨(n % 60).toNat, by omega⟩
  have hK60 : (K : Int) < 60 := by omega
  obtain ⟨b, off, x, rfl, hx, c0⟩ := HL.out.at_ (i := q) (by omega)
  have HX := Lib.hid (List.mem_of_getElem? hx)
  clear hx hpos
  go_enter Try.func9, Try.ntmps9
  go_wp2_with (go_at_call 30; refine (awake25 _).mono ?_; rintro e w1 ⟨rfl, hb1⟩; replace c0 := holda hb1 c0)
  have HB1 := Lib.hid hb1
  have HL1 := Lib.hid (HL.out.below hb1)
  clear hb1 HL
  go_loopw [9, 10] (fun t j wr => ∃ k : Nat, k ≤ K ∧ j = .int .i64 k ∧ t = .int .i64 (up l k x) ∧ (∀ m, m < k → nxt l (up l m x) ≠ none) ∧ Below w1.heap.size w1 wr) (fun _ j _ => K - (intOf j).toNat)
  case atStart => exact ⟨0, Nat.zero_le _, rfl, rfl, fun m hm => absurd hm (by omega), Below.refl _ _⟩
  case round =>
    obtain ⟨k, hk, rfl, rfl, hno, hB⟩ := hrel
    have HNO := Lib.hid hno
    clear hno
    have HL2 := Lib.hid (HL1.out.below hB)
    have HS : Hid (∀ W : World, IntsAt W (some ⟨b, off, none⟩) l → Calls Try.prog 33 #[.slice (some ⟨b, off, none⟩) l.length ca, .int .i64 x, .int .i64 K] W fun e w' => e = .returned (.int .i64 (up l K x)) ∧ Below W.heap.size W w') :=
      Lib.hid fun W h => Step_up (some ⟨b, off, none⟩) l ca x K W h (by omega) (by omega)
    by_cases hlt : k < K
    · have hlt' : (k : Int) < (K : Int) := by omega
      have HN := Lib.hid (Next_any (some ⟨b, off, none⟩) l ca (up l k x) wr HL2.out (by omega))
      have HSU := Lib.hid (show up l (k + 1) x = (nxt l (up l k x)).getD (up l k x) from rfl)
      cases ho : nxt l (up l k x) with
      | none =>
        rw [ho] at HN
        have e := up_stay ho K (by omega)
        rw [e] at HS
        clear ho e HSU HNO
        generalize up l k x = t at HN HS ⊢
        go_wp2_with (first
          | (go_at_call 37; refine HN.out.mono ?_; rintro e w3 ⟨rfl, hb3⟩; simp only [optI, Option.getD_none, Option.isSome_none])
          | (go_at_call 33; refine (HS.out _ (HL2.out.below hb3)).mono ?_; rintro e w4 ⟨rfl, hb4⟩))
        go_ret
        exact ⟨by simp, below_tail HB1.out (below_tail hB (below_tail hb3 hb4))⟩
      | some y =>
        rw [ho] at HN
        have HO := Lib.hid ho
        rw [ho] at HSU
        clear ho
        generalize hu : up l k x = t at HN HO
        have HU := Lib.hid hu
        clear hu
        go_wp2_with (go_at_call 37; refine HN.out.mono ?_; rintro e w3 ⟨rfl, hb3⟩; simp only [optI, Option.getD_some, Option.isSome_some])
        go_roundw
        case rel =>
          refine ⟨k + 1, by omega, by go_num, by rw [HSU.out]; rfl, fun m hm => ?_, below_tail hB hb3⟩
          by_cases e : m = k
          · subst e; rw [HU.out, HO.out]; simp
          · exact HNO.out m (by omega)
        case measure => simp [intOf]; omega
    · obtain rfl : k = K := by omega
      obtain ⟨-, hback⟩ := up_back HX.out k HNO.out
      have HD : Hid (∀ W : World, IntsAt W (some ⟨b, off, none⟩) l → Calls Try.prog 33 #[.slice (some ⟨b, off, none⟩) l.length ca, .int .i64 (up l k x), .int .i64 (-(k : Int))] W fun e w' => e = .returned (.int .i64 x) ∧ Below W.heap.size W w') := Lib.hid fun W h => by
        rcases Nat.eq_zero_or_pos k with h0 | h0
        · subst h0
          exact Step_up (some ⟨b, off, none⟩) l ca _ _ W h (by omega) (by simp)
        · have := Step_dn (some ⟨b, off, none⟩) l ca (up l k x) (-(k : Int)) W h (by omega) (by omega)
          rw [show (-(-(k : Int))).toNat = k by omega, hback] at this
          exact this
      clear hback HNO
      generalize up l k x = t at HS HD ⊢
      go_wp2_with (first
        | (go_at_call 33; (with_reducible refine (HS.out _ HL2.out).mono ?_); rintro e w4 ⟨rfl, hb4⟩)
        | (go_at_call 33; (with_reducible refine (HD.out _ (HL2.out.below hb4)).mono ?_); rintro e w5 ⟨rfl, hb5⟩))
      go_ret
      exact ⟨by simp, below_tail HB1.out (below_tail hB (below_tail hb4 hb5))⟩
end Go.Proofs.Ytfadcmjdlfobhaa
