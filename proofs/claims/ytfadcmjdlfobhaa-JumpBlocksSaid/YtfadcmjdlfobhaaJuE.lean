/- jump.next, ahead, Next, Ahead. Conditions: as stated. -/
import Derived.Test.YtfadcmjdlfobhaaJuD
namespace Go.Proofs.Ytfadcmjdlfobhaa
open Go.RowKit Go.Sort

set_option maxRecDepth 100000 in
set_option maxHeartbeats 1600000 in
theorem next_any (A : Option Addr) (s : List Int) (ca : Nat) (x : Int) (w : World) (hl : IntsAt w A s) (hz : s.length ≤ 1000000) (hs : Rise s) :
    Calls Try.prog 55 #[.slice A s.length ca, .int .i64 x] w fun e w' => e = .returned (optI (nxt s x)) ∧ Below w.heap.size w w' := by
  have HA := Lib.hid (above_any A s ca x w hl hz hs)
  have hn := rise_nxt hs x
  have HL := Lib.hid hl
  clear hl hs
  generalize cntLe s x = k at HA hn
  generalize nxt s x = o at hn ⊢
  subst hn
  by_cases hk : k < s.length
  · obtain ⟨b, off, y, rfl, hy, c0⟩ := HL.out.at_ hk
    rw [hy]
    clear hy
    have hk' : (k : Int) < (s.length : Int) := by omega
    go_enter Try.func55, Try.ntmps55
    go_wp2_with (go_at_call 70; refine HA.out.mono ?_; rintro e w1 ⟨rfl, hb⟩; replace c0 := holda hb c0)
    go_ret2
    exact ⟨rfl, hb⟩
  · have e : s[k]? = none := List.getElem?_eq_none (by omega)
    rw [e]
    clear e
    have hk' : ¬ (k : Int) < (s.length : Int) := by omega
    go_enter Try.func55, Try.ntmps55
    go_wp2_with (go_at_call 70; refine HA.out.mono ?_; rintro e w1 ⟨rfl, hb⟩)
    go_ret2
    exact ⟨rfl, hb⟩
theorem SearchInts_any (A : Option Addr) (s : List Int) (ca : Nat) (x : Int) (w : World) (hl : IntsAt w A s) (hz : s.length ≤ 1000000) (hs : Rise s) :
    Calls Try.prog 71 #[.slice A s.length ca, .int .i64 x] w fun e w' => e = .returned (.int .i64 (cntLt s x : Nat)) ∧ Below w.heap.size w w' := by
  rcases Nat.eq_zero_or_pos s.length with h0 | h0
  · obtain rfl : s = [] := List.length_eq_zero_iff.1 h0
    exact Any.sort_SearchInts_none Try.searchInts A ca x w
  · obtain ⟨b, off, rfl, hc⟩ := hl h0
    have hblk : b < w.heap.size := lt_of_cell (hc 0 _ (List.getElem?_eq_getElem h0))
    have := Any.sort_SearchInts Try.searchInts b off ca s.toArray x w (fun i hi => by
      have hi' : i < s.length := by simpa using hi
      rw [hc i _ (List.getElem?_eq_getElem hi'), getElem!_pos s.toArray i hi]; simp) hblk (by simp; omega)
      (fun a b hab hb h => by have := rise_get hs hab (by simpa using hb); simp only [decide_eq_true_eq] at h ⊢; omega)
    have e : s.toArray.toList.countP (fun y => !decide (x ≤ y)) = cntLt s x := by
      unfold cntLt
      congr 1
      funext y
      by_cases h : x ≤ y
      · simp [h]
      · simp [h]; omega
    rw [e, List.size_toArray] at this
    exact this
set_option maxRecDepth 100000 in
set_option maxHeartbeats 1600000 in
theorem ahead_any (A : Option Addr) (s : List Int) (ca : Nat) (x : Int) (w : World) (hl : IntsAt w A s) (hz : s.length ≤ 1000000) (hs : Rise s) :
    Calls Try.prog 56 #[.slice A s.length ca, .int .i64 x] w fun e w' => e = .returned (optI (ahd s x)) ∧ Below w.heap.size w w' := by
  have HA := Lib.hid (SearchInts_any A s ca x w hl hz hs)
  have hn := rise_ahd hs x
  have HL := Lib.hid hl
  have hle : cntLt s x ≤ s.length := List.countP_le_length
  clear hl hs
  generalize cntLt s x = k at HA hn hle
  generalize ahd s x = o at hn ⊢
  subst hn
  rcases Nat.eq_zero_or_pos k with h0 | h0
  · subst h0
    rw [if_pos rfl]
    go_enter Try.func56, Try.ntmps56
    go_wp2_with (go_at_call 71; refine HA.out.mono ?_; rintro e w1 ⟨rfl, hb⟩)
    go_ret2
    exact ⟨rfl, hb⟩
  · obtain ⟨q, rfl⟩ : ∃ q, k = q + 1 := ⟨k - 1, by omega⟩
    rw [if_neg (by omega), Nat.add_sub_cancel]
    obtain ⟨b, off, y, rfl, hy, c0⟩ := HL.out.at_ (i := q) (by omega)
    rw [hy]
    clear hy
    have hw : IntKind.i64.wrap (((q + 1 : Nat) : Int) - 1) = (q : Int) := by rw [IntWalk.i64_in _ (by omega)]; omega
    have hk' : (q : Int) < (s.length : Int) := by omega
    have hne : (((q + 1 : Nat) : Int) == 0) = false := by simp; omega
    generalize ((q + 1 : Nat) : Int) = r at HA hw hne
    go_enter Try.func56, Try.ntmps56
    go_wp2_with (go_at_call 71; refine HA.out.mono ?_; rintro e w1 ⟨rfl, hb⟩; replace c0 := holda hb c0)
    go_ret2
    exact ⟨rfl, hb⟩
set_option maxRecDepth 100000 in
set_option maxHeartbeats 1600000 in
theorem Next_any (A : Option Addr) (l : List Int) (ca : Nat) (x : Int) (w : World) (hl : IntsAt w A l) (hz : l.length ≤ 1000000) :
    Calls Try.prog 37 #[.slice A l.length ca, .int .i64 x] w fun e w' => e = .returned (optI (nxt l x)) ∧ Below w.heap.size w w' := by
  have HS := Lib.hid (JSort_any A l ca w hl hz)
  have hsl := srtd_len l
  have HR := Lib.hid (srtd_ok l).1
  have hn := nxt_congr (srtd_ok l).2 x
  rw [← hn]
  clear hl hn
  generalize srtd l = s at HS hsl HR ⊢
  unfold optI
  generalize ho : nxt s x = o
  have HO := Lib.hid ho
  clear ho
  go_enter Try.func37, Try.ntmps37
  go_wp2_with (first
    | (go_at_call 35; refine HS.out.mono ?_; rintro e w1 ⟨v, rfl, how, hb1⟩; obtain ⟨A1, c1, rfl, -, -, -, hg⟩ := ints_of_owns how rfl; have HG := Lib.hid hg; clear how hg)
    | (go_at_call 55; have hc := next_any A1 s c1 x _ HG.out (by omega) HR.out; rw [HO.out] at hc; refine hc.mono ?_; clear hc; rintro e w2 ⟨rfl, hb2⟩; unfold optI))
  go_ret2
  exact ⟨rfl, below_tail hb1 hb2⟩
set_option maxRecDepth 100000 in
set_option maxHeartbeats 1600000 in
theorem Ahead_any (A : Option Addr) (l : List Int) (ca : Nat) (x : Int) (w : World) (hl : IntsAt w A l) (hz : l.length ≤ 1000000) :
    Calls Try.prog 38 #[.slice A l.length ca, .int .i64 x] w fun e w' => e = .returned (optI (ahd l x)) ∧ Below w.heap.size w w' := by
  have HS := Lib.hid (JSort_any A l ca w hl hz)
  have hsl := srtd_len l
  have HR := Lib.hid (srtd_ok l).1
  have hn := ahd_congr (srtd_ok l).2 x
  rw [← hn]
  clear hl hn
  generalize srtd l = s at HS hsl HR ⊢
  unfold optI
  generalize ho : ahd s x = o
  have HO := Lib.hid ho
  clear ho
  go_enter Try.func38, Try.ntmps38
  go_wp2_with (first
    | (go_at_call 35; refine HS.out.mono ?_; rintro e w1 ⟨v, rfl, how, hb1⟩; obtain ⟨A1, c1, rfl, -, -, -, hg⟩ := ints_of_owns how rfl; have HG := Lib.hid hg; clear how hg)
    | (go_at_call 56; have hc := ahead_any A1 s c1 x _ HG.out (by omega) HR.out; rw [HO.out] at hc; refine hc.mono ?_; clear hc; rintro e w2 ⟨rfl, hb2⟩; unfold optI))
  go_ret2
  exact ⟨rfl, below_tail hb1 hb2⟩
end Go.Proofs.Ytfadcmjdlfobhaa
