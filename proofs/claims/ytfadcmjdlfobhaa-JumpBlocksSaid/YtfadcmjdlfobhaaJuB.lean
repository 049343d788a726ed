/- The document's Next, Ahead, Far and Sorted; the program's far; numbers compared. Conditions: as stated. -/
import Derived.Test.YtfadcmjdlfobhaaJuA
import Derived.Test.YtfadcmjdlfobhaaJuPl3
import Derived.Deep.CutBlock
namespace Go.Proofs.Ytfadcmjdlfobhaa
open Go.RowKit

/-- The best so far, as it lies in two slots. -/
def OptE (o : Option Int) (b : Int) (f : Bool) : Prop := o = (if f then some b else none) ∧ (f = false → b = 0)
theorem OptE.val {o : Option Int} {b : Int} {f : Bool} (h : OptE o b f) : Value.tuple #[.int .i64 b, .bool f] = optI o := by
  obtain ⟨rfl, h2⟩ := h
  cases f
  · rw [h2 rfl]; rfl
  · rfl
theorem OptE.none : OptE none 0 false := ⟨rfl, fun _ => rfl⟩
theorem OptE.of (o : Option Int) : OptE o (o.getD 0) o.isSome := by cases o <;> exact ⟨rfl, by simp⟩
theorem OptE.nOn {o : Option Int} {b a x : Int} {f : Bool} (h : OptE o b f) (hax : a < x) (hb : f = false ∨ x < b) : OptE (bestN a o x) x true := by
  obtain ⟨rfl, -⟩ := h
  refine ⟨?_, by simp⟩
  cases f
  · simp [bestN, hax]
  · simp at hb; simp [bestN, hax, hb]
theorem OptE.nOff {o : Option Int} {b a x : Int} {f : Bool} (h : OptE o b f) (hh : ¬ a < x ∨ f = true ∧ ¬ x < b) : OptE (bestN a o x) b f := by
  obtain ⟨rfl, h2⟩ := h
  refine ⟨?_, h2⟩
  cases f
  · simp at hh; simp [bestN]; omega
  · have : ¬ (a < x ∧ x < b) := by rcases hh with h | ⟨_, h⟩ <;> omega
    simp only [if_true, bestN, if_neg this]
theorem OptE.aOn {o : Option Int} {b a x : Int} {f : Bool} (h : OptE o b f) (hax : x < a) (hb : f = false ∨ b < x) : OptE (bestA a o x) x true := by
  obtain ⟨rfl, -⟩ := h
  refine ⟨?_, by simp⟩
  cases f
  · simp [bestA, hax]
  · simp at hb; simp [bestA, hax, hb]
theorem OptE.aOff {o : Option Int} {b a x : Int} {f : Bool} (h : OptE o b f) (hh : ¬ x < a ∨ f = true ∧ ¬ b < x) : OptE (bestA a o x) b f := by
  obtain ⟨rfl, h2⟩ := h
  refine ⟨?_, h2⟩
  cases f
  · simp at hh; simp [bestA]; omega
  · have : ¬ (x < a ∧ b < x) := by rcases hh with h | ⟨_, h⟩ <;> omega
    simp only [if_true, bestA, if_neg this]
set_option maxRecDepth 100000 in
set_option maxHeartbeats 1600000 in
theorem RNext_any (A : Option Addr) (l : List Int) (ca : Nat) (a : Int) (w : World) (hl : IntsAt w A l) (hz : l.length ≤ 9223372036854775807) :
    Calls Try.prog 31 #[.slice A l.length ca, .int .i64 a] w fun e w' => e = .returned (optI (nxt l a)) ∧ w = w' := by
  have HL := Lib.hid hl
  clear hl
  go_enter Try.func31, Try.ntmps31
  go_wp2_with fail
  go_loop [6, 7, 8] (fun b f i => ∃ (k : Nat) (bv : Int) (fv : Bool), k ≤ l.length ∧ i = .int .i64 k ∧ b = .int .i64 bv ∧ f = .bool fv ∧ OptE (nxt (l.take k) a) bv fv) (fun _ _ i => l.length - (intOf i).toNat)
  case atStart => exact ⟨0, 0, false, Nat.zero_le _, rfl, rfl, rfl, OptE.none⟩
  case round =>
    obtain ⟨k, bv, fv, hk, rfl, rfl, rfl, ho⟩ := hrel
    have HO := Lib.hid ho
    clear ho
    by_cases hlt : k < l.length
    rotate_left
    · obtain rfl : k = l.length := by omega
      go_wp2
      go_ret2
      refine ⟨?_, rfl⟩
      have := HO.out.val
      rw [List.take_length] at this
      rw [← this]; rfl
    · obtain ⟨b, off, x, rfl, hx, c0⟩ := HL.out.at_ hlt
      have HT := Lib.hid (nxt_take (a := a) hx)
      clear hx
      have hlt' : (k : Int) < (l.length : Int) := by omega
      by_cases h1 : a < x
      · cases fv
        · go_wp2
          go_round
          case rel => exact ⟨k + 1, x, true, by omega, by go_num, rfl, rfl, by rw [HT.out]; exact HO.out.nOn h1 (.inl rfl)⟩
          case measure => simp [intOf]; omega
        · by_cases h2 : x < bv
          · go_wp2
            go_round
            case rel => exact ⟨k + 1, x, true, by omega, by go_num, rfl, rfl, by rw [HT.out]; exact HO.out.nOn h1 (.inr h2)⟩
            case measure => simp [intOf]; omega
          · go_wp2
            go_round
            case rel => exact ⟨k + 1, bv, true, by omega, by go_num, rfl, rfl, by rw [HT.out]; exact HO.out.nOff (.inr ⟨rfl, h2⟩)⟩
            case measure => simp [intOf]; omega
      · go_wp2
        go_round
        case rel => exact ⟨k + 1, bv, fv, by omega, by go_num, rfl, rfl, by rw [HT.out]; exact HO.out.nOff (.inl h1)⟩
        case measure => simp [intOf]; omega
set_option maxRecDepth 100000 in
set_option maxHeartbeats 1600000 in
theorem RAhead_any (A : Option Addr) (l : List Int) (ca : Nat) (a : Int) (w : World) (hl : IntsAt w A l) (hz : l.length ≤ 9223372036854775807) :
    Calls Try.prog 32 #[.slice A l.length ca, .int .i64 a] w fun e w' => e = .returned (optI (ahd l a)) ∧ w = w' := by
  have HL := Lib.hid hl
  clear hl
  go_enter Try.func32, Try.ntmps32
  go_wp2_with fail
  go_loop [6, 7, 8] (fun b f i => ∃ (k : Nat) (bv : Int) (fv : Bool), k ≤ l.length ∧ i = .int .i64 k ∧ b = .int .i64 bv ∧ f = .bool fv ∧ OptE (ahd (l.take k) a) bv fv) (fun _ _ i => l.length - (intOf i).toNat)
  case atStart => exact ⟨0, 0, false, Nat.zero_le _, rfl, rfl, rfl, OptE.none⟩
  case round =>
    obtain ⟨k, bv, fv, hk, rfl, rfl, rfl, ho⟩ := hrel
    have HO := Lib.hid ho
    clear ho
    by_cases hlt : k < l.length
    rotate_left
    · obtain rfl : k = l.length := by omega
      go_wp2
      go_ret2
      refine ⟨?_, rfl⟩
      have := HO.out.val
      rw [List.take_length] at this
      rw [← this]; rfl
    · obtain ⟨b, off, x, rfl, hx, c0⟩ := HL.out.at_ hlt
      have HT := Lib.hid (ahd_take (a := a) hx)
      clear hx
      have hlt' : (k : Int) < (l.length : Int) := by omega
      by_cases h1 : x < a
      · cases fv
        · go_wp2
          go_round
          case rel => exact ⟨k + 1, x, true, by omega, by go_num, rfl, rfl, by rw [HT.out]; exact HO.out.aOn h1 (.inl rfl)⟩
          case measure => simp [intOf]; omega
        · by_cases h2 : bv < x
          · go_wp2
            go_round
            case rel => exact ⟨k + 1, x, true, by omega, by go_num, rfl, rfl, by rw [HT.out]; exact HO.out.aOn h1 (.inr h2)⟩
            case measure => simp [intOf]; omega
          · go_wp2
            go_round
            case rel => exact ⟨k + 1, bv, true, by omega, by go_num, rfl, rfl, by rw [HT.out]; exact HO.out.aOff (.inr ⟨rfl, h2⟩)⟩
            case measure => simp [intOf]; omega
      · go_wp2
        go_round
        case rel => exact ⟨k + 1, bv, fv, by omega, by go_num, rfl, rfl, by rw [HT.out]; exact HO.out.aOff (.inl h1)⟩
        case measure => simp [intOf]; omega
set_option maxRecDepth 100000 in
set_option maxHeartbeats 1600000 in
theorem RFar_any (a b : Int) (w : World) (ha : okI a) (hb : okI b) :
    Calls Try.prog 40 #[.int .i64 a, .int .i64 b] w fun e w' => e = .returned (.int .u64 (dist a b)) ∧ w = w' := by
  by_cases h : b < a
  · have hw := Lib.hid (u64_sub (by omega) ha hb)
    have e : dist a b = a - b := by unfold dist; rw [if_neg (by omega)]
    rw [e]; clear ha hb e
    go_enter Try.func40, Try.ntmps40
    go_wp2
    go_ret
    refine ⟨?_, rfl⟩
    rw [hw.out]; rfl
  · have hw := Lib.hid (u64_sub (show a ≤ b by omega) hb ha)
    have e : dist a b = b - a := by unfold dist; split <;> omega
    rw [e]; clear ha hb e
    go_enter Try.func40, Try.ntmps40
    go_wp2
    go_ret
    refine ⟨?_, rfl⟩
    rw [hw.out]; rfl
set_option maxRecDepth 100000 in
set_option maxHeartbeats 1600000 in
theorem far_any (a b : Int) (w : World) (ha : okI a) (hb : okI b) :
    Calls Try.prog 60 #[.int .i64 a, .int .i64 b] w fun e w' => e = .returned (.int .u64 (dist a b)) ∧ w = w' := by
  by_cases h : a < b
  · have hw := Lib.hid (u64_sub (show a ≤ b by omega) hb ha)
    have e : dist a b = b - a := by unfold dist; rw [if_pos h]
    rw [e]; clear ha hb e
    go_enter Try.func60, Try.ntmps60
    go_wp2
    go_ret
    refine ⟨?_, rfl⟩
    rw [hw.out]; rfl
  · have hw := Lib.hid (u64_sub (show b ≤ a by omega) ha hb)
    have e : dist a b = a - b := by unfold dist; rw [if_neg h]
    rw [e]; clear ha hb e
    go_enter Try.func60, Try.ntmps60
    go_wp2
    go_ret
    refine ⟨?_, rfl⟩
    rw [hw.out]; rfl
end Go.Proofs.Ytfadcmjdlfobhaa
