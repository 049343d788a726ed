/- jump.Nearest, Step, and the statements' example. Conditions: as stated. -/
import Derived.Test.YtfadcmjdlfobhaaJuE
namespace Go.Proofs.Ytfadcmjdlfobhaa
open Go.RowKit Go.Sort

/-- The nearest. -/
def nearO (l : List Int) (t : Int) : Option Int := if t ∈ l then some t else match ahd l t, nxt l t with
  | none, o => o
  | some a, none => some a
  | some a, some b => if dist b t < dist a t then some b else some a
theorem nearO_is {l : List Int} {t c : Int} (h : nearO l t = some c) : IsNear l t c := by
  unfold nearO at h
  by_cases ht : t ∈ l
  · rw [if_pos ht] at h
    obtain rfl := Option.some.inj h
    exact near_here ht
  · rw [if_neg ht] at h
    refine near_of ht ?_
    cases ha : ahd l t with
    | none => rw [ha] at h; exact .inl ⟨rfl, h⟩
    | some a =>
      rw [ha] at h
      cases hb : nxt l t with
      | none => rw [hb] at h; exact .inr (.inl ⟨a, rfl, rfl, (Option.some.inj h).symm⟩)
      | some b =>
        rw [hb] at h
        refine .inr (.inr ⟨a, b, rfl, rfl, ?_⟩)
        simp only at h
        by_cases hd : dist b t < dist a t
        · rw [if_pos hd] at h ⊢; exact (Option.some.inj h).symm
        · rw [if_neg hd] at h ⊢; exact (Option.some.inj h).symm
theorem nearO_some {l : List Int} {t : Int} (h : l ≠ []) : ∃ c, nearO l t = some c := by
  unfold nearO
  by_cases ht : t ∈ l
  · exact ⟨t, if_pos ht⟩
  · rw [if_neg ht]
    cases ha : ahd l t with
    | some a =>
      cases hb : nxt l t with
      | none => exact ⟨a, rfl⟩
      | some b => simp only; by_cases hd : dist b t < dist a t <;> simp [hd]
    | none =>
      cases hb : nxt l t with
      | some b => exact ⟨b, rfl⟩
      | none =>
        exfalso
        have h1 := isAhd l t
        have h2 := isNxt l t
        rw [ha] at h1
        rw [hb] at h2
        obtain ⟨y, hy⟩ := List.exists_mem_of_ne_nil l h
        have := h1 y hy
        have := h2 y hy
        exact ht ((show y = t by omega) ▸ hy)
theorem nearO_nil (t : Int) : nearO [] t = none := by simp [nearO, ahd, nxt]
theorem nearO_congr {l m : List Int} (hm : ∀ x, x ∈ l ↔ x ∈ m) (t : Int) : nearO l t = nearO m t := by
  unfold nearO
  rw [ahd_congr hm, nxt_congr hm]
  simp only [hm]
theorem ContainsI_any (A : Option Addr) (s : List Int) (ca : Nat) (x : Int) (w : World) (hl : IntsAt w A s) (hz : s.length ≤ 1000000) :
    Calls Try.prog 59 #[.slice A s.length ca, .int .i64 x] w fun e w' => e = .returned (.bool (decide (x ∈ s))) ∧ w = w' := by
  rcases Nat.eq_zero_or_pos s.length with h0 | h0
  · obtain rfl : s = [] := List.length_eq_zero_iff.1 h0
    exact (AnyG.slices_Contains_int_empty Try.containsI A ca x w).mono fun _ _ ⟨he, hw⟩ => ⟨by rw [he]; simp, hw.symm⟩
  · obtain ⟨b, off, rfl, hc⟩ := hl h0
    have := AnyG.slices_Contains_int Try.containsI b off s.length ca s x w (Nat.le_refl _) (by omega) (fun j hj => by
      rw [hc j _ (List.getElem?_eq_getElem hj)]; simp [List.getD, hj])
    refine this.mono fun _ _ ⟨he, hw⟩ => ⟨?_, hw.symm⟩
    rw [he, List.take_length]
    simp [List.contains_eq_mem]
set_option maxRecDepth 100000 in
set_option maxHeartbeats 3200000 in
theorem Nearest_any (A : Option Addr) (l : List Int) (ca : Nat) (x : Int) (w : World) (hl : IntsAt w A l) (hz : l.length ≤ 1000000) (hok : ∀ y ∈ l, okI y) (hx : okI x) :
    Calls Try.prog 39 #[.slice A l.length ca, .int .i64 x] w fun e w' => e = .returned (optI (nearO l x)) ∧ Below w.heap.size w w' := by
  have HS := Lib.hid (JSort_any A l ca w hl hz)
  have hsl := srtd_len l
  have HR := Lib.hid (srtd_ok l).1
  have hn := nearO_congr (srtd_ok l).2 x
  have hoks : ∀ y ∈ srtd l, okI y := fun y hy => hok y (((srtd_ok l).2 y).1 hy)
  rw [← hn]
  clear hl hn hok
  generalize srtd l = s at HS hsl HR hoks ⊢
  unfold optI nearO
  by_cases hm : x ∈ s
  · rw [if_pos hm]
    have HM := Lib.hid (show decide (x ∈ s) = true from decide_eq_true hm)
    clear hm hoks hx
    go_enter Try.func39, Try.ntmps39
    go_wp2_with (first
      | (go_at_call 35; refine HS.out.mono ?_; rintro e w1 ⟨v, rfl, how, hb1⟩; obtain ⟨A1, c1, rfl, -, -, -, hg⟩ := ints_of_owns how rfl; have HG := Lib.hid hg; clear how hg)
      | (go_at_call 59; have hc := ContainsI_any A1 s c1 x _ HG.out (by omega); rw [HM.out] at hc; refine hc.mono ?_; clear hc; rintro e w2 ⟨rfl, rfl⟩))
    go_ret2
    exact ⟨rfl, hb1⟩
  · rw [if_neg hm]
    have HM := Lib.hid (show decide (x ∈ s) = false from decide_eq_false hm)
    clear hm
    cases ha : ahd s x with
    | none =>
      have HA := Lib.hid ha
      generalize hb : nxt s x = o
      have HB := Lib.hid hb
      clear ha hb hoks hx
      simp only
      go_enter Try.func39, Try.ntmps39
      go_wp2_with (first
        | (go_at_call 35; refine HS.out.mono ?_; rintro e w1 ⟨v, rfl, how, hb1⟩; obtain ⟨A1, c1, rfl, -, -, -, hg⟩ := ints_of_owns how rfl; have HG := Lib.hid hg; clear how hg)
        | (go_at_call 59; have hc := ContainsI_any A1 s c1 x _ HG.out (by omega); rw [HM.out] at hc; refine hc.mono ?_; clear hc; rintro e w2 ⟨rfl, rfl⟩)
        | (go_at_call 56; have hc := ahead_any A1 s c1 x _ HG.out (by omega) HR.out; rw [HA.out] at hc; refine hc.mono ?_; clear hc; rintro e w3 ⟨rfl, hb3⟩; simp only [optI, Option.getD_none, Option.isSome_none])
        | (go_at_call 55; have hc := next_any A1 s c1 x _ (HG.out.below hb3) (by omega) HR.out; rw [HB.out] at hc; refine hc.mono ?_; clear hc; rintro e w4 ⟨rfl, hb4⟩; unfold optI))
      go_ret2
      exact ⟨rfl, below_tail hb1 (below_tail hb3 hb4)⟩
    | some a =>
      have HA := Lib.hid ha
      have hka : okI a := hoks a (ahd_mem ha)
      cases hb : nxt s x with
      | none =>
        have HB := Lib.hid hb
        clear ha hb hoks hx hka
        simp only
        go_enter Try.func39, Try.ntmps39
        go_wp2_with (first
          | (go_at_call 35; refine HS.out.mono ?_; rintro e w1 ⟨v, rfl, how, hb1⟩; obtain ⟨A1, c1, rfl, -, -, -, hg⟩ := ints_of_owns how rfl; have HG := Lib.hid hg; clear how hg)
          | (go_at_call 59; have hc := ContainsI_any A1 s c1 x _ HG.out (by omega); rw [HM.out] at hc; refine hc.mono ?_; clear hc; rintro e w2 ⟨rfl, rfl⟩)
          | (go_at_call 56; have hc := ahead_any A1 s c1 x _ HG.out (by omega) HR.out; rw [HA.out] at hc; refine hc.mono ?_; clear hc; rintro e w3 ⟨rfl, hb3⟩; simp only [optI, Option.getD_some, Option.isSome_some])
          | (go_at_call 55; have hc := next_any A1 s c1 x _ (HG.out.below hb3) (by omega) HR.out; rw [HB.out] at hc; refine hc.mono ?_; clear hc; rintro e w4 ⟨rfl, hb4⟩; simp only [optI, Option.getD_none, Option.isSome_none]))
        go_ret2
        exact ⟨rfl, below_tail hb1 (below_tail hb3 hb4)⟩
      | some b =>
        have HB := Lib.hid hb
        have hkb : okI b := hoks b (nxt_mem hb)
        have HFA := Lib.hid (fun w => far_any a x w hka hx)
        have HFB := Lib.hid (fun w => far_any b x w hkb hx)
        clear ha hb hoks hx hka hkb
        simp only
        generalize dist a x = da at HFA ⊢
        generalize dist b x = db at HFB ⊢
        by_cases hd : db < da
        · rw [if_pos hd]
          simp only [Option.getD_some, Option.isSome_some]
          go_enter Try.func39, Try.ntmps39
          go_wp2_with (first
            | (go_at_call 35; refine HS.out.mono ?_; rintro e w1 ⟨v, rfl, how, hb1⟩; obtain ⟨A1, c1, rfl, -, -, -, hg⟩ := ints_of_owns how rfl; have HG := Lib.hid hg; clear how hg)
            | (go_at_call 59; have hc := ContainsI_any A1 s c1 x _ HG.out (by omega); rw [HM.out] at hc; refine hc.mono ?_; clear hc; rintro e w2 ⟨rfl, rfl⟩)
            | (go_at_call 56; have hc := ahead_any A1 s c1 x _ HG.out (by omega) HR.out; rw [HA.out] at hc; refine hc.mono ?_; clear hc; rintro e w3 ⟨rfl, hb3⟩; simp only [optI, Option.getD_some, Option.isSome_some])
            | (go_at_call 55; have hc := next_any A1 s c1 x _ (HG.out.below hb3) (by omega) HR.out; rw [HB.out] at hc; refine hc.mono ?_; clear hc; rintro e w4 ⟨rfl, hb4⟩; simp only [optI, Option.getD_some, Option.isSome_some])
            | (go_at_call 60; (with_reducible refine (HFB.out _).mono ?_); rintro e w5 ⟨rfl, rfl⟩)
            | (go_at_call 60; (with_reducible refine (HFA.out _).mono ?_); rintro e w6 ⟨rfl, rfl⟩))
          go_ret2
          exact ⟨rfl, below_tail hb1 (below_tail hb3 hb4)⟩
        · rw [if_neg hd]
          simp only [Option.getD_some, Option.isSome_some]
          go_enter Try.func39, Try.ntmps39
          go_wp2_with (first
            | (go_at_call 35; refine HS.out.mono ?_; rintro e w1 ⟨v, rfl, how, hb1⟩; obtain ⟨A1, c1, rfl, -, -, -, hg⟩ := ints_of_owns how rfl; have HG := Lib.hid hg; clear how hg)
            | (go_at_call 59; have hc := ContainsI_any A1 s c1 x _ HG.out (by omega); rw [HM.out] at hc; refine hc.mono ?_; clear hc; rintro e w2 ⟨rfl, rfl⟩)
            | (go_at_call 56; have hc := ahead_any A1 s c1 x _ HG.out (by omega) HR.out; rw [HA.out] at hc; refine hc.mono ?_; clear hc; rintro e w3 ⟨rfl, hb3⟩; simp only [optI, Option.getD_some, Option.isSome_some])
            | (go_at_call 55; have hc := next_any A1 s c1 x _ (HG.out.below hb3) (by omega) HR.out; rw [HB.out] at hc; refine hc.mono ?_; clear hc; rintro e w4 ⟨rfl, hb4⟩; simp only [optI, Option.getD_some, Option.isSome_some])
            | (go_at_call 60; (with_reducible refine (HFB.out _).mono ?_); rintro e w5 ⟨rfl, rfl⟩)
            | (go_at_call 60; (with_reducible refine (HFA.out _).mono ?_); rintro e w6 ⟨rfl, rfl⟩))
          go_ret2
          exact ⟨rfl, below_tail hb1 (below_tail hb3 hb4)⟩
end Go.Proofs.Ytfadcmjdlfobhaa
