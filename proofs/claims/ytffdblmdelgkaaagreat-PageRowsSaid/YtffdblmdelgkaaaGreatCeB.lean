/- Cells: mend, in place. Conditions: as stated. -/
import Derived.Test.YtffdblmdelgkaaaGreatCeA
namespace Go.Proofs.YtffdblmdelgkaaaGreat
open Go.RowKit

theorem pairB_H (c d : Cl) : pairB c d = (pairH c d && decide (d.half = 2)) := by
  unfold pairB pairH
  cases decide (c.half = 1) <;> cases decide (d.half = 2) <;> cases decide (c = { d with half := 1 }) <;> rfl
theorem mendL_pair {c d : Cl} (h : pairB c d = true) (l : List Cl) : mendL (c :: d :: l) = c :: d :: mendL l := by
  have h0 : ¬ c.half = 0 := fun e => by unfold pairB at h; simp [e] at h
  rw [mendL_cons, if_neg h0, if_pos h]
theorem mendL_other {c : Cl} {l : List Cl} (h0 : ¬ c.half = 0) (h3 : ¬ (c.half = 3 ∧ l = [])) (hp : ∀ d m, l = d :: m → pairB c d = false) : mendL (c :: l) = emptyC c :: mendL l := by
  match l with
  | [] => rw [mendL_one, if_neg (fun h => h.elim h0 (fun h => h3 ⟨h, rfl⟩))]; rfl
  | d :: m => rw [mendL_cons, if_neg h0, hp d m rfl]; rfl
theorem mendL_pad {c : Cl} (h : c.half = 3) : mendL [c] = [c] := by rw [mendL_one, if_pos (.inr h)]
/-- A row of cells of the call's own. -/
def CrO (w : World) (base g cap : Nat) (l : List Cl) : Prop := w.ownsRow base 109 8 (.slice (some ⟨g, 0, none⟩) l.length cap) l.length (flat encCl l)
theorem CrO.mod {w w' : World} {base g cap : Nat} {l : List Cl} {X : List Nat} (h : CrO w base g cap l) (hm : Mod X w w') (hX : g ∉ X) : CrO w' base g cap l := owns_mod h hm (fun k hk => by simp [Value.ownBlock] at hk; rw [← hk]; exact hX)
theorem CrO.below {w w' : World} {base g cap : Nat} {l : List Cl} (h : CrO w base g cap l) (hb : Below w.heap.size w w') : CrO w' base g cap l := h.mod (Mod.of_below (X := []) hb) (fun h => by cases h)
theorem CrO.lt {w : World} {base g cap : Nat} {l : List Cl} (h : CrO w base g cap l) : base ≤ g ∧ g < w.heap.size := World.ownsRow.lt h g rfl
theorem CrO.range {w : World} {base g cap : Nat} {l : List Cl} (h : CrO w base g cap l) {i : Nat} {c : Cl} (hc : l[i]? = some c) : w.rangeAt g (i * 8) (encCl c) := fun j v hj => by
  have hj8 : j < 8 := by have := (List.getElem?_eq_some_iff.1 hj).1; rwa [encCl_len] at this
  exact (owns_hold h (i := i * 8 + j) (v := v) (by rw [flat_at2 encCl_len l i c j hc hj8]; exact hj)).1
theorem CrO.there {w : World} {base g cap : Nat} {l : List Cl} (h : CrO w base g cap l) {i : Nat} (hi : i < l.length) : w.there g (i * 8) 8 := fun j hj => by
  obtain ⟨c, hc⟩ : ∃ c, l[i]? = some c := ⟨l[i], List.getElem?_eq_getElem hi⟩
  obtain ⟨v, hv⟩ : ∃ v, (encCl c)[j]? = some v := ⟨_, List.getElem?_eq_getElem (by rw [encCl_len]; exact hj)⟩
  have := owns_hold h (i := i * 8 + j) (v := v) (by rw [flat_at2 encCl_len l i c j hc hj]; exact hv)
  exact ⟨by rw [this.1]; rfl, this.2⟩
theorem CrO.set {w : World} {base g cap : Nat} {l : List Cl} (h : CrO w base g cap l) {i : Nat} (hi : i < l.length) (c : Cl) : CrO (w.setCells g (i * 8) (encCl c)) base g cap (l.set i c) ∧ Mod [g] w (w.setCells g (i * 8) (encCl c)) := by
  refine ⟨?_, mod_setCellsN (.inl (by simp)) _ _ _ (Mod.refl _ _)⟩
  have h1 := owns_setCells (encCl c) (i * 8) (flat encCl l) w h (by rw [flat_len encCl_len, encCl_len]; omega)
  unfold CrO
  rw [List.length_set]
  have e : (flat encCl l).take (i * 8) ++ (encCl c ++ (flat encCl l).drop (i * 8 + (encCl c).length)) = flat encCl (l.set i c) := by
    rw [encCl_len]
    clear h h1
    induction l generalizing i with
    | nil => simp at hi
    | cons x l ih =>
      have e : flat encCl (x :: l) = encCl x ++ flat encCl l := rfl
      match i with
      | 0 =>
        have e2 : flat encCl ((x :: l).set 0 c) = encCl c ++ flat encCl l := rfl
        rw [e, e2, Nat.zero_mul, List.take_zero, List.nil_append, Nat.zero_add, List.drop_left' (encCl_len x)]
      | i + 1 =>
        have e2 : flat encCl ((x :: l).set (i + 1) c) = encCl x ++ flat encCl (l.set i c) := rfl
        rw [e, e2, ← ih (by simpa using hi), Nat.add_mul, Nat.one_mul]
        rw [List.take_append, List.drop_append, encCl_len, List.take_of_length_le (by rw [encCl_len]; omega), List.drop_eq_nil_of_le (by rw [encCl_len]; omega)]
        rw [show i * 8 + 8 - 8 = i * 8 by omega, show i * 8 + 8 + 8 - 8 = i * 8 + 8 by omega, List.nil_append, List.append_assoc]
  rw [e] at h1
  exact h1
end Go.Proofs.YtffdblmdelgkaaaGreat
