/- Rows of elements of k cells each, as lists. Conditions: none. -/
import Derived.Test.YtffdblmdelgkaaaGreatBase2
import Derived.Laws.AppendOwn
import Derived.Maps.AppendAt
import Derived.ProofKit
namespace Go.Proofs.YtffdblmdelgkaaaGreat
open Go.RowKit
section
variable {α : Type} (enc : α → List Value) (k : Nat)
/-- The cells of a list. -/
def flat (l : List α) : List Value := l.flatMap enc
/-- A slice at A reads as the list l. -/
def GrAt (w : World) (A : Option Addr) (l : List α) : Prop :=
  0 < l.length → ∃ b off, A = some ⟨b, off, none⟩ ∧ ∀ i x, l[i]? = some x → ∀ j v, (enc x)[j]? = some v → w.cell? ⟨b, off + i * k + j, none⟩ = some v
variable {enc k}
theorem flat_nil : flat enc [] = [] := rfl
theorem flat_append (l m : List α) : flat enc (l ++ m) = flat enc l ++ flat enc m := by simp [flat]
theorem flat_snoc (l : List α) (x : α) : flat enc l ++ enc x = flat enc (l ++ [x]) := by simp [flat]
theorem flat_len (hk : ∀ x, (enc x).length = k) (l : List α) : (flat enc l).length = l.length * k := by
  induction l with
  | nil => simp [flat]
  | cons x l ih =>
    have e : flat enc (x :: l) = enc x ++ flat enc l := rfl
    rw [e, List.length_append, ih, hk, List.length_cons, Nat.add_mul]; omega
theorem flat_at (hk : ∀ x, (enc x).length = k) : ∀ (l : List α) (i : Nat) (x : α), l[i]? = some x → ∀ j, j < k → (flat enc l)[i * k + j]? = (enc x)[j]?
  | [], i, x, h, j, hj => by simp at h
  | y :: l, 0, x, h, j, hj => by
    obtain rfl : y = x := by simpa using h
    have e : flat enc (y :: l) = enc y ++ flat enc l := rfl
    rw [e, Nat.zero_mul, Nat.zero_add, List.getElem?_append_left (by rw [hk]; exact hj)]
  | y :: l, i + 1, x, h, j, hj => by
    have e : flat enc (y :: l) = enc y ++ flat enc l := rfl
    rw [e, List.getElem?_append_right (by rw [hk, Nat.add_mul]; omega), hk, show (i + 1) * k + j - k = i * k + j from by rw [Nat.add_mul]; omega]
    exact flat_at hk l i x (by simpa using h) j hj
theorem flat_one (h1 : ∀ x, ∀ v ∈ enc x, v.oneCell' = true) (l : List α) : ∀ u ∈ flat enc l, u.oneCell' = true := by
  intro u hu
  simp only [flat, List.mem_flatMap] at hu
  obtain ⟨x, _, hx⟩ := hu
  exact h1 x u hx
theorem GrAt.nil (w : World) (A : Option Addr) : GrAt enc k w A [] := fun h => absurd h (by simp)
theorem GrAt.below {w w1 : World} {A : Option Addr} {l : List α} (h : GrAt enc k w A l) (hb : Below w.heap.size w w1) : GrAt enc k w1 A l := fun hl => by
  obtain ⟨b, off, e, hc⟩ := h hl
  exact ⟨b, off, e, fun i x hx j v hv => holda hb (hc i x hx j v hv)⟩
theorem GrAt.below2 {W w w1 : World} {A : Option Addr} {l : List α} (h : GrAt enc k W A l) (hb : Below W.heap.size W w) (hb2 : Below w.heap.size w w1) : GrAt enc k w1 A l := h.below (below_tail hb hb2)
theorem GrAt.at_ {w : World} {A : Option Addr} {l : List α} (h : GrAt enc k w A l) {i : Nat} (hi : i < l.length) : ∃ b off x, A = some ⟨b, off, none⟩ ∧ l[i]? = some x ∧ ∀ j v, (enc x)[j]? = some v → w.cell? ⟨b, off + i * k + j, none⟩ = some v := by
  obtain ⟨b, off, hA, hc⟩ := h (by omega)
  exact ⟨b, off, l[i], hA, List.getElem?_eq_getElem hi, hc i _ (List.getElem?_eq_getElem hi)⟩
theorem add_lit' (b off j : Nat) : (⟨b, off, none⟩ : Addr).add j = ⟨b, off + j, none⟩ := by
  unfold Addr.add
  by_cases hz : j = 0
  · rw [if_pos hz, hz]; rfl
  · rw [if_neg hz]
/-- What a slice holds, cell by cell: to be appended. -/
theorem GrAt.news {w : World} {ad : Addr} {l : List α} (hk : ∀ x, (enc x).length = k) (h : GrAt enc k w (some ad) l) : ∀ j u, (flat enc l)[j]? = some u → w.cell? (ad.add j) = some u := by
  intro j u hj
  have hlt := (List.getElem?_eq_some_iff.1 hj).1
  rw [flat_len hk] at hlt
  have hl0 : 0 < l.length := by
    rcases Nat.eq_zero_or_pos l.length with h0 | h0
    · rw [h0] at hlt; omega
    · exact h0
  have hk0 : 0 < k := by
    rcases Nat.eq_zero_or_pos k with h0 | h0
    · rw [h0] at hlt; omega
    · exact h0
  obtain ⟨b, off, e, hc⟩ := h hl0
  obtain rfl : ad = ⟨b, off, none⟩ := by simpa using e
  rw [add_lit']
  have hi : j / k < l.length := Nat.div_lt_of_lt_mul (by rw [Nat.mul_comm]; exact hlt)
  have hm : j % k < k := Nat.mod_lt _ hk0
  have e1 : j / k * k + j % k = j := Nat.div_add_mod' j k
  have h1 := flat_at hk l (j / k) _ (List.getElem?_eq_getElem hi) (j % k) hm
  rw [e1, hj] at h1
  have h2 := hc (j / k) _ (List.getElem?_eq_getElem hi) (j % k) u h1.symm
  rw [show off + j = off + j / k * k + j % k from by omega]
  exact h2
/-- A row of the call's own reads as the list. -/
theorem gr_of_owns {w : World} {base : Nat} {e : TypeId} {v : Value} {n : Nat} {l : List α} (hk : ∀ x, (enc x).length = k) (h : w.ownsRow base e k v n (flat enc l)) (hn : n = l.length) :
    ∃ (A : Option Addr) (c : Nat), v = .slice A l.length c ∧ l.length ≤ c ∧ (A = none → c = 0) ∧ c ≤ 9223372036854775807 ∧ GrAt enc k w A l := by
  subst hn
  rcases h.2 with ⟨rfl, h0⟩ | ⟨g, cap, cur, rfl, _, _, hcap, hmax, _, _⟩
  · have e0 : l = [] := List.length_eq_zero_iff.1 h0
    subst e0
    exact ⟨none, 0, rfl, Nat.le_refl _, fun _ => rfl, Nat.zero_le _, GrAt.nil _ _⟩
  · refine ⟨some ⟨g, 0, none⟩, cap, rfl, hcap, fun e => (by cases e), hmax, fun _ => ⟨g, 0, rfl, fun i x hi j u hj => ?_⟩⟩
    have hlt := (List.getElem?_eq_some_iff.1 hi).1
    have hj' := (List.getElem?_eq_some_iff.1 hj).1
    rw [hk] at hj'
    have h1 := flat_at hk l i x hi j hj'
    have hmul : i * k + j < l.length * k := by
      have : (i + 1) * k ≤ l.length * k := Nat.mul_le_mul_right _ hlt
      rw [Nat.add_mul] at this; omega
    rw [Nat.zero_add, h.cellAt _ hmul, h1]; exact hj
theorem owns_lt {w : World} {base : Nat} {e : TypeId} {v : Value} {n : Nat} {xs : List Value} (h : w.ownsRow base e k v n xs) {g : Nat} (hg : v.ownBlock = some g) : base ≤ g ∧ g < w.heap.size := h.lt g hg
end
end Go.Proofs.YtffdblmdelgkaaaGreat
