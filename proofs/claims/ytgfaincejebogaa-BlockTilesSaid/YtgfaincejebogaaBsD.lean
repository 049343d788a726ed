/- Plain: how many blocks there are, and their numbers. Conditions: none. -/
import Derived.Test.YtgfaincejebogaaBsA
namespace Go.Proofs.Ytgfaincejebogaa

structure BsInv (mo N : Nat) (S : Bs) : Prop where
  len : S.es.length ≤ mo
  lo : 0 ≤ S.ids
  hi : S.ids ≤ N
  none : S.es = [] → S.ids = 0
  last : ∀ E, S.es.getLast? = some E → E.id = S.ids
theorem setLast_len (l : List Ent) (f : Ent → Ent) : (setLast l f).length = l.length := by
  rcases List.eq_nil_or_concat l with rfl | ⟨L, E, rfl⟩
  · rfl
  · rw [List.concat_eq_append, setLast_snoc]; simp
theorem setLast_last (l : List Ent) (f : Ent → Ent) : (setLast l f).getLast? = l.getLast?.map f := by
  rcases List.eq_nil_or_concat l with rfl | ⟨L, E, rfl⟩
  · rfl
  · rw [List.concat_eq_append, setLast_snoc]; simp
theorem setLast_nil (l : List Ent) (f : Ent → Ent) (h : setLast l f = []) : l = [] := by
  have := setLast_len l f
  rw [h] at this
  exact List.length_eq_zero_iff.1 this.symm
theorem evictL_last (k a n : Int) : ∀ l : List Ent, (evictL k a n l).getLast? = l.getLast?
  | [] => rfl
  | [E] => rfl
  | E :: E2 :: l => by
    unfold evictL
    split
    · rw [evictL_last k a n (E2 :: l)]; simp [List.getLast?_cons_cons]
    · rfl
theorem BsInv.start {mo N : Nat} {S : Bs} (h : BsInv mo N S) (hm : 1 ≤ mo) (phase : Nat) (p : P2) : BsInv mo (N + 1) (startB mo S phase p) ∧ (startB mo S phase p).ids = S.ids + 1 := by
  refine ⟨?_, rfl⟩
  have h1 := h.len
  have hes := startB_es mo S phase p
  have e1 : (startB mo S phase p).ids = S.ids + 1 := rfl
  refine ⟨?_, by rw [e1]; have := h.lo; omega, by rw [e1]; have := h.hi; omega, fun h0 => ?_, fun E hE => ?_⟩
  · rw [hes]; split <;> simp <;> omega
  · exfalso
    rw [hes] at h0
    have := congrArg List.length h0
    split at this
    · simp only [List.length_drop, List.length_append, List.length_cons, List.length_nil] at this; omega
    · simp only [List.length_append, List.length_cons, List.length_nil] at this; omega
  · rw [e1]
    rw [hes] at hE
    split at hE
    · rw [List.drop_append_of_le_length (by omega)] at hE
      simp at hE
      subst hE
      exact reachN_id _ _ _
    · simp at hE
      subst hE
      exact reachN_id _ _ _
theorem BsInv.mono {mo N : Nat} {S : Bs} (h : BsInv mo N S) : BsInv mo (N + 1) S := ⟨h.len, h.lo, by have := h.hi; omega, h.none, h.last⟩
theorem BsInv.setLast {mo N : Nat} {S : Bs} (h : BsInv mo N S) (f : Ent → Ent) (hf : ∀ E, (f E).id = E.id) (d : ByteArray) : BsInv mo (N + 1) { S with dir := d, es := setLast S.es f } := by
  refine ⟨by rw [show ({ S with dir := d, es := Go.Proofs.Ytgfaincejebogaa.setLast S.es f } : Bs).es = Go.Proofs.Ytgfaincejebogaa.setLast S.es f from rfl, setLast_len]; exact h.len, h.lo, by have := h.hi; show S.ids ≤ _; omega, fun h0 => h.none (setLast_nil _ _ h0), fun E hE => ?_⟩
  have hE' : (Go.Proofs.Ytgfaincejebogaa.setLast S.es f).getLast? = some E := hE
  rw [setLast_last] at hE'
  cases hg : S.es.getLast? with
  | none => rw [hg] at hE'; cases hE'
  | some E0 =>
    rw [hg] at hE'
    simp at hE'
    subst hE'
    rw [hf]; exact h.last E0 hg
theorem BsInv.dir {mo N : Nat} {S : Bs} (h : BsInv mo N S) (d : ByteArray) : BsInv mo (N + 1) { S with dir := d } := ⟨h.len, h.lo, by have := h.hi; show S.ids ≤ _; omega, h.none, h.last⟩
def OneOn (S S' : Bs) : Prop := S'.ids = S.ids ∨ S'.ids = S.ids + 1
theorem BsInv.take {mo N : Nat} {S : Bs} (h : BsInv mo N S) (hm : 1 ≤ mo) (x : Sg) (p0 : P2) : BsInv mo (N + 1) (takeB mo S x p0) ∧ OneOn S (takeB mo S x p0) := by
  unfold takeB
  simp only []
  repeat' split
  all_goals first
    | exact ⟨(h.start hm _ _).1, .inr rfl⟩
    | exact ⟨h.mono, .inl rfl⟩
    | exact ⟨h.dir _, .inl rfl⟩
    | exact ⟨h.setLast _ (by intro E; first | exact reachN_id _ _ _ | rfl) _, .inl rfl⟩
theorem BsInv.shift {mo N : Nat} {S : Bs} (h : BsInv mo N S) (k a n : Int) : BsInv mo (N + 1) (shiftB S k a n) ∧ OneOn S (shiftB S k a n) := by
  unfold shiftB
  split
  · refine ⟨⟨?_, h.lo, by have := h.hi; show S.ids ≤ _; omega, fun h0 => ?_, fun E hE => ?_⟩, .inl rfl⟩
    · show (List.map _ _).length ≤ mo
      rw [List.length_map]
      split
      · rw [List.length_map]; exact Nat.le_trans (evictL_len k a n S.es) h.len
      · exact h.len
    · have h1 : (List.map (moveE k a n) (if k = 2 then (evictL k a n S.es).map (cutE k a n) else S.es)) = [] := h0
      rw [List.map_eq_nil_iff] at h1
      split at h1
      · rw [List.map_eq_nil_iff] at h1
        have := evictL_last k a n S.es
        rw [h1] at this
        exact h.none (List.getLast?_eq_none_iff.1 this.symm)
      · exact h.none h1
    · have h1 : (List.map (moveE k a n) (if k = 2 then (evictL k a n S.es).map (cutE k a n) else S.es)).getLast? = some E := hE
      rw [List.getLast?_map] at h1
      split at h1
      · rw [List.getLast?_map, evictL_last] at h1
        cases hg : S.es.getLast? with
        | none => rw [hg] at h1; cases h1
        | some E0 =>
          rw [hg] at h1
          simp at h1
          subst h1
          exact h.last E0 hg
      · cases hg : S.es.getLast? with
        | none => rw [hg] at h1; cases h1
        | some E0 =>
          rw [hg] at h1
          simp at h1
          subst h1
          exact h.last E0 hg
  · exact ⟨h.mono, .inl rfl⟩
theorem BsInv.step {mo N : Nat} {S : Bs} (h : BsInv mo N S) (hm : 1 ≤ mo) (o : Bop) : BsInv mo (N + 1) (stepB mo S o) ∧ OneOn S (stepB mo S o) := by
  unfold stepB
  split
  · exact h.shift _ _ _
  · exact h.take hm _ _
theorem bsInv0 (mo : Nat) : BsInv mo 0 ⟨0, ByteArray.empty, []⟩ := ⟨by simp, by simp, by simp, fun _ => rfl, fun E hE => by cases hE⟩
/-- The number of the list's last block. -/
theorem listB_last {es : List Ent} {p : P2} {E : Ent} (h : es.getLast? = some E) : ∃ c, (listB es p)[es.length]? = some c ∧ c.id = E.id := by
  match es, h with
  | E0 :: l, h =>
    unfold listB
    have e : (E0 :: l)[l.length]? = some E := by
      rw [List.getLast?_eq_getElem?] at h; simpa using h
    simp only [List.length_cons]
    rw [List.getElem?_cons_succ, shownAll_succ e]
    refine ⟨shownB E (stopOf (E0 :: l) (laterP p ((E0 :: l).getLast (by simp)).last) l.length), ?_, rfl⟩
    rw [List.getElem?_append_right (by rw [shownAll_len _ _ _ (by simp)]; exact Nat.le_refl _), shownAll_len _ _ _ (by simp)]
    simp
end Go.Proofs.Ytgfaincejebogaa
