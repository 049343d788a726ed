/- Plain: the next point and the one ahead. Conditions: none. -/
import Derived.Test.YtfadcmjdlfobhaaPtPl
namespace Go.Proofs.Ytfadcmjdlfobhaa

def bestG (T : P2 → Bool) (B : P2 → P2 → Bool) : Option P2 → P2 → Option P2
  | none, x => if T x then some x else none
  | some p, x => if T x && B x p then some x else some p
def IsBest (T : P2 → Bool) (B : P2 → P2 → Bool) (L : List P2) : Option P2 → Prop
  | none => ∀ x ∈ L, T x = false
  | some p => p ∈ L ∧ T p = true ∧ ∀ x ∈ L, T x = true → B x p = false
/-- An order like that of places. -/
structure Ord (B : P2 → P2 → Bool) : Prop where
  irr : ∀ p, B p p = false
  step : ∀ x y p, B x p = true → B y p = false → B y x = false
  eq : ∀ p q, B p q = false → B q p = false → p = q
theorem ord_lt : Ord ltP where
  irr p := by rw [ltP_no]; omega
  step x y p h k := by rw [ltP_iff] at h; rw [ltP_no] at *; omega
  eq p q h k := ltP_eq h k
theorem ord_gt : Ord (fun a b => ltP b a) where
  irr p := ord_lt.irr p
  step x y p h k := by
    have h' : ltP p x = true := h
    have k' : ltP p y = false := k
    show ltP x y = false
    rw [ltP_iff] at h'
    rw [ltP_no] at k' ⊢
    omega
  eq p q h k := ltP_eq k h
section
variable {T : P2 → Bool} {B : P2 → P2 → Bool}
theorem IsBest.snoc (hB : Ord B) {L : List P2} {o : Option P2} (h : IsBest T B L o) (x : P2) : IsBest T B (L ++ [x]) (bestG T B o x) := by
  cases o with
  | none =>
    simp only [bestG]
    cases hx : T x with
    | true =>
      rw [if_pos rfl]
      refine ⟨by simp, hx, fun y hy hty => ?_⟩
      rcases List.mem_append.1 hy with hy | hy
      · rw [h y hy] at hty; cases hty
      · rw [List.mem_singleton.1 hy]; exact hB.irr x
    | false =>
      rw [if_neg (by simp)]
      intro y hy
      rcases List.mem_append.1 hy with hy | hy
      · exact h y hy
      · rw [List.mem_singleton.1 hy]; exact hx
  | some p =>
    obtain ⟨h1, h2, h3⟩ := h
    simp only [bestG]
    cases hx : T x && B x p with
    | true =>
      rw [if_pos rfl]
      simp at hx
      refine ⟨by simp, hx.1, fun y hy hty => ?_⟩
      rcases List.mem_append.1 hy with hy | hy
      · exact hB.step x y p hx.2 (h3 y hy hty)
      · rw [List.mem_singleton.1 hy]; exact hB.irr x
    | false =>
      rw [if_neg (by simp)]
      refine ⟨by simp [h1], h2, fun y hy hty => ?_⟩
      rcases List.mem_append.1 hy with hy | hy
      · exact h3 y hy hty
      · rw [List.mem_singleton.1 hy] at hty ⊢
        rw [hty] at hx; simpa using hx
theorem IsBest.uniq (hB : Ord B) {L M : List P2} {o p : Option P2} (hm : ∀ x, x ∈ L ↔ x ∈ M) (h : IsBest T B L o) (k : IsBest T B M p) : o = p := by
  cases o with
  | none => cases p with
    | none => rfl
    | some y => have := h y ((hm y).2 k.1); rw [k.2.1] at this; cases this
  | some x => cases p with
    | none => have := k x ((hm x).1 h.1); rw [h.2.1] at this; cases this
    | some y => rw [hB.eq x y (k.2.2 x ((hm x).1 h.1) h.2.1) (h.2.2 y ((hm y).2 k.1) k.2.1)]
variable (T B) in
def bestOf (L : List P2) : Option P2 := L.foldl (bestG T B) none
theorem bestOf_snoc (L : List P2) (x : P2) : bestOf T B (L ++ [x]) = bestG T B (bestOf T B L) x := by simp [bestOf]
theorem isBest_foldl (hB : Ord B) : ∀ (M L : List P2) (o : Option P2), IsBest T B L o → IsBest T B (L ++ M) (M.foldl (bestG T B) o)
  | [], L, o, h => by simpa using h
  | x :: M, L, o, h => by
    have := isBest_foldl hB M (L ++ [x]) _ (h.snoc hB x)
    simpa using this
theorem isBest (hB : Ord B) (L : List P2) : IsBest T B L (bestOf T B L) := by
  have := isBest_foldl (T := T) hB L [] none (fun y hy => by cases hy)
  simpa [bestOf] using this
end
theorem find_snoc (T : P2 → Bool) (L : List P2) (x : P2) : (L ++ [x]).find? T = match L.find? T with | some p => some p | none => if T x then some x else none := by
  rw [List.find?_append]
  cases L.find? T with
  | some p => rfl
  | none => simp [List.find?_cons]; cases T x <;> rfl
def lastF (T : P2 → Bool) (L : List P2) : Option P2 := L.foldl (fun o x => if T x then some x else o) none
theorem lastF_snoc (T : P2 → Bool) (L : List P2) (x : P2) : lastF T (L ++ [x]) = if T x then some x else lastF T L := by simp [lastF]
/-- In an ordered list the first one is the best. -/
theorem find_best (from_ : P2) : ∀ {L : List P2}, Asc L → IsBest (fun x => ltP from_ x) ltP L (L.find? (fun x => ltP from_ x))
  | [], _ => fun x hx => by cases hx
  | p :: L, h => by
    obtain ⟨h1, h2⟩ := List.pairwise_cons.1 h
    rw [List.find?_cons]
    cases hp : ltP from_ p with
    | true =>
      refine ⟨by simp, hp, fun x hx _ => ?_⟩
      rcases List.mem_cons.1 hx with rfl | hx
      · exact ord_lt.irr x
      · exact h1 x hx
    | false =>
      have ih := find_best from_ h2
      simp only
      cases ho : L.find? (fun x => ltP from_ x) with
      | none =>
        rw [ho] at ih
        intro x hx
        rcases List.mem_cons.1 hx with rfl | hx
        · exact hp
        · exact ih x hx
      | some q =>
        rw [ho] at ih
        refine ⟨List.mem_cons_of_mem _ ih.1, ih.2.1, fun x hx hT => ?_⟩
        rcases List.mem_cons.1 hx with rfl | hx
        · simp only at hT; rw [hp] at hT; cases hT
        · exact ih.2.2 x hx hT
theorem last_best_aux (from_ : P2) : ∀ {M L : List P2} {o : Option P2}, Asc (L ++ M) → IsBest (fun x => ltP x from_) (fun a b => ltP b a) L o → IsBest (fun x => ltP x from_) (fun a b => ltP b a) (L ++ M) (M.foldl (fun o x => if ltP x from_ then some x else o) o)
  | [], L, o, _, h => by simpa using h
  | x :: M, L, o, ha, h => by
    have hL : ∀ y ∈ L, ltP x y = false := fun y hy => (List.pairwise_append.1 ha).2.2 y hy x (by simp)
    have key : IsBest (fun x => ltP x from_) (fun a b => ltP b a) (L ++ [x]) (if ltP x from_ then some x else o) := by
      cases hx : ltP x from_ with
      | true =>
        rw [if_pos rfl]
        refine ⟨by simp, hx, fun y hy _ => ?_⟩
        rcases List.mem_append.1 hy with hy | hy
        · exact hL y hy
        · rw [List.mem_singleton.1 hy]; exact ord_lt.irr x
      | false =>
        rw [if_neg (by simp)]
        cases o with
        | none =>
          intro y hy
          rcases List.mem_append.1 hy with hy | hy
          · exact h y hy
          · rw [List.mem_singleton.1 hy]; exact hx
        | some p =>
          refine ⟨by simp [h.1], h.2.1, fun y hy hT => ?_⟩
          rcases List.mem_append.1 hy with hy | hy
          · exact h.2.2 y hy hT
          · rw [List.mem_singleton.1 hy] at hT; simp only at hT; rw [hx] at hT; cases hT
    have := last_best_aux from_ (M := M) (L := L ++ [x]) (o := if ltP x from_ then some x else o) (by simpa using ha) key
    simpa using this
theorem last_best (from_ : P2) {L : List P2} (h : Asc L) : IsBest (fun x => ltP x from_) (fun a b => ltP b a) L (lastF (fun x => ltP x from_) L) := by
  have := last_best_aux from_ (M := L) (L := []) (o := none) (by simpa using h) (fun x hx => by cases hx)
  simpa [lastF] using this
/-- The program's answer and the document's. -/
theorem next_same (from_ : P2) (L : List P2) : bestOf (fun x => ltP from_ x) ltP L = (sortP L).find? (fun x => ltP from_ x) :=
  (isBest ord_lt L).uniq ord_lt (fun _ => (sortP_perm L).mem_iff.symm) (find_best from_ (sortP_asc L))
theorem ahead_same (from_ : P2) (L : List P2) : bestOf (fun x => ltP x from_) (fun a b => ltP b a) L = lastF (fun x => ltP x from_) (sortP L) :=
  (isBest ord_gt L).uniq ord_gt (fun _ => (sortP_perm L).mem_iff.symm) (last_best from_ (sortP_asc L))
end Go.Proofs.Ytfadcmjdlfobhaa
