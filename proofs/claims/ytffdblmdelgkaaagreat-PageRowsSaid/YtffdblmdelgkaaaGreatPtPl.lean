/- Plain: places in their order; points with their ages. Conditions: none. -/
import Derived.Lib.SlicesCompact
namespace Go.Proofs.YtffdblmdelgkaaaGreat

abbrev P2 := Int × Int
def ltP (p q : P2) : Bool := decide (p.1 < q.1) || (p.1 == q.1 && decide (p.2 < q.2))
theorem ltP_iff (p q : P2) : ltP p q = true ↔ p.1 < q.1 ∨ p.1 = q.1 ∧ p.2 < q.2 := by simp [ltP]
theorem ltP_no (p q : P2) : ltP p q = false ↔ q.1 < p.1 ∨ q.1 = p.1 ∧ q.2 ≤ p.2 := by
  rw [← Bool.not_eq_true, ltP_iff]; omega
theorem ltP_eq {p q : P2} (h : ltP p q = false) (k : ltP q p = false) : p = q := by
  rw [ltP_no] at h k
  apply Prod.ext <;> omega
theorem ltP_trans_no {p q r : P2} (h : ltP q p = false) (k : ltP r q = false) : ltP r p = false := by
  rw [ltP_no] at *; omega
/-- In order: none is ahead of one that stands ahead of it. -/
def Asc (l : List P2) : Prop := l.Pairwise (fun p q => ltP q p = false)
theorem asc_uniq : ∀ {l m : List P2}, Asc l → Asc m → l.Perm m → l = m
  | [], m, _, _, h => (List.nil_perm.1 h).symm
  | p :: l, [], _, _, h => absurd h.length_eq (by simp)
  | p :: l, q :: m, h1, h2, h => by
    obtain ⟨a1, a2⟩ := List.pairwise_cons.1 h1
    obtain ⟨b1, b2⟩ := List.pairwise_cons.1 h2
    have e : p = q := by
      have hp : p ∈ q :: m := h.mem_iff.1 (by simp)
      have hq : q ∈ p :: l := h.mem_iff.2 (by simp)
      rcases List.mem_cons.1 hp with e | hp
      · exact e
      · rcases List.mem_cons.1 hq with e | hq
        · exact e.symm
        · exact ltP_eq (b1 p hp) (a1 q hq)
    subst e
    rw [asc_uniq a2 b2 (h.cons_inv)]
def sortP (l : List P2) : List P2 := l.mergeSort fun x y => !ltP y x
theorem sortP_perm (l : List P2) : (sortP l).Perm l := List.mergeSort_perm l _
theorem sortP_asc (l : List P2) : Asc (sortP l) := by
  have := List.pairwise_mergeSort (le := fun (x y : P2) => !ltP y x) (by
    intro a b c h1 h2
    simp only [Bool.not_eq_true'] at *
    exact ltP_trans_no h1 h2) (by
    intro a b
    cases h1 : ltP b a <;> cases h2 : ltP a b <;> simp
    rw [ltP_iff] at h1 h2; omega) l
  unfold Asc sortP
  refine this.imp ?_
  intro a b h
  simpa using h
theorem sortP_len (l : List P2) : (sortP l).length = l.length := (sortP_perm l).length_eq

/-- A point with its age. -/
abbrev PA := P2 × Int
def insP (p : PA) : List PA → List PA
  | [] => [p]
  | x :: t => if ltP p.1 x.1 then p :: x :: t else x :: insP p t
theorem insP_perm (p : PA) : ∀ l, (insP p l).Perm (p :: l)
  | [] => List.Perm.refl _
  | x :: t => by
    unfold insP
    split
    · exact List.Perm.refl _
    · exact ((insP_perm p t).cons x).trans (List.Perm.swap p x t)
theorem insP_len (p : PA) (l : List PA) : (insP p l).length = l.length + 1 := (insP_perm p l).length_eq
def AscA (l : List PA) : Prop := l.Pairwise (fun p q => ltP q.1 p.1 = false)
theorem ascA_map {l : List PA} (h : AscA l) : Asc (l.map (·.1)) := List.pairwise_map.2 h
theorem insP_asc (p : PA) : ∀ {l : List PA}, AscA l → AscA (insP p l)
  | [], _ => by simp [insP, AscA]
  | x :: t, h => by
    obtain ⟨h1, h2⟩ := List.pairwise_cons.1 h
    unfold insP
    by_cases hl : ltP p.1 x.1 = true
    · rw [if_pos hl]
      refine List.pairwise_cons.2 ⟨fun y hy => ?_, h⟩
      have hxp : ltP x.1 p.1 = false := by
        rw [ltP_iff] at hl; rw [ltP_no]; omega
      rcases List.mem_cons.1 hy with rfl | hy
      · exact hxp
      · exact ltP_trans_no hxp (h1 y hy)
    · rw [if_neg hl]
      refine List.pairwise_cons.2 ⟨fun y hy => ?_, insP_asc p h2⟩
      rcases List.mem_cons.1 ((insP_perm p t).mem_iff.1 hy) with rfl | hy
      · simpa using hl
      · exact h1 y hy
/-- Behind those that p isn't ahead of. -/
theorem insP_at (p : PA) : ∀ (l : List PA) (k : Nat), k ≤ l.length → (∀ i x, i < k → l[i]? = some x → ltP p.1 x.1 = false) → (∀ x, l[k]? = some x → ltP p.1 x.1 = true) → insP p l = l.take k ++ p :: l.drop k
  | [], k, hk, _, _ => by
    obtain rfl : k = 0 := by simpa using hk
    rfl
  | x :: t, 0, _, _, h => by
    unfold insP
    rw [if_pos (h x rfl)]; rfl
  | x :: t, k + 1, hk, h1, h2 => by
    unfold insP
    rw [if_neg (by rw [h1 0 x (by omega) rfl]; simp)]
    rw [insP_at p t k (by simpa using hk) (fun i y hi hy => h1 (i + 1) y (by omega) (by simpa using hy)) (fun y hy => h2 y (by simpa using hy))]
    rfl

/-- Where the first of the least age stands. -/
def minIx (l : List PA) : Nat → Nat
  | 0 => 0
  | i + 1 => match l[i]?, l[minIx l i]? with
    | some x, some y => if x.2 < y.2 then i else minIx l i
    | _, _ => minIx l i
theorem minIx_le (l : List PA) : ∀ i, minIx l i ≤ i
  | 0 => Nat.le_refl _
  | i + 1 => by
    have := minIx_le l i
    rw [minIx]
    split
    · split <;> omega
    · omega
theorem minIx_lt (l : List PA) : ∀ i, 0 < l.length → minIx l i < l.length
  | 0, h => h
  | i + 1, h => by
    have ih := minIx_lt l i h
    rw [minIx]
    split
    · rename_i x y hx hy
      have := (List.getElem?_eq_some_iff.1 hx).1
      split <;> omega
    · exact ih
theorem minIx_min (l : List PA) : ∀ i, i ≤ l.length → ∀ j, j < i → ∀ x y, l[j]? = some x → l[minIx l i]? = some y → y.2 ≤ x.2
  | 0, _, j, hj, _, _, _, _ => by omega
  | i + 1, hi, j, hj, x, y, hx, hy => by
    have hil : i < l.length := by omega
    have ih := minIx_min l i (by omega)
    have hm := minIx_lt l i (by omega)
    rw [minIx, List.getElem?_eq_getElem hil, List.getElem?_eq_getElem hm] at hy
    simp only at hy
    by_cases hc : l[i].2 < l[minIx l i].2
    · rw [if_pos hc, List.getElem?_eq_getElem hil] at hy
      obtain rfl : l[i] = y := by simpa using hy
      by_cases e : j = i
      · subst e
        rw [List.getElem?_eq_getElem hil] at hx
        obtain rfl : l[j] = x := by simpa using hx
        exact Int.le_refl _
      · have := ih j (by omega) x _ hx (List.getElem?_eq_getElem hm)
        omega
    · rw [if_neg hc, List.getElem?_eq_getElem hm] at hy
      obtain rfl : l[minIx l i] = y := by simpa using hy
      by_cases e : j = i
      · subst e
        rw [List.getElem?_eq_getElem hil] at hx
        obtain rfl : l[j] = x := by simpa using hx
        omega
      · exact ih j (by omega) x _ hx (List.getElem?_eq_getElem hm)
theorem perm_erase : ∀ {l : List PA} {i : Nat} (h : i < l.length), l.Perm (l[i] :: l.eraseIdx i)
  | x :: l, 0, _ => List.Perm.refl _
  | x :: l, i + 1, h => by
    have := perm_erase (l := l) (i := i) (by simpa using h)
    rw [List.getElem_cons_succ, List.eraseIdx_cons_succ]
    exact (this.cons x).trans (List.Perm.swap _ _ _)
def dropMin (l : List PA) : List PA := l.eraseIdx (minIx l l.length)
def Rises (z : List PA) : Prop := z.Pairwise (fun a b => a.2 < b.2)
theorem rises_inj {z : List PA} (h : Rises z) : ∀ x ∈ z, ∀ y ∈ z, x.2 = y.2 → x = y := by
  intro x hx y hy e
  obtain ⟨i, hi, rfl⟩ := List.mem_iff_getElem.1 hx
  obtain ⟨j, hj, rfl⟩ := List.mem_iff_getElem.1 hy
  rcases Nat.lt_trichotomy i j with h1 | h1 | h1
  · have := List.pairwise_iff_getElem.1 h i j hi hj h1; omega
  · subst h1; rfl
  · have := List.pairwise_iff_getElem.1 h j i hj hi h1; omega
/-- Of rising ages the first one goes. -/
theorem dropMin_perm {l : List PA} {p : PA} {z : List PA} (h : l.Perm (p :: z)) (hz : Rises (p :: z)) : (dropMin l).Perm z := by
  have hl : 0 < l.length := by rw [h.length_eq]; simp
  have hm := minIx_lt l l.length hl
  have hmin := minIx_min l l.length (Nat.le_refl _)
  obtain ⟨j, hj, ej⟩ := List.mem_iff_getElem.1 (h.mem_iff.2 (show p ∈ p :: z by simp))
  have h1 := hmin j hj _ _ (List.getElem?_eq_getElem hj) (List.getElem?_eq_getElem hm)
  have hin : l[minIx l l.length] ∈ p :: z := h.mem_iff.1 (List.getElem_mem hm)
  have e : l[minIx l l.length] = p := by
    rcases List.mem_cons.1 hin with e | hin
    · exact e
    · have := (List.pairwise_cons.1 hz).1 _ hin
      rw [ej] at h1; omega
  have h2 : l.Perm (l[minIx l l.length] :: l.eraseIdx (minIx l l.length)) := perm_erase hm
  rw [e] at h2
  exact (h2.symm.trans h).cons_inv
theorem dropMin_asc {l : List PA} (h : AscA l) : AscA (dropMin l) := h.sublist (List.eraseIdx_sublist _ _)

/-- All of an age, then all of the next one. -/
def byAge (l : List PA) : Nat → List P2
  | 0 => []
  | n + 1 => byAge l n ++ (l.filter (fun x => decide (x.2 = (n : Int) + 1))).map (·.1)
theorem byAge_rises {z : List PA} (h : Rises z) (h0 : ∀ x ∈ z, 0 < x.2) : ∀ n : Nat, byAge z n = (z.filter (fun x => decide (x.2 ≤ (n : Int)))).map (·.1)
  | 0 => by
    have : z.filter (fun x => decide (x.2 ≤ ((0 : Nat) : Int))) = [] := by
      rw [List.filter_eq_nil_iff]; intro x hx; have := h0 x hx; simp; omega
    rw [this]; rfl
  | n + 1 => by
    rw [byAge, byAge_rises h h0 n, ← List.map_append]
    congr 1
    clear h0
    induction z with
    | nil => rfl
    | cons x z ih =>
      obtain ⟨h1, h2⟩ := List.pairwise_cons.1 h
      have ih := ih h2
      by_cases ha : x.2 ≤ (n : Int)
      · have hb : ¬ x.2 = (n : Int) + 1 := by omega
        have hc : x.2 ≤ ((n + 1 : Nat) : Int) := by omega
        rw [List.filter_cons_of_pos (by simpa using ha), List.filter_cons_of_neg (by simpa using hb), List.filter_cons_of_pos (by simpa using hc), List.cons_append, ih]
      · have hz : z.filter (fun x => decide (x.2 ≤ (n : Int))) = [] := by
          rw [List.filter_eq_nil_iff]; intro y hy; have := h1 y hy; simp; omega
        by_cases hb : x.2 = (n : Int) + 1
        · have hc : x.2 ≤ ((n + 1 : Nat) : Int) := by omega
          have hz2 : z.filter (fun x => decide (x.2 = (n : Int) + 1)) = [] := by
            rw [List.filter_eq_nil_iff]; intro y hy; have := h1 y hy; simp; omega
          have hz3 : z.filter (fun x => decide (x.2 ≤ ((n + 1 : Nat) : Int))) = [] := by
            rw [List.filter_eq_nil_iff]; intro y hy; have := h1 y hy; simp; omega
          rw [List.filter_cons_of_neg (by simpa using ha), List.filter_cons_of_pos (by simpa using hb), List.filter_cons_of_pos (by simpa using hc), hz, hz2, hz3]; rfl
        · have hc : ¬ x.2 ≤ ((n + 1 : Nat) : Int) := by omega
          rw [List.filter_cons_of_neg (by simpa using ha), List.filter_cons_of_neg (by simpa using hb), List.filter_cons_of_neg (by simpa using hc)]
          exact ih
theorem filter_age_perm {l z : List PA} (h : l.Perm z) (hz : Rises z) (a : Int) : l.filter (fun x => decide (x.2 = a)) = z.filter (fun x => decide (x.2 = a)) := by
  have hp := h.filter (fun x => decide (x.2 = a))
  have hr : Rises (z.filter (fun x => decide (x.2 = a))) := hz.sublist List.filter_sublist
  have hall : ∀ x ∈ z.filter (fun x => decide (x.2 = a)), x.2 = a := fun x hx => by simpa using (List.mem_filter.1 hx).2
  generalize z.filter (fun x => decide (x.2 = a)) = m at hp hr hall ⊢
  match m, hp with
  | [], hp => exact List.perm_nil.1 hp
  | [x], hp => exact List.perm_singleton.1 hp
  | x :: y :: t, _ =>
    exfalso
    have h1 := (List.pairwise_cons.1 hr).1 y (by simp)
    have := hall x (by simp)
    have := hall y (by simp)
    omega
theorem byAge_perm {l z : List PA} (h : l.Perm z) (hz : Rises z) : ∀ n, byAge l n = byAge z n
  | 0 => rfl
  | n + 1 => by rw [byAge, byAge, byAge_perm h hz n, filter_age_perm h hz]
/-- What the reference holds stands for the points: each with an age, the eldest first. -/
structure Pts (most : Nat) (next : Int) (L : List P2) (M : List PA) : Prop where
  ex : ∃ z : List PA, z.map (·.1) = L ∧ Rises z ∧ (∀ x ∈ z, 0 < x.2 ∧ x.2 ≤ next) ∧ M.Perm z
  asc : AscA M
theorem Pts.len {most : Nat} {next : Int} {L : List P2} {M : List PA} (h : Pts most next L M) : M.length = L.length := by
  obtain ⟨z, e, -, -, hp⟩ := h.ex
  rw [hp.length_eq, ← e, List.length_map]
theorem Pts.list {most : Nat} {next : Int} {L : List P2} {M : List PA} (h : Pts most next L M) : M.map (·.1) = sortP L := by
  obtain ⟨z, e, -, -, hp⟩ := h.ex
  refine asc_uniq (ascA_map h.asc) (sortP_asc L) ?_
  refine ((hp.map _).trans ?_).trans (sortP_perm L).symm
  rw [e]
theorem Pts.places {most : Nat} {n : Nat} {L : List P2} {M : List PA} (h : Pts most (n : Int) L M) : byAge M n = L := by
  obtain ⟨z, e, hz, ha, hp⟩ := h.ex
  rw [byAge_perm hp hz, byAge_rises hz (fun x hx => (ha x hx).1), List.filter_eq_self.2 (fun x hx => by simpa using (ha x hx).2), e]
theorem Pts.nil (most : Nat) (next : Int) : Pts most next [] [] := ⟨⟨[], rfl, List.Pairwise.nil, (fun x hx => by cases hx), List.Perm.refl _⟩, List.Pairwise.nil⟩
theorem Pts.put {most : Nat} {next : Int} {L : List P2} {M : List PA} (h : Pts most next L M) (hn : 0 ≤ next) (p : P2) : Pts most (next + 1) (L ++ [p]) (insP (p, next + 1) M) := by
  obtain ⟨z, e, hz, ha, hp⟩ := h.ex
  refine ⟨⟨z ++ [(p, next + 1)], by simp [e], ?_, fun x hx => ?_, (insP_perm _ _).trans ?_⟩, insP_asc _ h.asc⟩
  · refine List.pairwise_append.2 ⟨hz, by simp, fun a b c d => ?_⟩
    rw [List.mem_singleton.1 d]
    have := (ha a b).2
    simp only; omega
  · rcases List.mem_append.1 hx with hx | hx
    · have := ha x hx; omega
    · rw [List.mem_singleton.1 hx]; simp only; omega
  · exact (hp.cons _).trans (List.perm_append_singleton _ _).symm
theorem Pts.drop {most : Nat} {next : Int} {L : List P2} {M : List PA} (h : Pts most next L M) (hl : 0 < L.length) : Pts most next (L.drop 1) (dropMin M) := by
  obtain ⟨z, e, hz, ha, hp⟩ := h.ex
  match z, hp with
  | [], hp => subst e; simp at hl
  | p :: z, hp =>
    refine ⟨⟨z, by rw [← e]; rfl, (List.pairwise_cons.1 hz).2, fun x hx => ha x (List.mem_cons_of_mem _ hx), dropMin_perm hp hz⟩, dropMin_asc h.asc⟩
/-- What a shift makes: those that go are let go, the others move. -/
def shiftA (go : P2 → Bool) (mv : P2 → P2) (M : List PA) : List PA := M.foldl (fun acc x => if go x.1 then acc else insP (mv x.1, x.2) acc) []
theorem shiftA_snoc (go : P2 → Bool) (mv : P2 → P2) (M : List PA) (x : PA) : shiftA go mv (M ++ [x]) = if go x.1 then shiftA go mv M else insP (mv x.1, x.2) (shiftA go mv M) := by
  simp [shiftA]
theorem shiftA_foldl (go : P2 → Bool) (mv : P2 → P2) : ∀ (M acc : List PA), AscA acc → AscA (M.foldl (fun acc x => if go x.1 then acc else insP (mv x.1, x.2) acc) acc) ∧ (M.foldl (fun acc x => if go x.1 then acc else insP (mv x.1, x.2) acc) acc).Perm (acc ++ (M.filter (fun x => !go x.1)).map (fun x => (mv x.1, x.2)))
  | [], acc, h => ⟨h, by simp⟩
  | x :: M, acc, h => by
    rw [List.foldl_cons]
    cases hg : go x.1 with
    | true =>
      have := shiftA_foldl go mv M acc h
      simpa [hg] using this
    | false =>
      have ih := shiftA_foldl go mv M (insP (mv x.1, x.2) acc) (insP_asc _ h)
      refine ⟨by simpa using ih.1, ?_⟩
      simp only [hg, Bool.not_false, List.filter_cons, if_true, List.map_cons, Bool.false_eq_true, if_false]
      refine ih.2.trans ?_
      refine ((insP_perm _ _).append_right _).trans ?_
      simp only [List.cons_append]
      exact (List.perm_middle).symm
theorem Pts.shift {most : Nat} {next : Int} {L : List P2} {M : List PA} (h : Pts most next L M) (go : P2 → Bool) (mv : P2 → P2) : Pts most next ((L.filter (fun p => !go p)).map mv) (shiftA go mv M) := by
  obtain ⟨z, e, hz, ha, hp⟩ := h.ex
  obtain ⟨h1, h2⟩ := shiftA_foldl go mv M [] List.Pairwise.nil
  refine ⟨⟨(z.filter (fun x => !go x.1)).map (fun x => (mv x.1, x.2)), ?_, ?_, fun x hx => ?_, ?_⟩, h1⟩
  · subst e
    rw [List.map_map, List.filter_map, List.map_map]
    rfl
  · exact List.pairwise_map.2 (hz.sublist List.filter_sublist)
  · obtain ⟨y, hy, rfl⟩ := List.mem_map.1 hx
    exact ha y (List.mem_filter.1 hy).1
  · rw [List.nil_append] at h2
    exact h2.trans ((hp.filter _).map _)
end Go.Proofs.YtffdblmdelgkaaaGreat
