/- Plain: the next and the last one ahead, in any list and in a rising one. Conditions: none. -/
import Derived.Lib.SlicesCompact
namespace Go.Proofs.Ytfadcmjdlfobhaa

def bestN (a : Int) : Option Int → Int → Option Int
  | none, x => if a < x then some x else none
  | some b, x => if a < x ∧ x < b then some x else some b
def nxt (l : List Int) (a : Int) : Option Int := l.foldl (bestN a) none
def bestA (a : Int) : Option Int → Int → Option Int
  | none, x => if x < a then some x else none
  | some b, x => if x < a ∧ b < x then some x else some b
def ahd (l : List Int) (a : Int) : Option Int := l.foldl (bestA a) none
def IsNxt (l : List Int) (a : Int) : Option Int → Prop
  | none => ∀ y ∈ l, y ≤ a
  | some x => x ∈ l ∧ a < x ∧ ∀ y ∈ l, a < y → x ≤ y
def IsAhd (l : List Int) (a : Int) : Option Int → Prop
  | none => ∀ y ∈ l, a ≤ y
  | some x => x ∈ l ∧ x < a ∧ ∀ y ∈ l, y < a → y ≤ x
theorem nxt_snoc (l : List Int) (a x : Int) : nxt (l ++ [x]) a = bestN a (nxt l a) x := by simp [nxt]
theorem ahd_snoc (l : List Int) (a x : Int) : ahd (l ++ [x]) a = bestA a (ahd l a) x := by simp [ahd]
theorem isNxt_snoc {l : List Int} {a x : Int} {o : Option Int} (h : IsNxt l a o) : IsNxt (l ++ [x]) a (bestN a o x) := by
  cases o with
  | none =>
    simp only [bestN]
    by_cases hx : a < x
    · rw [if_pos hx]
      refine ⟨by simp, hx, fun y hy hay => ?_⟩
      rcases List.mem_append.1 hy with hy | hy
      · exact absurd (h y hy) (by omega)
      · rw [List.mem_singleton.1 hy]; omega
    · rw [if_neg hx]
      intro y hy
      rcases List.mem_append.1 hy with hy | hy
      · exact h y hy
      · rw [List.mem_singleton.1 hy]; omega
  | some b =>
    obtain ⟨h1, h2, h3⟩ := h
    simp only [bestN]
    by_cases hx : a < x ∧ x < b
    · rw [if_pos hx]
      refine ⟨by simp, hx.1, fun y hy hay => ?_⟩
      rcases List.mem_append.1 hy with hy | hy
      · have := h3 y hy hay; omega
      · rw [List.mem_singleton.1 hy]; omega
    · rw [if_neg hx]
      refine ⟨by simp [h1], h2, fun y hy hay => ?_⟩
      rcases List.mem_append.1 hy with hy | hy
      · exact h3 y hy hay
      · rw [List.mem_singleton.1 hy] at hay ⊢; omega
theorem isAhd_snoc {l : List Int} {a x : Int} {o : Option Int} (h : IsAhd l a o) : IsAhd (l ++ [x]) a (bestA a o x) := by
  cases o with
  | none =>
    simp only [bestA]
    by_cases hx : x < a
    · rw [if_pos hx]
      refine ⟨by simp, hx, fun y hy hay => ?_⟩
      rcases List.mem_append.1 hy with hy | hy
      · exact absurd (h y hy) (by omega)
      · rw [List.mem_singleton.1 hy]; omega
    · rw [if_neg hx]
      intro y hy
      rcases List.mem_append.1 hy with hy | hy
      · exact h y hy
      · rw [List.mem_singleton.1 hy]; omega
  | some b =>
    obtain ⟨h1, h2, h3⟩ := h
    simp only [bestA]
    by_cases hx : x < a ∧ b < x
    · rw [if_pos hx]
      refine ⟨by simp, hx.1, fun y hy hay => ?_⟩
      rcases List.mem_append.1 hy with hy | hy
      · have := h3 y hy hay; omega
      · rw [List.mem_singleton.1 hy]; omega
    · rw [if_neg hx]
      refine ⟨by simp [h1], h2, fun y hy hay => ?_⟩
      rcases List.mem_append.1 hy with hy | hy
      · exact h3 y hy hay
      · rw [List.mem_singleton.1 hy] at hay ⊢; omega
theorem isNxt_foldl (a : Int) : ∀ (m l : List Int) (o : Option Int), IsNxt l a o → IsNxt (l ++ m) a (m.foldl (bestN a) o)
  | [], l, o, h => by simpa using h
  | x :: m, l, o, h => by
    have := isNxt_foldl a m (l ++ [x]) _ (isNxt_snoc (x := x) h)
    simpa using this
theorem isAhd_foldl (a : Int) : ∀ (m l : List Int) (o : Option Int), IsAhd l a o → IsAhd (l ++ m) a (m.foldl (bestA a) o)
  | [], l, o, h => by simpa using h
  | x :: m, l, o, h => by
    have := isAhd_foldl a m (l ++ [x]) _ (isAhd_snoc (x := x) h)
    simpa using this
theorem isNxt (l : List Int) (a : Int) : IsNxt l a (nxt l a) := by
  have := isNxt_foldl a l [] none (fun y hy => by cases hy)
  simpa [nxt] using this
theorem isAhd (l : List Int) (a : Int) : IsAhd l a (ahd l a) := by
  have := isAhd_foldl a l [] none (fun y hy => by cases hy)
  simpa [ahd] using this
theorem IsNxt.uniq {l m : List Int} {a : Int} {o p : Option Int} (hm : ∀ x, x ∈ l ↔ x ∈ m) (h : IsNxt l a o) (k : IsNxt m a p) : o = p := by
  cases o with
  | none => cases p with
    | none => rfl
    | some y => exact absurd (h y ((hm y).2 k.1)) (by have := k.2.1; omega)
  | some x => cases p with
    | none => exact absurd (k x ((hm x).1 h.1)) (by have := h.2.1; omega)
    | some y =>
      have h1 := h.2.2 y ((hm y).2 k.1) k.2.1
      have h2 := k.2.2 x ((hm x).1 h.1) h.2.1
      rw [show x = y by omega]
theorem IsAhd.uniq {l m : List Int} {a : Int} {o p : Option Int} (hm : ∀ x, x ∈ l ↔ x ∈ m) (h : IsAhd l a o) (k : IsAhd m a p) : o = p := by
  cases o with
  | none => cases p with
    | none => rfl
    | some y => exact absurd (h y ((hm y).2 k.1)) (by have := k.2.1; omega)
  | some x => cases p with
    | none => exact absurd (k x ((hm x).1 h.1)) (by have := h.2.1; omega)
    | some y =>
      have h1 := h.2.2 y ((hm y).2 k.1) k.2.1
      have h2 := k.2.2 x ((hm x).1 h.1) h.2.1
      rw [show x = y by omega]
theorem nxt_congr {l m : List Int} (hm : ∀ x, x ∈ l ↔ x ∈ m) (a : Int) : nxt l a = nxt m a := (isNxt l a).uniq hm (isNxt m a)
theorem ahd_congr {l m : List Int} (hm : ∀ x, x ∈ l ↔ x ∈ m) (a : Int) : ahd l a = ahd m a := (isAhd l a).uniq hm (isAhd m a)

/-- Rising, each once. -/
def Rise (s : List Int) : Prop := s.Pairwise (· < ·)
def cntLe (s : List Int) (a : Int) : Nat := s.countP (fun y => decide (y ≤ a))
def cntLt (s : List Int) (a : Int) : Nat := s.countP (fun y => decide (y < a))
theorem rise_next : ∀ {s : List Int}, Rise s → ∀ a, IsNxt s a (s[cntLe s a]?)
  | [], _, a => fun y hy => by cases hy
  | x :: t, h, a => by
    obtain ⟨h1, h2⟩ := List.pairwise_cons.1 h
    by_cases hx : x ≤ a
    · have e : cntLe (x :: t) a = cntLe t a + 1 := by simp [cntLe, hx]
      rw [e, List.getElem?_cons_succ]
      have ih := rise_next h2 a
      cases ht : t[cntLe t a]? with
      | none =>
        rw [ht] at ih
        intro y hy
        rcases List.mem_cons.1 hy with rfl | hy
        · exact hx
        · exact ih y hy
      | some z =>
        rw [ht] at ih
        refine ⟨List.mem_cons_of_mem _ ih.1, ih.2.1, fun y hy hay => ?_⟩
        rcases List.mem_cons.1 hy with rfl | hy
        · omega
        · exact ih.2.2 y hy hay
    · have e : cntLe (x :: t) a = 0 := by
        unfold cntLe
        rw [List.countP_eq_zero]
        intro y hy
        rcases List.mem_cons.1 hy with rfl | hy
        · simpa using hx
        · have := h1 y hy; simp; omega
      rw [e, List.getElem?_cons_zero]
      refine ⟨by simp, by omega, fun y hy hay => ?_⟩
      rcases List.mem_cons.1 hy with rfl | hy
      · omega
      · have := h1 y hy; omega
theorem rise_ahead : ∀ {s : List Int}, Rise s → ∀ a, IsAhd s a (if cntLt s a = 0 then none else s[cntLt s a - 1]?)
  | [], _, a => fun y hy => by cases hy
  | x :: t, h, a => by
    obtain ⟨h1, h2⟩ := List.pairwise_cons.1 h
    by_cases hx : x < a
    · have e : cntLt (x :: t) a = cntLt t a + 1 := by simp [cntLt, hx]
      rw [e, if_neg (by omega), Nat.add_sub_cancel]
      have ih := rise_ahead h2 a
      by_cases h0 : cntLt t a = 0
      · rw [if_pos h0] at ih
        rw [h0, List.getElem?_cons_zero]
        refine ⟨by simp, hx, fun y hy hay => ?_⟩
        rcases List.mem_cons.1 hy with rfl | hy
        · omega
        · have := ih y hy; omega
      · rw [if_neg h0] at ih
        obtain ⟨n, hn⟩ : ∃ n, cntLt t a = n + 1 := ⟨cntLt t a - 1, by omega⟩
        rw [hn] at ih ⊢
        rw [Nat.add_sub_cancel] at ih
        rw [List.getElem?_cons_succ]
        cases ht : t[n]? with
        | none =>
          exfalso
          have hle : cntLt t a ≤ t.length := List.countP_le_length
          rw [List.getElem?_eq_none_iff] at ht
          omega
        | some z =>
          rw [ht] at ih
          refine ⟨List.mem_cons_of_mem _ ih.1, ih.2.1, fun y hy hay => ?_⟩
          rcases List.mem_cons.1 hy with rfl | hy
          · have := h1 z ih.1; omega
          · exact ih.2.2 y hy hay
    · have e : cntLt (x :: t) a = 0 := by
        unfold cntLt
        rw [List.countP_eq_zero]
        intro y hy
        rcases List.mem_cons.1 hy with rfl | hy
        · simpa using hx
        · have := h1 y hy; simp; omega
      rw [e, if_pos rfl]
      intro y hy
      rcases List.mem_cons.1 hy with rfl | hy
      · omega
      · have := h1 y hy; omega
theorem rise_nxt {s : List Int} (h : Rise s) (a : Int) : s[cntLe s a]? = nxt s a := (rise_next h a).uniq (fun _ => Iff.rfl) (isNxt s a)
theorem rise_ahd {s : List Int} (h : Rise s) (a : Int) : (if cntLt s a = 0 then none else s[cntLt s a - 1]?) = ahd s a := (rise_ahead h a).uniq (fun _ => Iff.rfl) (isAhd s a)
/-- Rising lists of the same members are the same. -/
theorem rise_uniq : ∀ {s t : List Int}, Rise s → Rise t → (∀ x, x ∈ s ↔ x ∈ t) → s = t
  | [], [], _, _, _ => rfl
  | [], y :: t, _, _, h => by have := (h y).2 (by simp); cases this
  | x :: s, [], _, _, h => by have := (h x).1 (by simp); cases this
  | x :: s, y :: t, h1, h2, h => by
    obtain ⟨a1, a2⟩ := List.pairwise_cons.1 h1
    obtain ⟨b1, b2⟩ := List.pairwise_cons.1 h2
    have e : x = y := by
      have p := (h x).1 (by simp)
      have q := (h y).2 (by simp)
      rcases List.mem_cons.1 p with p | p
      · exact p
      · rcases List.mem_cons.1 q with q | q
        · exact q.symm
        · have := a1 y q; have := b1 x p; omega
    subst e
    have := rise_uniq a2 b2 (fun z => by
      constructor
      · intro hz
        rcases List.mem_cons.1 ((h z).1 (List.mem_cons_of_mem _ hz)) with e | e
        · have := a1 z hz; omega
        · exact e
      · intro hz
        rcases List.mem_cons.1 ((h z).2 (List.mem_cons_of_mem _ hz)) with e | e
        · have := b1 z hz; omega
        · exact e)
    rw [this]
end Go.Proofs.Ytfadcmjdlfobhaa
