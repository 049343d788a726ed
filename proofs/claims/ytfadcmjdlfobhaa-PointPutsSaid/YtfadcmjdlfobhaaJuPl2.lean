/- Plain: a sorted list without repetitions; steps on and back; the nearest. Conditions: none. -/
import Derived.Test.YtfadcmjdlfobhaaJuPl
namespace Go.Proofs.Ytfadcmjdlfobhaa
open Go.Lib

theorem compact_upto (d : Array Int) (hs : ∀ i j, i ≤ j → j < d.size → d[i]! ≤ d[j]!) : ∀ m, m ≤ d.size → Rise (compactUpTo d m) ∧ (∀ x, x ∈ compactUpTo d m ↔ ∃ j, j < m ∧ d[j]! = x) ∧ ∀ x ∈ compactUpTo d m, x ≤ d[m - 1]!
  | 0, _ => ⟨by simp [compactUpTo, Rise], fun x => by simp [compactUpTo], fun x hx => by simp [compactUpTo] at hx⟩
  | m + 1, hm => by
    obtain ⟨h1, h2, h3⟩ := compact_upto d hs m (by omega)
    rw [compactUpTo_succ, Nat.add_sub_cancel]
    have hle : ∀ x ∈ compactUpTo d m, x ≤ d[m]! := fun x hx => by
      obtain ⟨j, hj, e⟩ := (h2 x).1 hx
      rw [← e]; exact hs j m (by omega) (by omega)
    cases hk : keeps d m with
    | true =>
      rw [if_pos rfl]
      refine ⟨?_, fun x => ?_, fun x hx => ?_⟩
      · refine List.pairwise_append.2 ⟨h1, by simp, fun x hx y hy => ?_⟩
        rw [List.mem_singleton.1 hy]
        rcases Nat.eq_zero_or_pos m with h0 | h0
        · subst h0; simp [compactUpTo] at hx
        · have hne : d[m]! ≠ d[m - 1]! := by
            intro e
            rw [keeps_neg h0 e] at hk; cases hk
          have a1 := h3 x hx
          have a2 := hs (m - 1) m (by omega) (by omega)
          omega
      · rw [List.mem_append, h2, List.mem_singleton]
        constructor
        · rintro (⟨j, hj, e⟩ | rfl)
          · exact ⟨j, by omega, e⟩
          · exact ⟨m, by omega, rfl⟩
        · rintro ⟨j, hj, e⟩
          by_cases hjm : j = m
          · subst hjm; exact .inr e.symm
          · exact .inl ⟨j, by omega, e⟩
      · rcases List.mem_append.1 hx with hx | hx
        · exact hle x hx
        · rw [List.mem_singleton.1 hx]; exact Int.le_refl _
    | false =>
      rw [if_neg (by simp), List.append_nil]
      have hm0 : m ≠ 0 := fun e => by subst e; simp [keeps] at hk
      have he : d[m]! = d[m - 1]! := by simp [keeps, hm0] at hk; exact hk
      refine ⟨h1, fun x => ?_, hle⟩
      rw [h2]
      constructor
      · rintro ⟨j, hj, e⟩; exact ⟨j, by omega, e⟩
      · rintro ⟨j, hj, e⟩
        by_cases hjm : j = m
        · subst hjm; exact ⟨j - 1, by omega, by rw [← he]; exact e⟩
        · exact ⟨j, by omega, e⟩
def srtd (l : List Int) : List Int := compact (l.mergeSort fun x y => decide (x ≤ y))
theorem srtd_ok (l : List Int) : Rise (srtd l) ∧ ∀ x, x ∈ srtd l ↔ x ∈ l := by
  have hp := List.mergeSort_perm l (fun x y => decide (x ≤ y))
  have hsort : (l.mergeSort fun x y => decide (x ≤ y)).Pairwise (fun x y => x ≤ y) := by
    have := List.pairwise_mergeSort (le := fun (x y : Int) => decide (x ≤ y)) (by intro a b c h1 h2; simp at *; omega) (by intro a b; simp; omega) l
    simpa using this
  unfold srtd compact
  generalize (l.mergeSort fun x y => decide (x ≤ y)) = m at hp hsort ⊢
  have hs : ∀ i j, i ≤ j → j < m.toArray.size → m.toArray[i]! ≤ m.toArray[j]! := by
    intro i j hij hj
    have hj' : j < m.length := by simpa using hj
    have hi' : i < m.length := by omega
    rw [getElem!_pos m.toArray i (by simpa using hi'), getElem!_pos m.toArray j (by simpa using hj')]
    rcases Nat.lt_or_ge i j with h | h
    · have := List.pairwise_iff_getElem.1 hsort i j hi' hj' h
      simpa using this
    · have : i = j := by omega
      subst this; exact Int.le_refl _
  obtain ⟨h1, h2, -⟩ := compact_upto m.toArray hs m.length (by simp)
  refine ⟨h1, fun x => ?_⟩
  rw [h2, ← hp.mem_iff]
  constructor
  · rintro ⟨j, hj, e⟩
    rw [getElem!_pos m.toArray j (by simpa using hj)] at e
    rw [← e]; simp
  · intro hx
    obtain ⟨j, hj, e⟩ := List.mem_iff_getElem.1 hx
    exact ⟨j, hj, by rw [getElem!_pos m.toArray j (by simpa using hj)]; simpa using e⟩
theorem srtd_len (l : List Int) : (srtd l).length ≤ l.length := by
  have e : (l.mergeSort fun x y => decide (x ≤ y)).length = l.length := List.length_mergeSort l
  unfold srtd compact compactUpTo
  rw [List.length_map]
  refine Nat.le_trans (List.length_filter_le _ _) ?_
  simp [e]
theorem srtd_nxt (l : List Int) (a : Int) : (srtd l)[cntLe (srtd l) a]? = nxt l a := by
  rw [rise_nxt (srtd_ok l).1]; exact nxt_congr (srtd_ok l).2 a
theorem srtd_ahd (l : List Int) (a : Int) : (if cntLt (srtd l) a = 0 then none else (srtd l)[cntLt (srtd l) a - 1]?) = ahd l a := by
  rw [rise_ahd (srtd_ok l).1]; exact ahd_congr (srtd_ok l).2 a

/-- So many steps on, and back. -/
def up (l : List Int) : Nat → Int → Int
  | 0, a => a
  | n + 1, a => (nxt l (up l n a)).getD (up l n a)
def dn (l : List Int) : Nat → Int → Int
  | 0, a => a
  | n + 1, a => (ahd l (dn l n a)).getD (dn l n a)
theorem up_congr {l m : List Int} (hm : ∀ x, x ∈ l ↔ x ∈ m) (a : Int) : ∀ n, up l n a = up m n a
  | 0 => rfl
  | n + 1 => by rw [up, up, up_congr hm a n, nxt_congr hm]
theorem dn_congr {l m : List Int} (hm : ∀ x, x ∈ l ↔ x ∈ m) (a : Int) : ∀ n, dn l n a = dn m n a
  | 0 => rfl
  | n + 1 => by rw [dn, dn, dn_congr hm a n, ahd_congr hm]
theorem countP_lt {p q : Int → Bool} : ∀ (l : List Int), (∀ x, p x = true → q x = true) → (∃ x ∈ l, q x = true ∧ p x = false) → l.countP p < l.countP q
  | [], _, ⟨x, hx, _⟩ => by cases hx
  | y :: l, h, ⟨x, hx, hq, hp⟩ => by
    have hle : l.countP p ≤ l.countP q := List.countP_mono_left (fun z _ hz => h z hz)
    rw [List.countP_cons, List.countP_cons]
    rcases List.mem_cons.1 hx with rfl | hx
    · rw [if_pos hq, if_neg (by simp [hp])]; omega
    · have := countP_lt l h ⟨x, hx, hq, hp⟩
      cases hpy : p y <;> cases hqy : q y <;> simp
      · exact this
      · omega
      · rw [h y hpy] at hqy; cases hqy
      · omega
theorem up_end (l : List Int) (a : Int) : ∀ n, l.countP (fun y => decide (up l n a < y)) ≤ l.length - n
  | 0 => by rw [Nat.sub_zero]; exact List.countP_le_length
  | n + 1 => by
    have ih := up_end l a n
    have hn := isNxt l (up l n a)
    rw [up]
    cases h : nxt l (up l n a) with
    | none =>
      rw [h] at hn
      have : l.countP (fun y => decide (up l n a < y)) = 0 := by
        rw [List.countP_eq_zero]; intro y hy; have := hn y hy; simp; omega
      simp only [Option.getD_none]; omega
    | some x =>
      rw [h] at hn
      simp only [Option.getD_some]
      have := countP_lt (p := fun y => decide (x < y)) (q := fun y => decide (up l n a < y)) l (fun z hz => by have := hn.2.1; simp at hz ⊢; omega) ⟨x, hn.1, by simpa using hn.2.1, by simp⟩
      omega
theorem dn_end (l : List Int) (a : Int) : ∀ n, l.countP (fun y => decide (y < dn l n a)) ≤ l.length - n
  | 0 => by rw [Nat.sub_zero]; exact List.countP_le_length
  | n + 1 => by
    have ih := dn_end l a n
    have hn := isAhd l (dn l n a)
    rw [dn]
    cases h : ahd l (dn l n a) with
    | none =>
      rw [h] at hn
      have : l.countP (fun y => decide (y < dn l n a)) = 0 := by
        rw [List.countP_eq_zero]; intro y hy; have := hn y hy; simp; omega
      simp only [Option.getD_none]; omega
    | some x =>
      rw [h] at hn
      simp only [Option.getD_some]
      have := countP_lt (p := fun y => decide (y < x)) (q := fun y => decide (y < dn l n a)) l (fun z hz => by have := hn.2.1; simp at hz ⊢; omega) ⟨x, hn.1, by simpa using hn.2.1, by simp⟩
      omega
theorem nxt_none {l : List Int} {a : Int} (h : l.countP (fun y => decide (a < y)) = 0) : nxt l a = none := by
  have hn := isNxt l a
  cases e : nxt l a with
  | none => rfl
  | some x =>
    rw [e] at hn
    rw [List.countP_eq_zero] at h
    have := h x hn.1
    simp at this; have := hn.2.1; omega
theorem ahd_none {l : List Int} {a : Int} (h : l.countP (fun y => decide (y < a)) = 0) : ahd l a = none := by
  have hn := isAhd l a
  cases e : ahd l a with
  | none => rfl
  | some x =>
    rw [e] at hn
    rw [List.countP_eq_zero] at h
    have := h x hn.1
    simp at this; have := hn.2.1; omega
theorem up_stay {l : List Int} {a : Int} {n : Nat} (h : nxt l (up l n a) = none) : ∀ m, n ≤ m → up l m a = up l n a
  | 0, hm => by rw [show n = 0 by omega]
  | m + 1, hm => by
    by_cases e : n = m + 1
    · rw [e]
    · have ih := up_stay h m (by omega)
      rw [up, ih, h]; rfl
theorem dn_stay {l : List Int} {a : Int} {n : Nat} (h : ahd l (dn l n a) = none) : ∀ m, n ≤ m → dn l m a = dn l n a
  | 0, hm => by rw [show n = 0 by omega]
  | m + 1, hm => by
    by_cases e : n = m + 1
    · rw [e]
    · have ih := dn_stay h m (by omega)
      rw [dn, ih, h]; rfl
/-- Behind as many steps as there are stops no step goes on. -/
theorem up_big {l : List Int} {a : Int} {n m : Nat} (h1 : l.length ≤ n) (h2 : l.length ≤ m) : up l n a = up l m a := by
  have e := up_stay (nxt_none (l := l) (a := up l l.length a) (by have := up_end l a l.length; omega))
  rw [e n h1, e m h2]
theorem dn_big {l : List Int} {a : Int} {n m : Nat} (h1 : l.length ≤ n) (h2 : l.length ≤ m) : dn l n a = dn l m a := by
  have e := dn_stay (ahd_none (l := l) (a := dn l l.length a) (by have := dn_end l a l.length; omega))
  rw [e n h1, e m h2]
theorem nxt_back {l : List Int} {x y : Int} (hx : x ∈ l) (h : nxt l x = some y) : ahd l y = some x := by
  have hn := isNxt l x
  rw [h] at hn
  refine (isAhd l y).uniq (fun _ => Iff.rfl) (p := some x) ⟨hx, hn.2.1, fun z hz hzy => ?_⟩
  by_cases h1 : x < z
  · have := hn.2.2 z hz h1; omega
  · omega
theorem dn_succ' (l : List Int) (a : Int) : ∀ n, dn l (n + 1) a = dn l n ((ahd l a).getD a)
  | 0 => rfl
  | n + 1 => by rw [dn, dn_succ' l a n]; rfl
theorem up_back {l : List Int} {a : Int} (ha : a ∈ l) : ∀ n, (∀ j, j < n → nxt l (up l j a) ≠ none) → up l n a ∈ l ∧ dn l n (up l n a) = a
  | 0, _ => ⟨ha, rfl⟩
  | n + 1, h => by
    obtain ⟨h1, h2⟩ := up_back ha n (fun j hj => h j (by omega))
    have hn := isNxt l (up l n a)
    cases e : nxt l (up l n a) with
    | none => exact absurd e (h n (by omega))
    | some x =>
      rw [e] at hn
      have eu : up l (n + 1) a = x := by rw [up, e]; rfl
      rw [eu]
      refine ⟨hn.1, ?_⟩
      rw [dn_succ', nxt_back h1 e]
      exact h2

def dist (a b : Int) : Int := if a < b then b - a else a - b
def IsNear (l : List Int) (t c : Int) : Prop := c ∈ l ∧ ∀ y ∈ l, dist c t < dist y t ∨ dist c t = dist y t ∧ c ≤ y
theorem IsNear.uniq {l : List Int} {t c d : Int} (h : IsNear l t c) (k : IsNear l t d) : c = d := by
  have h1 := h.2 d k.1
  have h2 := k.2 c h.1
  omega
def nearer (t best x : Int) : Bool := decide (dist x t < dist best t) || (dist x t == dist best t && decide (x < best))
theorem IsNear.one (t x : Int) : IsNear [x] t x := ⟨by simp, fun y hy => by rw [List.mem_singleton.1 hy]; omega⟩
theorem IsNear.snoc {l : List Int} {t b : Int} (h : IsNear l t b) (x : Int) : IsNear (l ++ [x]) t (if nearer t b x then x else b) := by
  by_cases hx : nearer t b x = true
  · rw [if_pos hx]
    simp [nearer] at hx
    refine ⟨by simp, fun y hy => ?_⟩
    rcases List.mem_append.1 hy with hy | hy
    · have := h.2 y hy; omega
    · rw [List.mem_singleton.1 hy]; omega
  · rw [if_neg hx]
    simp [nearer] at hx
    refine ⟨by simp [h.1], fun y hy => ?_⟩
    rcases List.mem_append.1 hy with hy | hy
    · exact h.2 y hy
    · rw [List.mem_singleton.1 hy]
      rcases Int.lt_trichotomy (dist b t) (dist x t) with h1 | h1 | h1
      · exact .inl h1
      · have := hx.2 h1.symm; exact .inr ⟨h1, by omega⟩
      · omega
theorem near_here {l : List Int} {t : Int} (h : t ∈ l) : IsNear l t t := by
  refine ⟨h, fun y hy => ?_⟩
  unfold dist
  repeat' split
  all_goals omega
/-- The nearest of the two neighbours. -/
theorem near_of {l : List Int} {t c : Int} (ht : t ∉ l) (h : (ahd l t = none ∧ nxt l t = some c) ∨ (∃ a, ahd l t = some a ∧ nxt l t = none ∧ c = a) ∨ (∃ a b, ahd l t = some a ∧ nxt l t = some b ∧ c = if dist b t < dist a t then b else a)) : IsNear l t c := by
  have h1 := isAhd l t
  have h2 := isNxt l t
  have hne : ∀ y ∈ l, y ≠ t := fun y hy e => ht (e ▸ hy)
  rcases h with ⟨ea, eb⟩ | ⟨a, ea, eb, rfl⟩ | ⟨a, b, ea, eb, rfl⟩ <;> rw [ea] at h1 <;> rw [eb] at h2
  · refine ⟨h2.1, fun y hy => ?_⟩
    have a1 := h1 y hy
    have a2 := hne y hy
    have a3 := h2.2.2 y hy (by omega)
    have a4 := h2.2.1
    unfold dist
    repeat' split
    all_goals omega
  · refine ⟨h1.1, fun y hy => ?_⟩
    have a1 := h2 y hy
    have a2 := hne y hy
    have a3 := h1.2.2 y hy (by omega)
    have a4 := h1.2.1
    unfold dist
    repeat' split
    all_goals omega
  · have hmem : (if dist b t < dist a t then b else a) ∈ l := by split; exact h2.1; exact h1.1
    refine ⟨hmem, fun y hy => ?_⟩
    have a2 := hne y hy
    have a4 := h1.2.1
    have a5 := h2.2.1
    have a6 : y < t → y ≤ a := h1.2.2 y hy
    have a7 : t < y → b ≤ y := h2.2.2 y hy
    unfold dist
    repeat' split
    all_goals omega
end Go.Proofs.Ytfadcmjdlfobhaa
