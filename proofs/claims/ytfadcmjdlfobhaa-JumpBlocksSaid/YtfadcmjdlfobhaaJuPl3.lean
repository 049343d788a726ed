/- Plain: a rising list, one after the other. Conditions: none. -/
import Derived.Test.YtfadcmjdlfobhaaJuPl2
namespace Go.Proofs.Ytfadcmjdlfobhaa

theorem rise_cnt : ∀ {s : List Int}, Rise s → ∀ {j : Nat} {n : Int}, s[j]? = some n → cntLe s n = j + 1
  | [], _, j, n, h => by simp at h
  | x :: t, h, 0, n, hj => by
    obtain ⟨h1, h2⟩ := List.pairwise_cons.1 h
    obtain rfl : x = n := by simpa using hj
    have : cntLe t x = 0 := by
      unfold cntLe; rw [List.countP_eq_zero]; intro y hy; have := h1 y hy; simp; omega
    unfold cntLe at this ⊢
    rw [List.countP_cons, this, if_pos (by simp)]
  | x :: t, h, j + 1, n, hj => by
    obtain ⟨h1, h2⟩ := List.pairwise_cons.1 h
    have hj' : t[j]? = some n := by simpa using hj
    have ih := rise_cnt h2 hj'
    have := h1 n (List.mem_of_getElem? hj')
    unfold cntLe at ih ⊢
    rw [List.countP_cons, ih, if_pos (by simp; omega)]
theorem rise_least : ∀ {s : List Int}, Rise s → ∀ {m : Int}, (∀ x ∈ s, m ≤ x) → s.take (cntLe s m) = if m ∈ s then [m] else []
  | [], _, m, _ => by simp
  | x :: t, h, m, hm => by
    obtain ⟨h1, h2⟩ := List.pairwise_cons.1 h
    have hx := hm x (by simp)
    have h0 : cntLe t m = 0 := by
      unfold cntLe; rw [List.countP_eq_zero]; intro y hy; have := h1 y hy; simp; omega
    have hmt : m ∉ t := fun hmt => by have := h1 m hmt; omega
    by_cases e : x = m
    · subst e
      have : cntLe (x :: t) x = 1 := by
        unfold cntLe at h0 ⊢; rw [List.countP_cons, h0, if_pos (by simp)]
      rw [this, if_pos (by simp)]; rfl
    · have : cntLe (x :: t) m = 0 := by
        unfold cntLe at h0 ⊢; rw [List.countP_cons, h0, if_neg (by simp; omega)]
      have hnot : m ∉ x :: t := by
        intro hm'
        rcases List.mem_cons.1 hm' with e' | hm'
        · exact e e'.symm
        · exact hmt hm'
      rw [this, if_neg hnot]; rfl
/-- What 'Sorted' has so far: the first ones, up to the least that was taken. -/
def SoFar (l : List Int) (least : Int) (out : List Int) : Prop := out = (srtd l).take (cntLe (srtd l) least)
theorem soFar_start (l : List Int) {m : Int} (h : ∀ x ∈ l, m ≤ x) : SoFar l m (if m ∈ l then [m] else []) := by
  unfold SoFar
  rw [rise_least (srtd_ok l).1 (fun x hx => h x (((srtd_ok l).2 x).1 hx))]
  by_cases hm : m ∈ l
  · rw [if_pos hm, if_pos (((srtd_ok l).2 m).2 hm)]
  · rw [if_neg hm, if_neg (fun h => hm (((srtd_ok l).2 m).1 h))]
theorem SoFar.step {l out : List Int} {least n : Int} (h : SoFar l least out) (hn : nxt l least = some n) : SoFar l n (out ++ [n]) := by
  unfold SoFar at *
  rw [← srtd_nxt] at hn
  have hk := List.getElem?_eq_some_iff.1 hn
  rw [rise_cnt (srtd_ok l).1 hn, List.take_succ_eq_append_getElem hk.1, ← h, hk.2]
theorem SoFar.done {l out : List Int} {least : Int} (h : SoFar l least out) (hn : nxt l least = none) : out = srtd l := by
  unfold SoFar at *
  rw [← srtd_nxt, List.getElem?_eq_none_iff] at hn
  rw [h, List.take_of_length_le hn]
theorem SoFar.len {l out : List Int} {least : Int} (h : SoFar l least out) : out.length ≤ l.length := by
  unfold SoFar at h
  rw [h, List.length_take]
  have := srtd_len l
  omega
theorem nxt_mem {l : List Int} {a n : Int} (h : nxt l a = some n) : n ∈ l := by
  have := isNxt l a
  rw [h] at this; exact this.1
theorem ahd_mem {l : List Int} {a n : Int} (h : ahd l a = some n) : n ∈ l := by
  have := isAhd l a
  rw [h] at this; exact this.1
end Go.Proofs.Ytfadcmjdlfobhaa
