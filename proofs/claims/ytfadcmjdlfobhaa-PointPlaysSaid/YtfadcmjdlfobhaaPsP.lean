/- Plain: the program's points and the document's, step by step. Conditions: none. -/
import Derived.Test.YtfadcmjdlfobhaaPrE
import Derived.Test.YtfadcmjdlfobhaaPrF
namespace Go.Proofs.Ytfadcmjdlfobhaa
open Go.RowKit Go.Sort

def ColsIn (L : List P2) : Prop := ∀ p ∈ L, inB p.2 = true
theorem mv_no {r c k a n : Int} (h : rightS k a n = false) : mv r c k a n = (r, c) := by
  unfold mv
  rw [if_neg]
  rw [h]
  simp
theorem mv_col {r c k a n : Int} (h : inB c = true) : inB (mv r c k a n).2 = true := by
  unfold mv
  split
  · split
    · exact h
    · split
      · rfl
      · exact h
  · exact h
theorem goP_goR {k a n : Int} {p : P2} (hr : rightS k a n = true) (hc : inB p.2 = true) : goP k a n p = goR k a n p := by
  unfold goP goR lostB
  rw [hr, hc]
  by_cases hk : k = 2
  · subst hk
    cases h1 : inB p.1 with
    | false => simp
    | true =>
      have h0 : 0 ≤ p.1 := by unfold inB at h1; simp at h1; exact h1.1
      simp [gapI, h0]
  · have hk' : (k == 2) = false := by simpa using hk
    rw [hk']; simp
theorem shiftL_eq {k a n : Int} {L : List P2} (h : ColsIn L) : shiftL k a n L = (L.filter (fun p => !goR k a n p)).map (mvP k a n) := by
  unfold shiftL
  cases hr : rightS k a n with
  | true =>
    rw [if_pos rfl]
    congr 1
    refine List.filter_congr fun p hp => ?_
    rw [goP_goR hr (h p hp)]
  | false =>
    rw [if_neg (by simp)]
    have h1 : L.filter (fun p => !goR k a n p) = L := by
      rw [List.filter_eq_self]
      intro p _
      unfold goR; rw [hr]; simp
    rw [h1]
    have h2 : mvP k a n = id := by
      funext p
      unfold mvP; rw [mv_no hr]; rfl
    rw [h2, List.map_id]
theorem shiftL_cols {k a n : Int} {L : List P2} (h : ColsIn L) : ColsIn (shiftL k a n L) := by
  rw [shiftL_eq h]
  intro p hp
  obtain ⟨q, hq, rfl⟩ := List.mem_map.1 hp
  exact mv_col (h q (List.mem_filter.1 hq).1)
theorem shiftL_len (k a n : Int) (L : List P2) : (shiftL k a n L).length ≤ L.length := by
  unfold shiftL
  split
  · exact keptL_len k a n L
  · exact Nat.le_refl _
theorem addL_cols {most : Int} {L : List P2} {p : P2} (h : ColsIn L) : ColsIn (addL most L p) := by
  unfold addL
  split
  · rename_i hp
    intro x hx
    rcases List.mem_append.1 hx with hx | hx
    · refine h x ?_
      split at hx
      · exact List.mem_of_mem_drop hx
      · exact hx
    · rw [List.mem_singleton.1 hx]
      unfold rightP at hp
      simp at hp
      exact hp.2
  · exact h
theorem pts_add {most : Nat} {next : Int} {L : List P2} {M : List PA} (h : Pts most next L M) (hn : 0 ≤ next) (hm : 1 ≤ most) (hl : L.length ≤ most) (p : P2) :
    Pts most (addN next p) (addL most L p) (addA most next M p) := by
  have hlen := h.len
  unfold addN addL addA
  cases hp : rightP p with
  | false => simpa using h
  | true =>
    rw [if_pos rfl, if_pos rfl, if_pos rfl]
    have h1 := h.put hn p
    rw [insP_len, hlen]
    by_cases hf : (L.length : Int) = most
    · have hfull : ¬ ((L.length + 1 : Nat) : Int) ≤ (most : Int) := by omega
      rw [if_pos hf, if_neg hfull]
      have h2 := h1.drop (by simp)
      rw [List.drop_append_of_le_length (by omega)] at h2
      exact h2
    · have hfull : ((L.length + 1 : Nat) : Int) ≤ (most : Int) := by omega
      rw [if_neg hf, if_pos hfull]
      exact h1
theorem addN_le (next : Int) (p : P2) : next ≤ addN next p ∧ addN next p ≤ next + 1 := by
  unfold addN; split <;> omega
theorem pts_shift {most : Nat} {next k a n : Int} {L : List P2} {M : List PA} (h : Pts most next L M) (hc : ColsIn L) : Pts most next (shiftL k a n L) (shiftA (goR k a n) (mvP k a n) M) := by
  rw [shiftL_eq hc]
  exact h.shift _ _
theorem pts_putL {most : Nat} {next : Int} {L P : List P2} {M : List PA} (_ : Pts most next L M) (hp : okPut L P = true) : Pts most (P.length : Nat) (putL L P) (putA P P.length) := by
  have := pts_putA most P P.length (Nat.le_refl _)
  rw [List.take_length] at this
  unfold putL
  rw [if_pos hp]
  exact this
theorem okPut_pts {most : Nat} {next : Int} {L P : List P2} {M : List PA} (h : Pts most next L M) : okPut (M.map (·.1)) P = okPut L P := by
  unfold okPut
  rw [List.length_map, h.len]
theorem putL_cols {L P : List P2} (h : ColsIn L) : ColsIn (putL L P) := by
  unfold putL
  split
  · rename_i hp
    intro x hx
    unfold okPut at hp
    rw [Bool.and_eq_true] at hp
    have := List.all_eq_true.1 hp.2 x hx
    unfold rightP at this
    simp at this
    exact this.2
  · exact h
theorem putL_len {L P : List P2} : (putL L P).length = L.length := by
  unfold putL
  split
  · rename_i hp
    unfold okPut at hp
    rw [Bool.and_eq_true] at hp
    simpa using hp.1
  · rfl
end Go.Proofs.Ytfadcmjdlfobhaa
