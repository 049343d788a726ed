/- Widths of scalars. Conditions: none. -/
import Derived.Test.YtffdblmdelgkaaaGreatCeP
import Derived.Test.YtffdblmdelgkaaaGreatGnA
import Derived.Test.YtffdblmdelgkaaaGreatRegW
namespace Go.Proofs.YtffdblmdelgkaaaGreat
open Go.RowKit

def encPr (x : Int × Int) : List Value := [.int .i32 x.1, .int .i32 x.2]
theorem encPr_len : ∀ x, (encPr x).length = 2 := fun _ => rfl
theorem flat_at2 {α : Type} {enc : α → List Value} {K : Nat} (hl : ∀ x, (enc x).length = K) : ∀ (X : List α) (k : Nat) (x : α) (j : Nat), X[k]? = some x → j < K → (flat enc X)[k * K + j]? = (enc x)[j]?
  | [], k, x, j, h, _ => by simp at h
  | y :: X, 0, x, j, h, hj => by
    obtain rfl : y = x := by simpa using h
    have e : flat enc (y :: X) = enc y ++ flat enc X := rfl
    rw [e, Nat.zero_mul, Nat.zero_add, List.getElem?_append_left (by rw [hl]; exact hj)]
  | y :: X, k + 1, x, j, h, hj => by
    have e : flat enc (y :: X) = enc y ++ flat enc X := rfl
    rw [e, List.getElem?_append_right (by rw [hl, Nat.add_mul]; omega), hl, show (k + 1) * K + j - K = k * K + j by rw [Nat.add_mul]; omega]
    exact flat_at2 hl X k x j (by simpa using h) hj
theorem gr_lit {α : Type} {enc : α → List Value} {K : Nat} (hl : ∀ x, (enc x).length = K) {w : World} {g : Nat} {t : TypeId} {l : List α} (h : w.heap[g]? = some (.cells (flat enc l).toArray t (0, 0))) : GrAt enc K w (some ⟨g, 0, none⟩) l := fun _ => by
  refine ⟨g, 0, rfl, fun i x hx j v hv => ?_⟩
  have hj : j < K := by have := (List.getElem?_eq_some_iff.1 hv).1; rwa [hl] at this
  have := flat_at2 hl l i x j hx hj
  rw [Nat.zero_add]
  exact (whole_at h _ _ (this.trans hv)).1
set_option maxHeartbeats 800000 in
theorem wnone_any (r : Int) (w : World) : Calls Tryz.prog 143 #[.int .i32 r] w fun e w' => e = .returned (.bool (noneW r)) ∧ w = w' := by
  by_cases h1 : r < 32
  · skip
    have hv : noneW r = true := by simp [noneW]; omega
    rw [hv]
    clear hv
    go_enter Tryz.func143, Tryz.ntmps143
    go_wp2
    go_ret
    exact ⟨rfl, rfl⟩
  by_cases h2 : 127 ≤ r
  · by_cases h3 : r < 160
    · skip
      have hv : noneW r = true := by simp [noneW]; omega
      rw [hv]
      clear hv
      go_enter Tryz.func143, Tryz.ntmps143
      go_wp2
      go_ret
      exact ⟨rfl, rfl⟩
    · by_cases h4 : 55296 ≤ r
      · by_cases h5 : r < 57344
        · skip
          have hv : noneW r = true := by simp [noneW]; omega
          rw [hv]
          clear hv
          go_enter Tryz.func143, Tryz.ntmps143
          go_wp2
          go_ret
          exact ⟨rfl, rfl⟩
        · by_cases h6 : 1114111 < r
          · skip
            have hv : noneW r = true := by simp [noneW]; omega
            rw [hv]
            clear hv
            go_enter Tryz.func143, Tryz.ntmps143
            go_wp2
            go_ret
            exact ⟨rfl, rfl⟩
          · skip
            have hv : noneW r = false := by simp [noneW]; omega
            rw [hv]
            clear hv
            go_enter Tryz.func143, Tryz.ntmps143
            go_wp2
            go_ret
            exact ⟨rfl, rfl⟩
      · have h6 : ¬ 1114111 < r := by omega
        have hv : noneW r = false := by simp [noneW]; omega
        rw [hv]
        clear hv
        go_enter Tryz.func143, Tryz.ntmps143
        go_wp2
        go_ret
        exact ⟨rfl, rfl⟩
  · have h4 : ¬ 55296 ≤ r := by omega
    have h6 : ¬ 1114111 < r := by omega
    have hv : noneW r = false := by simp [noneW]; omega
    rw [hv]
    clear hv
    go_enter Tryz.func143, Tryz.ntmps143
    go_wp2
    go_ret
    exact ⟨rfl, rfl⟩
def TabPost (l : List (Int × Int)) (w : World) (e : Ending) (w' : World) : Prop := ∃ g, e = .returned (.slice (some ⟨g, 0, none⟩) l.length l.length) ∧ GrAt encPr 2 w' (some ⟨g, 0, none⟩) l ∧ Below w.heap.size w w'
set_option maxRecDepth 100000 in
set_option maxHeartbeats 1600000 in
theorem wmarks_any (w : World) : Calls Tryz.prog 145 #[] w (TabPost marksT w) := by
  go_enter Tryz.func145, Tryz.ntmps145
  go_wp2
  go_ret
  exact ⟨w.heap.size, rfl, gr_lit encPr_len (l := marksT) (hp_new rfl), below_allocs (Below.refl _ _) _⟩
set_option maxRecDepth 100000 in
set_option maxHeartbeats 1600000 in
theorem wwides_any (w : World) : Calls Tryz.prog 146 #[] w (TabPost widesT w) := by
  go_enter Tryz.func146, Tryz.ntmps146
  go_wp2
  go_ret
  exact ⟨w.heap.size, rfl, gr_lit encPr_len (l := widesT) (hp_new rfl), below_allocs (Below.refl _ _) _⟩
def PrPost (r : Int) (x : Int × Int) (w : World) (e : Ending) (w' : World) : Prop := e = .returned (.bool (decide (x.1 ≤ r) && decide (r ≤ x.2))) ∧ Below w.heap.size w w'
set_option maxHeartbeats 800000 in
theorem among1_any (r : Int) (g : Nat) (x : Int × Int) (w : World) (hg : w.cell? ⟨g, 0, none⟩ = some (.int .i32 r)) : Calls Tryz.prog 154 #[.agg #[.int .i32 x.1, .int .i32 x.2], .pointer (some ⟨g, 0, none⟩)] w (PrPost r x w) := by
  have hgl := lt_of_cell hg
  by_cases h1 : x.1 ≤ r <;> by_cases h2 : r ≤ x.2
  all_goals
    go_enter Tryz.func154, Tryz.ntmps154
    go_wp2
    go_ret
    exact ⟨by simp [h1, h2], below_allocs (Below.refl _ _) _⟩
end Go.Proofs.YtffdblmdelgkaaaGreat
