/- Small lemmas on worlds for the walks. Conditions: none. -/
import Derived.Test.YtffdblmdelgkaaaGreatRows
import Derived.WalkKit
import Derived.WalkSpells
import Derived.WalkLawsBesides
import Derived.Lib.Hide
import Derived.Outline
namespace Go.Proofs.YtffdblmdelgkaaaGreat
open Go.RowKit

theorem lt_of_cell {W : World} {b o : Nat} {v : Value} (h : W.cell? ⟨b, o, none⟩ = some v) : b < W.heap.size := World.block_lt_of_cell? W ⟨b, o, none⟩ h
theorem hold {W w1 : World} (hb : Below W.heap.size W w1) {b o : Nat} {v : Value} (h : W.cell? ⟨b, o, none⟩ = some v ∧ W.frozen? ⟨b, o, none⟩ = false) :
    w1.cell? ⟨b, o, none⟩ = some v ∧ w1.frozen? ⟨b, o, none⟩ = false :=
  ⟨(hb.cell (p := ⟨b, o, none⟩) (lt_of_cell h.1)).trans h.1, (hb.frozen (p := ⟨b, o, none⟩) (lt_of_cell h.1)).trans h.2⟩
theorem holda {W w1 : World} (hb : Below W.heap.size W w1) {a : Addr} {v : Value} (h : W.cell? a = some v) : w1.cell? a = some v :=
  (hb.cell (World.block_lt_of_cell? W a h)).trans h
theorem bcell {W w1 : World} (hb : Below W.heap.size W w1) : (∀ b o, b < W.heap.size → w1.cell? ⟨b, o, none⟩ = W.cell? ⟨b, o, none⟩) ∧ (∀ b o, b < W.heap.size → w1.frozen? ⟨b, o, none⟩ = W.frozen? ⟨b, o, none⟩) :=
  ⟨fun b o h => hb.cell (p := ⟨b, o, none⟩) h, fun b o h => hb.frozen (p := ⟨b, o, none⟩) h⟩
/-- Behind the call's own new blocks. -/
theorem below_tail {W w1 w2 : World} (h : Below W.heap.size W w1) (hb : Below w1.heap.size w1 w2) : Below W.heap.size W w2 := h.trans (hb.mono h.size)
theorem below_allocs {W w1 : World} (h : Below W.heap.size W w1) (o : Obj) : Below W.heap.size W (w1.alloc o) := h.alloc h.size o
theorem below_set {W w1 : World} (h : Below W.heap.size W w1) {b o : Nat} (hb : W.heap.size ≤ b) (v : Value) : Below W.heap.size W (w1.setCell ⟨b, o, none⟩ v) := h.setCell (p := ⟨b, o, none⟩) hb v
theorem heap_alloc_get (w : World) (o : Obj) (k : Nat) : (w.alloc o).heap[k]? = if k = w.heap.size then some o else w.heap[k]? := by
  show (w.heap.push o)[k]? = _
  rw [Array.getElem?_push]
theorem hp_new {W : World} {b : Nat} {o : Obj} (h : W.heap.size = b) : (W.alloc o).heap[b]? = some o := by rw [heap_alloc_get, if_pos h.symm]
theorem hp_old {W : World} {b : Nat} {o x : Obj} (h : W.heap[b]? = some x) : (W.alloc o).heap[b]? = some x := by
  rw [heap_alloc_get, if_neg, h]
  rintro rfl
  rw [Array.getElem?_eq_none (Nat.le_refl _)] at h; cases h
theorem at_new {W w1 : World} {b : Nat} {cs : Array Value} {t : TypeId} (hb : Below W.heap.size W w1) (h : W.heap[b]? = some (.cells cs t (0, 0))) (i : Nat) (v : Value) (hv : cs[i]? = some v) :
    w1.cell? ⟨b, i, none⟩ = some v ∧ w1.frozen? ⟨b, i, none⟩ = false := by
  have hlt : b < W.heap.size := by
    rcases Nat.lt_or_ge b W.heap.size with hlt | hge
    · exact hlt
    · rw [Array.getElem?_eq_none hge] at h; cases h
  refine ⟨(hb.cell (p := ⟨b, i, none⟩) hlt).trans ?_, (hb.frozen (p := ⟨b, i, none⟩) hlt).trans ?_⟩
  · simp [World.cell?, h, hv]
  · simp [World.frozen?, h]
/-- A fact on a cell stays behind a new block. -/
theorem hold_alloc {W : World} {o : Obj} {b i : Nat} {v : Value} (h : W.cell? ⟨b, i, none⟩ = some v ∧ W.frozen? ⟨b, i, none⟩ = false) : (W.alloc o).cell? ⟨b, i, none⟩ = some v ∧ (W.alloc o).frozen? ⟨b, i, none⟩ = false :=
  hold ((Below.refl W.heap.size W).alloc (Nat.le_refl _) o) h
/-- A fact on a cell stays behind a store into another cell. -/
theorem hold_set {W : World} {b i b' i' : Nat} {u v : Value} (h : W.cell? ⟨b, i, none⟩ = some v ∧ W.frozen? ⟨b, i, none⟩ = false) (hne : b' ≠ b ∨ i' ≠ i) : (W.setCell ⟨b', i', none⟩ u).cell? ⟨b, i, none⟩ = some v ∧ (W.setCell ⟨b', i', none⟩ u).frozen? ⟨b, i, none⟩ = false := by
  refine ⟨(World.cell?_setCell_other W _ _ u (fun e => ?_)).trans h.1, ?_⟩
  · injection e with e1 e2
    rcases hne with h | h
    · exact h e1
    · exact h e2
  · have e : (W.setCell ⟨b', i', none⟩ u).frozen? ⟨b, i, none⟩ = W.frozen? ⟨b, i, none⟩ := by simp [go_sem]
    rw [e]; exact h.2
theorem set_self {W : World} {b i : Nat} {u v : Value} (h : W.cell? ⟨b, i, none⟩ = some v ∧ W.frozen? ⟨b, i, none⟩ = false) : (W.setCell ⟨b, i, none⟩ u).cell? ⟨b, i, none⟩ = some u ∧ (W.setCell ⟨b, i, none⟩ u).frozen? ⟨b, i, none⟩ = false := by
  have h1 := h.1
  have e : (W.setCell ⟨b, i, none⟩ u).frozen? ⟨b, i, none⟩ = W.frozen? ⟨b, i, none⟩ := by simp [go_sem]
  refine ⟨by simp [go_sem, h1], by rw [e]; exact h.2⟩
end Go.Proofs.YtffdblmdelgkaaaGreat
