/- Blocks in memory of the call's own. Conditions: none. -/
import Derived.Test.YtfadcmjdlfobhaaBkA
namespace Go.Proofs.Ytfadcmjdlfobhaa
open Go.RowKit

def vB (c : Bk) : Value := .agg (bkCells c).toArray
def zeroBk : Bk := ⟨0, 0, 0, 0, 0, 0, 0, 0, 0, 0, 0, 0, 0, false, false, ByteArray.empty, ByteArray.empty⟩
theorem there_below {w w1 : World} {b o n : Nat} (h : w.there b o n) (hb : Below w.heap.size w w1) : w1.there b o n := fun j hj => by
  obtain ⟨h1, h2⟩ := h j hj
  obtain ⟨u, hu⟩ := Option.isSome_iff_exists.1 h1
  have := hold hb ⟨hu, h2⟩
  exact ⟨by rw [this.1]; rfl, this.2⟩
theorem below_setCells {B : Nat} {W w1 : World} (h : Below B W w1) {b : Nat} (hb : B ≤ b) : ∀ (vs : List Value) (o : Nat), Below B W (w1.setCells b o vs)
  | [], o => h
  | v :: vs, o => by
    rw [World.setCells]
    exact below_setCells (below_set' h hb v) hb vs (o + 1)
where below_set' {B : Nat} {W w1 : World} (h : Below B W w1) {b o : Nat} (hb : B ≤ b) (v : Value) : Below B W (w1.setCell ⟨b, o, none⟩ v) := h.setCell (p := ⟨b, o, none⟩) hb v
theorem one_arr (c : Bk) : (bkCells c).toArray.all (·.oneCell') = true := all_oneCell_toArray (bkCells_one c)
theorem there_new {w : World} {g : Nat} {cs : Array Value} {t : TypeId} (h : w.heap[g]? = some (.cells cs t (0, 0))) : w.there g 0 cs.size := fun j hj => by
  rw [Nat.zero_add]
  exact ⟨by rw [cell_of_row w g j cs t (0, 0) h, Array.getElem?_eq_getElem hj]; rfl, frozen_of_row w g j cs t h⟩
/-- A cell of another block than the row that was appended to. -/
theorem keep_append {W w3 : World} {g i : Nat} {u : Value} {row : Option Nat} {o : Obj} (hg : (W.alloc o).grownBy w3 row) (h : W.cell? ⟨g, i, none⟩ = some u) (hne : ∀ q, row = some q → q ≠ g) : w3.cell? ⟨g, i, none⟩ = some u := by
  have hlt := World.block_lt_of_cell? W _ h
  have h1 : (W.alloc o).cell? ⟨g, i, none⟩ = some u := by rw [World.cell?_alloc_lt _ _ _ hlt]; exact h
  exact hg.cell h1 (fun e => hne g e.symm rfl)
end Go.Proofs.Ytfadcmjdlfobhaa
