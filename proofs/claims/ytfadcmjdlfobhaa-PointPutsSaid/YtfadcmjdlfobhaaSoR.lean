/- The library's sort, as a change of a row of the call's own. Conditions: none. -/
import Derived.Test.YtfadcmjdlfobhaaGr
import Derived.Shelf.SlSortCmp.NoneTotal
namespace Go.Proofs.Ytfadcmjdlfobhaa
open Go.RowKit Go.Sort

theorem heap_mapBlock_ne (w : World) (b c : Nat) (f : Array Value → Array Value) (h : c ≠ b) : (mapBlock w b f).heap[c]? = w.heap[c]? := by
  unfold mapBlock
  simp only [Array.getElem?_modify]
  rw [if_neg (fun e => h e.symm)]
theorem heap_mapBlock_eq (w : World) (b : Nat) (f : Array Value → Array Value) (cs : Array Value) (e : TypeId) (h : w.heap[b]? = some (.cells cs e (0, 0))) : (mapBlock w b f).heap[b]? = some (.cells (f cs) e (0, 0)) := by
  unfold mapBlock
  simp only [Array.getElem?_modify, if_true, h]
  rfl
theorem size_mapBlock (w : World) (b : Nat) (f : Array Value → Array Value) : (mapBlock w b f).heap.size = w.heap.size := by
  unfold mapBlock; simp
theorem heap_grow_old (w : World) (os : Array Obj) (c : Nat) (h : c < w.heap.size) : (grow w os).heap[c]? = w.heap[c]? := by
  unfold grow
  simp [Array.getElem?_append, h]
/-- The row's cells, written anew; blocks behind. -/
theorem owns_putRow {w : World} {base : Nat} {e : TypeId} {size n cap g : Nat} {xs : List Value} (h : w.ownsRow base e size (.slice (some ⟨g, 0, none⟩) n cap) n xs) (F : Array Value) (hF : F.size = n * size) (q : Nat) (os : Array Obj) :
    (grow (putRow id (Sort.ahead w q) g 0 F) os).ownsRow base e size (.slice (some ⟨g, 0, none⟩) n cap) n F.toList := by
  obtain ⟨h1, h2 | ⟨g', cap', cur, hv, hb, hg, hc, hm, hs, ht⟩⟩ := h
  · cases h2.1
  · simp only [Value.slice.injEq, Option.some.injEq, Addr.mk.injEq, and_true, true_and] at hv
    obtain ⟨rfl, rfl⟩ := hv
    refine ⟨by simp [hF], .inr ⟨g, cap, putCells id 0 F cur, rfl, hb, ?_, hc, hm, by simp [putCells, hs], ?_⟩⟩
    · have hlt : g < w.heap.size := by
        rcases Nat.lt_or_ge g w.heap.size with h | h
        · exact h
        · rw [Array.getElem?_eq_none h] at hg; cases hg
      rw [heap_grow_old _ _ _ (by unfold putRow; rw [size_mapBlock]; exact hlt)]
      exact heap_mapBlock_eq _ _ _ _ _ hg
    · apply List.ext_getElem?
      intro i
      have hle : n * size ≤ cap * size := Nat.mul_le_mul_right _ hc
      by_cases hi : i < n * size
      · rw [List.getElem?_take_of_lt hi]
        simp only [putCells, Array.getElem?_toList, Array.getElem?_mapIdx]
        rw [Array.getElem?_eq_getElem (by omega : i < cur.size), Option.map_some, if_pos ⟨Nat.zero_le _, by omega⟩, Nat.sub_zero, Array.getElem?_eq_getElem (by omega : i < F.size), getElem!_pos F i (by omega)]
        rfl
      · rw [List.getElem?_eq_none (by simp; omega), List.getElem?_eq_none (by simp; omega)]
theorem grownBy_putRow (w : World) (g : Nat) (F : Array Value) (q : Nat) (os : Array Obj) : w.grownBy (grow (putRow id (Sort.ahead w q) g 0 F) os) (some g) := by
  refine ⟨rfl, rfl, rfl, ?_, fun c hc hne => ?_⟩
  · unfold grow putRow; simp [size_mapBlock]
  · have hne' : c ≠ g := fun e => hne (by rw [e])
    rw [heap_grow_old _ _ _ (by unfold putRow; rw [size_mapBlock]; exact hc)]
    exact heap_mapBlock_ne _ _ _ _ hne'
theorem holds_of_owns {w : World} {base : Nat} {e : TypeId} {size n cap g : Nat} {xs : List Value} (h : w.ownsRow base e size (.slice (some ⟨g, 0, none⟩) n cap) n xs) : Holds id w g 0 xs.toArray := by
  intro j hj
  have hj' : j < xs.length := by simpa using hj
  have hjn : j < n * size := by rw [← h.1]; exact hj'
  rw [Nat.zero_add, h.cellAt j hjn, getElem!_pos xs.toArray j hj]
  refine ⟨by simp, ?_⟩
  obtain ⟨h1, h2 | ⟨g', cap', cur, hv, hb, hg, hc, hm, hs, ht⟩⟩ := h
  · cases h2.1
  · simp only [Value.slice.injEq, Option.some.injEq, Addr.mk.injEq, and_true, true_and] at hv
    obtain ⟨rfl, rfl⟩ := hv
    simp [World.frozen?, hg]
section
variable {α : Type} [Inhabited α] {enc : α → List Value} {k : Nat}
theorem flatK_flat (hk : ∀ x, (enc x).length = k) (l : List α) : flatK enc k l.toArray = (flat enc l).toArray := by
  apply Array.ext_getElem?
  intro t
  by_cases ht : t < l.length * k
  · have hk0 : 0 < k := by
      rcases Nat.eq_zero_or_pos k with h | h
      · subst h; simp at ht
      · exact h
    have hi : t / k < l.length := Nat.div_lt_of_lt_mul (by rw [Nat.mul_comm]; exact ht)
    have hm : t % k < k := Nat.mod_lt _ hk0
    have e1 : t / k * k + t % k = t := Nat.div_add_mod' t k
    have h1 := flat_at hk l (t / k) _ (List.getElem?_eq_getElem hi) (t % k) hm
    rw [e1] at h1
    have hs : t < (flatK enc k l.toArray).size := by simpa using ht
    rw [Array.getElem?_eq_getElem hs, ← getElem!_pos _ t hs, get_flatK enc k l.toArray t (by simpa using ht)]
    rw [show (flat enc l).toArray[t]? = (flat enc l)[t]? from by simp, h1, getElem!_pos l.toArray (t / k) (by simpa using hi)]
    have hm' : t % k < (enc l[t / k]).length := by rw [hk]; exact hm
    simp only [List.getElem_toArray]
    rw [getElem!_pos (enc l[t / k]) (t % k) hm', List.getElem?_eq_getElem hm']
  · rw [Array.getElem?_eq_none (by simp; omega), Array.getElem?_eq_none (by simp [flat_len hk]; omega)]
end
end Go.Proofs.Ytfadcmjdlfobhaa
