/- Arguments that are slices of structs, opened to lists. Conditions: none. -/
import Derived.Test.YtffdblmdelgkaaaGreatBase
import Derived.Deep.Slices
import Derived.Deep.Fields
import Derived.ChangeSame
import Derived.ProofKit
namespace Go.Proofs.YtffdblmdelgkaaaGreat
open Go.RowKit Go.ChangeShapes Go.WideShapes Go.Deep
section
variable {H : Type} {enc : TypeId × Value → H} {P : Program} {w : World} {base : Nat} {spare : Nat → Bool} {held : Bool}
theorem open_slice_fields {t e : TypeId} {fs : Array Field} {fuel : Nat} {cs : List Value} {x : DataW H × List MemPlace} (ht : P.underlying t = some (.slice e)) (he : P.underlying e = some (.struct fs))
    (hone : oneCellFields P fs = true) (hC : P.cellsOf e = fs.size) (h : DataW.trod enc P w base spare held fuel t cs = some x) :
    (cs = [.slice none 0 0] ∧ x = (.nil, [])) ∨
    ∃ (a : Addr) (len cap m : Nat) (D : Nat → DataW H) (Pl : Nat → List MemPlace), cs = [.slice (some a) len cap] ∧ base ≤ a.block ∧ len ≤ cap ∧ cap ≤ maxLen ∧ m = (if spare a.block then cap else len) ∧
      x = (.slice ((List.range len).map D) ((List.range (m - len)).map fun j => D (len + j)), MemPlace.row a (m * fs.size) ++ (List.range m).flatMap Pl) ∧
      ∀ i, i < m → ∃ (ys : List (DataW H × List MemPlace)) (n : Nat), D i = .agg (ys.map (·.1)) ∧ Pl i = ys.flatMap (·.2) ∧ ys.length = fs.size ∧
        ∀ (j : Nat) (f : Field), fs[j]? = some f → ∃ (v : Value) (y : DataW H × List MemPlace), w.cell? (a.add (i * fs.size + j)) = some v ∧ ys[j]? = some y ∧ DataW.trod enc P w base spare held n f.type [v] = some y := by
  rcases open_slice ht h with h0 | ⟨a, len, cap, m, n, D, Pl, hcs, hb, hl, hm, hmm, hx, hi⟩
  · exact .inl h0
  · refine .inr ⟨a, len, cap, m, D, Pl, hcs, hb, hl, hm, hmm, by rw [hC] at hx; exact hx, fun i him => ?_⟩
    obtain ⟨cs', hc, ht'⟩ := hi i him
    rw [hC] at hc
    obtain ⟨ys, n', hn', hy, hlen, hyl, hf⟩ := DataW.trod_struct he ht'
    obtain ⟨_, hcl, hat⟩ := World.cells?_some hc
    simp only [Prod.mk.injEq] at hy
    refine ⟨ys, n', hy.1, hy.2, hyl, fun j f hj => ?_⟩
    obtain ⟨ho, hk⟩ := hone_of hone j f hj
    have hjl : j < fs.size := (Array.getElem?_eq_some_iff.1 hj).1
    have hcell := hat j hjl
    have hv : cs'[j]? = some (cs'[j]'(by omega)) := List.getElem?_eq_getElem (by omega)
    have h1 := hf j f hj
    rw [ho, hk] at h1
    have hone' : (cs'.drop j).take 1 = [cs'[j]'(by omega)] := by
      rw [List.drop_eq_getElem_cons (by omega)]
      rfl
    rw [hone'] at h1
    have hys : ys[j]? = some (ys[j]'(by omega)) := List.getElem?_eq_getElem (by omega)
    refine ⟨_, _, ?_, hys, h1.trans hys⟩
    rw [← Go.Deep.add_add, hcell, hv]

theorem list_of_forall {α : Type} {Q : Nat → α → Prop} : ∀ (n : Nat), (∀ i, i < n → ∃ s, Q i s) → ∃ l : List α, l.length = n ∧ ∀ i s, l[i]? = some s → Q i s
  | 0, _ => ⟨[], rfl, fun i s h => by simp at h⟩
  | n + 1, h => by
    obtain ⟨l, hl, hq⟩ := list_of_forall n (fun i hi => h i (by omega))
    obtain ⟨s, hs⟩ := h n (by omega)
    refine ⟨l ++ [s], by simp [hl], fun i u hu => ?_⟩
    by_cases hi : i < l.length
    · rw [List.getElem?_append_left hi] at hu
      exact hq i u hu
    · rw [List.getElem?_append_right (by omega)] at hu
      have : i - l.length = 0 := by
        rcases Nat.eq_zero_or_pos (i - l.length) with h0 | h0
        · exact h0
        · rw [List.getElem?_eq_none (by simp; omega)] at hu; cases hu
      rw [this] at hu
      obtain rfl : s = u := by simpa using hu
      have e : i = n := by omega
      rw [e]; exact hs
/-- A slice of structs of one-cell fields that came in: nil, or a row; of each element the cells, and that each cell's value reads as its field's type does. -/
theorem open_rows {b0 : Nat} {r : Reach} {t e : TypeId} {fs : Array Field} {v : Value} {d : DataW H} {p : List MemPlace} (ht : P.underlying t = some (.slice e)) (he : P.underlying e = some (.struct fs))
    (hone : oneCellFields P fs = true) (hC : P.cellsOf e = fs.size) (hpos : 0 < fs.size) (hv : Value.okWide P w r b0 t v) (h : DataW.Trod enc P w base spare held t v d p) :
    ∃ (A : Option Addr) (len cap : Nat), v = .slice A len cap ∧ len ≤ cap ∧ cap ≤ maxLen ∧
      (0 < len → ∃ b off, A = some ⟨b, off, none⟩ ∧ ∀ i, i < len → ∀ (j : Nat) (f : Field), fs[j]? = some f → ∃ (u : Value) (y : DataW H × List MemPlace) (n : Nat), w.cell? ⟨b, off + i * fs.size + j, none⟩ = some u ∧ DataW.trod enc P w base spare held n f.type [u] = some y) := by
  obtain ⟨a0, len, cap, rfl⟩ := okWide_slice ht hv
  obtain ⟨fuel, hf⟩ := h
  rcases open_slice_fields ht he hone hC hf with ⟨hcs, hx⟩ | ⟨a, len', cap', m, D, Pl, hcs, _, hl, hm, hmm, hx, hi⟩
  · simp only [Value.cells, List.cons.injEq, and_true, Value.slice.injEq] at hcs
    obtain ⟨rfl, rfl, rfl⟩ := hcs
    exact ⟨none, 0, 0, rfl, Nat.le_refl _, Nat.zero_le _, fun h => absurd h (by omega)⟩
  · simp only [Value.cells, List.cons.injEq, and_true, Value.slice.injEq] at hcs
    obtain ⟨rfl, rfl, rfl⟩ := hcs
    refine ⟨some a, len, cap, rfl, hl, hm, fun h0 => ?_⟩
    have hlm : len ≤ m := by rw [hmm]; split <;> omega
    have hspot : a.spot = none := by
      obtain ⟨ys, n, _, _, _, hfs⟩ := hi 0 (by omega)
      obtain ⟨u, y, hc, _, _⟩ := hfs 0 fs[0] (Array.getElem?_eq_getElem hpos)
      have h1 := World.cell?_spot hc
      simpa [Addr.add] using h1
    obtain ⟨b, off, spot⟩ := a
    simp only at hspot
    subst hspot
    refine ⟨b, off, rfl, fun i hil j f hj => ?_⟩
    obtain ⟨ys, n, _, _, _, hfs⟩ := hi i (by omega)
    obtain ⟨u, y, hc, _, ht⟩ := hfs j f hj
    refine ⟨u, y, n, ?_, ht⟩
    rw [← hc]
    congr 1
    unfold Addr.add
    by_cases hz : i * fs.size + j = 0
    · rw [if_pos hz]
      have h1 : i * fs.size = 0 := by omega
      have h2 : j = 0 := by omega
      simp
    · rw [if_neg hz]
      simp [Nat.add_assoc]
end
end Go.Proofs.YtffdblmdelgkaaaGreat
