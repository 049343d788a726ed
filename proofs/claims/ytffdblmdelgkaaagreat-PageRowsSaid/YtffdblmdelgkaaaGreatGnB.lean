/- Ranges of cells in blocks of the call's own (general). Conditions: none. -/
import Derived.Test.YtffdblmdelgkaaaGreatGnA
import Derived.Deep.MidRow
import Derived.Laws.IdiomCopy
namespace Go.Proofs.YtffdblmdelgkaaaGreat
open Go.RowKit

theorem there_below {w w1 : World} {b o n : Nat} (h : w.there b o n) (hb : Below w.heap.size w w1) : w1.there b o n := fun j hj => by
  obtain ⟨h1, h2⟩ := h j hj
  obtain ⟨u, hu⟩ := Option.isSome_iff_exists.1 h1
  have := hold hb ⟨hu, h2⟩
  exact ⟨by rw [this.1]; rfl, this.2⟩
theorem below_setCells {B : Nat} {W w1 : World} (h : Below B W w1) {b : Nat} (hb : B ≤ b) : ∀ (vs : List Value) (o : Nat), Below B W (w1.setCells b o vs)
  | [], o => h
  | v :: vs, o => by
    rw [World.setCells]
    exact below_setCells (below_set' h hb v) hb vs (o + 1)
where below_set' {B : Nat} {W w1 : World} (h : Below B W w1) {b o : Nat} (hb : B ≤ b) (v : Value) : Below B W (w1.setCell ⟨b, o, none⟩ v) := h.setCell (p := ⟨b, o, none⟩) hb v
theorem there_new {w : World} {g : Nat} {cs : Array Value} {t : TypeId} (h : w.heap[g]? = some (.cells cs t (0, 0))) : w.there g 0 cs.size := fun j hj => by
  rw [Nat.zero_add]
  exact ⟨by rw [cell_of_row w g j cs t (0, 0) h, Array.getElem?_eq_getElem hj]; rfl, frozen_of_row w g j cs t h⟩
theorem range_below {w w1 : World} {b o : Nat} {cs : List Value} (h : w.rangeAt b o cs) (hb : Below w.heap.size w w1) : w1.rangeAt b o cs := fun j v hj => holda hb (h j v hj)
section
variable {P : Program}
theorem run_copy_k (w : World) (dT sT ty elem : TypeId) (b o dLen dCap : Nat) (a : Addr) (sLen sCap k : Nat) (cs : List Value) (hu : P.underlying dT = some (.slice elem)) (hs : (P.info? elem).map (·.size) = some k) (hn : cs.length = Nat.min sLen dLen * k)
    (hsrc : ∀ j v, cs[j]? = some v → w.cell? (a.add j) = some v) (hc : ∀ j, j < cs.length → (w.cell? ⟨b, o + j, none⟩).isSome = true) (hf : ∀ j, j < cs.length → w.frozen? ⟨b, o + j, none⟩ = false) (h1 : ∀ v ∈ cs, v.oneCell' = true) :
    (Builtin.copy_ #[dT, sT] ty #[.slice (some ⟨b, o, none⟩) dLen dCap, .slice (some a) sLen sCap]).run P w = .ok (goInt (Nat.min sLen dLen)) (w.setCells b o cs) := by
  have hl := run_loadCells_list (P := P) w a cs hsrc
  have hst := run_storeCells_cells (P := P) b o cs 0 w (by simpa using hc) (by simpa using hf) h1
  cases hq : P.info? elem with
  | none => simp [hq] at hs
  | some i =>
    have hi : i.size = k := by simpa [hq] using hs
    simp [Builtin.copy_, run_underlying hu, Builtin.lenOf, Builtin.firstCells, sizeOf, typeInfo, hq, hi, ← hn, hl, hst]
theorem results_cell1 {fn : Func} {p : Tmp} {ty : TypeId} (h : fn.results = #[.cell p ty]) (tmps : Array Value) (P : Program) (w : World) :
    (results fn tmps).run P w = ((asAddr (tmps.getD p undef)).run P w).andThen fun a w₁ => (loadVar ty a).run P w₁ := by
  simp only [results, h]
  simp [Sem.run_bind, Result.andThen]
end
/-- A block known whole, some cells of which are set. -/
theorem whole_setCells {b : Nat} {t : TypeId} : ∀ (vs : List Value) (o : Nat) (cs : List Value) (w : World), w.heap[b]? = some (.cells cs.toArray t (0, 0)) → o + vs.length ≤ cs.length → (w.setCells b o vs).heap[b]? = some (.cells (cs.take o ++ (vs ++ cs.drop (o + vs.length))).toArray t (0, 0))
  | [], o, cs, w, h, _ => by simpa [World.setCells] using h
  | v :: vs, o, cs, w, h, hl => by
    rw [List.length_cons] at hl
    have h1 := whole_set h o v rfl
    have ih := whole_setCells vs (o + 1) (cs.set o v) (w.setCell ⟨b, o, none⟩ v) h1 (by rw [List.length_set]; omega)
    have hlt : o < (cs.set o v).length := by rw [List.length_set]; omega
    rw [List.take_succ_eq_append_getElem hlt, List.getElem_set_self, List.take_set_of_le (Nat.le_refl o), List.drop_set_of_lt (by omega), List.append_assoc] at ih
    rw [World.setCells, List.length_cons, show o + (vs.length + 1) = o + 1 + vs.length by omega]
    exact ih
theorem mod_setCellsN {X : List Nat} {w : World} {g : Nat} (hg : g ∈ X ∨ w.heap.size ≤ g) : ∀ (cs : List Value) (o : Nat) (w1 : World), Mod X w w1 → Mod X w (w1.setCells g o cs)
  | [], _, _, h => h
  | v :: r, o, _, h => mod_setCellsN hg r (o + 1) _ (h.setCell (a := ⟨g, o, none⟩) hg v)
theorem owns_set1 {w : World} {base g : Nat} {e : TypeId} {size n cap : Nat} {xs : List Value} (h : w.ownsRow base e size (.slice (some ⟨g, 0, none⟩) n cap) n xs) (o : Nat) (v : Value) :
    (w.setCell ⟨g, o, none⟩ v).ownsRow base e size (.slice (some ⟨g, 0, none⟩) n cap) n (xs.set o v) := by
  obtain ⟨h1, h2 | ⟨g', cap', cur, hv, e2, e3, e4, e5, e6, e7⟩⟩ := h
  · exact absurd h2.1 (by simp)
  · simp only [Value.slice.injEq, Option.some.injEq, Addr.mk.injEq, and_true, true_and] at hv
    obtain ⟨rfl, rfl⟩ := hv
    refine ⟨by simpa using h1, .inr ⟨g, cap, cur.setIfInBounds o v, rfl, e2, heap_setCell_eq e3, e4, e5, by simpa using e6, ?_⟩⟩
    rw [← e7, Array.toList_setIfInBounds]
    rw [List.take_set]
theorem owns_hold {w : World} {base g : Nat} {e : TypeId} {size n cap : Nat} {xs : List Value} (h : w.ownsRow base e size (.slice (some ⟨g, 0, none⟩) n cap) n xs) {i : Nat} {v : Value} (hi : xs[i]? = some v) : HoldAt w g i v := by
  obtain ⟨-, h2 | ⟨g', cap', cur, hv, -, e3, -, -, -, e7⟩⟩ := h
  · exact absurd h2.1 (by simp)
  · simp only [Value.slice.injEq, Option.some.injEq, Addr.mk.injEq, and_true, true_and] at hv
    obtain ⟨rfl, rfl⟩ := hv
    refine at_ e3 i v ?_
    rw [← e7, List.getElem?_take] at hi
    split at hi
    · simpa using hi
    · cases hi
theorem flat_set1 {α : Type} {enc : α → List Value} {K : Nat} (hl : ∀ x, (enc x).length = K) : ∀ (X : List α) (k : Nat) (x x' : α) (j : Nat) (v : Value), X[k]? = some x → j < K → (enc x).set j v = enc x' → (flat enc X).set (k * K + j) v = flat enc (X.set k x')
  | [], k, x, x', j, v, h, _, _ => by simp at h
  | y :: X, 0, x, x', j, v, h, hj, he => by
    obtain rfl : y = x := by simpa using h
    have e : flat enc (y :: X) = enc y ++ flat enc X := rfl
    have e2 : flat enc ((y :: X).set 0 x') = enc x' ++ flat enc X := rfl
    rw [e, e2, Nat.zero_mul, Nat.zero_add, List.set_append_left _ _ (by rw [hl]; exact hj), he]
  | y :: X, k + 1, x, x', j, v, h, hj, he => by
    have e : flat enc (y :: X) = enc y ++ flat enc X := rfl
    have e2 : flat enc ((y :: X).set (k + 1) x') = enc y ++ flat enc (X.set k x') := rfl
    rw [e, e2, List.set_append_right _ _ (by rw [hl, Nat.add_mul]; omega), hl, show (k + 1) * K + j - K = k * K + j by rw [Nat.add_mul]; omega, flat_set1 hl X k x x' j v (by simpa using h) hj he]
/-- Some cells of a row of the call's own set. -/
theorem owns_setCells {base g : Nat} {e : TypeId} {size n cap : Nat} : ∀ (vs : List Value) (o : Nat) (xs : List Value) (w : World), w.ownsRow base e size (.slice (some ⟨g, 0, none⟩) n cap) n xs → o + vs.length ≤ xs.length →
    (w.setCells g o vs).ownsRow base e size (.slice (some ⟨g, 0, none⟩) n cap) n (xs.take o ++ (vs ++ xs.drop (o + vs.length)))
  | [], o, xs, w, h, _ => by simpa [World.setCells] using h
  | v :: vs, o, xs, w, h, hl => by
    rw [List.length_cons] at hl
    have h1 := owns_set1 h o v
    have ih := owns_setCells vs (o + 1) (xs.set o v) (w.setCell ⟨g, o, none⟩ v) h1 (by rw [List.length_set]; omega)
    have e1 : (xs.set o v).take (o + 1) = xs.take o ++ [v] := by
      rw [List.take_succ_eq_append_getElem (by rw [List.length_set]; omega), List.getElem_set_self, List.take_set_of_le (Nat.le_refl _)]
    have e2 : (xs.set o v).drop (o + 1 + vs.length) = xs.drop (o + (v :: vs).length) := by
      rw [List.drop_set_of_lt (by omega), List.length_cons, show o + 1 + vs.length = o + (vs.length + 1) by omega]
    rw [e1, e2, List.append_assoc] at ih
    exact ih
theorem load_mid_g {P : Program} {ops : Array Oper} {rest : List Oper} {op : Oper} {a : Act} {w : World} {Q : Exit → Act → World → Prop} (hw : Region.wanted op (yielded ops a.tmps) = true) (ty : TypeId) (x : Operand) (ho : op.op = .load ty x)
    (b o : Nat) (hx : a.eval x = .pointer (some ⟨b, o, none⟩)) (cs : List Value) (d : TypeDesc) (hc : w.rangeAt b o cs)
    (hu : P.underlying ty = some d) (hd : d.isRow = true) (hi : (P.info? ty).map (·.size) = some cs.length)
    (h : wpList P ops Q rest (a.put op.dst (.agg cs.toArray)) w) : wpList P ops Q (op :: rest) a w := by
  unfold wpList
  rw [if_pos hw]
  exact .inl (wp_load_mid ty x ho b o hx cs d hc hu hd hi h)
end Go.Proofs.YtffdblmdelgkaaaGreat
