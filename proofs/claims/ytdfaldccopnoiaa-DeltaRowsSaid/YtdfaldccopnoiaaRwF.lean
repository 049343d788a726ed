/- Rows as cells of memory; appends of rows. Conditions: none. -/
import Derived.Test.YtdfaldccopnoiaaRwE
import Derived.Maps.AppendAt
namespace Go.Proofs.Ytdfaldccopnoiaa
open Go.RowKit

def rowCells (l : List Rw) : List Value := l.flatMap fun r => [.slice r.A r.cs.length r.cap, .bool r.cont]
theorem rowCells_len (l : List Rw) : (rowCells l).length = l.length * 2 := by
  induction l with
  | nil => rfl
  | cons r l ih => simp [rowCells] at ih ⊢; omega
theorem rowCells_append (l m : List Rw) : rowCells l ++ rowCells m = rowCells (l ++ m) := by simp [rowCells]
theorem rowCells_at : ∀ (l : List Rw) (i : Nat) (r : Rw), l[i]? = some r → (rowCells l)[i * 2]? = some (.slice r.A r.cs.length r.cap) ∧ (rowCells l)[i * 2 + 1]? = some (.bool r.cont)
  | [], i, r, h => by simp at h
  | r0 :: l, 0, r, h => by
    obtain rfl : r0 = r := by simpa using h
    exact ⟨rfl, rfl⟩
  | r0 :: l, i + 1, r, h => by
    have := rowCells_at l i r (by simpa using h)
    have e : rowCells (r0 :: l) = .slice r0.A r0.cs.length r0.cap :: .bool r0.cont :: rowCells l := rfl
    rw [e, show (i + 1) * 2 = i * 2 + 1 + 1 from by omega, show i * 2 + 1 + 1 + 1 = (i * 2 + 1) + 1 + 1 from rfl]
    simpa using this
theorem rowCells_one (l : List Rw) : ∀ u ∈ rowCells l, u.oneCell' = true := by
  intro u hu
  simp only [rowCells, List.mem_flatMap] at hu
  obtain ⟨r, _, hu⟩ := hu
  simp only [List.mem_cons, List.not_mem_nil, or_false] at hu
  rcases hu with rfl | rfl <;> rfl
theorem rows_news {w : World} {b off : Nat} {l : List Rw} (h : RwsAt w (some ⟨b, off, none⟩) l) : ∀ j u, (rowCells l)[j]? = some u → w.cell? ((⟨b, off, none⟩ : Addr).add j) = some u := by
  intro j u hj
  have hlt := (List.getElem?_eq_some_iff.1 hj).1
  rw [rowCells_len] at hlt
  obtain ⟨b1, off1, e, hc⟩ := h (by omega)
  simp only [Option.some.injEq, Addr.mk.injEq] at e
  obtain ⟨rfl, rfl, -⟩ := e
  have hi : j / 2 < l.length := by omega
  have h1 := rowCells_at l (j / 2) _ (List.getElem?_eq_getElem hi)
  have h2 := hc (j / 2) _ (List.getElem?_eq_getElem hi)
  have hadd : (⟨b, off, none⟩ : Addr).add j = ⟨b, off + j, none⟩ := by
    unfold Addr.add
    by_cases hz : j = 0
    · rw [if_pos hz]; simp [hz]
    · rw [if_neg hz]
  rw [hadd]
  rcases Nat.mod_two_eq_zero_or_one j with h0 | h0
  · have ej : j / 2 * 2 = j := by omega
    rw [ej] at h1 h2
    rw [hj] at h1
    rw [h2.1.1]; exact h1.1.symm
  · have ej : j / 2 * 2 + 1 = j := by omega
    have h3 := h1.2
    rw [ej, hj] at h3
    have h4 := h2.1.2
    rw [show off + j / 2 * 2 + 1 = off + j from by omega] at h4
    rw [h4]; exact h3.symm
theorem info_row : (Try.prog.info? 57).map (fun i => (i.zero, i.size, i.bytes)) = some (some (.agg #[.slice none 0 0, .bool false]), 2, 32) := by kernel_rfl

/-- Rows behind one another in memory that was appended to. -/
theorem rws_of_owns {w W : World} {base n : Nat} {v : Value} {l : List Rw} (h : w.ownsRow base 57 2 v n (rowCells l)) (hn : n = l.length) (hb : Below W.heap.size W w) (hr : ∀ r ∈ l, ClsAt W r.A r.cs ∧ r.cs.length ≤ 9223372036854775807) :
    ∃ (A : Option Addr) (c : Nat), v = .slice A l.length c ∧ l.length ≤ c ∧ (A = none → c = 0) ∧ c ≤ 9223372036854775807 ∧ RwsAt w A l := by
  subst hn
  rcases h.2 with ⟨rfl, h0⟩ | ⟨g, cap, cur, rfl, _, _, hcap, hmax, _, _⟩
  · have e : l = [] := List.length_eq_zero_iff.1 h0
    subst e
    exact ⟨none, 0, rfl, Nat.le_refl _, fun _ => rfl, Nat.zero_le _, RwsAt.nil _ _⟩
  · refine ⟨some ⟨g, 0, none⟩, cap, rfl, hcap, fun e => (by cases e), hmax, fun _ => ⟨g, 0, rfl, fun i r hi => ?_⟩⟩
    have hlt := (List.getElem?_eq_some_iff.1 hi).1
    have h1 := rowCells_at l i r hi
    have hm := hr r (List.mem_of_getElem? hi)
    refine ⟨⟨?_, ?_⟩, hm.1.below hb, hm.2⟩
    · rw [Nat.zero_add, h.cellAt _ (by omega)]; exact h1.1
    · rw [Nat.zero_add, h.cellAt _ (by omega)]; exact h1.2

section
variable {P : Program}
/-- Nothing appended. -/
theorem append_zero {t ty e : TypeId} {i : TypeInfo} (ht : P.underlying t = some (.slice e)) (hi : P.info? e = some i) (g : Addr) (n cap : Nat) (hn : n ≤ cap) (X : Option Addr) (c : Nat) (w : World) :
    (Builtin.append_ #[t, t] ty #[.slice (some g) n cap, .slice X 0 c]).run P w = .ok (.slice (some g) n cap) w := by
  cases X <;> simp [Builtin.append_, run_underlying ht, sizeOf, typeInfo, hi, Builtin.lenOf, Builtin.firstCells, loadCells, loadCellsFrom, hn, storeCells]
/-- The first append to an empty row. -/
theorem append_first {w : World} {t ty e : TypeId} {i : TypeInfo} {z : Value} (base size bytes : Nat) (ht : P.underlying t = some (.slice e)) (hi : P.info? e = some i) (hz : i.zero = some z) (hsize : i.size = size) (hby : i.bytes = bytes) (hzs : z.cells.size = size) (hsz : 0 < size)
    (g : Nat) (hbg : base ≤ g) (hg : w.heap[g]? = some (.cells #[] e (0, 0))) (X : Option Addr) (m c : Nat) (news : List Value) (hX : 0 < m → ∃ ad, X = some ad ∧ ∀ j u, news[j]? = some u → w.cell? (ad.add j) = some u) (hl : news.length = m * size) (h1 : ∀ u ∈ news, u.oneCell' = true)
    (h63 : m ≤ maxLen) (hbytes : m * bytes ≤ 140737488355328) (hbase : base ≤ w.heap.size) :
    ∃ v' w', (Builtin.append_ #[t, t] ty #[.slice (some ⟨g, 0, none⟩) 0 0, .slice X m c]).run P w = .ok v' w' ∧ w'.ownsRow base e size v' m news ∧ Below w.heap.size w w' := by
  have hown : w.ownsRow base e size (.slice (some ⟨g, 0, none⟩) 0 0) 0 [] := ⟨by simp, .inr ⟨g, 0, #[], rfl, hbg, hg, Nat.le_refl _, Nat.zero_le _, by simp, by simp⟩⟩
  rcases Nat.eq_zero_or_pos m with rfl | hm
  · have e0 : news = [] := List.length_eq_zero_iff.1 (by omega)
    subst e0
    exact ⟨_, w, append_zero ht hi _ 0 0 (Nat.le_refl _) X c w, hown, Below.refl _ _⟩
  · obtain ⟨ad, rfl, hnews⟩ := hX hm
    obtain ⟨v', w', hr, ho, -⟩ := run_append_own_at (P := P) w base t ty e i z size bytes ht hi hz hsize hby hzs hsz _ 0 [] hown ad m c news hl hnews h1 (by omega) (by rw [Nat.zero_add]; exact hbytes) hbase
    rw [Nat.zero_add, List.nil_append] at ho
    have hr2 := run_append_grow (P := P) w t ty e i z ht hi hz ⟨g, 0, none⟩ 0 0 [] (by simp) (by simp) ad m c news (by rw [hsize]; exact hl) hnews (by omega) (by simp only [maxLen] at h63; omega) (growslice_fits (by omega) (by rw [hby, Nat.zero_add]; exact hbytes))
    rw [hr] at hr2
    simp only [Result.ok.injEq] at hr2
    obtain ⟨rfl, rfl⟩ := hr2
    refine ⟨_, _, hr, ho, ((Below.refl w.heap.size w).drew).alloc (Nat.le_refl _) _⟩
theorem exec_append {w w' : World} {ρ : Operand → Value} {o : Oper} (s x : Operand) (t : TypeId) (ho : o.op = .call { callee := .builtin .append, args := #[s, x], argTypes := #[t, t] }) (vs vx v' : Value) (hs : ρ s = vs) (hx : ρ x = vx)
    (hr : (Builtin.append_ #[t, t] o.type #[vs, vx]).run P w = .ok v' w') : (execOp ρ o).run P w = .ok (.value v') w' := by
  unfold execOp
  simp only [ho, resolve, invoke, builtin, Sem.run_bind, Sem.run_pure, Result.andThen_ok, List.map_toArray, List.map_cons, List.map_nil, hs, hx, hr]
end
end Go.Proofs.Ytdfaldccopnoiaa
