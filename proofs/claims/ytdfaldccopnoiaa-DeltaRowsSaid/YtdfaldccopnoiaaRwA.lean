/- Rows of cells: as values, in memory; a slice of rows that came in reads as a list of rows. Conditions: none. -/
import Derived.Test.YtdfaldccopnoiaaOpenCl
namespace Go.Proofs.Ytdfaldccopnoiaa
open Go.RowKit Go.ChangeShapes Go.WideShapes Go.Deep

structure Rw where
  A : Option Addr
  cs : List Cl
  cap : Nat
  cont : Bool
def RwAt (w : World) (b o : Nat) (r : Rw) : Prop := (w.cell? ⟨b, o, none⟩ = some (.slice r.A r.cs.length r.cap) ∧ w.cell? ⟨b, o + 1, none⟩ = some (.bool r.cont)) ∧ ClsAt w r.A r.cs ∧ r.cs.length ≤ 9223372036854775807
theorem RwAt.below {w w1 : World} {b o : Nat} {r : Rw} (h : RwAt w b o r) (hb : Below w.heap.size w w1) : RwAt w1 b o r :=
  ⟨⟨holda hb h.1.1, holda hb h.1.2⟩, h.2.1.below hb, h.2.2⟩
def RwsAt (w : World) (A : Option Addr) (l : List Rw) : Prop := 0 < l.length → ∃ b off, A = some ⟨b, off, none⟩ ∧ ∀ i r, l[i]? = some r → RwAt w b (off + i * 2) r
theorem RwsAt.below {w w1 : World} {A : Option Addr} {l : List Rw} (h : RwsAt w A l) (hb : Below w.heap.size w w1) : RwsAt w1 A l := fun hl => by
  obtain ⟨b, off, e, hc⟩ := h hl
  exact ⟨b, off, e, fun i s hs => (hc i s hs).below hb⟩
theorem RwsAt.at_ {w : World} {A : Option Addr} {l : List Rw} (h : RwsAt w A l) {k : Nat} (hk : k < l.length) : ∃ b off r, A = some ⟨b, off, none⟩ ∧ l[k]? = some r ∧ RwAt w b (off + k * 2) r := by
  obtain ⟨b, off, hA, hc⟩ := h (by omega)
  exact ⟨b, off, l[k], hA, List.getElem?_eq_getElem hk, hc k _ (List.getElem?_eq_getElem hk)⟩
theorem RwsAt.nil (w : World) (A : Option Addr) : RwsAt w A [] := fun h => absurd h (by simp)
/-- The contents of a screen. -/
def conts (l : List Rw) : List (List Cl) := l.map Rw.cs
theorem co_row : Try.prog.cellsOf 57 = 2 := by kernel_rfl
theorem co_bool : Try.prog.cellsOf 4 = 1 := by kernel_rfl
theorem co_cells : Try.prog.cellsOf 38 = 1 := by kernel_rfl
section
variable {H : Type} {enc : TypeId × Value → H} {w : World} {base : Nat} {spare : Nat → Bool} {held : Bool}
set_option maxRecDepth 100000 in
theorem cells_of_trod {n : Nat} {v : Value} {x : DataW H × List MemPlace} (h : DataW.trod enc Try.prog w base spare held n 38 [v] = some x) :
    ∃ (A : Option Addr) (l : List Cl) (cap : Nat), v = .slice A l.length cap ∧ l.length ≤ 9223372036854775807 ∧ ClsAt w A l := by
  rcases open_slice Try.underlying38 h with ⟨hcs, hx⟩ | ⟨a, len, cap, m, n', D, Pl, hcs, _, hl, hm, hmm, hx, hi⟩
  · simp only [List.cons.injEq, and_true] at hcs
    exact ⟨none, [], 0, hcs, Nat.zero_le _, fun h => absurd h (by simp)⟩
  · simp only [List.cons.injEq, and_true] at hcs
    subst hcs
    rw [co_cell] at hi
    unfold maxLen at hm
    have hlm : len ≤ m := by rw [hmm]; split <;> omega
    rcases Nat.eq_zero_or_pos len with h0 | h0
    · subst h0
      exact ⟨some a, [], cap, rfl, Nat.zero_le _, fun h => absurd h (by simp)⟩
    · have hspot : a.spot = none := by
        obtain ⟨cs', hc, _⟩ := hi 0 (by omega)
        obtain ⟨_, hcl, hat⟩ := World.cells?_some hc
        have h1 := hat 0 (by omega)
        have h2 : cs'[0]? = some (cs'[0]'(by omega)) := List.getElem?_eq_getElem (by omega)
        rw [h2] at h1
        have h3 := World.cell?_spot h1
        simpa [Addr.add] using h3
      obtain ⟨b, off, spot⟩ := a
      simp only at hspot
      subst hspot
      have hadd : ∀ i j : Nat, ((⟨b, off, none⟩ : Addr).add (i * 8)).add j = ⟨b, off + i * 8 + j, none⟩ := by
        intro i j
        rw [Go.Deep.add_add]
        unfold Addr.add
        by_cases hz : i * 8 + j = 0
        · rw [if_pos hz]; simp
        · rw [if_neg hz]; simp [Nat.add_assoc]
      obtain ⟨l, hll, hq⟩ := list_of_forall (Q := fun i (c : Cl) => ClAt w b (off + i * 8) c) len (fun i hi2 => by
        obtain ⟨cs', hc, htr⟩ := hi i (by omega)
        obtain ⟨_, hcl, hat⟩ := World.cells?_some hc
        obtain ⟨c, rfl⟩ := cell_of_trod htr
        have hat' : ∀ j, j < 8 → w.cell? ⟨b, off + i * 8 + j, none⟩ = (clList c)[j]? := fun j hj => by rw [← hadd]; exact hat j hj
        exact ⟨c, hat' 0 (by omega), hat' 1 (by omega), hat' 2 (by omega), hat' 3 (by omega), hat' 4 (by omega), hat' 5 (by omega), hat' 6 (by omega), hat' 7 (by omega)⟩)
      subst hll
      exact ⟨_, l, cap, rfl, by omega, fun _ => ⟨b, off, rfl, hq⟩⟩
set_option maxRecDepth 100000 in
theorem row_of_trod {n : Nat} {cs : List Value} {x : DataW H × List MemPlace} (h : DataW.trod enc Try.prog w base spare held n 57 cs = some x) :
    ∃ r : Rw, cs = [.slice r.A r.cs.length r.cap, .bool r.cont] ∧ ClsAt w r.A r.cs ∧ r.cs.length ≤ 9223372036854775807 := by
  obtain ⟨xs, m, _, _, hl, hlen, hf⟩ := DataW.trod_struct Try.underlying57 h
  rw [co_row] at hl
  match cs, hl with
  | [v0, v1], _ =>
    match xs, hlen with
    | [y0, y1], _ =>
      have h0 := hf 0 _ rfl
      have h1 := hf 1 _ rfl
      simp [co_cells, co_bool] at h0 h1
      obtain ⟨A, l, cap, rfl, hz, hc⟩ := cells_of_trod h0
      obtain ⟨b, e1, -, -⟩ := DataW.trod_bool Try.underlying4 h1
      simp at e1
      subst e1
      exact ⟨⟨A, l, cap, b⟩, rfl, hc, hz⟩
set_option maxRecDepth 100000 in
theorem open_rws {b0 : Nat} {r : Reach} {v : Value} {d : DataW H} {p : List MemPlace} (hv : Value.okWide Try.prog w r b0 54 v) (h : DataW.Trod enc Try.prog w base spare held 54 v d p) :
    ∃ (A : Option Addr) (l : List Rw) (cap : Nat), v = .slice A l.length cap ∧ l.length ≤ cap ∧ cap ≤ 9223372036854775807 ∧ RwsAt w A l := by
  obtain ⟨A, len, cap, rfl, hl, hm, hc⟩ := open_elems Try.underlying54 (by rw [co_row]; decide) hv h
  unfold maxLen at hm
  rw [co_row] at hc
  rcases Nat.eq_zero_or_pos len with h0 | h0
  · subst h0
    exact ⟨A, [], cap, rfl, Nat.zero_le _, by omega, fun h => absurd h (by simp)⟩
  · obtain ⟨b, off, rfl, hc2⟩ := hc h0
    obtain ⟨l, hll, hq⟩ := list_of_forall (Q := fun i (c : Rw) => RwAt w b (off + i * 2) c) len (fun i hi => by
      obtain ⟨cs, y, n, hcl, hat, htr⟩ := hc2 i hi
      obtain ⟨c, rfl, hcc, hz⟩ := row_of_trod htr
      exact ⟨c, ⟨hat 0 (by omega), hat 1 (by omega)⟩, hcc, hz⟩)
    subst hll
    exact ⟨_, l, cap, rfl, hl, by omega, fun _ => ⟨b, off, rfl, hq⟩⟩
end
end Go.Proofs.Ytdfaldccopnoiaa
