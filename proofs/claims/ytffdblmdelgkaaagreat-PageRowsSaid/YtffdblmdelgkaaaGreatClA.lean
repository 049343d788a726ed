/- Cells: as values, in memory, and their equality. Conditions: none. -/
import Derived.Test.YtffdblmdelgkaaaGreatBase2
namespace Go.Proofs.YtffdblmdelgkaaaGreat
open Go.RowKit

structure Cl where
  r : Int
  more : ByteArray
  half : Int
  fk : Int
  fn : Int
  bk : Int
  bn : Int
  fl : Int
deriving DecidableEq
def clV (c : Cl) : Value := .agg #[.int .i32 c.r, .string c.more, .int .i64 c.half, .int .i64 c.fk, .int .i64 c.fn, .int .i64 c.bk, .int .i64 c.bn, .int .i64 c.fl]
theorem cl_eq_iff (a b : Cl) : a = b ↔ a.r = b.r ∧ a.more.toList = b.more.toList ∧ a.half = b.half ∧ a.fk = b.fk ∧ a.fn = b.fn ∧ a.bk = b.bk ∧ a.bn = b.bn ∧ a.fl = b.fl := by
  obtain ⟨a0, a1, a2, a3, a4, a5, a6, a7⟩ := a
  obtain ⟨b0, b1, b2, b3, b4, b5, b6, b7⟩ := b
  simp only [Cl.mk.injEq]
  constructor
  · rintro ⟨h0, h1, h2, h3, h4, h5, h6, h7⟩
    exact ⟨h0, by rw [h1], h2, h3, h4, h5, h6, h7⟩
  · rintro ⟨h0, h1, h2, h3, h4, h5, h6, h7⟩
    exact ⟨h0, WideShapes.bytes_inj (by rw [← ByteArray.toList_eq, ← ByteArray.toList_eq, h1]), h2, h3, h4, h5, h6, h7⟩
theorem exec_eql_cell (ρ : Operand → Value) (dst : Option Tmp) (ty : TypeId) (pos : String) (af : Array Edge) (gd : Option (Nat × Bool)) (x y : Operand) (a b : Cl) (hx : ρ x = clV a) (hy : ρ y = clV b) (w : World) :
    (execOp ρ ⟨dst, .binOp .eql 109 x y 109, ty, pos, af, gd⟩).run Tryz.prog w = .ok (.value (.bool (decide (a = b)))) w := by
  have e : decide (a = b) = decide (a.r = b.r ∧ a.more.toList = b.more.toList ∧ a.half = b.half ∧ a.fk = b.fk ∧ a.fn = b.fn ∧ a.bk = b.bk ∧ a.bn = b.bn ∧ a.fl = b.fl) := decide_eq_decide.2 (cl_eq_iff a b)
  rw [e]
  unfold clV at hx hy
  go_simp
  repeat' split
  all_goals simp_all
theorem exec_neq_cell (ρ : Operand → Value) (dst : Option Tmp) (ty : TypeId) (pos : String) (af : Array Edge) (gd : Option (Nat × Bool)) (x y : Operand) (a b : Cl) (hx : ρ x = clV a) (hy : ρ y = clV b) (w : World) :
    (execOp ρ ⟨dst, .binOp .neq 109 x y 109, ty, pos, af, gd⟩).run Tryz.prog w = .ok (.value (.bool (!decide (a = b)))) w := by
  have e : decide (a = b) = decide (a.r = b.r ∧ a.more.toList = b.more.toList ∧ a.half = b.half ∧ a.fk = b.fk ∧ a.fn = b.fn ∧ a.bk = b.bk ∧ a.bn = b.bn ∧ a.fl = b.fl) := decide_eq_decide.2 (cl_eq_iff a b)
  rw [e]
  unfold clV at hx hy
  go_simp
  repeat' split
  all_goals simp_all
/-- A cell in memory. -/
def ClAt (w : World) (b o : Nat) (c : Cl) : Prop := w.cell? ⟨b, o, none⟩ = some (.int .i32 c.r) ∧ w.cell? ⟨b, o + 1, none⟩ = some (.string c.more) ∧ w.cell? ⟨b, o + 2, none⟩ = some (.int .i64 c.half) ∧ w.cell? ⟨b, o + 3, none⟩ = some (.int .i64 c.fk) ∧ w.cell? ⟨b, o + 4, none⟩ = some (.int .i64 c.fn) ∧ w.cell? ⟨b, o + 5, none⟩ = some (.int .i64 c.bk) ∧ w.cell? ⟨b, o + 6, none⟩ = some (.int .i64 c.bn) ∧ w.cell? ⟨b, o + 7, none⟩ = some (.int .i64 c.fl)
theorem ClAt.below {w w1 : World} {b o : Nat} {c : Cl} (h : ClAt w b o c) (hb : Below w.heap.size w w1) : ClAt w1 b o c := by
  obtain ⟨h0, h1, h2, h3, h4, h5, h6, h7⟩ := h
  exact ⟨holda hb h0, holda hb h1, holda hb h2, holda hb h3, holda hb h4, holda hb h5, holda hb h6, holda hb h7⟩
/-- A slice of cells that reads as a list. -/
def ClsAt (w : World) (A : Option Addr) (l : List Cl) : Prop := 0 < l.length → ∃ b off, A = some ⟨b, off, none⟩ ∧ ∀ i c, l[i]? = some c → ClAt w b (off + i * 8) c
theorem ClsAt.below {w w1 : World} {A : Option Addr} {l : List Cl} (h : ClsAt w A l) (hb : Below w.heap.size w w1) : ClsAt w1 A l := fun hl => by
  obtain ⟨b, off, e, hc⟩ := h hl
  exact ⟨b, off, e, fun i s hs => (hc i s hs).below hb⟩
theorem ClsAt.at_ {w : World} {A : Option Addr} {l : List Cl} (h : ClsAt w A l) {k : Nat} (hk : k < l.length) : ∃ b off c, A = some ⟨b, off, none⟩ ∧ l[k]? = some c ∧ ClAt w b (off + k * 8) c := by
  obtain ⟨b, off, hA, hc⟩ := h (by omega)
  exact ⟨b, off, l[k], hA, List.getElem?_eq_getElem hk, hc k _ (List.getElem?_eq_getElem hk)⟩
end Go.Proofs.YtffdblmdelgkaaaGreat
