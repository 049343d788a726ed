/- Joined by a tool of this claim out of smaller texts. Conditions: as stated. -/
import Derived.Test.YtbllhchcccflkaaDoorRows
import Derived.WalkKit
import Derived.WalkSpells
import Derived.WalkLawsBesides
import Derived.Lib.Hide
import Derived.Outline
import Derived.Laws.AppendOwn
import Derived.Maps.AppendAt
import Derived.ProofKit
import Derived.Lib.SlicesCompact
import Derived.Laws.ResultCell
import Derived.Deep.MidRow
import Derived.Tactics
set_option linter.unusedVariables false
set_option linter.unusedSimpArgs false
namespace Go.Proofs.YtbllhchcccflkaaDoor
open Go.RowKit
theorem lt_of_cell {W : World} {b o : Nat} {v : Value} (h : W.cell? ⟨b, o, none⟩ = some v) : b < W.heap.size := World.block_lt_of_cell? W ⟨b, o, none⟩ h
theorem hold {W w1 : World} (hb : Below W.heap.size W w1) {b o : Nat} {v : Value} (h : W.cell? ⟨b, o, none⟩ = some v ∧ W.frozen? ⟨b, o, none⟩ = false) :
    w1.cell? ⟨b, o, none⟩ = some v ∧ w1.frozen? ⟨b, o, none⟩ = false :=
  ⟨(hb.cell (p := ⟨b, o, none⟩) (lt_of_cell h.1)).trans h.1, (hb.frozen (p := ⟨b, o, none⟩) (lt_of_cell h.1)).trans h.2⟩
theorem holda {W w1 : World} (hb : Below W.heap.size W w1) {a : Addr} {v : Value} (h : W.cell? a = some v) : w1.cell? a = some v :=
  (hb.cell (World.block_lt_of_cell? W a h)).trans h
/-- Behind the call's own new blocks. -/
theorem below_tail {W w1 w2 : World} (h : Below W.heap.size W w1) (hb : Below w1.heap.size w1 w2) : Below W.heap.size W w2 := h.trans (hb.mono h.size)
theorem below_allocs {W w1 : World} (h : Below W.heap.size W w1) (o : Obj) : Below W.heap.size W (w1.alloc o) := h.alloc h.size o
theorem heap_alloc_get (w : World) (o : Obj) (k : Nat) : (w.alloc o).heap[k]? = if k = w.heap.size then some o else w.heap[k]? := by
  show (w.heap.push o)[k]? = _
  rw [Array.getElem?_push]
theorem hp_new {W : World} {b : Nat} {o : Obj} (h : W.heap.size = b) : (W.alloc o).heap[b]? = some o := by rw [heap_alloc_get, if_pos h.symm]
theorem hp_old {W : World} {b : Nat} {o x : Obj} (h : W.heap[b]? = some x) : (W.alloc o).heap[b]? = some x := by
  rw [heap_alloc_get, if_neg, h]
  rintro rfl
  rw [Array.getElem?_eq_none (Nat.le_refl _)] at h; cases h
theorem at_new {W w1 : World} {b : Nat} {cs : Array Value} {t : TypeId} (hb : Below W.heap.size W w1) (h : W.heap[b]? = some (.cells cs t (0, 0))) (i : Nat) (v : Value) (hv : cs[i]? = some v) :
    w1.cell? ⟨b, i, none⟩ = some v ∧ w1.frozen? ⟨b, i, none⟩ = false := by
  have hlt : b < W.heap.size := by
    rcases Nat.lt_or_ge b W.heap.size with hlt | hge
    · exact hlt
    · rw [Array.getElem?_eq_none hge] at h; cases h
  refine ⟨(hb.cell (p := ⟨b, i, none⟩) hlt).trans ?_, (hb.frozen (p := ⟨b, i, none⟩) hlt).trans ?_⟩
  · simp [World.cell?, h, hv]
  · simp [World.frozen?, h]
/-- A fact on a cell stays behind a store into another cell. -/
theorem hold_set {W : World} {b i b' i' : Nat} {u v : Value} (h : W.cell? ⟨b, i, none⟩ = some v ∧ W.frozen? ⟨b, i, none⟩ = false) (hne : b' ≠ b ∨ i' ≠ i) : (W.setCell ⟨b', i', none⟩ u).cell? ⟨b, i, none⟩ = some v ∧ (W.setCell ⟨b', i', none⟩ u).frozen? ⟨b, i, none⟩ = false := by
  refine ⟨(World.cell?_setCell_other W _ _ u (fun e => ?_)).trans h.1, ?_⟩
  · injection e with e1 e2
    rcases hne with h | h
    · exact h e1
    · exact h e2
  · have e : (W.setCell ⟨b', i', none⟩ u).frozen? ⟨b, i, none⟩ = W.frozen? ⟨b, i, none⟩ := by simp [go_sem]
    rw [e]; exact h.2
theorem set_self {W : World} {b i : Nat} {u v : Value} (h : W.cell? ⟨b, i, none⟩ = some v ∧ W.frozen? ⟨b, i, none⟩ = false) : (W.setCell ⟨b, i, none⟩ u).cell? ⟨b, i, none⟩ = some u ∧ (W.setCell ⟨b, i, none⟩ u).frozen? ⟨b, i, none⟩ = false := by
  have h1 := h.1
  have e : (W.setCell ⟨b, i, none⟩ u).frozen? ⟨b, i, none⟩ = W.frozen? ⟨b, i, none⟩ := by simp [go_sem]
  refine ⟨by simp [go_sem, h1], by rw [e]; exact h.2⟩
end Go.Proofs.YtbllhchcccflkaaDoor

namespace Go.Proofs.YtbllhchcccflkaaDoor
open Go.RowKit
theorem below_drewNs {B : Nat} {W w1 : World} (h : Below B W w1) (n : Nat) : Below B W (w1.drewN n) := ⟨h.os, h.tape, h.output, h.size, h.block⟩
theorem at_ {W : World} {b : Nat} {cs : Array Value} {t : TypeId} (h : W.heap[b]? = some (.cells cs t (0, 0))) (i : Nat) (v : Value) (hv : cs[i]? = some v) : W.cell? ⟨b, i, none⟩ = some v ∧ W.frozen? ⟨b, i, none⟩ = false := by
  refine ⟨?_, ?_⟩
  · simp [World.cell?, h, hv]
  · simp [World.frozen?, h]
/-- An operation whose run is known. -/
theorem wpList_val {P : Program} {ops : Array Oper} {Q : Exit → Act → World → Prop} {o : Oper} {rest : List Oper} {a : Act} {w : World} (v : Value) (hg : o.guard = none) (hr : (execOp a.eval o).run P w = .ok (.value v) w) (h : wpList P ops Q rest (a.put o.dst v) w) : wpList P ops Q (o :: rest) a w :=
  wpList_plain hg fun _ hK => by unfold Oper.wp; rw [hr]; exact hK _ _ h
end Go.Proofs.YtbllhchcccflkaaDoor

namespace Go.Proofs.YtbllhchcccflkaaDoor
open Go.RowKit
structure Cl where
  r : Int
  more : ByteArray
  half : Int
  fk : Int
  fn : Int
  bk : Int
  bn : Int
  fl : Int
deriving DecidableEq
def clV (c : Cl) : Value := .agg #[.int .i32 c.r, .string c.more, .int .i64 c.half, .int .i64 c.fk, .int .i64 c.fn, .int .i64 c.bk, .int .i64 c.bn, .int .i64 c.fl]
theorem cl_eq_iff (a b : Cl) : a = b ↔ a.r = b.r ∧ a.more.toList = b.more.toList ∧ a.half = b.half ∧ a.fk = b.fk ∧ a.fn = b.fn ∧ a.bk = b.bk ∧ a.bn = b.bn ∧ a.fl = b.fl := by
  obtain ⟨a0, a1, a2, a3, a4, a5, a6, a7⟩ := a
  obtain ⟨b0, b1, b2, b3, b4, b5, b6, b7⟩ := b
  simp only [Cl.mk.injEq]
  constructor
  · rintro ⟨h0, h1, h2, h3, h4, h5, h6, h7⟩
    exact ⟨h0, by rw [h1], h2, h3, h4, h5, h6, h7⟩
  · rintro ⟨h0, h1, h2, h3, h4, h5, h6, h7⟩
    exact ⟨h0, WideShapes.bytes_inj (by rw [← ByteArray.toList_eq, ← ByteArray.toList_eq, h1]), h2, h3, h4, h5, h6, h7⟩
theorem exec_eql_cell (ρ : Operand → Value) (dst : Option Tmp) (ty : TypeId) (pos : String) (af : Array Edge) (gd : Option (Nat × Bool)) (x y : Operand) (a b : Cl) (hx : ρ x = clV a) (hy : ρ y = clV b) (w : World) :
    (execOp ρ ⟨dst, .binOp .eql 44 x y 44, ty, pos, af, gd⟩).run Tryd.prog w = .ok (.value (.bool (decide (a = b)))) w := by
  have e : decide (a = b) = decide (a.r = b.r ∧ a.more.toList = b.more.toList ∧ a.half = b.half ∧ a.fk = b.fk ∧ a.fn = b.fn ∧ a.bk = b.bk ∧ a.bn = b.bn ∧ a.fl = b.fl) := decide_eq_decide.2 (cl_eq_iff a b)
  rw [e]
  unfold clV at hx hy
  go_simp
  repeat' split
  all_goals simp_all
theorem exec_neq_cell (ρ : Operand → Value) (dst : Option Tmp) (ty : TypeId) (pos : String) (af : Array Edge) (gd : Option (Nat × Bool)) (x y : Operand) (a b : Cl) (hx : ρ x = clV a) (hy : ρ y = clV b) (w : World) :
    (execOp ρ ⟨dst, .binOp .neq 44 x y 44, ty, pos, af, gd⟩).run Tryd.prog w = .ok (.value (.bool (!decide (a = b)))) w := by
  have e : decide (a = b) = decide (a.r = b.r ∧ a.more.toList = b.more.toList ∧ a.half = b.half ∧ a.fk = b.fk ∧ a.fn = b.fn ∧ a.bk = b.bk ∧ a.bn = b.bn ∧ a.fl = b.fl) := decide_eq_decide.2 (cl_eq_iff a b)
  rw [e]
  unfold clV at hx hy
  go_simp
  repeat' split
  all_goals simp_all
/-- A cell in memory. -/
def ClAt (w : World) (b o : Nat) (c : Cl) : Prop := w.cell? ⟨b, o, none⟩ = some (.int .i32 c.r) ∧ w.cell? ⟨b, o + 1, none⟩ = some (.string c.more) ∧ w.cell? ⟨b, o + 2, none⟩ = some (.int .i64 c.half) ∧ w.cell? ⟨b, o + 3, none⟩ = some (.int .i64 c.fk) ∧ w.cell? ⟨b, o + 4, none⟩ = some (.int .i64 c.fn) ∧ w.cell? ⟨b, o + 5, none⟩ = some (.int .i64 c.bk) ∧ w.cell? ⟨b, o + 6, none⟩ = some (.int .i64 c.bn) ∧ w.cell? ⟨b, o + 7, none⟩ = some (.int .i64 c.fl)
theorem ClAt.below {w w1 : World} {b o : Nat} {c : Cl} (h : ClAt w b o c) (hb : Below w.heap.size w w1) : ClAt w1 b o c := by
  obtain ⟨h0, h1, h2, h3, h4, h5, h6, h7⟩ := h
  exact ⟨holda hb h0, holda hb h1, holda hb h2, holda hb h3, holda hb h4, holda hb h5, holda hb h6, holda hb h7⟩
/-- A slice of cells that reads as a list. -/
def ClsAt (w : World) (A : Option Addr) (l : List Cl) : Prop := 0 < l.length → ∃ b off, A = some ⟨b, off, none⟩ ∧ ∀ i c, l[i]? = some c → ClAt w b (off + i * 8) c
theorem ClsAt.below {w w1 : World} {A : Option Addr} {l : List Cl} (h : ClsAt w A l) (hb : Below w.heap.size w w1) : ClsAt w1 A l := fun hl => by
  obtain ⟨b, off, e, hc⟩ := h hl
  exact ⟨b, off, e, fun i s hs => (hc i s hs).below hb⟩
theorem ClsAt.at_ {w : World} {A : Option Addr} {l : List Cl} (h : ClsAt w A l) {k : Nat} (hk : k < l.length) : ∃ b off c, A = some ⟨b, off, none⟩ ∧ l[k]? = some c ∧ ClAt w b (off + k * 8) c := by
  obtain ⟨b, off, hA, hc⟩ := h (by omega)
  exact ⟨b, off, l[k], hA, List.getElem?_eq_getElem hk, hc k _ (List.getElem?_eq_getElem hk)⟩
end Go.Proofs.YtbllhchcccflkaaDoor

namespace Go.Proofs.YtbllhchcccflkaaDoor
def marksT : List (Int × Int) := [(0x300, 0x36f), (0x483, 0x489), (0x591, 0x5bd), (0x610, 0x61a), (0x64b, 0x65f), (0x900, 0x902), (0x93c, 0x93c), (0x941, 0x948), (0xe31, 0xe31), (0xe34, 0xe3a), (0x1ab0, 0x1aff), (0x1dc0, 0x1dff), (0x200b, 0x200f), (0x20d0, 0x20ff), (0x2060, 0x2064), (0xfe00, 0xfe0f), (0xfe20, 0xfe2f), (0xfeff, 0xfeff), (0xe0100, 0xe01ef)]
def widesT : List (Int × Int) := [(0x1100, 0x115f), (0x231a, 0x231b), (0x2329, 0x232a), (0x23e9, 0x23ec), (0x25fd, 0x25fe), (0x2614, 0x2615), (0x2e80, 0x303e), (0x3041, 0x33ff), (0x3400, 0x4dbf), (0x4e00, 0x9fff), (0xa000, 0xa4cf), (0xa960, 0xa97f), (0xac00, 0xd7a3), (0xf900, 0xfaff), (0xfe30, 0xfe6f), (0xff00, 0xff60), (0xffe0, 0xffe6), (0x1f300, 0x1f64f), (0x1f680, 0x1f6ff), (0x1f900, 0x1f9ff), (0x20000, 0x2fffd), (0x30000, 0x3fffd)]
def amongB (l : List (Int × Int)) (r : Int) : Bool := l.any (fun x => decide (x.1 ≤ r) && decide (r ≤ x.2))
def noneW (r : Int) : Bool := decide (r < 32) || (decide (127 ≤ r) && decide (r < 160)) || (decide (0xd800 ≤ r) && decide (r < 0xe000)) || decide (0x10ffff < r)
/-- A scalar's width. -/
def widOf (r : Int) : Int := if noneW r then -1 else if amongB marksT r then 0 else if amongB widesT r then 2 else 1
theorem among_low {r : Int} (h : r < 0x300) : amongB marksT r = false ∧ amongB widesT r = false := by
  constructor <;>
  · simp only [amongB, marksT, widesT, List.any_cons, List.any_nil, Bool.or_false, Bool.or_eq_false_iff, Bool.and_eq_false_iff, decide_eq_false_iff_not]
    omega
theorem widOf_low {r : Int} (h : r < 0x300) : widOf r = if noneW r then -1 else 1 := by
  unfold widOf
  rw [(among_low h).1, (among_low h).2]
  rfl
/-- An attribute, and a color. -/
structure Atr where
  fk : Int
  fn : Int
  bk : Int
  bn : Int
  fl : Int
def atrOf (c : Cl) : Atr := ⟨c.fk, c.fn, c.bk, c.bn, c.fl⟩
def mkCl (r : Int) (more : ByteArray) (half : Int) (a : Atr) : Cl := ⟨r, more, half, a.fk, a.fn, a.bk, a.bn, a.fl⟩
def emptyA (a : Atr) : Cl := mkCl 0 ByteArray.empty 0 a
def emptyC (c : Cl) : Cl := emptyA (atrOf c)
def pairB (a b : Cl) : Bool := decide (a.half = 1) && decide (b.half = 2) && decide (a = { b with half := 1 })
/-- A row, mended. -/
def mendL : List Cl → List Cl
  | [] => []
  | [c] => if c.half = 0 ∨ c.half = 3 then [c] else [emptyC c]
  | c :: d :: l => if c.half = 0 then c :: mendL (d :: l) else if pairB c d then c :: d :: mendL l else emptyC c :: mendL (d :: l)
theorem mendL_cons (c d : Cl) (l : List Cl) : mendL (c :: d :: l) = if c.half = 0 then c :: mendL (d :: l) else if pairB c d then c :: d :: mendL l else emptyC c :: mendL (d :: l) := by rw [mendL]
theorem mendL_one (c : Cl) : mendL [c] = if c.half = 0 ∨ c.half = 3 then [c] else [emptyC c] := by rw [mendL]
theorem mendL_len : ∀ l : List Cl, (mendL l).length = l.length
  | [] => rfl
  | [c] => by rw [mendL]; split <;> rfl
  | c :: d :: l => by
    rw [mendL]
    have h1 := mendL_len (d :: l)
    have h2 := mendL_len l
    split
    · simp only [List.length_cons] at h1 ⊢; omega
    split
    · simp only [List.length_cons]; omega
    · simp only [List.length_cons] at h1 ⊢; omega
theorem mendL_zero {c : Cl} (h : c.half = 0) (l : List Cl) : mendL (c :: l) = c :: mendL l := by
  match l with
  | [] => rw [mendL_one, if_pos (Or.inl h)]; rfl
  | d :: l => rw [mendL, if_pos h]
theorem mendL_idem : ∀ l : List Cl, mendL (mendL l) = mendL l
  | [] => rfl
  | [c] => by
    rw [mendL]
    split
    · next h => rw [mendL, if_pos h]
    · rw [mendL_zero rfl]; rfl
  | c :: d :: l => by
    have h1 := mendL_idem (d :: l)
    have h2 := mendL_idem l
    rw [mendL]
    split
    · next h => rw [mendL_zero h, h1]
    split
    · next h hp => rw [mendL, if_neg h, if_pos hp, h2]
    · rw [mendL_zero rfl, h1]
end Go.Proofs.YtbllhchcccflkaaDoor

namespace Go.Proofs.YtbllhchcccflkaaDoor
def isScal (r : Int) : Bool := decide (0 ≤ r) && decide (r ≤ 0x10ffff) && (decide (r < 0xd800) || decide (0xdfff < r))
/-- A scalar's bytes. -/
def putB (r : Int) : ByteArray :=
  if isScal r then
    (if r < 0x80 then ⟨#[r.toNat.toUInt8]⟩
    else if r < 0x800 then ⟨#[(192 + r / 64).toNat.toUInt8, (128 + r % 64).toNat.toUInt8]⟩
    else if r < 0x10000 then ⟨#[(224 + r / 4096).toNat.toUInt8, (128 + r / 64 % 64).toNat.toUInt8, (128 + r % 64).toNat.toUInt8]⟩
    else ⟨#[(240 + r / 262144).toNat.toUInt8, (128 + r / 4096 % 64).toNat.toUInt8, (128 + r / 64 % 64).toNat.toUInt8, (128 + r % 64).toNat.toUInt8]⟩)
  else ByteArray.empty
end Go.Proofs.YtbllhchcccflkaaDoor

namespace Go.Proofs.YtbllhchcccflkaaDoor
open Go.RowKit
/-- What a decoder holds: what the bytes that wait make, how many more must come, how many wait, from which to which the next one may be. -/
structure Dk where
  n : Int
  need : Int
  hv : Int
  lo : Int
  hi : Int
deriving DecidableEq
def leadD (c : Int) : Dk :=
  if c < 224 then ⟨c % 32, 1, 1, 128, 191⟩
  else if c < 240 then ⟨c % 16, 2, 1, if c = 224 then 160 else 128, if c = 237 then 159 else 191⟩
  else ⟨c % 8, 3, 1, if c = 240 then 144 else 128, if c = 244 then 143 else 191⟩
/-- A byte comes: what is read by it. -/
def stepD8 (d : Dk) (c : Int) : Option Int × Dk :=
  if d.need = 0 then (if c < 128 then (some c, d) else (none, leadD c))
  else if d.need = 1 then (some (64 * d.n + c % 64), ⟨64 * d.n + c % 64, 0, 0, 128, 191⟩)
  else (none, ⟨64 * d.n + c % 64, d.need - 1, d.hv + 1, 128, 191⟩)
/-- It may come. -/
def okD (d : Dk) (c : Int) : Prop :=
  (d.need = 0 ∧ d.hv = 0 ∧ (0 ≤ c ∧ c < 128 ∨ 194 ≤ c ∧ c ≤ 244)) ∨ (1 ≤ d.need ∧ d.need ≤ 3 ∧ 1 ≤ d.hv ∧ d.hv ≤ 3 ∧ 128 ≤ d.lo ∧ d.lo ≤ c ∧ c ≤ d.hi ∧ d.hi ≤ 191 ∧ 0 ≤ d.n ∧ d.n < 32768)
def runD : Dk → List Int → List Int × Dk
  | d, [] => ([], d)
  | d, c :: cs => ((stepD8 d c).1.toList ++ (runD (stepD8 d c).2 cs).1, (runD (stepD8 d c).2 cs).2)
def okRun : Dk → List Int → Prop
  | _, [] => True
  | d, c :: cs => okD d c ∧ okRun (stepD8 d c).2 cs
theorem runD_append (d : Dk) (a b : List Int) : runD d (a ++ b) = ((runD d a).1 ++ (runD (runD d a).2 b).1, (runD (runD d a).2 b).2) := by
  induction a generalizing d with
  | nil => simp [runD]
  | cons c a ih => simp [runD, ih]
theorem okRun_append (d : Dk) (a b : List Int) (ha : okRun d a) (hb : okRun (runD d a).2 b) : okRun d (a ++ b) := by
  induction a generalizing d with
  | nil => exact hb
  | cons c a ih => exact ⟨ha.1, ih _ ha.2 hb⟩
theorem okRun_at {d : Dk} {l : List Int} (h : okRun d l) {i : Nat} (hi : i < l.length) : okD (runD d (l.take i)).2 (l[i]'hi) := by
  induction l generalizing d i with
  | nil => simp at hi
  | cons c l ih =>
    cases i with
    | zero => exact h.1
    | succ i => exact ih h.2 (by simpa using hi)
theorem runD_take_succ (d : Dk) (l : List Int) {i : Nat} (hi : i < l.length) :
    runD d (l.take (i + 1)) = ((runD d (l.take i)).1 ++ (stepD8 (runD d (l.take i)).2 l[i]).1.toList, (stepD8 (runD d (l.take i)).2 l[i]).2) := by
  rw [List.take_succ_eq_append_getElem hi, runD_append]
  simp [runD]
/-- A scalar's bytes. -/
def bytesR (r : Int) : List Int :=
  if r < 128 then [r]
  else if r < 2048 then [192 + r / 64, 128 + r % 64]
  else if r < 65536 then [224 + r / 4096, 128 + r / 64 % 64, 128 + r % 64]
  else [240 + r / 262144, 128 + r / 4096 % 64, 128 + r / 64 % 64, 128 + r % 64]
theorem bytesR_put (r : Int) (h : isScal r = true) : putB r = strOfNums (bytesR r) := by
  unfold putB bytesR strOfNums
  rw [h, if_pos rfl]
  repeat' split
  all_goals first | rfl | omega
theorem bytesR_one (r : Int) (h : isScal r = true) (d : Dk) (hd : d.need = 0 ∧ d.hv = 0) :
    okRun d (bytesR r) ∧ (runD d (bytesR r)).1 = [r] ∧ (runD d (bytesR r)).2.need = 0 ∧ (runD d (bytesR r)).2.hv = 0 := by
  obtain ⟨n, need, hv, lo, hi⟩ := d
  obtain ⟨h1, h2⟩ := hd
  simp only at h1 h2
  subst h1 h2
  have hr : 0 ≤ r ∧ r ≤ 1114111 ∧ (r < 55296 ∨ 57343 < r) := by unfold isScal at h; simp at h; omega
  unfold bytesR
  by_cases hA : r < 128
  · rw [if_pos hA]
    simp [okRun, okD, runD, stepD8, hA]
    omega
  rw [if_neg hA]
  by_cases hB : r < 2048
  · rw [if_pos hB]
    have e1 : ¬ 192 + r / 64 < 128 := by omega
    have e2 : 192 + r / 64 < 224 := by omega
    simp only [okRun, okD, runD, stepD8, leadD, if_pos, e1, e2, if_false, if_true, Option.toList, List.nil_append, and_true]
    simp
    omega
  rw [if_neg hB]
  by_cases hC : r < 65536
  · rw [if_pos hC]
    have e1 : ¬ 224 + r / 4096 < 128 := by omega
    have e2 : ¬ 224 + r / 4096 < 224 := by omega
    have e3 : 224 + r / 4096 < 240 := by omega
    simp only [okRun, okD, runD, stepD8, leadD, if_pos, e1, e2, e3, if_false, if_true, Option.toList, List.nil_append, and_true]
    simp
    refine ⟨⟨by omega, ?_, by omega⟩, by omega⟩
    split <;> split <;> omega
  rw [if_neg hC]
  have e1 : ¬ 240 + r / 262144 < 128 := by omega
  have e2 : ¬ 240 + r / 262144 < 224 := by omega
  have e3 : ¬ 240 + r / 262144 < 240 := by omega
  simp only [okRun, okD, runD, stepD8, leadD, if_pos, e1, e2, e3, if_false, if_true, Option.toList, List.nil_append, and_true]
  simp
  refine ⟨⟨by omega, ?_, by omega, by omega⟩, by omega⟩
  split <;> split <;> omega
theorem bytesR_all (l : List Int) (h : ∀ r ∈ l, isScal r = true) (d : Dk) (hd : d.need = 0 ∧ d.hv = 0) :
    okRun d (l.flatMap bytesR) ∧ (runD d (l.flatMap bytesR)).1 = l ∧ (runD d (l.flatMap bytesR)).2.need = 0 ∧ (runD d (l.flatMap bytesR)).2.hv = 0 := by
  induction l generalizing d with
  | nil => exact ⟨trivial, rfl, hd⟩
  | cons r l ih =>
    obtain ⟨h1, h2, h3⟩ := bytesR_one r (h r (by simp)) d hd
    obtain ⟨i1, i2, i3⟩ := ih (fun x hx => h x (by simp [hx])) (runD d (bytesR r)).2 h3
    rw [List.flatMap_cons, runD_append]
    exact ⟨okRun_append _ _ _ h1 i1, by rw [h2, i2]; rfl, i3⟩
end Go.Proofs.YtbllhchcccflkaaDoor

namespace Go.Proofs.YtbllhchcccflkaaDoor
open Go.RowKit
section
variable {α : Type} (enc : α → List Value) (k : Nat)
/-- The cells of a list. -/
def flat (l : List α) : List Value := l.flatMap enc
/-- A slice at A reads as the list l. -/
def GrAt (w : World) (A : Option Addr) (l : List α) : Prop :=
  0 < l.length → ∃ b off, A = some ⟨b, off, none⟩ ∧ ∀ i x, l[i]? = some x → ∀ j v, (enc x)[j]? = some v → w.cell? ⟨b, off + i * k + j, none⟩ = some v
variable {enc k}
theorem flat_append (l m : List α) : flat enc (l ++ m) = flat enc l ++ flat enc m := by simp [flat]
theorem flat_len (hk : ∀ x, (enc x).length = k) (l : List α) : (flat enc l).length = l.length * k := by
  induction l with
  | nil => simp [flat]
  | cons x l ih =>
    have e : flat enc (x :: l) = enc x ++ flat enc l := rfl
    rw [e, List.length_append, ih, hk, List.length_cons, Nat.add_mul]; omega
theorem flat_at (hk : ∀ x, (enc x).length = k) : ∀ (l : List α) (i : Nat) (x : α), l[i]? = some x → ∀ j, j < k → (flat enc l)[i * k + j]? = (enc x)[j]?
  | [], i, x, h, j, hj => by simp at h
  | y :: l, 0, x, h, j, hj => by
    obtain rfl : y = x := by simpa using h
    have e : flat enc (y :: l) = enc y ++ flat enc l := rfl
    rw [e, Nat.zero_mul, Nat.zero_add, List.getElem?_append_left (by rw [hk]; exact hj)]
  | y :: l, i + 1, x, h, j, hj => by
    have e : flat enc (y :: l) = enc y ++ flat enc l := rfl
    rw [e, List.getElem?_append_right (by rw [hk, Nat.add_mul]; omega), hk, show (i + 1) * k + j - k = i * k + j from by rw [Nat.add_mul]; omega]
    exact flat_at hk l i x (by simpa using h) j hj
theorem flat_one (h1 : ∀ x, ∀ v ∈ enc x, v.oneCell' = true) (l : List α) : ∀ u ∈ flat enc l, u.oneCell' = true := by
  intro u hu
  simp only [flat, List.mem_flatMap] at hu
  obtain ⟨x, _, hx⟩ := hu
  exact h1 x u hx
theorem GrAt.below {w w1 : World} {A : Option Addr} {l : List α} (h : GrAt enc k w A l) (hb : Below w.heap.size w w1) : GrAt enc k w1 A l := fun hl => by
  obtain ⟨b, off, e, hc⟩ := h hl
  exact ⟨b, off, e, fun i x hx j v hv => holda hb (hc i x hx j v hv)⟩
theorem GrAt.at_ {w : World} {A : Option Addr} {l : List α} (h : GrAt enc k w A l) {i : Nat} (hi : i < l.length) : ∃ b off x, A = some ⟨b, off, none⟩ ∧ l[i]? = some x ∧ ∀ j v, (enc x)[j]? = some v → w.cell? ⟨b, off + i * k + j, none⟩ = some v := by
  obtain ⟨b, off, hA, hc⟩ := h (by omega)
  exact ⟨b, off, l[i], hA, List.getElem?_eq_getElem hi, hc i _ (List.getElem?_eq_getElem hi)⟩
theorem add_lit' (b off j : Nat) : (⟨b, off, none⟩ : Addr).add j = ⟨b, off + j, none⟩ := by
  unfold Addr.add
  by_cases hz : j = 0
  · rw [if_pos hz, hz]; rfl
  · rw [if_neg hz]
/-- What a slice holds, cell by cell: to be appended. -/
theorem GrAt.news {w : World} {ad : Addr} {l : List α} (hk : ∀ x, (enc x).length = k) (h : GrAt enc k w (some ad) l) : ∀ j u, (flat enc l)[j]? = some u → w.cell? (ad.add j) = some u := by
  intro j u hj
  have hlt := (List.getElem?_eq_some_iff.1 hj).1
  rw [flat_len hk] at hlt
  have hl0 : 0 < l.length := by
    rcases Nat.eq_zero_or_pos l.length with h0 | h0
    · rw [h0] at hlt; omega
    · exact h0
  have hk0 : 0 < k := by
    rcases Nat.eq_zero_or_pos k with h0 | h0
    · rw [h0] at hlt; omega
    · exact h0
  obtain ⟨b, off, e, hc⟩ := h hl0
  obtain rfl : ad = ⟨b, off, none⟩ := by simpa using e
  rw [add_lit']
  have hi : j / k < l.length := Nat.div_lt_of_lt_mul (by rw [Nat.mul_comm]; exact hlt)
  have hm : j % k < k := Nat.mod_lt _ hk0
  have e1 : j / k * k + j % k = j := Nat.div_add_mod' j k
  have h1 := flat_at hk l (j / k) _ (List.getElem?_eq_getElem hi) (j % k) hm
  rw [e1, hj] at h1
  have h2 := hc (j / k) _ (List.getElem?_eq_getElem hi) (j % k) u h1.symm
  rw [show off + j = off + j / k * k + j % k from by omega]
  exact h2
end
end Go.Proofs.YtbllhchcccflkaaDoor

namespace Go.Proofs.YtbllhchcccflkaaDoor
open Go.RowKit
/-- w' is w but for the blocks of X, and new ones. -/
structure Mod (X : List Nat) (w w' : World) : Prop where
  os : w'.os = w.os
  tape : w'.tape = w.tape
  output : w'.output = w.output
  size : w.heap.size ≤ w'.heap.size
  block : ∀ k, k < w.heap.size → k ∉ X → w'.heap[k]? = w.heap[k]?
theorem Mod.refl (X : List Nat) (w : World) : Mod X w w := ⟨rfl, rfl, rfl, Nat.le_refl _, fun _ _ _ => rfl⟩
/-- Two steps; the second one may write to what the first one made. -/
theorem Mod.trans {X Y : List Nat} {a b c : World} (h : Mod X a b) (k : Mod Y b c) (hY : ∀ g ∈ Y, g ∈ X ∨ a.heap.size ≤ g) : Mod X a c :=
  ⟨k.os.trans h.os, k.tape.trans h.tape, k.output.trans h.output, Nat.le_trans h.size k.size, fun i hi hx => (k.block i (Nat.lt_of_lt_of_le hi h.size) (fun hy => by
    rcases hY i hy with h1 | h1
    · exact hx h1
    · omega)).trans (h.block i hi hx)⟩
theorem Mod.of_below {X : List Nat} {w w' : World} (h : Below w.heap.size w w') : Mod X w w' := ⟨h.os, h.tape, h.output, h.size, fun k hk _ => h.block k hk⟩
theorem Mod.below {X : List Nat} {w w' : World} {B : Nat} (h : Mod X w w') (hX : ∀ g ∈ X, B ≤ g) (hB : B ≤ w.heap.size) : Below B w w' := ⟨h.os, h.tape, h.output, h.size, fun k hk => h.block k (by omega) (fun hx => by have := hX k hx; omega)⟩
theorem Mod.then_below {X : List Nat} {a b c : World} (h : Mod X a b) (k : Below b.heap.size b c) : Mod X a c := h.trans (Mod.of_below (X := []) k) (fun g hg => by cases hg)
theorem Mod.of_grown {X : List Nat} {w w' : World} {row : Option Nat} (h : w.grownBy w' row) (hX : ∀ g, row = some g → g ∈ X) : Mod X w w' :=
  ⟨h.os, h.tape, h.output, h.size, fun k hk hx => h.block k hk (fun e => hx (hX k e.symm))⟩
theorem Mod.setCell {X : List Nat} {w w1 : World} (h : Mod X w w1) {a : Addr} (ha : a.block ∈ X ∨ w.heap.size ≤ a.block) (v : Value) : Mod X w (w1.setCell a v) :=
  ⟨h.os, h.tape, h.output, by simpa [World.setCell] using h.size, fun k hk hx => by
    rw [Below.heap_setCell _ _ _ _ (fun e => by subst e; rcases ha with h1 | h1; exact hx h1; omega)]
    exact h.block k hk hx⟩
theorem owns_mod {X : List Nat} {w w' : World} {base : Nat} {e : TypeId} {size : Nat} {v : Value} {n : Nat} {xs : List Value} (h : w.ownsRow base e size v n xs) (hm : Mod X w w') (hX : ∀ g, v.ownBlock = some g → g ∉ X) : w'.ownsRow base e size v n xs := by
  obtain ⟨h1, h2 | ⟨g, cap, cur, rfl, e2, e3, e4⟩⟩ := h
  · exact ⟨h1, .inl h2⟩
  · refine ⟨h1, .inr ⟨g, cap, cur, rfl, e2, ?_, e4⟩⟩
    rw [hm.block g ?_ (hX g rfl)]; exact e3
    rcases Nat.lt_or_ge g w.heap.size with h | h
    · exact h
    · rw [Array.getElem?_eq_none h] at e3; cases e3
theorem owns_bl {w w' : World} {base : Nat} {e : TypeId} {size : Nat} {v : Value} {n : Nat} {xs : List Value} (h : w.ownsRow base e size v n xs) (hb : Below w.heap.size w w') : w'.ownsRow base e size v n xs :=
  owns_mod h (Mod.of_below (X := []) hb) (fun _ _ h => by cases h)
theorem owns_weaken {w : World} {base base' : Nat} {e : TypeId} {size : Nat} {v : Value} {n : Nat} {xs : List Value} (h : w.ownsRow base e size v n xs) (hb : base' ≤ base) : w.ownsRow base' e size v n xs := by
  obtain ⟨h1, h2 | ⟨g, cap, cur, rfl, e2, e3⟩⟩ := h
  · exact ⟨h1, .inl h2⟩
  · exact ⟨h1, .inr ⟨g, cap, cur, rfl, Nat.le_trans hb e2, e3⟩⟩
section
variable {P : Program}
end
end Go.Proofs.YtbllhchcccflkaaDoor

namespace Go.Proofs.YtbllhchcccflkaaDoor
open Go.RowKit
def HoldAt (W : World) (b i : Nat) (v : Value) : Prop := W.cell? ⟨b, i, none⟩ = some v ∧ W.frozen? ⟨b, i, none⟩ = false
theorem heap_setCell_eq {w : World} {b o : Nat} {v : Value} {cs : Array Value} {e : TypeId} {fz : Nat × Nat} (h : w.heap[b]? = some (.cells cs e fz)) : (w.setCell ⟨b, o, none⟩ v).heap[b]? = some (.cells (cs.setIfInBounds o v) e fz) := by
  unfold World.setCell
  simp only [Array.getElem?_modify, if_true, h]
  rfl
/-- A block that is known whole, one cell of which is set. -/
theorem whole_set {w : World} {b : Nat} {cs cs' : List Value} {t : TypeId} (h : w.heap[b]? = some (.cells cs.toArray t (0, 0))) (i : Nat) (v : Value) (hc : cs.set i v = cs') : (w.setCell ⟨b, i, none⟩ v).heap[b]? = some (.cells cs'.toArray t (0, 0)) := by
  rw [heap_setCell_eq h, ← hc]
  simp
theorem whole_at {w : World} {b : Nat} {cs : List Value} {t : TypeId} (h : w.heap[b]? = some (.cells cs.toArray t (0, 0))) (i : Nat) (v : Value) (hc : cs[i]? = some v) : HoldAt w b i v :=
  at_ h i v (by simpa using hc)
section
variable {P : Program}
end
end Go.Proofs.YtbllhchcccflkaaDoor

namespace Go
variable {P : Program}
/-- An operation that yields a value and leaves the world. -/
theorem wpList_valG {ops : Array Oper} {rest : List Oper} {op : Oper} {a : Act} {w : World} {Q : Exit → Act → World → Prop} (v : Value) (hw : Region.wanted op (yielded ops a.tmps) = true) (hr : (execOp a.eval op).run P w = .ok (.value v) w)
    (h : wpList P ops Q rest (a.put op.dst v) w) : wpList P ops Q (op :: rest) a w := by
  unfold wpList
  rw [if_pos hw]
  refine .inl ?_
  unfold Oper.wp
  rw [hr]
  exact h
/-- An operation that yields a value and another world. -/
theorem wpList_actG {ops : Array Oper} {rest : List Oper} {op : Oper} {a : Act} {w : World} {Q : Exit → Act → World → Prop} (v : Value) (w' : World) (hw : Region.wanted op (yielded ops a.tmps) = true) (hr : (execOp a.eval op).run P w = .ok (.value v) w')
    (h : wpList P ops Q rest (a.put op.dst v) w') : wpList P ops Q (op :: rest) a w := by
  unfold wpList
  rw [if_pos hw]
  refine .inl ?_
  unfold Oper.wp
  rw [hr]
  exact h
end Go

namespace Go.Proofs.YtbllhchcccflkaaDoor
open Go.RowKit
def encPr (x : Int × Int) : List Value := [.int .i32 x.1, .int .i32 x.2]
theorem encPr_len : ∀ x, (encPr x).length = 2 := fun _ => rfl
theorem flat_at2 {α : Type} {enc : α → List Value} {K : Nat} (hl : ∀ x, (enc x).length = K) : ∀ (X : List α) (k : Nat) (x : α) (j : Nat), X[k]? = some x → j < K → (flat enc X)[k * K + j]? = (enc x)[j]?
  | [], k, x, j, h, _ => by simp at h
  | y :: X, 0, x, j, h, hj => by
    obtain rfl : y = x := by simpa using h
    have e : flat enc (y :: X) = enc y ++ flat enc X := rfl
    rw [e, Nat.zero_mul, Nat.zero_add, List.getElem?_append_left (by rw [hl]; exact hj)]
  | y :: X, k + 1, x, j, h, hj => by
    have e : flat enc (y :: X) = enc y ++ flat enc X := rfl
    rw [e, List.getElem?_append_right (by rw [hl, Nat.add_mul]; omega), hl, show (k + 1) * K + j - K = k * K + j by rw [Nat.add_mul]; omega]
    exact flat_at2 hl X k x j (by simpa using h) hj
theorem gr_lit {α : Type} {enc : α → List Value} {K : Nat} (hl : ∀ x, (enc x).length = K) {w : World} {g : Nat} {t : TypeId} {l : List α} (h : w.heap[g]? = some (.cells (flat enc l).toArray t (0, 0))) : GrAt enc K w (some ⟨g, 0, none⟩) l := fun _ => by
  refine ⟨g, 0, rfl, fun i x hx j v hv => ?_⟩
  have hj : j < K := by have := (List.getElem?_eq_some_iff.1 hv).1; rwa [hl] at this
  have := flat_at2 hl l i x j hx hj
  rw [Nat.zero_add]
  exact (whole_at h _ _ (this.trans hv)).1
set_option maxHeartbeats 800000 in
theorem wnone_any (r : Int) (w : World) : Calls Tryd.prog 65 #[.int .i32 r] w fun e w' => e = .returned (.bool (noneW r)) ∧ w = w' := by
  by_cases h1 : r < 32
  · skip
    have hv : noneW r = true := by simp [noneW]; omega
    rw [hv]
    clear hv
    go_enter Tryd.func65, Tryd.ntmps65
    go_wp2
    go_ret
    exact ⟨rfl, rfl⟩
  by_cases h2 : 127 ≤ r
  · by_cases h3 : r < 160
    · skip
      have hv : noneW r = true := by simp [noneW]; omega
      rw [hv]
      clear hv
      go_enter Tryd.func65, Tryd.ntmps65
      go_wp2
      go_ret
      exact ⟨rfl, rfl⟩
    · by_cases h4 : 55296 ≤ r
      · by_cases h5 : r < 57344
        · skip
          have hv : noneW r = true := by simp [noneW]; omega
          rw [hv]
          clear hv
          go_enter Tryd.func65, Tryd.ntmps65
          go_wp2
          go_ret
          exact ⟨rfl, rfl⟩
        · by_cases h6 : 1114111 < r
          · skip
            have hv : noneW r = true := by simp [noneW]; omega
            rw [hv]
            clear hv
            go_enter Tryd.func65, Tryd.ntmps65
            go_wp2
            go_ret
            exact ⟨rfl, rfl⟩
          · skip
            have hv : noneW r = false := by simp [noneW]; omega
            rw [hv]
            clear hv
            go_enter Tryd.func65, Tryd.ntmps65
            go_wp2
            go_ret
            exact ⟨rfl, rfl⟩
      · have h6 : ¬ 1114111 < r := by omega
        have hv : noneW r = false := by simp [noneW]; omega
        rw [hv]
        clear hv
        go_enter Tryd.func65, Tryd.ntmps65
        go_wp2
        go_ret
        exact ⟨rfl, rfl⟩
  · have h4 : ¬ 55296 ≤ r := by omega
    have h6 : ¬ 1114111 < r := by omega
    have hv : noneW r = false := by simp [noneW]; omega
    rw [hv]
    clear hv
    go_enter Tryd.func65, Tryd.ntmps65
    go_wp2
    go_ret
    exact ⟨rfl, rfl⟩
def TabPost (l : List (Int × Int)) (w : World) (e : Ending) (w' : World) : Prop := ∃ g, e = .returned (.slice (some ⟨g, 0, none⟩) l.length l.length) ∧ GrAt encPr 2 w' (some ⟨g, 0, none⟩) l ∧ Below w.heap.size w w'
set_option maxRecDepth 100000 in
set_option maxHeartbeats 1600000 in
theorem wmarks_any (w : World) : Calls Tryd.prog 67 #[] w (TabPost marksT w) := by
  go_enter Tryd.func67, Tryd.ntmps67
  go_wp2
  go_ret
  exact ⟨w.heap.size, rfl, gr_lit encPr_len (l := marksT) (hp_new rfl), below_allocs (Below.refl _ _) _⟩
set_option maxRecDepth 100000 in
set_option maxHeartbeats 1600000 in
theorem wwides_any (w : World) : Calls Tryd.prog 68 #[] w (TabPost widesT w) := by
  go_enter Tryd.func68, Tryd.ntmps68
  go_wp2
  go_ret
  exact ⟨w.heap.size, rfl, gr_lit encPr_len (l := widesT) (hp_new rfl), below_allocs (Below.refl _ _) _⟩
def PrPost (r : Int) (x : Int × Int) (w : World) (e : Ending) (w' : World) : Prop := e = .returned (.bool (decide (x.1 ≤ r) && decide (r ≤ x.2))) ∧ Below w.heap.size w w'
set_option maxHeartbeats 800000 in
theorem among1_any (r : Int) (g : Nat) (x : Int × Int) (w : World) (hg : w.cell? ⟨g, 0, none⟩ = some (.int .i32 r)) : Calls Tryd.prog 78 #[.agg #[.int .i32 x.1, .int .i32 x.2], .pointer (some ⟨g, 0, none⟩)] w (PrPost r x w) := by
  have hgl := lt_of_cell hg
  by_cases h1 : x.1 ≤ r <;> by_cases h2 : r ≤ x.2
  all_goals
    go_enter Tryd.func78, Tryd.ntmps78
    go_wp2
    go_ret
    exact ⟨by simp [h1, h2], below_allocs (Below.refl _ _) _⟩
end Go.Proofs.YtbllhchcccflkaaDoor

namespace Go.Proofs.YtbllhchcccflkaaDoor
open Go.RowKit
def inPr (r : Int) (x : Int × Int) : Bool := decide (x.1 ≤ r) && decide (r ≤ x.2)
theorem among_take {l : List (Int × Int)} {r : Int} {k : Nat} {x : Int × Int} (hx : l[k]? = some x) : amongB (l.take (k + 1)) r = (amongB (l.take k) r || inPr r x) := by
  have hk := List.getElem?_eq_some_iff.1 hx
  rw [List.take_succ_eq_append_getElem hk.1, hk.2]
  unfold amongB inPr
  simp
theorem among_of_take {l : List (Int × Int)} {r : Int} {k : Nat} (h : amongB (l.take k) r = true) : amongB l r = true := by
  unfold amongB at h ⊢
  rw [List.any_eq_true] at h ⊢
  obtain ⟨x, hx, h⟩ := h
  exact ⟨x, List.mem_of_mem_take hx, h⟩
def IxPost (l : List (Int × Int)) (r : Int) (w : World) (e : Ending) (w' : World) : Prop := ∃ n : Int, e = .returned (.int .i64 n) ∧ decide (0 ≤ n) = amongB l r ∧ Below w.heap.size w w'
set_option maxRecDepth 100000 in
set_option maxHeartbeats 1600000 in
theorem indexPr_any (r : Int) (g a : Nat) (l : List (Int × Int)) (w : World) (hg : w.cell? ⟨g, 0, none⟩ = some (.int .i32 r)) (hl : GrAt encPr 2 w (some ⟨a, 0, none⟩) l) (hz : l.length ≤ 1000) :
    Calls Tryd.prog 86 #[.slice (some ⟨a, 0, none⟩) l.length l.length, .func (.func 78) #[] #[.pointer (some ⟨g, 0, none⟩)]] w (IxPost l r w) := by
  have HG := Lib.hid hg
  have HL := Lib.hid hl
  clear hg hl
  go_enter Tryd.func86, Tryd.ntmps86
  go_wp2_with fail
  go_loopw [8] (fun s8 wr => ∃ k : Nat, k ≤ l.length ∧ s8 = .int .i64 k ∧ amongB (l.take k) r = false ∧ Below w.heap.size w wr) (fun s8 _ => l.length - (intOf s8).toNat)
  case atStart => exact ⟨0, Nat.zero_le _, rfl, rfl, Below.refl _ _⟩
  case round =>
    obtain ⟨k, hk, rfl, hno, hb⟩ := hrel
    have HNO := Lib.hid hno
    have HB := Lib.hid hb
    clear hno hb
    by_cases hlt : k < l.length
    rotate_left
    · have hge : ¬ (k : Int) < (l.length : Int) := by omega
      go_wp2
      go_ret
      refine ⟨-1, rfl, ?_, HB.out⟩
      have := HNO.out
      rw [List.take_of_length_le (by omega)] at this
      rw [this]; rfl
    · have hltI : (k : Int) < (l.length : Int) := by omega
      obtain ⟨b, off, x, hA, hx, cx⟩ := (HL.out.below HB.out).at_ hlt
      simp only [Option.some.injEq, Addr.mk.injEq, and_true] at hA
      obtain ⟨rfl, rfl⟩ := hA
      have c0 : wr.cell? ⟨a, k * 2, none⟩ = some (.int .i32 x.1) := by have := cx 0 _ rfl; rwa [Nat.zero_add] at this
      have c1 : wr.cell? ⟨a, k * 2 + 1, none⟩ = some (.int .i32 x.2) := by have := cx 1 _ rfl; rwa [Nat.zero_add] at this
      have HT := Lib.hid (among_take (r := r) hx)
      have HC := Lib.hid (among1_any r g x wr (holda HB.out HG.out))
      have HO := Lib.hid (fun h => among_of_take (l := l) (r := r) (k := k + 1) h)
      cases hp : inPr r x with
      | false =>
        have HP := Lib.hid hp
        have HC2 : Hid (Calls Tryd.prog 78 #[.agg #[.int .i32 x.1, .int .i32 x.2], .pointer (some ⟨g, 0, none⟩)] wr fun e w' => e = .returned (.bool false) ∧ Below wr.heap.size wr w') := Lib.hid (HC.out.mono fun e w' ⟨he, hb⟩ => ⟨by rw [he]; unfold inPr at hp; rw [hp], hb⟩)
        clear hx cx hp
        go_wp2_with (go_at_call 78; refine HC2.out.mono ?_; rintro e w1 ⟨rfl, hb1⟩)
        go_roundw
        case rel => exact ⟨k + 1, by omega, by go_num, by rw [HT.out, HNO.out, HP.out]; rfl, below_tail HB.out hb1⟩
        case measure => simp [intOf]; omega
      | true =>
        have HP := Lib.hid hp
        have HC2 : Hid (Calls Tryd.prog 78 #[.agg #[.int .i32 x.1, .int .i32 x.2], .pointer (some ⟨g, 0, none⟩)] wr fun e w' => e = .returned (.bool true) ∧ Below wr.heap.size wr w') := Lib.hid (HC.out.mono fun e w' ⟨he, hb⟩ => ⟨by rw [he]; unfold inPr at hp; rw [hp], hb⟩)
        clear hx cx hp
        go_wp2_with (go_at_call 78; refine HC2.out.mono ?_; rintro e w1 ⟨rfl, hb1⟩)
        go_ret
        refine ⟨k, rfl, ?_, below_tail HB.out hb1⟩
        rw [HO.out (by rw [HT.out, HP.out]; simp)]
        simp
def AmPost (l : List (Int × Int)) (r : Int) (w : World) (e : Ending) (w' : World) : Prop := e = .returned (.bool (amongB l r)) ∧ Below w.heap.size w w'
theorem containsPr_any (r : Int) (g a : Nat) (l : List (Int × Int)) (w : World) (hg : w.cell? ⟨g, 0, none⟩ = some (.int .i32 r)) (hl : GrAt encPr 2 w (some ⟨a, 0, none⟩) l) (hz : l.length ≤ 1000) :
    Calls Tryd.prog 77 #[.slice (some ⟨a, 0, none⟩) l.length l.length, .func (.func 78) #[] #[.pointer (some ⟨g, 0, none⟩)]] w (AmPost l r w) := by
  have HI := Lib.hid (indexPr_any r g a l w hg hl hz)
  clear hg hl
  go_enter Tryd.func77, Tryd.ntmps77
  go_wp2_with (go_at_call 86; refine HI.out.mono ?_; rintro e w1 ⟨n, rfl, hn, hb⟩; have HN := Lib.hid hn; clear hn)
  go_ret
  exact ⟨by rw [HN.out]; rfl, hb⟩
theorem among_any (r : Int) (a : Nat) (l : List (Int × Int)) (w : World) (hl : GrAt encPr 2 w (some ⟨a, 0, none⟩) l) (hz : l.length ≤ 1000) :
    Calls Tryd.prog 66 #[.slice (some ⟨a, 0, none⟩) l.length l.length, .int .i32 r] w (AmPost l r w) := by
  have hb0 := below_allocs (Below.refl w.heap.size w) (.cells #[.int .i32 r] 21)
  have HC := Lib.hid (containsPr_any r w.heap.size a l _ (at_ (hp_new rfl) 0 _ rfl).1 (hl.below hb0) hz)
  have HB0 := Lib.hid hb0
  clear hl hb0
  go_enter Tryd.func66, Tryd.ntmps66
  go_wp2_with (go_at_call 77; refine HC.out.mono ?_; rintro e w1 ⟨rfl, hb⟩)
  go_ret
  exact ⟨rfl, below_tail HB0.out hb⟩
set_option maxHeartbeats 1600000 in
theorem widOf_any (r : Int) (w : World) : Calls Tryd.prog 54 #[.int .i32 r] w fun e w' => e = .returned (.int .i64 (widOf r)) ∧ Below w.heap.size w w' := by
  have HN := Lib.hid (fun w => wnone_any r w)
  by_cases h0 : r < 768
  · have hw := widOf_low h0
    rw [hw]
    clear hw
    cases hn : noneW r with
    | true =>
      rw [hn] at HN
      clear hn
      go_enter Tryd.func54, Tryd.ntmps54
      go_wp2_with (go_at_call 65; refine (HN.out _).mono ?_; rintro e w1 ⟨rfl, rfl⟩)
      go_ret
      exact ⟨rfl, Below.refl _ _⟩
    | false =>
      rw [hn] at HN
      clear hn
      go_enter Tryd.func54, Tryd.ntmps54
      go_wp2_with (go_at_call 65; refine (HN.out _).mono ?_; rintro e w1 ⟨rfl, rfl⟩)
      go_ret
      exact ⟨rfl, Below.refl _ _⟩
  · have HM := Lib.hid (fun w => wmarks_any w)
    have HW := Lib.hid (fun w => wwides_any w)
    have HA1 := Lib.hid (fun a w hl => among_any r a marksT w hl (by decide))
    have HA2 := Lib.hid (fun a w hl => among_any r a widesT w hl (by decide))
    unfold widOf
    unfold AmPost at HA1 HA2
    generalize noneW r = b0 at HN
    generalize amongB marksT r = b1 at HA1
    generalize amongB widesT r = b2 at HA2
    cases b0 <;> cases b1 <;> cases b2
    all_goals
      go_enter Tryd.func54, Tryd.ntmps54
      go_wp2_with (first
        | (go_at_call 65; refine (HN.out _).mono ?_; rintro e w1 ⟨rfl, rfl⟩)
        | (go_at_call 67; refine (HM.out _).mono ?_; rintro e w2 ⟨g, rfl, hg, hb2⟩; have HG := Lib.hid hg; have HB := Lib.hid hb2; clear hg hb2)
        | (go_at_call 68; refine (HW.out _).mono ?_; rintro e w4 ⟨g2, rfl, hg, hb2⟩; have HG2 := Lib.hid hg; have HB3 := Lib.hid (below_tail HB2.out hb2); clear hg hb2)
        | (go_at_call 66; first
            | (have hpv := HB3.out; clear hpv; refine (HA2.out _ _ HG2.out).mono ?_; rintro e w5 ⟨rfl, hb3⟩; have HB4 := Lib.hid (below_tail HB3.out hb3); clear hb3)
            | (refine (HA1.out _ _ HG.out).mono ?_; rintro e w3 ⟨rfl, hb3⟩; have HB2 := Lib.hid (below_tail HB.out hb3); clear hb3)))
      go_ret
      exact ⟨rfl, by first | exact HB4.out | exact HB2.out | exact Below.refl _ _⟩
end Go.Proofs.YtbllhchcccflkaaDoor
