/- Joined by a tool of this claim out of smaller texts. Conditions: as stated. -/
import Derived.Test.YtffdblmdelgkaaaGreatRows
import Derived.WalkKit
import Derived.WalkSpells
import Derived.WalkLawsBesides
import Derived.Lib.Hide
import Derived.Outline
import Derived.Laws.AppendOwn
import Derived.Maps.AppendAt
import Derived.ProofKit
import Derived.Lib.SlicesCompact
import Derived.Laws.ResultCell
import Derived.Deep.MidRow
import Derived.Tactics
import Derived.Laws.IdiomCopy
import Derived.Deep.CutBlock
import Derived.Deep.DeepCutAuto
import Derived.StillTail
import Derived.OwnWalk
namespace Go.Proofs.YtffdblmdelgkaaaGreat
open Go.RowKit
theorem lt_of_cell {W : World} {b o : Nat} {v : Value} (h : W.cell? ⟨b, o, none⟩ = some v) : b < W.heap.size := World.block_lt_of_cell? W ⟨b, o, none⟩ h
theorem hold {W w1 : World} (hb : Below W.heap.size W w1) {b o : Nat} {v : Value} (h : W.cell? ⟨b, o, none⟩ = some v ∧ W.frozen? ⟨b, o, none⟩ = false) :
    w1.cell? ⟨b, o, none⟩ = some v ∧ w1.frozen? ⟨b, o, none⟩ = false :=
  ⟨(hb.cell (p := ⟨b, o, none⟩) (lt_of_cell h.1)).trans h.1, (hb.frozen (p := ⟨b, o, none⟩) (lt_of_cell h.1)).trans h.2⟩
theorem holda {W w1 : World} (hb : Below W.heap.size W w1) {a : Addr} {v : Value} (h : W.cell? a = some v) : w1.cell? a = some v :=
  (hb.cell (World.block_lt_of_cell? W a h)).trans h
/-- Behind the call's own new blocks. -/
theorem below_tail {W w1 w2 : World} (h : Below W.heap.size W w1) (hb : Below w1.heap.size w1 w2) : Below W.heap.size W w2 := h.trans (hb.mono h.size)
theorem below_allocs {W w1 : World} (h : Below W.heap.size W w1) (o : Obj) : Below W.heap.size W (w1.alloc o) := h.alloc h.size o
theorem below_set {W w1 : World} (h : Below W.heap.size W w1) {b o : Nat} (hb : W.heap.size ≤ b) (v : Value) : Below W.heap.size W (w1.setCell ⟨b, o, none⟩ v) := h.setCell (p := ⟨b, o, none⟩) hb v
theorem heap_alloc_get (w : World) (o : Obj) (k : Nat) : (w.alloc o).heap[k]? = if k = w.heap.size then some o else w.heap[k]? := by
  show (w.heap.push o)[k]? = _
  rw [Array.getElem?_push]
theorem hp_new {W : World} {b : Nat} {o : Obj} (h : W.heap.size = b) : (W.alloc o).heap[b]? = some o := by rw [heap_alloc_get, if_pos h.symm]
theorem hp_old {W : World} {b : Nat} {o x : Obj} (h : W.heap[b]? = some x) : (W.alloc o).heap[b]? = some x := by
  rw [heap_alloc_get, if_neg, h]
  rintro rfl
  rw [Array.getElem?_eq_none (Nat.le_refl _)] at h; cases h
theorem set_self {W : World} {b i : Nat} {u v : Value} (h : W.cell? ⟨b, i, none⟩ = some v ∧ W.frozen? ⟨b, i, none⟩ = false) : (W.setCell ⟨b, i, none⟩ u).cell? ⟨b, i, none⟩ = some u ∧ (W.setCell ⟨b, i, none⟩ u).frozen? ⟨b, i, none⟩ = false := by
  have h1 := h.1
  have e : (W.setCell ⟨b, i, none⟩ u).frozen? ⟨b, i, none⟩ = W.frozen? ⟨b, i, none⟩ := by simp [go_sem]
  refine ⟨by simp [go_sem, h1], by rw [e]; exact h.2⟩
end Go.Proofs.YtffdblmdelgkaaaGreat

namespace Go.Proofs.YtffdblmdelgkaaaGreat
open Go.RowKit
theorem at_ {W : World} {b : Nat} {cs : Array Value} {t : TypeId} (h : W.heap[b]? = some (.cells cs t (0, 0))) (i : Nat) (v : Value) (hv : cs[i]? = some v) : W.cell? ⟨b, i, none⟩ = some v ∧ W.frozen? ⟨b, i, none⟩ = false := by
  refine ⟨?_, ?_⟩
  · simp [World.cell?, h, hv]
  · simp [World.frozen?, h]
end Go.Proofs.YtffdblmdelgkaaaGreat

namespace Go.Proofs.YtffdblmdelgkaaaGreat
open Go.RowKit
structure Cl where
  r : Int
  more : ByteArray
  half : Int
  fk : Int
  fn : Int
  bk : Int
  bn : Int
  fl : Int
deriving DecidableEq
def clV (c : Cl) : Value := .agg #[.int .i32 c.r, .string c.more, .int .i64 c.half, .int .i64 c.fk, .int .i64 c.fn, .int .i64 c.bk, .int .i64 c.bn, .int .i64 c.fl]
theorem cl_eq_iff (a b : Cl) : a = b ↔ a.r = b.r ∧ a.more.toList = b.more.toList ∧ a.half = b.half ∧ a.fk = b.fk ∧ a.fn = b.fn ∧ a.bk = b.bk ∧ a.bn = b.bn ∧ a.fl = b.fl := by
  obtain ⟨a0, a1, a2, a3, a4, a5, a6, a7⟩ := a
  obtain ⟨b0, b1, b2, b3, b4, b5, b6, b7⟩ := b
  simp only [Cl.mk.injEq]
  constructor
  · rintro ⟨h0, h1, h2, h3, h4, h5, h6, h7⟩
    exact ⟨h0, by rw [h1], h2, h3, h4, h5, h6, h7⟩
  · rintro ⟨h0, h1, h2, h3, h4, h5, h6, h7⟩
    exact ⟨h0, WideShapes.bytes_inj (by rw [← ByteArray.toList_eq, ← ByteArray.toList_eq, h1]), h2, h3, h4, h5, h6, h7⟩
theorem exec_eql_cell (ρ : Operand → Value) (dst : Option Tmp) (ty : TypeId) (pos : String) (af : Array Edge) (gd : Option (Nat × Bool)) (x y : Operand) (a b : Cl) (hx : ρ x = clV a) (hy : ρ y = clV b) (w : World) :
    (execOp ρ ⟨dst, .binOp .eql 109 x y 109, ty, pos, af, gd⟩).run Tryz.prog w = .ok (.value (.bool (decide (a = b)))) w := by
  have e : decide (a = b) = decide (a.r = b.r ∧ a.more.toList = b.more.toList ∧ a.half = b.half ∧ a.fk = b.fk ∧ a.fn = b.fn ∧ a.bk = b.bk ∧ a.bn = b.bn ∧ a.fl = b.fl) := decide_eq_decide.2 (cl_eq_iff a b)
  rw [e]
  unfold clV at hx hy
  go_simp
  repeat' split
  all_goals simp_all
end Go.Proofs.YtffdblmdelgkaaaGreat

namespace Go.Proofs.YtffdblmdelgkaaaGreat
def marksT : List (Int × Int) := [(0x300, 0x36f), (0x483, 0x489), (0x591, 0x5bd), (0x610, 0x61a), (0x64b, 0x65f), (0x900, 0x902), (0x93c, 0x93c), (0x941, 0x948), (0xe31, 0xe31), (0xe34, 0xe3a), (0x1ab0, 0x1aff), (0x1dc0, 0x1dff), (0x200b, 0x200f), (0x20d0, 0x20ff), (0x2060, 0x2064), (0xfe00, 0xfe0f), (0xfe20, 0xfe2f), (0xfeff, 0xfeff), (0xe0100, 0xe01ef)]
def widesT : List (Int × Int) := [(0x1100, 0x115f), (0x231a, 0x231b), (0x2329, 0x232a), (0x23e9, 0x23ec), (0x25fd, 0x25fe), (0x2614, 0x2615), (0x2e80, 0x303e), (0x3041, 0x33ff), (0x3400, 0x4dbf), (0x4e00, 0x9fff), (0xa000, 0xa4cf), (0xa960, 0xa97f), (0xac00, 0xd7a3), (0xf900, 0xfaff), (0xfe30, 0xfe6f), (0xff00, 0xff60), (0xffe0, 0xffe6), (0x1f300, 0x1f64f), (0x1f680, 0x1f6ff), (0x1f900, 0x1f9ff), (0x20000, 0x2fffd), (0x30000, 0x3fffd)]
def amongB (l : List (Int × Int)) (r : Int) : Bool := l.any (fun x => decide (x.1 ≤ r) && decide (r ≤ x.2))
def noneW (r : Int) : Bool := decide (r < 32) || (decide (127 ≤ r) && decide (r < 160)) || (decide (0xd800 ≤ r) && decide (r < 0xe000)) || decide (0x10ffff < r)
/-- A scalar's width. -/
def widOf (r : Int) : Int := if noneW r then -1 else if amongB marksT r then 0 else if amongB widesT r then 2 else 1
theorem among_low {r : Int} (h : r < 0x300) : amongB marksT r = false ∧ amongB widesT r = false := by
  constructor <;>
  · simp only [amongB, marksT, widesT, List.any_cons, List.any_nil, Bool.or_false, Bool.or_eq_false_iff, Bool.and_eq_false_iff, decide_eq_false_iff_not]
    omega
theorem widOf_low {r : Int} (h : r < 0x300) : widOf r = if noneW r then -1 else 1 := by
  unfold widOf
  rw [(among_low h).1, (among_low h).2]
  rfl
/-- An attribute, and a color. -/
structure Atr where
  fk : Int
  fn : Int
  bk : Int
  bn : Int
  fl : Int
structure Col where
  k : Int
  n : Int
def atrOf (c : Cl) : Atr := ⟨c.fk, c.fn, c.bk, c.bn, c.fl⟩
def mkCl (r : Int) (more : ByteArray) (half : Int) (a : Atr) : Cl := ⟨r, more, half, a.fk, a.fn, a.bk, a.bn, a.fl⟩
def emptyA (a : Atr) : Cl := mkCl 0 ByteArray.empty 0 a
def emptyC (c : Cl) : Cl := emptyA (atrOf c)
def blankC (b : Col) : Cl := emptyA ⟨0, 0, b.k, b.n, 0⟩
def padC : Cl := mkCl 0 ByteArray.empty 3 ⟨0, 0, 0, 0, 0⟩
def pairB (a b : Cl) : Bool := decide (a.half = 1) && decide (b.half = 2) && decide (a = { b with half := 1 })
/-- A row, mended. -/
def mendL : List Cl → List Cl
  | [] => []
  | [c] => if c.half = 0 ∨ c.half = 3 then [c] else [emptyC c]
  | c :: d :: l => if c.half = 0 then c :: mendL (d :: l) else if pairB c d then c :: d :: mendL l else emptyC c :: mendL (d :: l)
theorem mendL_cons (c d : Cl) (l : List Cl) : mendL (c :: d :: l) = if c.half = 0 then c :: mendL (d :: l) else if pairB c d then c :: d :: mendL l else emptyC c :: mendL (d :: l) := by rw [mendL]
theorem mendL_one (c : Cl) : mendL [c] = if c.half = 0 ∨ c.half = 3 then [c] else [emptyC c] := by rw [mendL]
theorem mendL_len : ∀ l : List Cl, (mendL l).length = l.length
  | [] => rfl
  | [c] => by rw [mendL]; split <;> rfl
  | c :: d :: l => by
    rw [mendL]
    have h1 := mendL_len (d :: l)
    have h2 := mendL_len l
    split
    · simp only [List.length_cons] at h1 ⊢; omega
    split
    · simp only [List.length_cons]; omega
    · simp only [List.length_cons] at h1 ⊢; omega
theorem mendL_zero {c : Cl} (h : c.half = 0) (l : List Cl) : mendL (c :: l) = c :: mendL l := by
  match l with
  | [] => rw [mendL_one, if_pos (Or.inl h)]; rfl
  | d :: l => rw [mendL, if_pos h]
theorem mendL_idem : ∀ l : List Cl, mendL (mendL l) = mendL l
  | [] => rfl
  | [c] => by
    rw [mendL]
    split
    · next h => rw [mendL, if_pos h]
    · rw [mendL_zero rfl]; rfl
  | c :: d :: l => by
    have h1 := mendL_idem (d :: l)
    have h2 := mendL_idem l
    rw [mendL]
    split
    · next h => rw [mendL_zero h, h1]
    split
    · next h hp => rw [mendL, if_neg h, if_pos hp, h2]
    · rw [mendL_zero rfl, h1]
/-- A scalar is written. -/
def putL (l : List Cl) (x r : Int) (a : Atr) : List Cl :=
  let o := mendL l
  if widOf r = 1 ∧ 0 ≤ x ∧ x < o.length then mendL (o.set x.toNat (mkCl r ByteArray.empty 0 a))
  else if widOf r = 2 ∧ 0 ≤ x ∧ x + 1 < o.length then mendL ((o.set x.toNat (mkCl r ByteArray.empty 1 a)).set (x.toNat + 1) (mkCl r ByteArray.empty 2 a))
  else o
def closeL (l : List Cl) : List Cl := mendL ((mendL l).set (l.length - 1) padC)
def wipeL (b : Col) (x y : Int) (l : List Cl) : List Cl := l.mapIdx (fun i c => if x ≤ i ∧ (i : Int) < y then blankC b else c)
def eraseL (l : List Cl) (x y : Int) (b : Col) : List Cl := mendL (wipeL b x y (mendL l))
def insertL (l : List Cl) (x n : Int) (b : Col) : List Cl :=
  let o := mendL l
  if x < 0 ∨ (o.length : Int) ≤ x ∨ n < 1 then o
  else mendL ((o.take x.toNat ++ List.replicate n.toNat (blankC b) ++ o.drop x.toNat).take o.length)
def deleteL (l : List Cl) (x n : Int) (b : Col) : List Cl :=
  let o := mendL l
  if x < 0 ∨ (o.length : Int) ≤ x ∨ n < 1 then o
  else mendL ((o.take x.toNat ++ o.drop (x.toNat + n.toNat) ++ List.replicate n.toNat (blankC b)).take o.length)
def usedL (l : List Cl) : Nat := (l.reverse.dropWhile (fun c => decide (c.r = 0))).length
theorem putL_len (l : List Cl) (x r : Int) (a : Atr) : (putL l x r a).length = l.length := by
  unfold putL
  simp only []
  split
  · rw [mendL_len, List.length_set, mendL_len]
  split
  · rw [mendL_len, List.length_set, List.length_set, mendL_len]
  · rw [mendL_len]
theorem closeL_len (l : List Cl) : (closeL l).length = l.length := by unfold closeL; rw [mendL_len, List.length_set, mendL_len]
theorem eraseL_len (l : List Cl) (x y : Int) (b : Col) : (eraseL l x y b).length = l.length := by unfold eraseL wipeL; rw [mendL_len, List.length_mapIdx, mendL_len]
theorem insertL_len (l : List Cl) (x n : Int) (b : Col) : (insertL l x n b).length = l.length := by
  unfold insertL
  simp only []
  split
  · exact mendL_len l
  · rw [mendL_len, List.length_take]
    have := mendL_len l
    simp only [List.length_append, List.length_take, List.length_replicate, List.length_drop]
    omega
theorem deleteL_len (l : List Cl) (x n : Int) (b : Col) : (deleteL l x n b).length = l.length := by
  unfold deleteL
  simp only []
  split
  · exact mendL_len l
  · next h =>
    rw [mendL_len, List.length_take]
    have := mendL_len l
    simp only [List.length_append, List.length_take, List.length_replicate, List.length_drop]
    omega
end Go.Proofs.YtffdblmdelgkaaaGreat

namespace Go.Proofs.YtffdblmdelgkaaaGreat
open Go.RowKit
section
variable {α : Type} (enc : α → List Value) (k : Nat)
/-- The cells of a list. -/
def flat (l : List α) : List Value := l.flatMap enc
/-- A slice at A reads as the list l. -/
def GrAt (w : World) (A : Option Addr) (l : List α) : Prop :=
  0 < l.length → ∃ b off, A = some ⟨b, off, none⟩ ∧ ∀ i x, l[i]? = some x → ∀ j v, (enc x)[j]? = some v → w.cell? ⟨b, off + i * k + j, none⟩ = some v
variable {enc k}
theorem flat_append (l m : List α) : flat enc (l ++ m) = flat enc l ++ flat enc m := by simp [flat]
theorem flat_len (hk : ∀ x, (enc x).length = k) (l : List α) : (flat enc l).length = l.length * k := by
  induction l with
  | nil => simp [flat]
  | cons x l ih =>
    have e : flat enc (x :: l) = enc x ++ flat enc l := rfl
    rw [e, List.length_append, ih, hk, List.length_cons, Nat.add_mul]; omega
theorem flat_at (hk : ∀ x, (enc x).length = k) : ∀ (l : List α) (i : Nat) (x : α), l[i]? = some x → ∀ j, j < k → (flat enc l)[i * k + j]? = (enc x)[j]?
  | [], i, x, h, j, hj => by simp at h
  | y :: l, 0, x, h, j, hj => by
    obtain rfl : y = x := by simpa using h
    have e : flat enc (y :: l) = enc y ++ flat enc l := rfl
    rw [e, Nat.zero_mul, Nat.zero_add, List.getElem?_append_left (by rw [hk]; exact hj)]
  | y :: l, i + 1, x, h, j, hj => by
    have e : flat enc (y :: l) = enc y ++ flat enc l := rfl
    rw [e, List.getElem?_append_right (by rw [hk, Nat.add_mul]; omega), hk, show (i + 1) * k + j - k = i * k + j from by rw [Nat.add_mul]; omega]
    exact flat_at hk l i x (by simpa using h) j hj
theorem flat_one (h1 : ∀ x, ∀ v ∈ enc x, v.oneCell' = true) (l : List α) : ∀ u ∈ flat enc l, u.oneCell' = true := by
  intro u hu
  simp only [flat, List.mem_flatMap] at hu
  obtain ⟨x, _, hx⟩ := hu
  exact h1 x u hx
theorem GrAt.below {w w1 : World} {A : Option Addr} {l : List α} (h : GrAt enc k w A l) (hb : Below w.heap.size w w1) : GrAt enc k w1 A l := fun hl => by
  obtain ⟨b, off, e, hc⟩ := h hl
  exact ⟨b, off, e, fun i x hx j v hv => holda hb (hc i x hx j v hv)⟩
theorem GrAt.at_ {w : World} {A : Option Addr} {l : List α} (h : GrAt enc k w A l) {i : Nat} (hi : i < l.length) : ∃ b off x, A = some ⟨b, off, none⟩ ∧ l[i]? = some x ∧ ∀ j v, (enc x)[j]? = some v → w.cell? ⟨b, off + i * k + j, none⟩ = some v := by
  obtain ⟨b, off, hA, hc⟩ := h (by omega)
  exact ⟨b, off, l[i], hA, List.getElem?_eq_getElem hi, hc i _ (List.getElem?_eq_getElem hi)⟩
theorem add_lit' (b off j : Nat) : (⟨b, off, none⟩ : Addr).add j = ⟨b, off + j, none⟩ := by
  unfold Addr.add
  by_cases hz : j = 0
  · rw [if_pos hz, hz]; rfl
  · rw [if_neg hz]
/-- What a slice holds, cell by cell: to be appended. -/
theorem GrAt.news {w : World} {ad : Addr} {l : List α} (hk : ∀ x, (enc x).length = k) (h : GrAt enc k w (some ad) l) : ∀ j u, (flat enc l)[j]? = some u → w.cell? (ad.add j) = some u := by
  intro j u hj
  have hlt := (List.getElem?_eq_some_iff.1 hj).1
  rw [flat_len hk] at hlt
  have hl0 : 0 < l.length := by
    rcases Nat.eq_zero_or_pos l.length with h0 | h0
    · rw [h0] at hlt; omega
    · exact h0
  have hk0 : 0 < k := by
    rcases Nat.eq_zero_or_pos k with h0 | h0
    · rw [h0] at hlt; omega
    · exact h0
  obtain ⟨b, off, e, hc⟩ := h hl0
  obtain rfl : ad = ⟨b, off, none⟩ := by simpa using e
  rw [add_lit']
  have hi : j / k < l.length := Nat.div_lt_of_lt_mul (by rw [Nat.mul_comm]; exact hlt)
  have hm : j % k < k := Nat.mod_lt _ hk0
  have e1 : j / k * k + j % k = j := Nat.div_add_mod' j k
  have h1 := flat_at hk l (j / k) _ (List.getElem?_eq_getElem hi) (j % k) hm
  rw [e1, hj] at h1
  have h2 := hc (j / k) _ (List.getElem?_eq_getElem hi) (j % k) u h1.symm
  rw [show off + j = off + j / k * k + j % k from by omega]
  exact h2
end
end Go.Proofs.YtffdblmdelgkaaaGreat

namespace Go.Proofs.YtffdblmdelgkaaaGreat
open Go.RowKit
/-- w' is w but for the blocks of X, and new ones. -/
structure Mod (X : List Nat) (w w' : World) : Prop where
  os : w'.os = w.os
  tape : w'.tape = w.tape
  output : w'.output = w.output
  size : w.heap.size ≤ w'.heap.size
  block : ∀ k, k < w.heap.size → k ∉ X → w'.heap[k]? = w.heap[k]?
theorem Mod.refl (X : List Nat) (w : World) : Mod X w w := ⟨rfl, rfl, rfl, Nat.le_refl _, fun _ _ _ => rfl⟩
/-- Two steps; the second one may write to what the first one made. -/
theorem Mod.trans {X Y : List Nat} {a b c : World} (h : Mod X a b) (k : Mod Y b c) (hY : ∀ g ∈ Y, g ∈ X ∨ a.heap.size ≤ g) : Mod X a c :=
  ⟨k.os.trans h.os, k.tape.trans h.tape, k.output.trans h.output, Nat.le_trans h.size k.size, fun i hi hx => (k.block i (Nat.lt_of_lt_of_le hi h.size) (fun hy => by
    rcases hY i hy with h1 | h1
    · exact hx h1
    · omega)).trans (h.block i hi hx)⟩
theorem Mod.of_below {X : List Nat} {w w' : World} (h : Below w.heap.size w w') : Mod X w w' := ⟨h.os, h.tape, h.output, h.size, fun k hk _ => h.block k hk⟩
theorem Mod.below {X : List Nat} {w w' : World} {B : Nat} (h : Mod X w w') (hX : ∀ g ∈ X, B ≤ g) (hB : B ≤ w.heap.size) : Below B w w' := ⟨h.os, h.tape, h.output, h.size, fun k hk => h.block k (by omega) (fun hx => by have := hX k hx; omega)⟩
theorem Mod.mono {X Y : List Nat} {w w' : World} (h : Mod X w w') (hXY : ∀ g ∈ X, g ∈ Y) : Mod Y w w' := ⟨h.os, h.tape, h.output, h.size, fun k hk hy => h.block k hk (fun hx => hy (hXY k hx))⟩
theorem Mod.then_below {X : List Nat} {a b c : World} (h : Mod X a b) (k : Below b.heap.size b c) : Mod X a c := h.trans (Mod.of_below (X := []) k) (fun g hg => by cases hg)
theorem Mod.of_grown {X : List Nat} {w w' : World} {row : Option Nat} (h : w.grownBy w' row) (hX : ∀ g, row = some g → g ∈ X) : Mod X w w' :=
  ⟨h.os, h.tape, h.output, h.size, fun k hk hx => h.block k hk (fun e => hx (hX k e.symm))⟩
theorem Mod.setCell {X : List Nat} {w w1 : World} (h : Mod X w w1) {a : Addr} (ha : a.block ∈ X ∨ w.heap.size ≤ a.block) (v : Value) : Mod X w (w1.setCell a v) :=
  ⟨h.os, h.tape, h.output, by simpa [World.setCell] using h.size, fun k hk hx => by
    rw [Below.heap_setCell _ _ _ _ (fun e => by subst e; rcases ha with h1 | h1; exact hx h1; omega)]
    exact h.block k hk hx⟩
theorem Mod.cell {X : List Nat} {w w1 : World} (h : Mod X w w1) {b o : Nat} {v : Value} (hb : b ∉ X) (hc : w.cell? ⟨b, o, none⟩ = some v) : w1.cell? ⟨b, o, none⟩ = some v :=
  (World.cell?_of_block (w := w) (h.block b (lt_of_cell hc) hb)).trans hc
theorem Mod.hold {X : List Nat} {w w1 : World} (h : Mod X w w1) {b o : Nat} {v : Value} (hb : b ∉ X) (hc : w.cell? ⟨b, o, none⟩ = some v ∧ w.frozen? ⟨b, o, none⟩ = false) : w1.cell? ⟨b, o, none⟩ = some v ∧ w1.frozen? ⟨b, o, none⟩ = false :=
  ⟨h.cell hb hc.1, (World.frozen?_of_block (w := w) (h.block b (lt_of_cell hc.1) hb)).trans hc.2⟩
theorem owns_mod {X : List Nat} {w w' : World} {base : Nat} {e : TypeId} {size : Nat} {v : Value} {n : Nat} {xs : List Value} (h : w.ownsRow base e size v n xs) (hm : Mod X w w') (hX : ∀ g, v.ownBlock = some g → g ∉ X) : w'.ownsRow base e size v n xs := by
  obtain ⟨h1, h2 | ⟨g, cap, cur, rfl, e2, e3, e4⟩⟩ := h
  · exact ⟨h1, .inl h2⟩
  · refine ⟨h1, .inr ⟨g, cap, cur, rfl, e2, ?_, e4⟩⟩
    rw [hm.block g ?_ (hX g rfl)]; exact e3
    rcases Nat.lt_or_ge g w.heap.size with h | h
    · exact h
    · rw [Array.getElem?_eq_none h] at e3; cases e3
theorem gr_mod {α : Type} {enc : α → List Value} {k : Nat} {X : List Nat} {w w1 : World} {b off : Nat} {l : List α} (h : GrAt enc k w (some ⟨b, off, none⟩) l) (hm : Mod X w w1) (hX : b ∉ X) : GrAt enc k w1 (some ⟨b, off, none⟩) l := fun hl => by
  obtain ⟨b', off', e, hc⟩ := h hl
  simp only [Option.some.injEq, Addr.mk.injEq] at e
  obtain ⟨rfl, rfl, -⟩ := e
  exact ⟨b, off, rfl, fun i x hx j v hv => hm.cell hX (hc i x hx j v hv)⟩
theorem owns_weaken {w : World} {base base' : Nat} {e : TypeId} {size : Nat} {v : Value} {n : Nat} {xs : List Value} (h : w.ownsRow base e size v n xs) (hb : base' ≤ base) : w.ownsRow base' e size v n xs := by
  obtain ⟨h1, h2 | ⟨g, cap, cur, rfl, e2, e3⟩⟩ := h
  · exact ⟨h1, .inl h2⟩
  · exact ⟨h1, .inr ⟨g, cap, cur, rfl, Nat.le_trans hb e2, e3⟩⟩
theorem keep_none_f {w w' : World} (hg : w.grownBy w' (Value.ownBlock (.slice none 0 0))) {b o : Nat} {v : Value} (h : w.cell? ⟨b, o, none⟩ = some v) (hf : w.frozen? ⟨b, o, none⟩ = false) : w'.frozen? ⟨b, o, none⟩ = false :=
  (World.frozen?_of_block (w := w) (hg.block b (lt_of_cell h) (fun e => by cases e))).trans hf
section
variable {P : Program}
theorem exec_append {w w' : World} {ρ : Operand → Value} {o : Oper} (s x : Operand) (t : TypeId) (ho : o.op = .call { callee := .builtin .append, args := #[s, x], argTypes := #[t, t] }) (vs vx v' : Value) (hs : ρ s = vs) (hx : ρ x = vx)
    (hr : (Builtin.append_ #[t, t] o.type #[vs, vx]).run P w = .ok v' w') : (execOp ρ o).run P w = .ok (.value v') w' := by
  unfold execOp
  simp only [ho, resolve, invoke, builtin, Sem.run_bind, Sem.run_pure, Result.andThen_ok, List.map_toArray, List.map_cons, List.map_nil, hs, hx, hr]
end
end Go.Proofs.YtffdblmdelgkaaaGreat

namespace Go.Proofs.YtffdblmdelgkaaaGreat
abbrev P2 := Int × Int
end Go.Proofs.YtffdblmdelgkaaaGreat

namespace Go.Proofs.YtffdblmdelgkaaaGreat
open Go.RowKit
def encP (p : P2) : List Value := [.int .i64 p.1, .int .i64 p.2]
theorem encP_len : ∀ x, (encP x).length = 2 := fun _ => rfl
theorem encP_one : ∀ x, ∀ v ∈ encP x, v.oneCell' = true := fun x v hv => by simp [encP] at hv; rcases hv with rfl | rfl <;> rfl
def HoldAt (W : World) (b i : Nat) (v : Value) : Prop := W.cell? ⟨b, i, none⟩ = some v ∧ W.frozen? ⟨b, i, none⟩ = false
def TruePost (w : World) (e : Ending) (w' : World) : Prop := e = .returned (.bool true) ∧ Below w.heap.size w w'
theorem heap_setCell_eq {w : World} {b o : Nat} {v : Value} {cs : Array Value} {e : TypeId} {fz : Nat × Nat} (h : w.heap[b]? = some (.cells cs e fz)) : (w.setCell ⟨b, o, none⟩ v).heap[b]? = some (.cells (cs.setIfInBounds o v) e fz) := by
  unfold World.setCell
  simp only [Array.getElem?_modify, if_true, h]
  rfl
theorem flat_set : ∀ (X : List P2) (k : Nat) (p : P2), k < X.length → ((flat encP X).set (k * 2) (.int .i64 p.1)).set (k * 2 + 1) (.int .i64 p.2) = flat encP (X.set k p)
  | [], k, p, h => by simp at h
  | x :: X, 0, p, h => rfl
  | x :: X, k + 1, p, h => by
    have ih := flat_set X k p (by simpa using h)
    have e : flat encP (x :: X) = Value.int .i64 x.1 :: Value.int .i64 x.2 :: flat encP X := rfl
    have e2 : flat encP ((x :: X).set (k + 1) p) = Value.int .i64 x.1 :: Value.int .i64 x.2 :: flat encP (X.set k p) := rfl
    rw [e, e2, ← ih, show (k + 1) * 2 = k * 2 + 1 + 1 by omega]
    simp
theorem set_two {W : World} {b : Nat} {u v u' v' : Value} (h0 : W.cell? ⟨b, 0, none⟩ = some u ∧ W.frozen? ⟨b, 0, none⟩ = false) (h1 : W.cell? ⟨b, 1, none⟩ = some v ∧ W.frozen? ⟨b, 1, none⟩ = false) :
    (((W.setCell ⟨b, 0, none⟩ u').setCell ⟨b, 1, none⟩ v').cell? ⟨b, 0, none⟩ = some u' ∧ ((W.setCell ⟨b, 0, none⟩ u').setCell ⟨b, 1, none⟩ v').frozen? ⟨b, 0, none⟩ = false) ∧ ((W.setCell ⟨b, 0, none⟩ u').setCell ⟨b, 1, none⟩ v').cell? ⟨b, 1, none⟩ = some v' ∧ ((W.setCell ⟨b, 0, none⟩ u').setCell ⟨b, 1, none⟩ v').frozen? ⟨b, 1, none⟩ = false := by
  have k0 := set_self (u := u') h0
  have k1 : (W.setCell ⟨b, 0, none⟩ u').cell? ⟨b, 1, none⟩ = some v ∧ (W.setCell ⟨b, 0, none⟩ u').frozen? ⟨b, 1, none⟩ = false := ⟨(World.cell?_setCell_other W _ _ _ (fun e => by injection e with e1 e2; omega)).trans h1.1, by rw [World.frozen?_setCell]; exact h1.2⟩
  exact ⟨⟨(World.cell?_setCell_other _ _ _ _ (fun e => by injection e with e1 e2; omega)).trans k0.1, by rw [World.frozen?_setCell]; exact k0.2⟩, set_self k1⟩
theorem row_form {w : World} {base n : Nat} {e : TypeId} {v : Value} {xs : List Value} {size : Nat} (h : w.ownsRow base e size v n xs) : ∃ A c, v = .slice A n c := by
  rcases h.2 with ⟨rfl, rfl⟩ | ⟨g, cap, cur, rfl, _⟩
  · exact ⟨none, 0, rfl⟩
  · exact ⟨_, cap, rfl⟩
/-- A block that is known whole, one cell of which is set. -/
theorem whole_set {w : World} {b : Nat} {cs cs' : List Value} {t : TypeId} (h : w.heap[b]? = some (.cells cs.toArray t (0, 0))) (i : Nat) (v : Value) (hc : cs.set i v = cs') : (w.setCell ⟨b, i, none⟩ v).heap[b]? = some (.cells cs'.toArray t (0, 0)) := by
  rw [heap_setCell_eq h, ← hc]
  simp
theorem whole_at {w : World} {b : Nat} {cs : List Value} {t : TypeId} (h : w.heap[b]? = some (.cells cs.toArray t (0, 0))) (i : Nat) (v : Value) (hc : cs[i]? = some v) : HoldAt w b i v :=
  at_ h i v (by simpa using hc)
theorem heap_other {w : World} {b k i : Nat} {v : Value} (h : k ≠ b) : (w.setCell ⟨b, i, none⟩ v).heap[k]? = w.heap[k]? := Below.heap_setCell _ _ _ _ h
section
variable {P : Program}
end
end Go.Proofs.YtffdblmdelgkaaaGreat

namespace Go
variable {P : Program}
/-- An operation that yields a value and leaves the world. -/
theorem wpList_valG {ops : Array Oper} {rest : List Oper} {op : Oper} {a : Act} {w : World} {Q : Exit → Act → World → Prop} (v : Value) (hw : Region.wanted op (yielded ops a.tmps) = true) (hr : (execOp a.eval op).run P w = .ok (.value v) w)
    (h : wpList P ops Q rest (a.put op.dst v) w) : wpList P ops Q (op :: rest) a w := by
  unfold wpList
  rw [if_pos hw]
  refine .inl ?_
  unfold Oper.wp
  rw [hr]
  exact h
/-- An operation that yields a value and another world. -/
theorem wpList_actG {ops : Array Oper} {rest : List Oper} {op : Oper} {a : Act} {w : World} {Q : Exit → Act → World → Prop} (v : Value) (w' : World) (hw : Region.wanted op (yielded ops a.tmps) = true) (hr : (execOp a.eval op).run P w = .ok (.value v) w')
    (h : wpList P ops Q rest (a.put op.dst v) w') : wpList P ops Q (op :: rest) a w := by
  unfold wpList
  rw [if_pos hw]
  refine .inl ?_
  unfold Oper.wp
  rw [hr]
  exact h
end Go

namespace Go.Proofs.YtffdblmdelgkaaaGreat
open Go.RowKit
def encPr (x : Int × Int) : List Value := [.int .i32 x.1, .int .i32 x.2]
theorem encPr_len : ∀ x, (encPr x).length = 2 := fun _ => rfl
theorem flat_at2 {α : Type} {enc : α → List Value} {K : Nat} (hl : ∀ x, (enc x).length = K) : ∀ (X : List α) (k : Nat) (x : α) (j : Nat), X[k]? = some x → j < K → (flat enc X)[k * K + j]? = (enc x)[j]?
  | [], k, x, j, h, _ => by simp at h
  | y :: X, 0, x, j, h, hj => by
    obtain rfl : y = x := by simpa using h
    have e : flat enc (y :: X) = enc y ++ flat enc X := rfl
    rw [e, Nat.zero_mul, Nat.zero_add, List.getElem?_append_left (by rw [hl]; exact hj)]
  | y :: X, k + 1, x, j, h, hj => by
    have e : flat enc (y :: X) = enc y ++ flat enc X := rfl
    rw [e, List.getElem?_append_right (by rw [hl, Nat.add_mul]; omega), hl, show (k + 1) * K + j - K = k * K + j by rw [Nat.add_mul]; omega]
    exact flat_at2 hl X k x j (by simpa using h) hj
theorem gr_lit {α : Type} {enc : α → List Value} {K : Nat} (hl : ∀ x, (enc x).length = K) {w : World} {g : Nat} {t : TypeId} {l : List α} (h : w.heap[g]? = some (.cells (flat enc l).toArray t (0, 0))) : GrAt enc K w (some ⟨g, 0, none⟩) l := fun _ => by
  refine ⟨g, 0, rfl, fun i x hx j v hv => ?_⟩
  have hj : j < K := by have := (List.getElem?_eq_some_iff.1 hv).1; rwa [hl] at this
  have := flat_at2 hl l i x j hx hj
  rw [Nat.zero_add]
  exact (whole_at h _ _ (this.trans hv)).1
set_option maxHeartbeats 800000 in
theorem wnone_any (r : Int) (w : World) : Calls Tryz.prog 143 #[.int .i32 r] w fun e w' => e = .returned (.bool (noneW r)) ∧ w = w' := by
  by_cases h1 : r < 32
  · skip
    have hv : noneW r = true := by simp [noneW]; omega
    rw [hv]
    clear hv
    go_enter Tryz.func143, Tryz.ntmps143
    go_wp2
    go_ret
    exact ⟨rfl, rfl⟩
  by_cases h2 : 127 ≤ r
  · by_cases h3 : r < 160
    · skip
      have hv : noneW r = true := by simp [noneW]; omega
      rw [hv]
      clear hv
      go_enter Tryz.func143, Tryz.ntmps143
      go_wp2
      go_ret
      exact ⟨rfl, rfl⟩
    · by_cases h4 : 55296 ≤ r
      · by_cases h5 : r < 57344
        · skip
          have hv : noneW r = true := by simp [noneW]; omega
          rw [hv]
          clear hv
          go_enter Tryz.func143, Tryz.ntmps143
          go_wp2
          go_ret
          exact ⟨rfl, rfl⟩
        · by_cases h6 : 1114111 < r
          · skip
            have hv : noneW r = true := by simp [noneW]; omega
            rw [hv]
            clear hv
            go_enter Tryz.func143, Tryz.ntmps143
            go_wp2
            go_ret
            exact ⟨rfl, rfl⟩
          · skip
            have hv : noneW r = false := by simp [noneW]; omega
            rw [hv]
            clear hv
            go_enter Tryz.func143, Tryz.ntmps143
            go_wp2
            go_ret
            exact ⟨rfl, rfl⟩
      · have h6 : ¬ 1114111 < r := by omega
        have hv : noneW r = false := by simp [noneW]; omega
        rw [hv]
        clear hv
        go_enter Tryz.func143, Tryz.ntmps143
        go_wp2
        go_ret
        exact ⟨rfl, rfl⟩
  · have h4 : ¬ 55296 ≤ r := by omega
    have h6 : ¬ 1114111 < r := by omega
    have hv : noneW r = false := by simp [noneW]; omega
    rw [hv]
    clear hv
    go_enter Tryz.func143, Tryz.ntmps143
    go_wp2
    go_ret
    exact ⟨rfl, rfl⟩
def TabPost (l : List (Int × Int)) (w : World) (e : Ending) (w' : World) : Prop := ∃ g, e = .returned (.slice (some ⟨g, 0, none⟩) l.length l.length) ∧ GrAt encPr 2 w' (some ⟨g, 0, none⟩) l ∧ Below w.heap.size w w'
set_option maxRecDepth 100000 in
set_option maxHeartbeats 1600000 in
theorem wmarks_any (w : World) : Calls Tryz.prog 145 #[] w (TabPost marksT w) := by
  go_enter Tryz.func145, Tryz.ntmps145
  go_wp2
  go_ret
  exact ⟨w.heap.size, rfl, gr_lit encPr_len (l := marksT) (hp_new rfl), below_allocs (Below.refl _ _) _⟩
set_option maxRecDepth 100000 in
set_option maxHeartbeats 1600000 in
theorem wwides_any (w : World) : Calls Tryz.prog 146 #[] w (TabPost widesT w) := by
  go_enter Tryz.func146, Tryz.ntmps146
  go_wp2
  go_ret
  exact ⟨w.heap.size, rfl, gr_lit encPr_len (l := widesT) (hp_new rfl), below_allocs (Below.refl _ _) _⟩
def PrPost (r : Int) (x : Int × Int) (w : World) (e : Ending) (w' : World) : Prop := e = .returned (.bool (decide (x.1 ≤ r) && decide (r ≤ x.2))) ∧ Below w.heap.size w w'
set_option maxHeartbeats 800000 in
theorem among1_any (r : Int) (g : Nat) (x : Int × Int) (w : World) (hg : w.cell? ⟨g, 0, none⟩ = some (.int .i32 r)) : Calls Tryz.prog 154 #[.agg #[.int .i32 x.1, .int .i32 x.2], .pointer (some ⟨g, 0, none⟩)] w (PrPost r x w) := by
  have hgl := lt_of_cell hg
  by_cases h1 : x.1 ≤ r <;> by_cases h2 : r ≤ x.2
  all_goals
    go_enter Tryz.func154, Tryz.ntmps154
    go_wp2
    go_ret
    exact ⟨by simp [h1, h2], below_allocs (Below.refl _ _) _⟩
end Go.Proofs.YtffdblmdelgkaaaGreat

namespace Go.Proofs.YtffdblmdelgkaaaGreat
open Go.RowKit
def inPr (r : Int) (x : Int × Int) : Bool := decide (x.1 ≤ r) && decide (r ≤ x.2)
theorem among_take {l : List (Int × Int)} {r : Int} {k : Nat} {x : Int × Int} (hx : l[k]? = some x) : amongB (l.take (k + 1)) r = (amongB (l.take k) r || inPr r x) := by
  have hk := List.getElem?_eq_some_iff.1 hx
  rw [List.take_succ_eq_append_getElem hk.1, hk.2]
  unfold amongB inPr
  simp
theorem among_of_take {l : List (Int × Int)} {r : Int} {k : Nat} (h : amongB (l.take k) r = true) : amongB l r = true := by
  unfold amongB at h ⊢
  rw [List.any_eq_true] at h ⊢
  obtain ⟨x, hx, h⟩ := h
  exact ⟨x, List.mem_of_mem_take hx, h⟩
def IxPost (l : List (Int × Int)) (r : Int) (w : World) (e : Ending) (w' : World) : Prop := ∃ n : Int, e = .returned (.int .i64 n) ∧ decide (0 ≤ n) = amongB l r ∧ Below w.heap.size w w'
set_option maxRecDepth 100000 in
set_option maxHeartbeats 1600000 in
theorem indexPr_any (r : Int) (g a : Nat) (l : List (Int × Int)) (w : World) (hg : w.cell? ⟨g, 0, none⟩ = some (.int .i32 r)) (hl : GrAt encPr 2 w (some ⟨a, 0, none⟩) l) (hz : l.length ≤ 1000) :
    Calls Tryz.prog 155 #[.slice (some ⟨a, 0, none⟩) l.length l.length, .func (.func 154) #[] #[.pointer (some ⟨g, 0, none⟩)]] w (IxPost l r w) := by
  have HG := Lib.hid hg
  have HL := Lib.hid hl
  clear hg hl
  go_enter Tryz.func155, Tryz.ntmps155
  go_wp2_with fail
  go_loopw [8] (fun s8 wr => ∃ k : Nat, k ≤ l.length ∧ s8 = .int .i64 k ∧ amongB (l.take k) r = false ∧ Below w.heap.size w wr) (fun s8 _ => l.length - (intOf s8).toNat)
  case atStart => exact ⟨0, Nat.zero_le _, rfl, rfl, Below.refl _ _⟩
  case round =>
    obtain ⟨k, hk, rfl, hno, hb⟩ := hrel
    have HNO := Lib.hid hno
    have HB := Lib.hid hb
    clear hno hb
    by_cases hlt : k < l.length
    rotate_left
    · have hge : ¬ (k : Int) < (l.length : Int) := by omega
      go_wp2
      go_ret
      refine ⟨-1, rfl, ?_, HB.out⟩
      have := HNO.out
      rw [List.take_of_length_le (by omega)] at this
      rw [this]; rfl
    · have hltI : (k : Int) < (l.length : Int) := by omega
      obtain ⟨b, off, x, hA, hx, cx⟩ := (HL.out.below HB.out).at_ hlt
      simp only [Option.some.injEq, Addr.mk.injEq, and_true] at hA
      obtain ⟨rfl, rfl⟩ := hA
      have c0 : wr.cell? ⟨a, k * 2, none⟩ = some (.int .i32 x.1) := by have := cx 0 _ rfl; rwa [Nat.zero_add] at this
      have c1 : wr.cell? ⟨a, k * 2 + 1, none⟩ = some (.int .i32 x.2) := by have := cx 1 _ rfl; rwa [Nat.zero_add] at this
      have HT := Lib.hid (among_take (r := r) hx)
      have HC := Lib.hid (among1_any r g x wr (holda HB.out HG.out))
      have HO := Lib.hid (fun h => among_of_take (l := l) (r := r) (k := k + 1) h)
      cases hp : inPr r x with
      | false =>
        have HP := Lib.hid hp
        have HC2 : Hid (Calls Tryz.prog 154 #[.agg #[.int .i32 x.1, .int .i32 x.2], .pointer (some ⟨g, 0, none⟩)] wr fun e w' => e = .returned (.bool false) ∧ Below wr.heap.size wr w') := Lib.hid (HC.out.mono fun e w' ⟨he, hb⟩ => ⟨by rw [he]; unfold inPr at hp; rw [hp], hb⟩)
        clear hx cx hp
        go_wp2_with (go_at_call 154; refine HC2.out.mono ?_; rintro e w1 ⟨rfl, hb1⟩)
        go_roundw
        case rel => exact ⟨k + 1, by omega, by go_num, by rw [HT.out, HNO.out, HP.out]; rfl, below_tail HB.out hb1⟩
        case measure => simp [intOf]; omega
      | true =>
        have HP := Lib.hid hp
        have HC2 : Hid (Calls Tryz.prog 154 #[.agg #[.int .i32 x.1, .int .i32 x.2], .pointer (some ⟨g, 0, none⟩)] wr fun e w' => e = .returned (.bool true) ∧ Below wr.heap.size wr w') := Lib.hid (HC.out.mono fun e w' ⟨he, hb⟩ => ⟨by rw [he]; unfold inPr at hp; rw [hp], hb⟩)
        clear hx cx hp
        go_wp2_with (go_at_call 154; refine HC2.out.mono ?_; rintro e w1 ⟨rfl, hb1⟩)
        go_ret
        refine ⟨k, rfl, ?_, below_tail HB.out hb1⟩
        rw [HO.out (by rw [HT.out, HP.out]; simp)]
        simp
def AmPost (l : List (Int × Int)) (r : Int) (w : World) (e : Ending) (w' : World) : Prop := e = .returned (.bool (amongB l r)) ∧ Below w.heap.size w w'
theorem containsPr_any (r : Int) (g a : Nat) (l : List (Int × Int)) (w : World) (hg : w.cell? ⟨g, 0, none⟩ = some (.int .i32 r)) (hl : GrAt encPr 2 w (some ⟨a, 0, none⟩) l) (hz : l.length ≤ 1000) :
    Calls Tryz.prog 153 #[.slice (some ⟨a, 0, none⟩) l.length l.length, .func (.func 154) #[] #[.pointer (some ⟨g, 0, none⟩)]] w (AmPost l r w) := by
  have HI := Lib.hid (indexPr_any r g a l w hg hl hz)
  clear hg hl
  go_enter Tryz.func153, Tryz.ntmps153
  go_wp2_with (go_at_call 155; refine HI.out.mono ?_; rintro e w1 ⟨n, rfl, hn, hb⟩; have HN := Lib.hid hn; clear hn)
  go_ret
  exact ⟨by rw [HN.out]; rfl, hb⟩
theorem among_any (r : Int) (a : Nat) (l : List (Int × Int)) (w : World) (hl : GrAt encPr 2 w (some ⟨a, 0, none⟩) l) (hz : l.length ≤ 1000) :
    Calls Tryz.prog 144 #[.slice (some ⟨a, 0, none⟩) l.length l.length, .int .i32 r] w (AmPost l r w) := by
  have hb0 := below_allocs (Below.refl w.heap.size w) (.cells #[.int .i32 r] 21)
  have HC := Lib.hid (containsPr_any r w.heap.size a l _ (at_ (hp_new rfl) 0 _ rfl).1 (hl.below hb0) hz)
  have HB0 := Lib.hid hb0
  clear hl hb0
  go_enter Tryz.func144, Tryz.ntmps144
  go_wp2_with (go_at_call 153; refine HC.out.mono ?_; rintro e w1 ⟨rfl, hb⟩)
  go_ret
  exact ⟨rfl, below_tail HB0.out hb⟩
set_option maxHeartbeats 1600000 in
theorem widOf_any (r : Int) (w : World) : Calls Tryz.prog 116 #[.int .i32 r] w fun e w' => e = .returned (.int .i64 (widOf r)) ∧ Below w.heap.size w w' := by
  have HN := Lib.hid (fun w => wnone_any r w)
  by_cases h0 : r < 768
  · have hw := widOf_low h0
    rw [hw]
    clear hw
    cases hn : noneW r with
    | true =>
      rw [hn] at HN
      clear hn
      go_enter Tryz.func116, Tryz.ntmps116
      go_wp2_with (go_at_call 143; refine (HN.out _).mono ?_; rintro e w1 ⟨rfl, rfl⟩)
      go_ret
      exact ⟨rfl, Below.refl _ _⟩
    | false =>
      rw [hn] at HN
      clear hn
      go_enter Tryz.func116, Tryz.ntmps116
      go_wp2_with (go_at_call 143; refine (HN.out _).mono ?_; rintro e w1 ⟨rfl, rfl⟩)
      go_ret
      exact ⟨rfl, Below.refl _ _⟩
  · have HM := Lib.hid (fun w => wmarks_any w)
    have HW := Lib.hid (fun w => wwides_any w)
    have HA1 := Lib.hid (fun a w hl => among_any r a marksT w hl (by decide))
    have HA2 := Lib.hid (fun a w hl => among_any r a widesT w hl (by decide))
    unfold widOf
    unfold AmPost at HA1 HA2
    generalize noneW r = b0 at HN
    generalize amongB marksT r = b1 at HA1
    generalize amongB widesT r = b2 at HA2
    cases b0 <;> cases b1 <;> cases b2
    all_goals
      go_enter Tryz.func116, Tryz.ntmps116
      go_wp2_with (first
        | (go_at_call 143; refine (HN.out _).mono ?_; rintro e w1 ⟨rfl, rfl⟩)
        | (go_at_call 145; refine (HM.out _).mono ?_; rintro e w2 ⟨g, rfl, hg, hb2⟩; have HG := Lib.hid hg; have HB := Lib.hid hb2; clear hg hb2)
        | (go_at_call 146; refine (HW.out _).mono ?_; rintro e w4 ⟨g2, rfl, hg, hb2⟩; have HG2 := Lib.hid hg; have HB3 := Lib.hid (below_tail HB2.out hb2); clear hg hb2)
        | (go_at_call 144; first
            | (have hpv := HB3.out; clear hpv; refine (HA2.out _ _ HG2.out).mono ?_; rintro e w5 ⟨rfl, hb3⟩; have HB4 := Lib.hid (below_tail HB3.out hb3); clear hb3)
            | (refine (HA1.out _ _ HG.out).mono ?_; rintro e w3 ⟨rfl, hb3⟩; have HB2 := Lib.hid (below_tail HB.out hb3); clear hb3)))
      go_ret
      exact ⟨rfl, by first | exact HB4.out | exact HB2.out | exact Below.refl _ _⟩
end Go.Proofs.YtffdblmdelgkaaaGreat

namespace Go.Proofs.YtffdblmdelgkaaaGreat
open Go.RowKit
theorem there_below {w w1 : World} {b o n : Nat} (h : w.there b o n) (hb : Below w.heap.size w w1) : w1.there b o n := fun j hj => by
  obtain ⟨h1, h2⟩ := h j hj
  obtain ⟨u, hu⟩ := Option.isSome_iff_exists.1 h1
  have := hold hb ⟨hu, h2⟩
  exact ⟨by rw [this.1]; rfl, this.2⟩
theorem below_setCells {B : Nat} {W w1 : World} (h : Below B W w1) {b : Nat} (hb : B ≤ b) : ∀ (vs : List Value) (o : Nat), Below B W (w1.setCells b o vs)
  | [], o => h
  | v :: vs, o => by
    rw [World.setCells]
    exact below_setCells (below_set' h hb v) hb vs (o + 1)
where below_set' {B : Nat} {W w1 : World} (h : Below B W w1) {b o : Nat} (hb : B ≤ b) (v : Value) : Below B W (w1.setCell ⟨b, o, none⟩ v) := h.setCell (p := ⟨b, o, none⟩) hb v
theorem there_new {w : World} {g : Nat} {cs : Array Value} {t : TypeId} (h : w.heap[g]? = some (.cells cs t (0, 0))) : w.there g 0 cs.size := fun j hj => by
  rw [Nat.zero_add]
  exact ⟨by rw [cell_of_row w g j cs t (0, 0) h, Array.getElem?_eq_getElem hj]; rfl, frozen_of_row w g j cs t h⟩
theorem range_below {w w1 : World} {b o : Nat} {cs : List Value} (h : w.rangeAt b o cs) (hb : Below w.heap.size w w1) : w1.rangeAt b o cs := fun j v hj => holda hb (h j v hj)
section
variable {P : Program}
theorem run_copy_k (w : World) (dT sT ty elem : TypeId) (b o dLen dCap : Nat) (a : Addr) (sLen sCap k : Nat) (cs : List Value) (hu : P.underlying dT = some (.slice elem)) (hs : (P.info? elem).map (·.size) = some k) (hn : cs.length = Nat.min sLen dLen * k)
    (hsrc : ∀ j v, cs[j]? = some v → w.cell? (a.add j) = some v) (hc : ∀ j, j < cs.length → (w.cell? ⟨b, o + j, none⟩).isSome = true) (hf : ∀ j, j < cs.length → w.frozen? ⟨b, o + j, none⟩ = false) (h1 : ∀ v ∈ cs, v.oneCell' = true) :
    (Builtin.copy_ #[dT, sT] ty #[.slice (some ⟨b, o, none⟩) dLen dCap, .slice (some a) sLen sCap]).run P w = .ok (goInt (Nat.min sLen dLen)) (w.setCells b o cs) := by
  have hl := run_loadCells_list (P := P) w a cs hsrc
  have hst := run_storeCells_cells (P := P) b o cs 0 w (by simpa using hc) (by simpa using hf) h1
  cases hq : P.info? elem with
  | none => simp [hq] at hs
  | some i =>
    have hi : i.size = k := by simpa [hq] using hs
    simp [Builtin.copy_, run_underlying hu, Builtin.lenOf, Builtin.firstCells, sizeOf, typeInfo, hq, hi, ← hn, hl, hst]
theorem results_cell1 {fn : Func} {p : Tmp} {ty : TypeId} (h : fn.results = #[.cell p ty]) (tmps : Array Value) (P : Program) (w : World) :
    (results fn tmps).run P w = ((asAddr (tmps.getD p undef)).run P w).andThen fun a w₁ => (loadVar ty a).run P w₁ := by
  simp only [results, h]
  simp [Sem.run_bind, Result.andThen]
end
/-- A block known whole, some cells of which are set. -/
theorem whole_setCells {b : Nat} {t : TypeId} : ∀ (vs : List Value) (o : Nat) (cs : List Value) (w : World), w.heap[b]? = some (.cells cs.toArray t (0, 0)) → o + vs.length ≤ cs.length → (w.setCells b o vs).heap[b]? = some (.cells (cs.take o ++ (vs ++ cs.drop (o + vs.length))).toArray t (0, 0))
  | [], o, cs, w, h, _ => by simpa [World.setCells] using h
  | v :: vs, o, cs, w, h, hl => by
    rw [List.length_cons] at hl
    have h1 := whole_set h o v rfl
    have ih := whole_setCells vs (o + 1) (cs.set o v) (w.setCell ⟨b, o, none⟩ v) h1 (by rw [List.length_set]; omega)
    have hlt : o < (cs.set o v).length := by rw [List.length_set]; omega
    rw [List.take_succ_eq_append_getElem hlt, List.getElem_set_self, List.take_set_of_le (Nat.le_refl o), List.drop_set_of_lt (by omega), List.append_assoc] at ih
    rw [World.setCells, List.length_cons, show o + (vs.length + 1) = o + 1 + vs.length by omega]
    exact ih
theorem mod_setCellsN {X : List Nat} {w : World} {g : Nat} (hg : g ∈ X ∨ w.heap.size ≤ g) : ∀ (cs : List Value) (o : Nat) (w1 : World), Mod X w w1 → Mod X w (w1.setCells g o cs)
  | [], _, _, h => h
  | v :: r, o, _, h => mod_setCellsN hg r (o + 1) _ (h.setCell (a := ⟨g, o, none⟩) hg v)
theorem owns_set1 {w : World} {base g : Nat} {e : TypeId} {size n cap : Nat} {xs : List Value} (h : w.ownsRow base e size (.slice (some ⟨g, 0, none⟩) n cap) n xs) (o : Nat) (v : Value) :
    (w.setCell ⟨g, o, none⟩ v).ownsRow base e size (.slice (some ⟨g, 0, none⟩) n cap) n (xs.set o v) := by
  obtain ⟨h1, h2 | ⟨g', cap', cur, hv, e2, e3, e4, e5, e6, e7⟩⟩ := h
  · exact absurd h2.1 (by simp)
  · simp only [Value.slice.injEq, Option.some.injEq, Addr.mk.injEq, and_true, true_and] at hv
    obtain ⟨rfl, rfl⟩ := hv
    refine ⟨by simpa using h1, .inr ⟨g, cap, cur.setIfInBounds o v, rfl, e2, heap_setCell_eq e3, e4, e5, by simpa using e6, ?_⟩⟩
    rw [← e7, Array.toList_setIfInBounds]
    rw [List.take_set]
theorem owns_hold {w : World} {base g : Nat} {e : TypeId} {size n cap : Nat} {xs : List Value} (h : w.ownsRow base e size (.slice (some ⟨g, 0, none⟩) n cap) n xs) {i : Nat} {v : Value} (hi : xs[i]? = some v) : HoldAt w g i v := by
  obtain ⟨-, h2 | ⟨g', cap', cur, hv, -, e3, -, -, -, e7⟩⟩ := h
  · exact absurd h2.1 (by simp)
  · simp only [Value.slice.injEq, Option.some.injEq, Addr.mk.injEq, and_true, true_and] at hv
    obtain ⟨rfl, rfl⟩ := hv
    refine at_ e3 i v ?_
    rw [← e7, List.getElem?_take] at hi
    split at hi
    · simpa using hi
    · cases hi
theorem flat_set1 {α : Type} {enc : α → List Value} {K : Nat} (hl : ∀ x, (enc x).length = K) : ∀ (X : List α) (k : Nat) (x x' : α) (j : Nat) (v : Value), X[k]? = some x → j < K → (enc x).set j v = enc x' → (flat enc X).set (k * K + j) v = flat enc (X.set k x')
  | [], k, x, x', j, v, h, _, _ => by simp at h
  | y :: X, 0, x, x', j, v, h, hj, he => by
    obtain rfl : y = x := by simpa using h
    have e : flat enc (y :: X) = enc y ++ flat enc X := rfl
    have e2 : flat enc ((y :: X).set 0 x') = enc x' ++ flat enc X := rfl
    rw [e, e2, Nat.zero_mul, Nat.zero_add, List.set_append_left _ _ (by rw [hl]; exact hj), he]
  | y :: X, k + 1, x, x', j, v, h, hj, he => by
    have e : flat enc (y :: X) = enc y ++ flat enc X := rfl
    have e2 : flat enc ((y :: X).set (k + 1) x') = enc y ++ flat enc (X.set k x') := rfl
    rw [e, e2, List.set_append_right _ _ (by rw [hl, Nat.add_mul]; omega), hl, show (k + 1) * K + j - K = k * K + j by rw [Nat.add_mul]; omega, flat_set1 hl X k x x' j v (by simpa using h) hj he]
/-- Some cells of a row of the call's own set. -/
theorem owns_setCells {base g : Nat} {e : TypeId} {size n cap : Nat} : ∀ (vs : List Value) (o : Nat) (xs : List Value) (w : World), w.ownsRow base e size (.slice (some ⟨g, 0, none⟩) n cap) n xs → o + vs.length ≤ xs.length →
    (w.setCells g o vs).ownsRow base e size (.slice (some ⟨g, 0, none⟩) n cap) n (xs.take o ++ (vs ++ xs.drop (o + vs.length)))
  | [], o, xs, w, h, _ => by simpa [World.setCells] using h
  | v :: vs, o, xs, w, h, hl => by
    rw [List.length_cons] at hl
    have h1 := owns_set1 h o v
    have ih := owns_setCells vs (o + 1) (xs.set o v) (w.setCell ⟨g, o, none⟩ v) h1 (by rw [List.length_set]; omega)
    have e1 : (xs.set o v).take (o + 1) = xs.take o ++ [v] := by
      rw [List.take_succ_eq_append_getElem (by rw [List.length_set]; omega), List.getElem_set_self, List.take_set_of_le (Nat.le_refl _)]
    have e2 : (xs.set o v).drop (o + 1 + vs.length) = xs.drop (o + (v :: vs).length) := by
      rw [List.drop_set_of_lt (by omega), List.length_cons, show o + 1 + vs.length = o + (vs.length + 1) by omega]
    rw [e1, e2, List.append_assoc] at ih
    exact ih
theorem load_mid_g {P : Program} {ops : Array Oper} {rest : List Oper} {op : Oper} {a : Act} {w : World} {Q : Exit → Act → World → Prop} (hw : Region.wanted op (yielded ops a.tmps) = true) (ty : TypeId) (x : Operand) (ho : op.op = .load ty x)
    (b o : Nat) (hx : a.eval x = .pointer (some ⟨b, o, none⟩)) (cs : List Value) (d : TypeDesc) (hc : w.rangeAt b o cs)
    (hu : P.underlying ty = some d) (hd : d.isRow = true) (hi : (P.info? ty).map (·.size) = some cs.length)
    (h : wpList P ops Q rest (a.put op.dst (.agg cs.toArray)) w) : wpList P ops Q (op :: rest) a w := by
  unfold wpList
  rw [if_pos hw]
  exact .inl (wp_load_mid ty x ho b o hx cs d hc hu hd hi h)
end Go.Proofs.YtffdblmdelgkaaaGreat

namespace Go.Proofs.YtffdblmdelgkaaaGreat
open Go.RowKit
def encCl (c : Cl) : List Value := [.int .i32 c.r, .string c.more, .int .i64 c.half, .int .i64 c.fk, .int .i64 c.fn, .int .i64 c.bk, .int .i64 c.bn, .int .i64 c.fl]
theorem encCl_len : ∀ c, (encCl c).length = 8 := fun _ => rfl
theorem encCl_one : ∀ c, ∀ v ∈ encCl c, v.oneCell' = true := fun c v hv => by
  simp only [encCl, List.mem_cons, List.not_mem_nil, or_false] at hv
  rcases hv with rfl | rfl | rfl | rfl | rfl | rfl | rfl | rfl <;> rfl
theorem info_cell : (Tryz.prog.info? 109).map (·.size) = some 8 := by kernel_rfl
theorem cl_one (c : Cl) : (encCl c).toArray.all (·.oneCell') = true := all_oneCell_toArray (encCl_one c)
theorem ret_cell {fn : Func} {p : Tmp} (hr : fn.results = #[.cell p 109]) (tmps : Array Value) (w : World) (b : Nat) (c : Cl) (hp : tmps.getD p undef = .pointer (some ⟨b, 0, none⟩)) (h : w.rangeAt b 0 (encCl c)) :
    (results fn tmps).run Tryz.prog w = .ok (clV c) w := by
  rw [results_cell1 hr, hp]
  have := run_loadVar_mid (P := Tryz.prog) w b 0 109 (encCl c) _ h Tryz.underlying109 rfl info_cell
  simp only [asAddr, Sem.run_pure, Result.andThen_ok, this]
  rfl
theorem range_new {w : World} {g : Nat} {cs : List Value} {t : TypeId} (h : w.heap[g]? = some (.cells cs.toArray t (0, 0))) : w.rangeAt g 0 cs := fun j v hj => by rw [Nat.zero_add]; exact (whole_at h j v hj).1
def CellPost (c : Cl) (w : World) (e : Ending) (w' : World) : Prop := e = .returned (clV c) ∧ Below w.heap.size w w'
set_option maxRecDepth 100000 in
set_option maxHeartbeats 1600000 in
theorem cempty_any (a : Atr) (w : World) : Calls Tryz.prog 152 #[.agg #[.int .i64 a.fk, .int .i64 a.fn, .int .i64 a.bk, .int .i64 a.bn, .int .i64 a.fl]] w (CellPost (emptyA a) w) := by
  go_enter Tryz.func152, Tryz.ntmps152
  go_wp2
  exact bodyPost_ret (ret_cell rfl _ _ (w.heap.size + 1) (emptyA a) rfl (range_new (hp_new (by simp)))) rfl ⟨rfl, below_allocs (below_allocs (Below.refl _ _) _) _⟩
set_option maxRecDepth 100000 in
set_option maxHeartbeats 1600000 in
theorem cblank_any (b : Col) (w : World) : Calls Tryz.prog 149 #[.agg #[.int .i64 b.k, .int .i64 b.n]] w (CellPost (blankC b) w) := by
  have HE := Lib.hid (fun w => cempty_any ⟨0, 0, b.k, b.n, 0⟩ w)
  have HB0 := Lib.hid (below_allocs (below_allocs (Below.refl w.heap.size w) (.cells #[.int .i64 b.k, .int .i64 b.n] 32)) (.cells (encCl (emptyA ⟨0, 0, 0, 0, 0⟩)).toArray 109))
  have HT0 := Lib.hid (there_new (cs := (encCl (emptyA ⟨0, 0, 0, 0, 0⟩)).toArray) (w := (w.alloc (.cells #[.int .i64 b.k, .int .i64 b.n] 32)).alloc (.cells (encCl (emptyA ⟨0, 0, 0, 0, 0⟩)).toArray 109)) (g := w.heap.size + 1) (hp_new (by simp)))
  go_enter Tryz.func149, Tryz.ntmps149
  go_wp2_with (first
    | (go_at_call 152; refine (HE.out _).mono ?_; rintro e w1 ⟨rfl, hb⟩; have HB1 := Lib.hid hb; clear hb; have HT1 := Lib.hid (there_below HT0.out HB1.out))
    | (refine wpList_store_mid (op := ⟨none, .store 109 (.tmp 2) (.tmp 5), _, _, _, _⟩) rfl 109 (.tmp 2) (.tmp 5) rfl (w.heap.size + 1) 0 (encCl (blankC b)).toArray rfl rfl HT1.out info_cell (cl_one (blankC b)) ?_))
  exact bodyPost_ret (ret_cell rfl _ _ (w.heap.size + 1) (blankC b) rfl (World.rangeAt_setCells_same _ _ _ _ HT1.out)) rfl ⟨rfl, below_setCells (below_tail HB0.out HB1.out) (by omega) _ _⟩
def pairH (a b : Cl) : Bool := decide (a.half = 1) && decide (a = { b with half := 1 })
set_option maxRecDepth 100000 in
set_option maxHeartbeats 1600000 in
theorem cpair_any (a b : Cl) (w : World) : Calls Tryz.prog 151 #[clV a, clV b] w fun e w' => e = .returned (.bool (pairH a b)) ∧ Below w.heap.size w w' := by
  unfold clV
  have HB2 := Lib.hid (below_allocs (below_allocs (Below.refl w.heap.size w) (.cells (encCl a).toArray 109)) (.cells (encCl { b with half := 1 }).toArray 109))
  have HA2 := Lib.hid (show ((w.alloc (.cells (encCl a).toArray 109)).alloc (.cells (encCl { b with half := 1 }).toArray 109)).heap[w.heap.size]? = some (.cells (encCl a).toArray 109 (0, 0)) from hp_old (hp_new rfl))
  have HC2 := Lib.hid (show ((w.alloc (.cells (encCl a).toArray 109)).alloc (.cells (encCl { b with half := 1 }).toArray 109)).heap[w.heap.size + 1]? = some (.cells (encCl { b with half := 1 }).toArray 109 (0, 0)) from hp_new (by simp))
  by_cases h : a.half = 1
  · have hv : pairH a b = decide (a = { b with half := 1 }) := by unfold pairH; rw [h]; simp
    rw [hv]
    clear hv
    obtain ⟨ar, am, ah, a1, a2, a3, a4, a5⟩ := a
    obtain rfl : ah = 1 := h
    go_enter Tryz.func151, Tryz.ntmps151
    go_upto_region 2 with fail
    refine wp_region_lit ?_
    refine wpList_valG (.pointer (some ⟨w.heap.size, 2, none⟩)) (by rfl) (by go_simp) ?_
    simp only [Act.put, List.setIfInBounds_toArray, List.set_cons_zero, List.set_cons_succ]
    refine wpList_valG (.int .i64 1) (by rfl) (by go_simp) ?_
    simp only [Act.put, List.setIfInBounds_toArray, List.set_cons_zero, List.set_cons_succ]
    refine wpList_valG (.bool true) (by rfl) (by go_simp) ?_
    simp only [Act.put, List.setIfInBounds_toArray, List.set_cons_zero, List.set_cons_succ]
    refine wpList_valG (.bool true) (by rfl) (by rfl) ?_
    simp only [Act.put, List.setIfInBounds_toArray, List.set_cons_zero, List.set_cons_succ]
    refine load_mid_g (by rfl) 109 (.tmp 2) rfl w.heap.size 0 rfl (encCl ⟨ar, am, 1, a1, a2, a3, a4, a5⟩) _ (range_new HA2.out) Tryz.underlying109 rfl info_cell ?_
    simp only [Act.put, List.setIfInBounds_toArray, List.set_cons_zero, List.set_cons_succ]
    refine load_mid_g (by rfl) 109 (.tmp 3) rfl (w.heap.size + 1) 0 rfl (encCl { b with half := 1 }) _ (range_new HC2.out) Tryz.underlying109 rfl info_cell ?_
    simp only [Act.put, List.setIfInBounds_toArray, List.set_cons_zero, List.set_cons_succ]
    refine wpList_valG (.bool (decide ((⟨ar, am, 1, a1, a2, a3, a4, a5⟩ : Cl) = { b with half := 1 }))) (by rfl) (exec_eql_cell _ _ _ _ _ _ (.tmp 10) (.tmp 11) ⟨ar, am, 1, a1, a2, a3, a4, a5⟩ { b with half := 1 } rfl rfl _) ?_
    simp only [Act.put, List.setIfInBounds_toArray, List.set_cons_zero, List.set_cons_succ]
    generalize hD : decide ((⟨ar, am, 1, a1, a2, a3, a4, a5⟩ : Cl) = { b with half := 1 }) = D
    have HD := Lib.hid hD
    clear hD
    go_wp2
    go_ret
    exact ⟨by rw [← HD.out]; rfl, HB2.out⟩
  · have hv : pairH a b = false := by unfold pairH; simp [h]
    rw [hv]
    have h1 : (a.half == 1) = false := beq_eq_false_iff_ne.2 h
    clear hv
    go_enter Tryz.func151, Tryz.ntmps151
    go_wp2
    go_ret
    exact ⟨rfl, HB2.out⟩
end Go.Proofs.YtffdblmdelgkaaaGreat

namespace Go.Proofs.YtffdblmdelgkaaaGreat
open Go.RowKit
theorem pairB_H (c d : Cl) : pairB c d = (pairH c d && decide (d.half = 2)) := by
  unfold pairB pairH
  cases decide (c.half = 1) <;> cases decide (d.half = 2) <;> cases decide (c = { d with half := 1 }) <;> rfl
theorem mendL_pair {c d : Cl} (h : pairB c d = true) (l : List Cl) : mendL (c :: d :: l) = c :: d :: mendL l := by
  have h0 : ¬ c.half = 0 := fun e => by unfold pairB at h; simp [e] at h
  rw [mendL_cons, if_neg h0, if_pos h]
theorem mendL_other {c : Cl} {l : List Cl} (h0 : ¬ c.half = 0) (h3 : ¬ (c.half = 3 ∧ l = [])) (hp : ∀ d m, l = d :: m → pairB c d = false) : mendL (c :: l) = emptyC c :: mendL l := by
  match l with
  | [] => rw [mendL_one, if_neg (fun h => h.elim h0 (fun h => h3 ⟨h, rfl⟩))]; rfl
  | d :: m => rw [mendL_cons, if_neg h0, hp d m rfl]; rfl
theorem mendL_pad {c : Cl} (h : c.half = 3) : mendL [c] = [c] := by rw [mendL_one, if_pos (.inr h)]
/-- A row of cells of the call's own. -/
def CrO (w : World) (base g cap : Nat) (l : List Cl) : Prop := w.ownsRow base 109 8 (.slice (some ⟨g, 0, none⟩) l.length cap) l.length (flat encCl l)
theorem CrO.mod {w w' : World} {base g cap : Nat} {l : List Cl} {X : List Nat} (h : CrO w base g cap l) (hm : Mod X w w') (hX : g ∉ X) : CrO w' base g cap l := owns_mod h hm (fun k hk => by simp [Value.ownBlock] at hk; rw [← hk]; exact hX)
theorem CrO.below {w w' : World} {base g cap : Nat} {l : List Cl} (h : CrO w base g cap l) (hb : Below w.heap.size w w') : CrO w' base g cap l := h.mod (Mod.of_below (X := []) hb) (fun h => by cases h)
theorem CrO.lt {w : World} {base g cap : Nat} {l : List Cl} (h : CrO w base g cap l) : base ≤ g ∧ g < w.heap.size := World.ownsRow.lt h g rfl
theorem CrO.range {w : World} {base g cap : Nat} {l : List Cl} (h : CrO w base g cap l) {i : Nat} {c : Cl} (hc : l[i]? = some c) : w.rangeAt g (i * 8) (encCl c) := fun j v hj => by
  have hj8 : j < 8 := by have := (List.getElem?_eq_some_iff.1 hj).1; rwa [encCl_len] at this
  exact (owns_hold h (i := i * 8 + j) (v := v) (by rw [flat_at2 encCl_len l i c j hc hj8]; exact hj)).1
theorem CrO.there {w : World} {base g cap : Nat} {l : List Cl} (h : CrO w base g cap l) {i : Nat} (hi : i < l.length) : w.there g (i * 8) 8 := fun j hj => by
  obtain ⟨c, hc⟩ : ∃ c, l[i]? = some c := ⟨l[i], List.getElem?_eq_getElem hi⟩
  obtain ⟨v, hv⟩ : ∃ v, (encCl c)[j]? = some v := ⟨_, List.getElem?_eq_getElem (by rw [encCl_len]; exact hj)⟩
  have := owns_hold h (i := i * 8 + j) (v := v) (by rw [flat_at2 encCl_len l i c j hc hj]; exact hv)
  exact ⟨by rw [this.1]; rfl, this.2⟩
theorem CrO.set {w : World} {base g cap : Nat} {l : List Cl} (h : CrO w base g cap l) {i : Nat} (hi : i < l.length) (c : Cl) : CrO (w.setCells g (i * 8) (encCl c)) base g cap (l.set i c) ∧ Mod [g] w (w.setCells g (i * 8) (encCl c)) := by
  refine ⟨?_, mod_setCellsN (.inl (by simp)) _ _ _ (Mod.refl _ _)⟩
  have h1 := owns_setCells (encCl c) (i * 8) (flat encCl l) w h (by rw [flat_len encCl_len, encCl_len]; omega)
  unfold CrO
  rw [List.length_set]
  have e : (flat encCl l).take (i * 8) ++ (encCl c ++ (flat encCl l).drop (i * 8 + (encCl c).length)) = flat encCl (l.set i c) := by
    rw [encCl_len]
    clear h h1
    induction l generalizing i with
    | nil => simp at hi
    | cons x l ih =>
      have e : flat encCl (x :: l) = encCl x ++ flat encCl l := rfl
      match i with
      | 0 =>
        have e2 : flat encCl ((x :: l).set 0 c) = encCl c ++ flat encCl l := rfl
        rw [e, e2, Nat.zero_mul, List.take_zero, List.nil_append, Nat.zero_add, List.drop_left' (encCl_len x)]
      | i + 1 =>
        have e2 : flat encCl ((x :: l).set (i + 1) c) = encCl x ++ flat encCl (l.set i c) := rfl
        rw [e, e2, ← ih (by simpa using hi), Nat.add_mul, Nat.one_mul]
        rw [List.take_append, List.drop_append, encCl_len, List.take_of_length_le (by rw [encCl_len]; omega), List.drop_eq_nil_of_le (by rw [encCl_len]; omega)]
        rw [show i * 8 + 8 - 8 = i * 8 by omega, show i * 8 + 8 + 8 - 8 = i * 8 + 8 by omega, List.nil_append, List.append_assoc]
  rw [e] at h1
  exact h1
end Go.Proofs.YtffdblmdelgkaaaGreat

namespace Go
section
variable {P : Program} {ops : Array Oper} {md : Region.Mode} {S : World → Prop}
def samePut (n : Nat) (dst : Option Tmp) (u v : Value) : Prop := ∀ a : Act, a.tmps.size = n → a.put dst u = a.put dst v
theorem samePut.rfl' {n : Nat} {dst : Option Tmp} {v : Value} : samePut n dst v v := fun _ _ => rfl
def upU (P : Program) (S : World → Prop) (n : Nat) (dst : Option Tmp) (v : Value) : Result Next → Prop
  | .ok (.value u) w' => samePut n dst u v ∧ S w'
  | .ok .skip w' => samePut n dst undef v ∧ S w'
  | .ok (.enter f args) w' => Calls P f args w' fun e w'' => match e with
      | .returned u => samePut n dst u v ∧ S w''
      | _ => False
  | .ok (.row row args) w' => Rows P row args w' fun u w'' => samePut n dst u v ∧ S w''
  | _ => False
/-- In state 'a', from every world that meets S, operation 'o' yields 'v' (up to its slot), and S holds behind it. -/
def StabU (P : Program) (ops : Array Oper) (S : World → Prop) (o : Oper) (v : Value) (a : Act) : Prop :=
  (Region.wanted o (yielded ops a.tmps) = true ∧ ∀ w, S w → upU P S a.tmps.size o.dst v ((execOp a.eval o).run P w)) ∨
  (Region.wanted o (yielded ops a.tmps) = false ∧ v = undef)
theorem StabU.of_same {o : Oper} {v : Value} {a a' : Act} (hy : StabU P ops S o v a) (he : execOp a'.eval o = execOp a.eval o)
    (hw : Region.wanted o (yielded ops a'.tmps) = Region.wanted o (yielded ops a.tmps)) (hs : a'.tmps.size = a.tmps.size) : StabU P ops S o v a' := by
  unfold StabU at *
  rw [he, hw, hs]
  exact hy
theorem Act.put_size (a : Act) (dst : Option Tmp) (v : Value) : (a.put dst v).tmps.size = a.tmps.size := by
  cases dst <;> simp [Act.put]
theorem StabU.wpOp {Q : Exit → Act → World → Prop} {i : Nat} {o : Oper} {v : Value} {a : Act} (hi : ops[i]? = some o) (hy : StabU P ops S o v a)
    {K : Act → World → Prop} {w : World} (hS : S w) (h : ∀ w', S w' → K (a.put o.dst v) w') : wpOp P ops Q i K a w := by
  unfold Go.wpOp
  simp only [hi]
  rcases hy with ⟨hw, hv⟩ | ⟨hw, rfl⟩
  · simp only [hw, if_true, Oper.wp]
    refine .inl ?_
    have hv := hv w hS
    generalize (execOp a.eval o).run P w = r at *
    cases r with
    | ok n w' =>
      cases n <;> simp only [upU, Oper.upon] at hv ⊢
      case value u => rw [hv.1 a rfl]; exact h _ hv.2
      case skip => rw [hv.1 a rfl]; exact h _ hv.2
      case enter f args =>
        refine Calls.mono hv fun e w'' he => ?_
        cases e with
        | returned u => simp only at he ⊢; rw [he.1 a rfl]; exact h _ he.2
        | panicked c => exact he.elim
        | outgrown => exact he.elim
      case row row args => exact Rows.mono hv fun u w'' he => (by rw [he.1 a rfl]; exact h _ he.2)
    | halt x w' => exact hv.elim
  · simp only [hw, Bool.false_eq_true, if_false]; exact h _ hS
/-- Whatever order is picked, each operation of the head (numbers below n) is stable; 'L' behind it. No world. -/
def wpUL (P : Program) (md : Region.Mode) (ops : Array Oper) (S : World → Prop) (n : Nat) (L : Array Bool → Act → Prop) : Nat → Array Bool → Act → Prop
  | 0, listed, a => L listed a
  | f + 1, listed, a =>
    Region.ready md ops listed ≠ [] ∧ ∀ i ∈ Region.ready md ops listed, i < n ∧ ∃ o v, ops[i]? = some o ∧ StabU P ops S o v a ∧ wpUL P md ops S n L f (listed.setIfInBounds i true) (a.put o.dst v)
theorem wpAny_of_headU {n g : Nat} {L : Array Bool → Act → Prop} {Q' : Exit → Act → World → Prop} (hL : ∀ listed a, L listed a → ∀ w, S w → wpAny P md ops Q' g listed a w) :
    ∀ (f : Nat) (listed : Array Bool) (a : Act), wpUL P md ops S n L f listed a → ∀ w, S w → wpAny P md ops Q' (f + g) listed a w
  | 0, listed, a, h, w, hS => by rw [Nat.zero_add]; exact hL _ _ h w hS
  | f + 1, listed, a, h, w, hS => by
    rw [show f + 1 + g = (f + g) + 1 by omega]
    refine ⟨fun h0 => absurd h0 h.1, fun i hi => ?_⟩
    obtain ⟨_, o, v, ho, hy, hr⟩ := h.2 i hi
    exact hy.wpOp ho hS (fun w' hS' => wpAny_of_headU hL f _ _ hr w' hS')
theorem wpUL_first {n i : Nat} {oi : Oper} {v : Value} {L : Array Bool → Act → Prop} (hi : ops[i]? = some oi) (hsel : ∀ (j : Nat) (o : Oper) cs b, ops[j]? = some o → o.op ≠ .select cs b)
    (hs : Region.sinkB md ops n = true) (hc : Region.chainB md ops n = true) (hn : n < ops.size) (hin : i < n)
    (hdone : ∀ listed a, L listed a → ∀ j ∈ Region.ready md ops listed, n ≤ j) :
    ∀ (f : Nat) (listed : Array Bool) (a : Act), HeadInv md ops n listed →
      (∀ j oj, ops[j]? = some oj → j ≠ i → listed.getD j true = false → (∀ e ∈ oj.after, Region.binds md e = true → e.on ≠ i) → oi.apart ops oj = true) →
      i ∈ Region.ready md ops listed → StabU P ops S oi v a →
      wpUL P md ops S n L f (listed.setIfInBounds i true) (a.put oi.dst v) → wpUL P md ops S n L (f + 1) listed a := by
  intro f
  induction f with
  | zero =>
    intro listed a inv _ hr hy H
    have hun := (mem_ready.1 hr).1
    refine ⟨fun h => (by rw [h] at hr; cases hr), fun j hj => ?_⟩
    have hjn : j < n := by
      rcases Nat.lt_or_ge j n with h | h
      · exact h
      · exact absurd hj (tail_waits hs hc hn inv _ i rfl hin hun j h)
    refine ⟨hjn, ?_⟩
    by_cases hji : j = i
    · subst hji; exact ⟨oi, v, hi, hy, H⟩
    · have := hdone _ _ H j (ready_mono hj hji)
      omega
  | succ f ih =>
    intro listed a inv hfree hr hy H
    have hun := (mem_ready.1 hr).1
    refine ⟨fun h => (by rw [h] at hr; cases hr), fun j hj => ?_⟩
    have hjn : j < n := by
      rcases Nat.lt_or_ge j n with h | h
      · exact h
      · exact absurd hj (tail_waits hs hc hn inv _ i rfl hin hun j h)
    refine ⟨hjn, ?_⟩
    by_cases hji : j = i
    · subst hji; exact ⟨oi, v, hi, hy, H⟩
    · obtain ⟨_, oj', u, hoj', hyj, Hj⟩ := H.2 j (ready_mono hj hji)
      obtain ⟨hjun, oj, hoj, hall⟩ := mem_ready.1 hj
      obtain rfl : oj' = oj := Option.some.inj (hoj'.symm.trans hoj)
      have hnot : ∀ e ∈ oj'.after, Region.binds md e = true → e.on ≠ i := fun e he hb heq => by
        have h1 := hall e he hb
        rw [heq, getD_both hun] at h1
        cases h1
      obtain ⟨h1, h2, h3⟩ := Oper.apart_spec (hfree j oj' hoj hji hjun hnot)
      have hsi := fun cs b => hsel i oi cs b hi
      have hsj := fun cs b => hsel j oj' cs b hoj
      have hyj' : StabU P ops S oj' u a := hyj.of_same (execOp_put oj' hsj a oi.dst v h1).symm (wanted_put oj' a oi.dst v h1).symm (Act.put_size _ _ _).symm
      have hyi' : StabU P ops S oi v (a.put oj'.dst u) := hy.of_same (execOp_put oi hsi a oj'.dst u h3) (wanted_put oi a oj'.dst u h3) (Act.put_size _ _ _)
      have hfree' : ∀ k ok, ops[k]? = some ok → k ≠ i → (listed.setIfInBounds j true).getD k true = false →
          (∀ e ∈ ok.after, Region.binds md e = true → e.on ≠ i) → oi.apart ops ok = true := fun k ok hk hki hun hno => by
        refine hfree k ok hk hki ?_ hno
        by_cases hjk : j = k
        · subst hjk; exact hjun
        · rw [getD_set_ne true hjk] at hun; exact hun
      refine ⟨oj', u, hoj, hyj', ih (listed.setIfInBounds j true) _ (inv.set hj hjn) hfree' (ready_mono hr (Ne.symm hji)) hyi' ?_⟩
      rw [Array.setIfInBounds_comm _ _ hji, ← Act.put_comm a v u h2]
      exact Hj
/-- The walk in the order of the text. -/
def seqU (P : Program) (ops : Array Oper) (S : World → Prop) (Lq : Act → Prop) : List Oper → Act → Prop
  | [], a => Lq a
  | o :: l, a => ∃ v, StabU P ops S o v a ∧ seqU P ops S Lq l (a.put o.dst v)
theorem wpUL_lex {n g : Nat} {Lq : Act → Prop} (hsel : Region.noSelect ops = true) (hs : Region.sinkB md ops n = true) (hc : Region.chainB md ops n = true) (hn : n < ops.size) :
    ∀ (l : List Oper) (k : Nat) (listed : Array Bool) (a : Act), (∀ j, j < l.length → l[j]? = ops[k + j]?) → k + l.length = n → HeadInv md ops n listed →
    Region.lexHead md ops g l.length k listed = true → seqU P ops S Lq l a →
    wpUL P md ops S n (fun listed' a' => Region.seqB md ops g n listed' = true ∧ Lq a') l.length listed a
  | [], k, listed, a, _, hk, _, hB, h => by
    have : k = n := by simpa using hk
    subst this
    exact ⟨by simpa [Region.lexHead] using hB, h⟩
  | o :: l, k, listed, a, hl, hk, inv, hB, h => by
    have h0 : ops[k]? = some o := by simpa using (hl 0 (by simp)).symm
    simp only [List.length_cons, Region.lexHead, Bool.and_eq_true] at hB
    obtain ⟨⟨hr, hf⟩, hB'⟩ := hB
    have hkn : k < n := by simp only [List.length_cons] at hk; omega
    have hr' : k ∈ Region.ready md ops listed := by simpa using hr
    obtain ⟨v, hy, hK⟩ := h
    exact wpUL_first h0 (Region.noSelect_spec hsel) hs hc hn hkn (fun listed' a' hL => seqB_ready hL.1) l.length listed a inv (Region.free_spec h0 hf) hr' hy
      (wpUL_lex hsel hs hc hn l (k + 1) _ _ (fun j hj => by have := hl (j + 1) (by simp; omega); simpa [Nat.add_assoc, Nat.add_comm 1 j] using this) (by simp only [List.length_cons] at hk; omega) (inv.set hr' hkn) hB' hK)
theorem wp_region_u {id : Nat} {Q : Exit → Act → World → Prop} {a : Act} {w : World} {l : List Oper} (n : Nat) (S : World → Prop) (hm : P.follows .mixedOrders = true) (hB : Region.lexTailB .any l.toArray n = true)
    (hS : S w.drew) (h : seqU P l.toArray S (fun a' => ∀ w', S w' → wpList P l.toArray Q (l.drop n) a' w') (l.take n) a) : (Code.region id l.toArray true).wp P Q a w := by
  simp only [Region.lexTailB, Bool.and_eq_true, decide_eq_true_eq] at hB
  obtain ⟨⟨⟨⟨hsel, hn⟩, hs⟩, hc⟩, hlex⟩ := hB
  have htl : (l.take n).length = n := by
    have hn' : n < l.length := by simpa using hn
    simp; omega
  have hdl : (l.drop n).length = l.toArray.size - n := by simp
  have inv0 : HeadInv .any l.toArray n (Array.replicate l.toArray.size false) :=
    ⟨by simp, fun j oj _ hl => (by rw [getD_replicate_false] at hl; cases hl), fun t _ ht => getD_in (by simpa using ht) (getD_replicate_false _ _)⟩
  have H := wpUL_lex (md := .any) (g := l.toArray.size - n) hsel hs hc hn (l.take n) 0 _ a (fun j hj => by
    have hj' : j < n := by rw [htl] at hj; exact hj
    simp [hj']) (by simpa using htl) inv0 (by rw [htl]; exact hlex) h
  refine wp_region_any hm ?_
  have := wpAny_of_headU (Q' := Q) (g := l.toArray.size - n) (fun listed a' hL w' hS' => by
    have := wpAny_of_seq (md := .any) (Q' := Q) (l.drop n) n listed a' w' (fun j => by simp [List.getElem?_drop]) (by rw [hdl]; exact hL.1) (hL.2 w' hS')
    rwa [hdl] at this) _ _ _ H w.drew hS
  rw [htl, show n + (l.toArray.size - n) = l.toArray.size by simp at hn; simp; omega] at this
  exact this
variable {Lq : Act → Prop}
theorem seqU_nil {a : Act} (h : Lq a) : seqU P ops S Lq [] a := h
theorem seqU_skip {o : Oper} {l : List Oper} {a : Act} (hw : Region.wanted o (yielded ops a.tmps) = false) (hr : seqU P ops S Lq l (a.put o.dst undef)) : seqU P ops S Lq (o :: l) a :=
  ⟨undef, .inr ⟨hw, rfl⟩, hr⟩
/-- An operation that yields its value and leaves the world. -/
theorem seqU_val {o : Oper} {l : List Oper} {a : Act} (v : Value) (hw : Region.wanted o (yielded ops a.tmps) = true) (h : ∀ w, S w → (execOp a.eval o).run P w = .ok (.value v) w)
    (hr : seqU P ops S Lq l (a.put o.dst v)) : seqU P ops S Lq (o :: l) a :=
  ⟨v, .inl ⟨hw, fun w hS => by rw [h w hS]; exact ⟨samePut.rfl', hS⟩⟩, hr⟩
/-- A call. -/
theorem seqU_call {o : Oper} {l : List Oper} {a : Act} (f : FuncId) (args : Array Value) (v : Value) (hw : Region.wanted o (yielded ops a.tmps) = true) (h : ∀ w, (execOp a.eval o).run P w = .ok (.enter f args) w)
    (hc : ∀ w, S w → Calls P f args w fun e w' => e = .returned v ∧ S w')
    (hr : seqU P ops S Lq l (a.put o.dst v)) : seqU P ops S Lq (o :: l) a :=
  ⟨v, .inl ⟨hw, fun w hS => by
    rw [h w]
    refine (hc w hS).mono fun e w' he => ?_
    rw [he.1]
    exact ⟨samePut.rfl', he.2⟩⟩, hr⟩
end
end Go

namespace Go.Proofs.YtffdblmdelgkaaaGreat
open Go.RowKit
theorem exec_load {P : Program} {ρ : Operand → Value} {op : Oper} {w : World} (ty : TypeId) (x : Operand) (ho : op.op = .load ty x) (b o : Nat) (hx : ρ x = .pointer (some ⟨b, o, none⟩)) (cs : List Value) (d : TypeDesc) (hc : w.rangeAt b o cs)
    (hu : P.underlying ty = some d) (hd : d.isRow = true) (hi : (P.info? ty).map (·.size) = some cs.length) : (execOp ρ op).run P w = .ok (.value (.agg cs.toArray)) w := by
  unfold execOp
  simp only [ho, hx, Instr.loadAt, Instr.sureAddr, Sem.run_bind, Sem.run_pure, Result.andThen_ok, run_loadVar_mid w b o ty cs d hc hu hd hi]
def MendPost (base g cap : Nat) (l : List Cl) (w : World) (e : Ending) (w' : World) : Prop := e = .returned (.tuple #[]) ∧ CrO w' base g cap l ∧ Mod [g] w w'
set_option maxRecDepth 100000 in
set_option maxHeartbeats 3200000 in
theorem cmend_any (base g cap : Nat) (l : List Cl) (w : World) (h : CrO w base g cap l) (hz : l.length ≤ 10000) :
    Calls Tryz.prog 142 #[.slice (some ⟨g, 0, none⟩) l.length cap] w (MendPost base g cap (mendL l) w) := by
  have H := Lib.hid h
  clear h
  go_enter Tryz.func142, Tryz.ntmps142
  go_wp2_with fail
  go_loopw [2] (fun s2 wr => ∃ (i : Nat) (P : List Cl), s2 = .int .i64 i ∧ i ≤ l.length ∧ P.length = i ∧ mendL l = P ++ mendL (l.drop i) ∧ CrO wr base g cap (P ++ l.drop i) ∧ Mod [g] w wr) (fun s2 _ => l.length - (intOf s2).toNat)
  case atStart => exact ⟨0, [], rfl, Nat.zero_le _, rfl, rfl, H.out, Mod.refl _ _⟩
  case round =>
    obtain ⟨i, P, rfl, hi, hP, hm, hO, hM⟩ := hrel
    have HO := Lib.hid hO
    have HM := Lib.hid hM
    have HE := Lib.hid hm
    have HP := Lib.hid hP
    clear hO hM hm hP
    by_cases hlt : i < l.length
    rotate_left
    · have hge : ¬ (i : Int) < (l.length : Int) := by omega
      go_wp2
      go_end0
      refine ⟨rfl, ?_, HM.out⟩
      have h1 := HE.out
      have h2 := HO.out
      rw [List.drop_eq_nil_of_le (by omega)] at h1 h2
      rw [h1]; exact h2
    · have hltI : (i : Int) < (l.length : Int) := by omega
      obtain ⟨c, hc⟩ : ∃ c, l[i]? = some c := ⟨l[i], List.getElem?_eq_getElem hlt⟩
      have hdr : l.drop i = c :: l.drop (i + 1) := by rw [List.drop_eq_getElem_cons hlt, (List.getElem?_eq_some_iff.1 hc).2]
      have hci : (P ++ l.drop i)[i]? = some c := by rw [List.getElem?_append_right (by rw [HP.out]; exact Nat.le_refl _), HP.out, Nat.sub_self, hdr]; rfl
      have HR := Lib.hid (HO.out.range hci)
      have HDR := Lib.hid hdr
      have HC := Lib.hid hc
      have hgl := HO.out.lt.2
      clear hc hdr hci
      go_upto_region 3 with fail
      refine wp_region_lit ?_
      refine wpList_valG (.slice (some ⟨g, 0, none⟩) l.length cap) (by rfl) (by rfl) ?_
      simp only [Act.put, List.setIfInBounds_toArray, List.set_cons_zero, List.set_cons_succ]
      refine wpList_valG (.int .i64 (i : Int)) (by rfl) (by rfl) ?_
      simp only [Act.put, List.setIfInBounds_toArray, List.set_cons_zero, List.set_cons_succ]
      refine wpList_valG (.pointer (some ⟨g, i * 8, none⟩)) (by rfl) (by go_simp) ?_
      simp only [Act.put, List.setIfInBounds_toArray, List.set_cons_zero, List.set_cons_succ]
      refine wpList_load_mid rfl 109 (.tmp 12) rfl g (i * 8) rfl (encCl c) _ HR.out Tryz.underlying109 rfl info_cell ?_
      simp only [Act.put, List.setIfInBounds_toArray, List.set_cons_zero, List.set_cons_succ, encCl]
      obtain ⟨cr, cm, ch, c1, c2, c3, c4, c5⟩ := c
      by_cases h0 : ch = 0
      · subst h0
        have HS := Lib.hid (mendL_zero (c := ⟨cr, cm, 0, c1, c2, c3, c4, c5⟩) rfl (l.drop (i + 1)))
        have hb : Below wr.heap.size wr (wr.alloc (.cells (encCl ⟨cr, cm, 0, c1, c2, c3, c4, c5⟩).toArray 109)) := below_allocs (Below.refl _ _) _
        have HB := Lib.hid hb
        clear hb
        go_wp2
        go_roundw
        case rel =>
          refine ⟨i + 1, P ++ [⟨cr, cm, 0, c1, c2, c3, c4, c5⟩], by go_num, by omega, by simp [HP.out], ?_, ?_, HM.out.then_below HB.out⟩
          · rw [HE.out, HDR.out, HS.out]; simp
          · have := HO.out.below HB.out
            rw [HDR.out] at this
            rw [List.append_assoc]
            exact this
        case measure => simp [intOf]; omega
      · have h0b : (ch == 0) = false := beq_eq_false_iff_ne.2 h0
        have hw : IntKind.i64.wrap ((l.length : Int) - 1) = (l.length : Int) - 1 := IntWalk.i64_in _ (by omega)
        by_cases h3 : ch = 3 ∧ i + 1 = l.length
        · obtain ⟨rfl, hil⟩ := h3
          have hib : ((i : Int) == (l.length : Int) - 1) = true := by simp; omega
          have hib2 : (l.length : Int) - 1 = (i : Int) := by omega
          have hnil : l.drop (i + 1) = [] := List.drop_eq_nil_of_le (by omega)
          have HS := Lib.hid (mendL_pad (c := ⟨cr, cm, 3, c1, c2, c3, c4, c5⟩) rfl)
          have HNI := Lib.hid hnil
          have HB := Lib.hid (below_allocs (Below.refl wr.heap.size wr) (.cells (encCl ⟨cr, cm, 3, c1, c2, c3, c4, c5⟩).toArray 109))
          clear hnil
          go_wp2
          go_roundw
          case rel =>
            refine ⟨i + 1, P ++ [⟨cr, cm, 3, c1, c2, c3, c4, c5⟩], by go_num, by omega, by simp [HP.out], ?_, ?_, HM.out.then_below HB.out⟩
            · rw [HE.out, HDR.out, HNI.out, HS.out]; simp [mendL]
            · have := HO.out.below HB.out
              rw [HDR.out] at this
              rw [List.append_assoc]
              exact this
          case measure => simp [intOf]; omega
        · have HEM := Lib.hid (fun w => cempty_any ⟨c1, c2, c3, c4, c5⟩ w)
          have h3b : ch = 3 → ((i : Int) == (l.length : Int) - 1) = false := fun e => beq_eq_false_iff_ne.2 (by omega)
          by_cases h1 : ch = 1
          · subst h1
            clear h0b h3b
            go_upto_region 6 with fail
            generalize hW : World.alloc _ _ = W
            have HBW := Lib.hid (show Below wr.heap.size wr W from by rw [← hW]; exact below_allocs (Below.refl _ _) _)
            have HCW := Lib.hid (show W.heap[wr.heap.size]? = some (.cells (encCl ⟨cr, cm, 1, c1, c2, c3, c4, c5⟩).toArray 109 (0, 0)) from by rw [← hW]; exact hp_new rfl)
            have HLW := Lib.hid (show wr.heap.size < W.heap.size from by rw [← hW]; simp)
            clear hW
            have x2 := (whole_at HCW.out 2 _ rfl).1
            obtain ⟨j, hj⟩ : ∃ j, j = i + 1 := ⟨_, rfl⟩
            have hjI : (i : Int) + 1 = (j : Int) := by omega
            have hwj : IntKind.i64.wrap (j : Int) = (j : Int) := IntWalk.i64_in _ (by omega)
            have HJ := Lib.hid hj
            by_cases hlast : i + 1 = l.length
            · have hjl : ¬ (j : Int) < (l.length : Int) := by omega
              clear hj
              refine wp_region_u 28 (fun w' => Below W.heap.size W w' ∧ w'.cell? ⟨wr.heap.size, 2, none⟩ = some (.int .i64 1)) (by kernel_rfl) (by kernel_rfl) ?_ ?_
              · exact ⟨(Below.refl _ _).drew, x2⟩
              simp only [List.take_succ_cons, List.take_zero, List.drop_succ_cons, List.drop_zero]
              repeat (first
                | (refine seqU_skip (by rfl) ?_; simp only [Act.put, List.setIfInBounds_toArray, List.set_cons_zero, List.set_cons_succ])
                | (refine seqU_val ?_ (by rfl) ?_ ?_; rotate_left; · (intro w' hS; obtain ⟨_, _⟩ := hS; go_simp; first | done | with_reducible rfl)
                   simp only [Act.put, List.setIfInBounds_toArray, List.set_cons_zero, List.set_cons_succ]))
              refine seqU_nil (fun w' hS => ?_)
              have HB6 := Lib.hid (below_tail HBW.out hS.1)
              have y3 := holda hS.1 (whole_at HCW.out 3 _ rfl).1
              have y4 := holda hS.1 (whole_at HCW.out 4 _ rfl).1
              have y5 := holda hS.1 (whole_at HCW.out 5 _ rfl).1
              have y6 := holda hS.1 (whole_at HCW.out 6 _ rfl).1
              have y7 := holda hS.1 (whole_at HCW.out 7 _ rfl).1
              clear hS x2
              go_wp2_with (first
                | (go_at_call 152; refine (HEM.out _).mono ?_; rintro e w1 ⟨rfl, hb1⟩; have HB7 := Lib.hid (below_tail HB6.out hb1); clear hb1; have HTH := Lib.hid ((HO.out.below HB7.out).there (i := i) (by rw [HDR.out, List.length_append, HP.out]; simp)))
                | (refine wpList_store_mid (op := ⟨none, .store 109 (.tmp 19) (.tmp 18), _, _, _, _⟩) rfl 109 (.tmp 19) (.tmp 18) rfl g (i * 8) (encCl (emptyA ⟨c1, c2, c3, c4, c5⟩)).toArray rfl rfl HTH.out info_cell (cl_one (emptyA ⟨c1, c2, c3, c4, c5⟩)) ?_))
              obtain ⟨k1, k2⟩ := (HO.out.below HB7.out).set (i := i) (by rw [HDR.out, List.length_append, HP.out]; simp) (emptyA ⟨c1, c2, c3, c4, c5⟩)
              have K1 := Lib.hid k1
              have K2 := Lib.hid k2
              clear k1 k2
              have HS := Lib.hid (mendL_other (c := ⟨cr, cm, 1, c1, c2, c3, c4, c5⟩) (l := l.drop (i + 1)) h0 (fun hh => by simp at hh) (fun d m e => by have := congrArg List.length e; rw [List.length_drop] at this; simp at this; have := HJ.out; omega))
              go_roundw
              case rel =>
                refine ⟨i + 1, P ++ [emptyA ⟨c1, c2, c3, c4, c5⟩], by go_num, by omega, by simp [HP.out], ?_, ?_, (HM.out.then_below HB7.out).trans K2.out (fun k hk => .inl hk)⟩
                · rw [HE.out, HDR.out, HS.out, List.append_assoc]; rfl
                · have hk := K1.out
                  rw [HDR.out, List.set_append_right _ _ (by rw [HP.out]; exact Nat.le_refl _), HP.out, Nat.sub_self, List.set_cons_zero] at hk
                  rw [List.append_assoc]
                  exact hk
              case measure => simp [intOf]; omega
            · have hjl : (j : Int) < (l.length : Int) := by omega
              obtain ⟨d, hd⟩ : ∃ d, l[j]? = some d := ⟨l[j], List.getElem?_eq_getElem (by omega)⟩
              have hdr2 : l.drop (i + 1) = d :: l.drop (i + 2) := by rw [← hj, List.drop_eq_getElem_cons (by omega), (List.getElem?_eq_some_iff.1 hd).2, hj]
              have hdi : (P ++ l.drop i)[j]? = some d := by rw [hj, List.getElem?_append_right (by rw [HP.out]; omega), HP.out, HDR.out, show i + 1 - i = 1 by omega, hdr2]; rfl
              have HRD := Lib.hid (range_below (HO.out.range hdi) HBW.out)
              have HDR2 := Lib.hid hdr2
              have z2 : W.cell? ⟨g, j * 8 + 2, none⟩ = some (.int .i64 d.half) := HRD.out 2 _ rfl
              have hjN : j < l.length := by omega
              clear hj hd hdr2 hdi
              by_cases hd2 : d.half = 2
              rotate_left
              · have hd2b : (d.half == 2) = false := beq_eq_false_iff_ne.2 hd2
                have HD2 := Lib.hid hd2
                refine wp_region_u 28 (fun w' => Below W.heap.size W w' ∧ w'.cell? ⟨wr.heap.size, 2, none⟩ = some (.int .i64 1) ∧ w'.cell? ⟨g, j * 8 + 2, none⟩ = some (.int .i64 d.half)) (by kernel_rfl) (by kernel_rfl) ?_ ?_
                · exact ⟨(Below.refl _ _).drew, x2, z2⟩
                simp only [List.take_succ_cons, List.take_zero, List.drop_succ_cons, List.drop_zero]
                repeat (first
                  | (refine seqU_skip (by rfl) ?_; simp only [Act.put, List.setIfInBounds_toArray, List.set_cons_zero, List.set_cons_succ])
                  | (refine seqU_val ?_ (by rfl) ?_ ?_; rotate_left; · (intro w' hS; obtain ⟨_, _, _⟩ := hS; go_simp; first | done | with_reducible rfl)
                     simp only [Act.put, List.setIfInBounds_toArray, List.set_cons_zero, List.set_cons_succ]))
                refine seqU_nil (fun w' hS => ?_)
                clear z2
                have HB6 := Lib.hid (below_tail HBW.out hS.1)
                have y3 := holda hS.1 (whole_at HCW.out 3 _ rfl).1
                have y4 := holda hS.1 (whole_at HCW.out 4 _ rfl).1
                have y5 := holda hS.1 (whole_at HCW.out 5 _ rfl).1
                have y6 := holda hS.1 (whole_at HCW.out 6 _ rfl).1
                have y7 := holda hS.1 (whole_at HCW.out 7 _ rfl).1
                clear hS x2
                go_wp2_with (first
                  | (go_at_call 152; refine (HEM.out _).mono ?_; rintro e w1 ⟨rfl, hb1⟩; have HB7 := Lib.hid (below_tail HB6.out hb1); clear hb1; have HTH := Lib.hid ((HO.out.below HB7.out).there (i := i) (by rw [HDR.out, List.length_append, HP.out]; simp)))
                  | (refine wpList_store_mid (op := ⟨none, .store 109 (.tmp 19) (.tmp 18), _, _, _, _⟩) rfl 109 (.tmp 19) (.tmp 18) rfl g (i * 8) (encCl (emptyA ⟨c1, c2, c3, c4, c5⟩)).toArray rfl rfl HTH.out info_cell (cl_one (emptyA ⟨c1, c2, c3, c4, c5⟩)) ?_))
                obtain ⟨k1, k2⟩ := (HO.out.below HB7.out).set (i := i) (by rw [HDR.out, List.length_append, HP.out]; simp) (emptyA ⟨c1, c2, c3, c4, c5⟩)
                have K1 := Lib.hid k1
                have K2 := Lib.hid k2
                clear k1 k2
                have HS := Lib.hid (mendL_other (c := ⟨cr, cm, 1, c1, c2, c3, c4, c5⟩) (l := l.drop (i + 1)) h0 (fun hh => by simp at hh) (fun d' m e => by rw [HDR2.out] at e; injection e with e1 e2; subst e1; unfold pairB; simp [HD2.out]))
                go_roundw
                case rel =>
                  refine ⟨i + 1, P ++ [emptyA ⟨c1, c2, c3, c4, c5⟩], by go_num, by omega, by simp [HP.out], ?_, ?_, (HM.out.then_below HB7.out).trans K2.out (fun k hk => .inl hk)⟩
                  · rw [HE.out, HDR.out, HS.out, List.append_assoc]; rfl
                  · have hk := K1.out
                    rw [HDR.out, List.set_append_right _ _ (by rw [HP.out]; exact Nat.le_refl _), HP.out, Nat.sub_self, List.set_cons_zero] at hk
                    rw [List.append_assoc]
                    exact hk
                case measure => simp [intOf]; omega
              · have HPA := Lib.hid (fun w' => cpair_any ⟨cr, cm, 1, c1, c2, c3, c4, c5⟩ d w')
                have HD2 := Lib.hid hd2
                rw [hd2] at z2
                have HRC := Lib.hid (range_new HCW.out)
                cases hp : pairH ⟨cr, cm, 1, c1, c2, c3, c4, c5⟩ d with
                | false =>
                  rw [hp] at HPA
                  have HPF := Lib.hid hp
                  clear hp hd2
                  refine wp_region_u 28 (fun w' => Below W.heap.size W w' ∧ w'.cell? ⟨wr.heap.size, 2, none⟩ = some (.int .i64 1) ∧ w'.cell? ⟨g, j * 8 + 2, none⟩ = some (.int .i64 2) ∧ w'.rangeAt wr.heap.size 0 (encCl ⟨cr, cm, 1, c1, c2, c3, c4, c5⟩) ∧ w'.rangeAt g (j * 8) (encCl d)) (by kernel_rfl) (by kernel_rfl) ?_ ?_
                  · exact ⟨(Below.refl _ _).drew, x2, z2, HRC.out, HRD.out⟩
                  simp only [List.take_succ_cons, List.take_zero, List.drop_succ_cons, List.drop_zero]
                  repeat (first
                    | (refine seqU_skip (by rfl) ?_; simp only [Act.put, List.setIfInBounds_toArray, List.set_cons_zero, List.set_cons_succ])
                    | (refine seqU_val (.agg (encCl ⟨cr, cm, 1, c1, c2, c3, c4, c5⟩).toArray) (by rfl) (fun w' hS => exec_load 109 (.tmp 3) rfl wr.heap.size 0 rfl (encCl ⟨cr, cm, 1, c1, c2, c3, c4, c5⟩) _ hS.2.2.2.1 Tryz.underlying109 rfl info_cell) ?_
                       simp only [Act.put, List.setIfInBounds_toArray, List.set_cons_zero, List.set_cons_succ])
                    | (refine seqU_val (.agg (encCl d).toArray) (by rfl) (fun w' hS => exec_load 109 (.tmp 61) rfl g (j * 8) rfl (encCl d) _ hS.2.2.2.2 Tryz.underlying109 rfl info_cell) ?_
                       simp only [Act.put, List.setIfInBounds_toArray, List.set_cons_zero, List.set_cons_succ])
                    | (refine seqU_call 151 #[.agg (encCl ⟨cr, cm, 1, c1, c2, c3, c4, c5⟩).toArray, .agg (encCl d).toArray] (.bool false) (by rfl) ?_ (fun w' hS => (HPA.out w').mono fun e w2 ⟨he, hb⟩ => ⟨he, below_tail hS.1 hb, holda hb hS.2.1, holda hb hS.2.2.1, range_below hS.2.2.2.1 hb, range_below hS.2.2.2.2 hb⟩) ?_; · (intro w'; go_simp; done)
                       simp only [Act.put, List.setIfInBounds_toArray, List.set_cons_zero, List.set_cons_succ])
                    | (refine seqU_val ?_ (by rfl) ?_ ?_; rotate_left; · (intro w' hS; obtain ⟨_, _, _, _, _⟩ := hS; go_simp; first | done | with_reducible rfl)
                       simp only [Act.put, List.setIfInBounds_toArray, List.set_cons_zero, List.set_cons_succ]))
                  refine seqU_nil (fun w' hS => ?_)
                  clear z2
                  have HB6 := Lib.hid (below_tail HBW.out hS.1)
                  have y3 := holda hS.1 (whole_at HCW.out 3 _ rfl).1
                  have y4 := holda hS.1 (whole_at HCW.out 4 _ rfl).1
                  have y5 := holda hS.1 (whole_at HCW.out 5 _ rfl).1
                  have y6 := holda hS.1 (whole_at HCW.out 6 _ rfl).1
                  have y7 := holda hS.1 (whole_at HCW.out 7 _ rfl).1
                  clear hS x2
                  go_wp2_with (first
                    | (go_at_call 152; refine (HEM.out _).mono ?_; rintro e w1 ⟨rfl, hb1⟩; have HB7 := Lib.hid (below_tail HB6.out hb1); clear hb1; have HTH := Lib.hid ((HO.out.below HB7.out).there (i := i) (by rw [HDR.out, List.length_append, HP.out]; simp)))
                    | (refine wpList_store_mid (op := ⟨none, .store 109 (.tmp 19) (.tmp 18), _, _, _, _⟩) rfl 109 (.tmp 19) (.tmp 18) rfl g (i * 8) (encCl (emptyA ⟨c1, c2, c3, c4, c5⟩)).toArray rfl rfl HTH.out info_cell (cl_one (emptyA ⟨c1, c2, c3, c4, c5⟩)) ?_))
                  obtain ⟨k1, k2⟩ := (HO.out.below HB7.out).set (i := i) (by rw [HDR.out, List.length_append, HP.out]; simp) (emptyA ⟨c1, c2, c3, c4, c5⟩)
                  have K1 := Lib.hid k1
                  have K2 := Lib.hid k2
                  clear k1 k2
                  have HS := Lib.hid (mendL_other (c := ⟨cr, cm, 1, c1, c2, c3, c4, c5⟩) (l := l.drop (i + 1)) h0 (fun hh => by simp at hh) (fun d' m e => by rw [HDR2.out] at e; injection e with e1 e2; subst e1; rw [pairB_H, HPF.out]; rfl))
                  go_roundw
                  case rel =>
                    refine ⟨i + 1, P ++ [emptyA ⟨c1, c2, c3, c4, c5⟩], by go_num, by omega, by simp [HP.out], ?_, ?_, (HM.out.then_below HB7.out).trans K2.out (fun k hk => .inl hk)⟩
                    · rw [HE.out, HDR.out, HS.out, List.append_assoc]; rfl
                    · have hk := K1.out
                      rw [HDR.out, List.set_append_right _ _ (by rw [HP.out]; exact Nat.le_refl _), HP.out, Nat.sub_self, List.set_cons_zero] at hk
                      rw [List.append_assoc]
                      exact hk
                  case measure => simp [intOf]; omega
                | true =>
                  rw [hp] at HPA
                  have HPF := Lib.hid hp
                  clear hp hd2
                  refine wp_region_u 28 (fun w' => Below W.heap.size W w' ∧ w'.cell? ⟨wr.heap.size, 2, none⟩ = some (.int .i64 1) ∧ w'.cell? ⟨g, j * 8 + 2, none⟩ = some (.int .i64 2) ∧ w'.rangeAt wr.heap.size 0 (encCl ⟨cr, cm, 1, c1, c2, c3, c4, c5⟩) ∧ w'.rangeAt g (j * 8) (encCl d)) (by kernel_rfl) (by kernel_rfl) ?_ ?_
                  · exact ⟨(Below.refl _ _).drew, x2, z2, HRC.out, HRD.out⟩
                  simp only [List.take_succ_cons, List.take_zero, List.drop_succ_cons, List.drop_zero]
                  repeat (first
                    | (refine seqU_skip (by rfl) ?_; simp only [Act.put, List.setIfInBounds_toArray, List.set_cons_zero, List.set_cons_succ])
                    | (refine seqU_val (.agg (encCl ⟨cr, cm, 1, c1, c2, c3, c4, c5⟩).toArray) (by rfl) (fun w' hS => exec_load 109 (.tmp 3) rfl wr.heap.size 0 rfl (encCl ⟨cr, cm, 1, c1, c2, c3, c4, c5⟩) _ hS.2.2.2.1 Tryz.underlying109 rfl info_cell) ?_
                       simp only [Act.put, List.setIfInBounds_toArray, List.set_cons_zero, List.set_cons_succ])
                    | (refine seqU_val (.agg (encCl d).toArray) (by rfl) (fun w' hS => exec_load 109 (.tmp 61) rfl g (j * 8) rfl (encCl d) _ hS.2.2.2.2 Tryz.underlying109 rfl info_cell) ?_
                       simp only [Act.put, List.setIfInBounds_toArray, List.set_cons_zero, List.set_cons_succ])
                    | (refine seqU_call 151 #[.agg (encCl ⟨cr, cm, 1, c1, c2, c3, c4, c5⟩).toArray, .agg (encCl d).toArray] (.bool true) (by rfl) ?_ (fun w' hS => (HPA.out w').mono fun e w2 ⟨he, hb⟩ => ⟨he, below_tail hS.1 hb, holda hb hS.2.1, holda hb hS.2.2.1, range_below hS.2.2.2.1 hb, range_below hS.2.2.2.2 hb⟩) ?_; · (intro w'; go_simp; done)
                       simp only [Act.put, List.setIfInBounds_toArray, List.set_cons_zero, List.set_cons_succ])
                    | (refine seqU_val ?_ (by rfl) ?_ ?_; rotate_left; · (intro w' hS; obtain ⟨_, _, _, _, _⟩ := hS; go_simp; first | done | with_reducible rfl)
                       simp only [Act.put, List.setIfInBounds_toArray, List.set_cons_zero, List.set_cons_succ]))
                  refine seqU_nil (fun w' hS => ?_)
                  have HB6 := Lib.hid (below_tail HBW.out hS.1)
                  clear hS x2 z2
                  have HS := Lib.hid (mendL_pair (c := ⟨cr, cm, 1, c1, c2, c3, c4, c5⟩) (d := d) (by rw [pairB_H, HPF.out, HD2.out]; rfl) (l.drop (i + 2)))
                  go_wp2
                  go_roundw
                  case rel =>
                    refine ⟨i + 2, P ++ [⟨cr, cm, 1, c1, c2, c3, c4, c5⟩, d], by have := HJ.out; go_num, by have := HJ.out; omega, by simp [HP.out], ?_, ?_, HM.out.then_below HB6.out⟩
                    · rw [HE.out, HDR.out, HDR2.out, HS.out]; simp
                    · have hk := HO.out.below HB6.out
                      rw [HDR.out, HDR2.out] at hk
                      rw [List.append_assoc]
                      exact hk
                  case measure => have := HJ.out; simp [intOf]; omega
          · have h1b : (ch == 1) = false := beq_eq_false_iff_ne.2 h1
            by_cases h33 : ch = 3
            · subst h33
              have hib := h3b rfl
              clear h3b h0b
              go_upto_region 6 with fail
              generalize hW : World.alloc _ _ = W
              have HBW := Lib.hid (show Below wr.heap.size wr W from by rw [← hW]; exact below_allocs (Below.refl _ _) _)
              have HCW := Lib.hid (show W.heap[wr.heap.size]? = some (.cells (encCl ⟨cr, cm, 3, c1, c2, c3, c4, c5⟩).toArray 109 (0, 0)) from by rw [← hW]; exact hp_new rfl)
              have HLW := Lib.hid (show wr.heap.size < W.heap.size from by rw [← hW]; simp)
              clear hW
              have x2 := (whole_at HCW.out 2 _ rfl).1
              refine wp_region_u 28 (fun w' => Below W.heap.size W w' ∧ w'.cell? ⟨wr.heap.size, 2, none⟩ = some (.int .i64 3)) (by kernel_rfl) (by kernel_rfl) ?_ ?_
              · exact ⟨(Below.refl _ _).drew, x2⟩
              simp only [List.take_succ_cons, List.take_zero, List.drop_succ_cons, List.drop_zero]
              repeat (first
                | (refine seqU_skip (by rfl) ?_; simp only [Act.put, List.setIfInBounds_toArray, List.set_cons_zero, List.set_cons_succ])
                | (refine seqU_val ?_ (by rfl) ?_ ?_; rotate_left; · (intro w' hS; obtain ⟨_, _⟩ := hS; go_simp; first | done | with_reducible rfl)
                   simp only [Act.put, List.setIfInBounds_toArray, List.set_cons_zero, List.set_cons_succ]))
              refine seqU_nil (fun w' hS => ?_)
              have HB6 := Lib.hid (below_tail HBW.out hS.1)
              have y3 := holda hS.1 (whole_at HCW.out 3 _ rfl).1
              have y4 := holda hS.1 (whole_at HCW.out 4 _ rfl).1
              have y5 := holda hS.1 (whole_at HCW.out 5 _ rfl).1
              have y6 := holda hS.1 (whole_at HCW.out 6 _ rfl).1
              have y7 := holda hS.1 (whole_at HCW.out 7 _ rfl).1
              clear hS x2
              go_wp2_with (first
                | (go_at_call 152; refine (HEM.out _).mono ?_; rintro e w1 ⟨rfl, hb1⟩; have HB7 := Lib.hid (below_tail HB6.out hb1); clear hb1; have HTH := Lib.hid ((HO.out.below HB7.out).there (i := i) (by rw [HDR.out, List.length_append, HP.out]; simp)))
                | (refine wpList_store_mid (op := ⟨none, .store 109 (.tmp 19) (.tmp 18), _, _, _, _⟩) rfl 109 (.tmp 19) (.tmp 18) rfl g (i * 8) (encCl (emptyA ⟨c1, c2, c3, c4, c5⟩)).toArray rfl rfl HTH.out info_cell (cl_one (emptyA ⟨c1, c2, c3, c4, c5⟩)) ?_))
              obtain ⟨k1, k2⟩ := (HO.out.below HB7.out).set (i := i) (by rw [HDR.out, List.length_append, HP.out]; simp) (emptyA ⟨c1, c2, c3, c4, c5⟩)
              have K1 := Lib.hid k1
              have K2 := Lib.hid k2
              clear k1 k2
              have HS := Lib.hid (mendL_other (c := ⟨cr, cm, 3, c1, c2, c3, c4, c5⟩) (l := l.drop (i + 1)) (by simp) (fun hh => by have h5 := congrArg List.length hh.2; rw [List.length_drop, List.length_nil] at h5; have h6 : (i : Int) = (l.length : Int) - 1 := (by omega); exact (beq_eq_false_iff_ne.1 hib) h6) (fun d m _ => rfl))
              go_roundw
              case rel =>
                refine ⟨i + 1, P ++ [emptyA ⟨c1, c2, c3, c4, c5⟩], by go_num, by omega, by simp [HP.out], ?_, ?_, (HM.out.then_below HB7.out).trans K2.out (fun k hk => .inl hk)⟩
                · rw [HE.out, HDR.out, HS.out, List.append_assoc]; rfl
                · have hk := K1.out
                  rw [HDR.out, List.set_append_right _ _ (by rw [HP.out]; exact Nat.le_refl _), HP.out, Nat.sub_self, List.set_cons_zero] at hk
                  rw [List.append_assoc]
                  exact hk
              case measure => simp [intOf]; omega
            · have h3c : (ch == 3) = false := beq_eq_false_iff_ne.2 h33
              clear h3b
              go_upto_region 6 with fail
              generalize hW : World.alloc _ _ = W
              have HBW := Lib.hid (show Below wr.heap.size wr W from by rw [← hW]; exact below_allocs (Below.refl _ _) _)
              have HCW := Lib.hid (show W.heap[wr.heap.size]? = some (.cells (encCl ⟨cr, cm, ch, c1, c2, c3, c4, c5⟩).toArray 109 (0, 0)) from by rw [← hW]; exact hp_new rfl)
              have HLW := Lib.hid (show wr.heap.size < W.heap.size from by rw [← hW]; simp)
              clear hW
              have x2 := (whole_at HCW.out 2 _ rfl).1
              refine wp_region_u 28 (fun w' => Below W.heap.size W w' ∧ w'.cell? ⟨wr.heap.size, 2, none⟩ = some (.int .i64 ch)) (by kernel_rfl) (by kernel_rfl) ?_ ?_
              · exact ⟨(Below.refl _ _).drew, x2⟩
              simp only [List.take_succ_cons, List.take_zero, List.drop_succ_cons, List.drop_zero]
              repeat (first
                | (refine seqU_skip (by rfl) ?_; simp only [Act.put, List.setIfInBounds_toArray, List.set_cons_zero, List.set_cons_succ])
                | (refine seqU_val ?_ (by rfl) ?_ ?_; rotate_left; · (intro w' hS; obtain ⟨_, _⟩ := hS; go_simp; first | done | with_reducible rfl)
                   simp only [Act.put, List.setIfInBounds_toArray, List.set_cons_zero, List.set_cons_succ]))
              refine seqU_nil (fun w' hS => ?_)
              have HB6 := Lib.hid (below_tail HBW.out hS.1)
              have y3 := holda hS.1 (whole_at HCW.out 3 _ rfl).1
              have y4 := holda hS.1 (whole_at HCW.out 4 _ rfl).1
              have y5 := holda hS.1 (whole_at HCW.out 5 _ rfl).1
              have y6 := holda hS.1 (whole_at HCW.out 6 _ rfl).1
              have y7 := holda hS.1 (whole_at HCW.out 7 _ rfl).1
              clear hS x2
              go_wp2_with (first
                | (go_at_call 152; refine (HEM.out _).mono ?_; rintro e w1 ⟨rfl, hb1⟩; have HB7 := Lib.hid (below_tail HB6.out hb1); clear hb1; have HTH := Lib.hid ((HO.out.below HB7.out).there (i := i) (by rw [HDR.out, List.length_append, HP.out]; simp)))
                | (refine wpList_store_mid (op := ⟨none, .store 109 (.tmp 19) (.tmp 18), _, _, _, _⟩) rfl 109 (.tmp 19) (.tmp 18) rfl g (i * 8) (encCl (emptyA ⟨c1, c2, c3, c4, c5⟩)).toArray rfl rfl HTH.out info_cell (cl_one (emptyA ⟨c1, c2, c3, c4, c5⟩)) ?_))
              obtain ⟨k1, k2⟩ := (HO.out.below HB7.out).set (i := i) (by rw [HDR.out, List.length_append, HP.out]; simp) (emptyA ⟨c1, c2, c3, c4, c5⟩)
              have K1 := Lib.hid k1
              have K2 := Lib.hid k2
              clear k1 k2
              have HS := Lib.hid (mendL_other (c := ⟨cr, cm, ch, c1, c2, c3, c4, c5⟩) (l := l.drop (i + 1)) h0 (fun hh => h33 hh.1) (fun d m _ => by unfold pairB; simp [h1]))
              go_roundw
              case rel =>
                refine ⟨i + 1, P ++ [emptyA ⟨c1, c2, c3, c4, c5⟩], by go_num, by omega, by simp [HP.out], ?_, ?_, (HM.out.then_below HB7.out).trans K2.out (fun k hk => .inl hk)⟩
                · rw [HE.out, HDR.out, HS.out, List.append_assoc]; rfl
                · have hk := K1.out
                  rw [HDR.out, List.set_append_right _ _ (by rw [HP.out]; exact Nat.le_refl _), HP.out, Nat.sub_self, List.set_cons_zero] at hk
                  rw [List.append_assoc]
                  exact hk
              case measure => simp [intOf]; omega
end Go.Proofs.YtffdblmdelgkaaaGreat
