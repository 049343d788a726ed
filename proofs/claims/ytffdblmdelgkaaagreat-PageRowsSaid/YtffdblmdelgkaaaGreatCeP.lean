/- Plain: widths; what a row of cells becomes. Conditions: none. -/
import Derived.Test.YtffdblmdelgkaaaGreatClA
namespace Go.Proofs.YtffdblmdelgkaaaGreat

def marksT : List (Int × Int) := [(0x300, 0x36f), (0x483, 0x489), (0x591, 0x5bd), (0x610, 0x61a), (0x64b, 0x65f), (0x900, 0x902), (0x93c, 0x93c), (0x941, 0x948), (0xe31, 0xe31), (0xe34, 0xe3a), (0x1ab0, 0x1aff), (0x1dc0, 0x1dff), (0x200b, 0x200f), (0x20d0, 0x20ff), (0x2060, 0x2064), (0xfe00, 0xfe0f), (0xfe20, 0xfe2f), (0xfeff, 0xfeff), (0xe0100, 0xe01ef)]
def widesT : List (Int × Int) := [(0x1100, 0x115f), (0x231a, 0x231b), (0x2329, 0x232a), (0x23e9, 0x23ec), (0x25fd, 0x25fe), (0x2614, 0x2615), (0x2e80, 0x303e), (0x3041, 0x33ff), (0x3400, 0x4dbf), (0x4e00, 0x9fff), (0xa000, 0xa4cf), (0xa960, 0xa97f), (0xac00, 0xd7a3), (0xf900, 0xfaff), (0xfe30, 0xfe6f), (0xff00, 0xff60), (0xffe0, 0xffe6), (0x1f300, 0x1f64f), (0x1f680, 0x1f6ff), (0x1f900, 0x1f9ff), (0x20000, 0x2fffd), (0x30000, 0x3fffd)]
def amongB (l : List (Int × Int)) (r : Int) : Bool := l.any (fun x => decide (x.1 ≤ r) && decide (r ≤ x.2))
def noneW (r : Int) : Bool := decide (r < 32) || (decide (127 ≤ r) && decide (r < 160)) || (decide (0xd800 ≤ r) && decide (r < 0xe000)) || decide (0x10ffff < r)
/-- A scalar's width. -/
def widOf (r : Int) : Int := if noneW r then -1 else if amongB marksT r then 0 else if amongB widesT r then 2 else 1
theorem among_low {r : Int} (h : r < 0x300) : amongB marksT r = false ∧ amongB widesT r = false := by
  constructor <;>
  · simp only [amongB, marksT, widesT, List.any_cons, List.any_nil, Bool.or_false, Bool.or_eq_false_iff, Bool.and_eq_false_iff, decide_eq_false_iff_not]
    omega
theorem widOf_low {r : Int} (h : r < 0x300) : widOf r = if noneW r then -1 else 1 := by
  unfold widOf
  rw [(among_low h).1, (among_low h).2]
  rfl
/-- An attribute, and a color. -/
structure Atr where
  fk : Int
  fn : Int
  bk : Int
  bn : Int
  fl : Int
structure Col where
  k : Int
  n : Int
def atrOf (c : Cl) : Atr := ⟨c.fk, c.fn, c.bk, c.bn, c.fl⟩
def mkCl (r : Int) (more : ByteArray) (half : Int) (a : Atr) : Cl := ⟨r, more, half, a.fk, a.fn, a.bk, a.bn, a.fl⟩
def emptyA (a : Atr) : Cl := mkCl 0 ByteArray.empty 0 a
def emptyC (c : Cl) : Cl := emptyA (atrOf c)
def blankC (b : Col) : Cl := emptyA ⟨0, 0, b.k, b.n, 0⟩
def padC : Cl := mkCl 0 ByteArray.empty 3 ⟨0, 0, 0, 0, 0⟩
def pairB (a b : Cl) : Bool := decide (a.half = 1) && decide (b.half = 2) && decide (a = { b with half := 1 })
/-- A row, mended. -/
def mendL : List Cl → List Cl
  | [] => []
  | [c] => if c.half = 0 ∨ c.half = 3 then [c] else [emptyC c]
  | c :: d :: l => if c.half = 0 then c :: mendL (d :: l) else if pairB c d then c :: d :: mendL l else emptyC c :: mendL (d :: l)
theorem mendL_cons (c d : Cl) (l : List Cl) : mendL (c :: d :: l) = if c.half = 0 then c :: mendL (d :: l) else if pairB c d then c :: d :: mendL l else emptyC c :: mendL (d :: l) := by rw [mendL]
theorem mendL_one (c : Cl) : mendL [c] = if c.half = 0 ∨ c.half = 3 then [c] else [emptyC c] := by rw [mendL]
theorem mendL_len : ∀ l : List Cl, (mendL l).length = l.length
  | [] => rfl
  | [c] => by rw [mendL]; split <;> rfl
  | c :: d :: l => by
    rw [mendL]
    have h1 := mendL_len (d :: l)
    have h2 := mendL_len l
    split
    · simp only [List.length_cons] at h1 ⊢; omega
    split
    · simp only [List.length_cons]; omega
    · simp only [List.length_cons] at h1 ⊢; omega
theorem mendL_zero {c : Cl} (h : c.half = 0) (l : List Cl) : mendL (c :: l) = c :: mendL l := by
  match l with
  | [] => rw [mendL_one, if_pos (Or.inl h)]; rfl
  | d :: l => rw [mendL, if_pos h]
theorem mendL_idem : ∀ l : List Cl, mendL (mendL l) = mendL l
  | [] => rfl
  | [c] => by
    rw [mendL]
    split
    · next h => rw [mendL, if_pos h]
    · rw [mendL_zero rfl]; rfl
  | c :: d :: l => by
    have h1 := mendL_idem (d :: l)
    have h2 := mendL_idem l
    rw [mendL]
    split
    · next h => rw [mendL_zero h, h1]
    split
    · next h hp => rw [mendL, if_neg h, if_pos hp, h2]
    · rw [mendL_zero rfl, h1]
/-- A scalar is written. -/
def putL (l : List Cl) (x r : Int) (a : Atr) : List Cl :=
  let o := mendL l
  if widOf r = 1 ∧ 0 ≤ x ∧ x < o.length then mendL (o.set x.toNat (mkCl r ByteArray.empty 0 a))
  else if widOf r = 2 ∧ 0 ≤ x ∧ x + 1 < o.length then mendL ((o.set x.toNat (mkCl r ByteArray.empty 1 a)).set (x.toNat + 1) (mkCl r ByteArray.empty 2 a))
  else o
def closeL (l : List Cl) : List Cl := mendL ((mendL l).set (l.length - 1) padC)
def wipeL (b : Col) (x y : Int) (l : List Cl) : List Cl := l.mapIdx (fun i c => if x ≤ i ∧ (i : Int) < y then blankC b else c)
def eraseL (l : List Cl) (x y : Int) (b : Col) : List Cl := mendL (wipeL b x y (mendL l))
def insertL (l : List Cl) (x n : Int) (b : Col) : List Cl :=
  let o := mendL l
  if x < 0 ∨ (o.length : Int) ≤ x ∨ n < 1 then o
  else mendL ((o.take x.toNat ++ List.replicate n.toNat (blankC b) ++ o.drop x.toNat).take o.length)
def deleteL (l : List Cl) (x n : Int) (b : Col) : List Cl :=
  let o := mendL l
  if x < 0 ∨ (o.length : Int) ≤ x ∨ n < 1 then o
  else mendL ((o.take x.toNat ++ o.drop (x.toNat + n.toNat) ++ List.replicate n.toNat (blankC b)).take o.length)
def usedL (l : List Cl) : Nat := (l.reverse.dropWhile (fun c => decide (c.r = 0))).length
theorem setL_len {l : List Cl} {i : Nat} {c : Cl} : (l.set i c).length = l.length := List.length_set ..
theorem putL_len (l : List Cl) (x r : Int) (a : Atr) : (putL l x r a).length = l.length := by
  unfold putL
  simp only []
  split
  · rw [mendL_len, List.length_set, mendL_len]
  split
  · rw [mendL_len, List.length_set, List.length_set, mendL_len]
  · rw [mendL_len]
theorem closeL_len (l : List Cl) : (closeL l).length = l.length := by unfold closeL; rw [mendL_len, List.length_set, mendL_len]
theorem eraseL_len (l : List Cl) (x y : Int) (b : Col) : (eraseL l x y b).length = l.length := by unfold eraseL wipeL; rw [mendL_len, List.length_mapIdx, mendL_len]
theorem insertL_len (l : List Cl) (x n : Int) (b : Col) : (insertL l x n b).length = l.length := by
  unfold insertL
  simp only []
  split
  · exact mendL_len l
  · rw [mendL_len, List.length_take]
    have := mendL_len l
    simp only [List.length_append, List.length_take, List.length_replicate, List.length_drop]
    omega
theorem deleteL_len (l : List Cl) (x n : Int) (b : Col) : (deleteL l x n b).length = l.length := by
  unfold deleteL
  simp only []
  split
  · exact mendL_len l
  · next h =>
    rw [mendL_len, List.length_take]
    have := mendL_len l
    simp only [List.length_append, List.length_take, List.length_replicate, List.length_drop]
    omega
end Go.Proofs.YtffdblmdelgkaaaGreat
