/- Joined by a tool of this claim out of smaller texts. Conditions: as stated. -/
import Derived.Test.YtjcpdcncfjkejaaGreatRows
import Derived.WalkKit
import Derived.WalkSpells
import Derived.WalkLawsBesides
import Derived.Lib.Hide
import Derived.Outline
import Derived.Laws.ShiftsVarLaws
import Derived.Laws.AppendOwn
import Derived.Maps.AppendAt
import Derived.ProofKit
import Derived.Tactics
import Derived.StillTail
import Derived.OwnWalk
set_option linter.unusedVariables false
set_option linter.unusedSimpArgs false
namespace Go.Proofs.YtjcpdcncfjkejaaGreat
open Go.RowKit
theorem lt_of_cell {W : World} {b o : Nat} {v : Value} (h : W.cell? ⟨b, o, none⟩ = some v) : b < W.heap.size := World.block_lt_of_cell? W ⟨b, o, none⟩ h
theorem hold {W w1 : World} (hb : Below W.heap.size W w1) {b o : Nat} {v : Value} (h : W.cell? ⟨b, o, none⟩ = some v ∧ W.frozen? ⟨b, o, none⟩ = false) :
    w1.cell? ⟨b, o, none⟩ = some v ∧ w1.frozen? ⟨b, o, none⟩ = false :=
  ⟨(hb.cell (p := ⟨b, o, none⟩) (lt_of_cell h.1)).trans h.1, (hb.frozen (p := ⟨b, o, none⟩) (lt_of_cell h.1)).trans h.2⟩
theorem holda {W w1 : World} (hb : Below W.heap.size W w1) {a : Addr} {v : Value} (h : W.cell? a = some v) : w1.cell? a = some v :=
  (hb.cell (World.block_lt_of_cell? W a h)).trans h
/-- Behind the call's own new blocks. -/
theorem below_tail {W w1 w2 : World} (h : Below W.heap.size W w1) (hb : Below w1.heap.size w1 w2) : Below W.heap.size W w2 := h.trans (hb.mono h.size)
theorem below_allocs {W w1 : World} (h : Below W.heap.size W w1) (o : Obj) : Below W.heap.size W (w1.alloc o) := h.alloc h.size o
theorem below_set {W w1 : World} (h : Below W.heap.size W w1) {b o : Nat} (hb : W.heap.size ≤ b) (v : Value) : Below W.heap.size W (w1.setCell ⟨b, o, none⟩ v) := h.setCell (p := ⟨b, o, none⟩) hb v
theorem heap_alloc_get (w : World) (o : Obj) (k : Nat) : (w.alloc o).heap[k]? = if k = w.heap.size then some o else w.heap[k]? := by
  show (w.heap.push o)[k]? = _
  rw [Array.getElem?_push]
theorem hp_new {W : World} {b : Nat} {o : Obj} (h : W.heap.size = b) : (W.alloc o).heap[b]? = some o := by rw [heap_alloc_get, if_pos h.symm]
theorem hp_old {W : World} {b : Nat} {o x : Obj} (h : W.heap[b]? = some x) : (W.alloc o).heap[b]? = some x := by
  rw [heap_alloc_get, if_neg, h]
  rintro rfl
  rw [Array.getElem?_eq_none (Nat.le_refl _)] at h; cases h
theorem at_new {W w1 : World} {b : Nat} {cs : Array Value} {t : TypeId} (hb : Below W.heap.size W w1) (h : W.heap[b]? = some (.cells cs t (0, 0))) (i : Nat) (v : Value) (hv : cs[i]? = some v) :
    w1.cell? ⟨b, i, none⟩ = some v ∧ w1.frozen? ⟨b, i, none⟩ = false := by
  have hlt : b < W.heap.size := by
    rcases Nat.lt_or_ge b W.heap.size with hlt | hge
    · exact hlt
    · rw [Array.getElem?_eq_none hge] at h; cases h
  refine ⟨(hb.cell (p := ⟨b, i, none⟩) hlt).trans ?_, (hb.frozen (p := ⟨b, i, none⟩) hlt).trans ?_⟩
  · simp [World.cell?, h, hv]
  · simp [World.frozen?, h]
theorem set_self {W : World} {b i : Nat} {u v : Value} (h : W.cell? ⟨b, i, none⟩ = some v ∧ W.frozen? ⟨b, i, none⟩ = false) : (W.setCell ⟨b, i, none⟩ u).cell? ⟨b, i, none⟩ = some u ∧ (W.setCell ⟨b, i, none⟩ u).frozen? ⟨b, i, none⟩ = false := by
  have h1 := h.1
  have e : (W.setCell ⟨b, i, none⟩ u).frozen? ⟨b, i, none⟩ = W.frozen? ⟨b, i, none⟩ := by simp [go_sem]
  refine ⟨by simp [go_sem, h1], by rw [e]; exact h.2⟩
end Go.Proofs.YtjcpdcncfjkejaaGreat

namespace Go.Proofs.YtjcpdcncfjkejaaGreat
open Go.RowKit
theorem at_ {W : World} {b : Nat} {cs : Array Value} {t : TypeId} (h : W.heap[b]? = some (.cells cs t (0, 0))) (i : Nat) (v : Value) (hv : cs[i]? = some v) : W.cell? ⟨b, i, none⟩ = some v ∧ W.frozen? ⟨b, i, none⟩ = false := by
  refine ⟨?_, ?_⟩
  · simp [World.cell?, h, hv]
  · simp [World.frozen?, h]
end Go.Proofs.YtjcpdcncfjkejaaGreat

namespace Go.Proofs.YtjcpdcncfjkejaaGreat
open Go.RowKit
structure Cl where
  r : Int
  more : ByteArray
  half : Int
  fk : Int
  fn : Int
  bk : Int
  bn : Int
  fl : Int
deriving DecidableEq
def clV (c : Cl) : Value := .agg #[.int .i32 c.r, .string c.more, .int .i64 c.half, .int .i64 c.fk, .int .i64 c.fn, .int .i64 c.bk, .int .i64 c.bn, .int .i64 c.fl]
theorem cl_eq_iff (a b : Cl) : a = b ↔ a.r = b.r ∧ a.more.toList = b.more.toList ∧ a.half = b.half ∧ a.fk = b.fk ∧ a.fn = b.fn ∧ a.bk = b.bk ∧ a.bn = b.bn ∧ a.fl = b.fl := by
  obtain ⟨a0, a1, a2, a3, a4, a5, a6, a7⟩ := a
  obtain ⟨b0, b1, b2, b3, b4, b5, b6, b7⟩ := b
  simp only [Cl.mk.injEq]
  constructor
  · rintro ⟨h0, h1, h2, h3, h4, h5, h6, h7⟩
    exact ⟨h0, by rw [h1], h2, h3, h4, h5, h6, h7⟩
  · rintro ⟨h0, h1, h2, h3, h4, h5, h6, h7⟩
    exact ⟨h0, WideShapes.bytes_inj (by rw [← ByteArray.toList_eq, ← ByteArray.toList_eq, h1]), h2, h3, h4, h5, h6, h7⟩
theorem exec_eql_cell (ρ : Operand → Value) (dst : Option Tmp) (ty : TypeId) (pos : String) (af : Array Edge) (gd : Option (Nat × Bool)) (x y : Operand) (a b : Cl) (hx : ρ x = clV a) (hy : ρ y = clV b) (w : World) :
    (execOp ρ ⟨dst, .binOp .eql 45 x y 45, ty, pos, af, gd⟩).run Tryz.prog w = .ok (.value (.bool (decide (a = b)))) w := by
  have e : decide (a = b) = decide (a.r = b.r ∧ a.more.toList = b.more.toList ∧ a.half = b.half ∧ a.fk = b.fk ∧ a.fn = b.fn ∧ a.bk = b.bk ∧ a.bn = b.bn ∧ a.fl = b.fl) := decide_eq_decide.2 (cl_eq_iff a b)
  rw [e]
  unfold clV at hx hy
  go_simp
  repeat' split
  all_goals simp_all
end Go.Proofs.YtjcpdcncfjkejaaGreat

namespace Go.Proofs.YtjcpdcncfjkejaaGreat
/-- Words tell the stops; behind the last column there are none. -/
def WdsOf (ws : List Nat) (st : List Bool) : Prop :=
  st.length ≤ 64 * ws.length ∧ ∀ i n, ws[i]? = some n → n < 18446744073709551616 ∧ ∀ k, k < 64 → n.testBit k = st.getD (64 * i + k) false
theorem wds_word {ws : List Nat} {st : List Bool} (h : WdsOf ws st) {x : Nat} (hx : x < st.length) : ∃ w, ws[x / 64]? = some w ∧ w < 18446744073709551616 ∧ ∀ k, k < 64 → w.testBit k = st.getD (64 * (x / 64) + k) false := by
  have hl : x / 64 < ws.length := by have := h.1; omega
  have he : ws[x / 64]? = some ws[x / 64] := List.getElem?_eq_getElem hl
  exact ⟨_, he, h.2 _ _ he⟩
theorem getD_set {st : List Bool} {x y : Nat} {b : Bool} (hx : x < st.length) : (st.set x b).getD y false = if x = y then b else st.getD y false := by
  rw [List.getD_eq_getElem?_getD, List.getElem?_set]
  by_cases h : x = y
  · subst h
    rw [if_pos rfl, if_pos hx, if_pos rfl]; rfl
  · rw [if_neg h, if_neg h, ← List.getD_eq_getElem?_getD]
theorem or_lt {w k : Nat} (hw : w < 18446744073709551616) (hk : k < 64) : w ||| 2 ^ k < 18446744073709551616 :=
  Nat.or_lt_two_pow (n := 64) hw (Nat.pow_lt_pow_right (by decide) hk)
theorem wds_set {ws : List Nat} {st : List Bool} (h : WdsOf ws st) {x w : Nat} (hx : x < st.length) (hw : ws[x / 64]? = some w) : WdsOf (ws.set (x / 64) (w ||| 2 ^ (x % 64))) (st.set x true) := by
  have hl : x / 64 < ws.length := (List.getElem?_eq_some_iff.1 hw).1
  refine ⟨by rw [List.length_set, List.length_set]; exact h.1, fun i n hn => ?_⟩
  rw [List.getElem?_set] at hn
  by_cases hi : x / 64 = i
  · subst hi
    rw [if_pos rfl, if_pos hl, Option.some.injEq] at hn
    subst hn
    obtain ⟨h1, h2⟩ := h.2 _ _ hw
    refine ⟨or_lt h1 (by omega), fun k hk => ?_⟩
    rw [Nat.testBit_or, Nat.testBit_two_pow, h2 k hk, getD_set hx]
    by_cases hk2 : x % 64 = k
    · rw [if_pos (by omega), decide_eq_true hk2, Bool.or_true]
    · rw [if_neg (by omega), decide_eq_false hk2, Bool.or_false]
  · rw [if_neg hi] at hn
    obtain ⟨h1, h2⟩ := h.2 _ _ hn
    refine ⟨h1, fun k hk => ?_⟩
    rw [h2 k hk, getD_set hx, if_neg (by omega)]
theorem wds_clear {ws : List Nat} {st : List Bool} (h : WdsOf ws st) {x w : Nat} (hx : x < st.length) (hw : ws[x / 64]? = some w) : WdsOf (ws.set (x / 64) (w &&& (18446744073709551615 - 2 ^ (x % 64)))) (st.set x false) := by
  have hl : x / 64 < ws.length := (List.getElem?_eq_some_iff.1 hw).1
  refine ⟨by rw [List.length_set, List.length_set]; exact h.1, fun i n hn => ?_⟩
  rw [List.getElem?_set] at hn
  by_cases hi : x / 64 = i
  · subst hi
    rw [if_pos rfl, if_pos hl, Option.some.injEq] at hn
    subst hn
    obtain ⟨h1, h2⟩ := h.2 _ _ hw
    refine ⟨Nat.lt_of_le_of_lt Nat.and_le_left h1, fun k hk => ?_⟩
    have hp : 2 ^ (x % 64) < 2 ^ 64 := Nat.pow_lt_pow_right (by decide) (by omega)
    have e : 18446744073709551615 - 2 ^ (x % 64) = 2 ^ 64 - (2 ^ (x % 64) + 1) := by
      have : (2 : Nat) ^ 64 = 18446744073709551616 := by decide
      omega
    rw [Nat.testBit_and, e, Nat.testBit_two_pow_sub_succ hp, Nat.testBit_two_pow, h2 k hk, getD_set hx, decide_eq_true hk, Bool.true_and]
    by_cases hk2 : x % 64 = k
    · rw [if_pos (by omega), decide_eq_true hk2, Bool.not_true, Bool.and_false]
    · rw [if_neg (by omega), decide_eq_false hk2, Bool.not_false, Bool.and_true]
  · rw [if_neg hi] at hn
    obtain ⟨h1, h2⟩ := h.2 _ _ hn
    refine ⟨h1, fun k hk => ?_⟩
    rw [h2 k hk, getD_set hx, if_neg (by omega)]
theorem getD_out {st : List Bool} {y : Nat} (h : st.length ≤ y) : st.getD y false = false := by
  rw [List.getD_eq_getElem?_getD, List.getElem?_eq_none h]; rfl
theorem wds_push {ws : List Nat} {st : List Bool} (h : WdsOf ws st) : WdsOf (ws ++ [0]) st := by
  refine ⟨by rw [List.length_append]; have := h.1; omega, fun i n hn => ?_⟩
  by_cases hi : i < ws.length
  · rw [List.getElem?_append_left hi] at hn
    exact h.2 i n hn
  · rw [List.getElem?_append_right (by omega)] at hn
    by_cases h0 : i = ws.length
    · subst h0
      rw [Nat.sub_self] at hn
      obtain rfl : (0 : Nat) = n := by simpa using hn
      refine ⟨by decide, fun k hk => ?_⟩
      rw [getD_out (by have := h.1; omega)]
      simp
    · rw [List.getElem?_eq_none (by simp; omega)] at hn
      cases hn
end Go.Proofs.YtjcpdcncfjkejaaGreat

namespace Go.Proofs.YtjcpdcncfjkejaaGreat
open Go.RowKit
section
variable {α : Type} (enc : α → List Value) (k : Nat)
/-- The cells of a list. -/
def flat (l : List α) : List Value := l.flatMap enc
/-- A slice at A reads as the list l. -/
def GrAt (w : World) (A : Option Addr) (l : List α) : Prop :=
  0 < l.length → ∃ b off, A = some ⟨b, off, none⟩ ∧ ∀ i x, l[i]? = some x → ∀ j v, (enc x)[j]? = some v → w.cell? ⟨b, off + i * k + j, none⟩ = some v
variable {enc k}
theorem flat_append (l m : List α) : flat enc (l ++ m) = flat enc l ++ flat enc m := by simp [flat]
theorem flat_len (hk : ∀ x, (enc x).length = k) (l : List α) : (flat enc l).length = l.length * k := by
  induction l with
  | nil => simp [flat]
  | cons x l ih =>
    have e : flat enc (x :: l) = enc x ++ flat enc l := rfl
    rw [e, List.length_append, ih, hk, List.length_cons, Nat.add_mul]; omega
theorem flat_at (hk : ∀ x, (enc x).length = k) : ∀ (l : List α) (i : Nat) (x : α), l[i]? = some x → ∀ j, j < k → (flat enc l)[i * k + j]? = (enc x)[j]?
  | [], i, x, h, j, hj => by simp at h
  | y :: l, 0, x, h, j, hj => by
    obtain rfl : y = x := by simpa using h
    have e : flat enc (y :: l) = enc y ++ flat enc l := rfl
    rw [e, Nat.zero_mul, Nat.zero_add, List.getElem?_append_left (by rw [hk]; exact hj)]
  | y :: l, i + 1, x, h, j, hj => by
    have e : flat enc (y :: l) = enc y ++ flat enc l := rfl
    rw [e, List.getElem?_append_right (by rw [hk, Nat.add_mul]; omega), hk, show (i + 1) * k + j - k = i * k + j from by rw [Nat.add_mul]; omega]
    exact flat_at hk l i x (by simpa using h) j hj
theorem flat_one (h1 : ∀ x, ∀ v ∈ enc x, v.oneCell' = true) (l : List α) : ∀ u ∈ flat enc l, u.oneCell' = true := by
  intro u hu
  simp only [flat, List.mem_flatMap] at hu
  obtain ⟨x, _, hx⟩ := hu
  exact h1 x u hx
theorem GrAt.below {w w1 : World} {A : Option Addr} {l : List α} (h : GrAt enc k w A l) (hb : Below w.heap.size w w1) : GrAt enc k w1 A l := fun hl => by
  obtain ⟨b, off, e, hc⟩ := h hl
  exact ⟨b, off, e, fun i x hx j v hv => holda hb (hc i x hx j v hv)⟩
theorem GrAt.at_ {w : World} {A : Option Addr} {l : List α} (h : GrAt enc k w A l) {i : Nat} (hi : i < l.length) : ∃ b off x, A = some ⟨b, off, none⟩ ∧ l[i]? = some x ∧ ∀ j v, (enc x)[j]? = some v → w.cell? ⟨b, off + i * k + j, none⟩ = some v := by
  obtain ⟨b, off, hA, hc⟩ := h (by omega)
  exact ⟨b, off, l[i], hA, List.getElem?_eq_getElem hi, hc i _ (List.getElem?_eq_getElem hi)⟩
theorem add_lit' (b off j : Nat) : (⟨b, off, none⟩ : Addr).add j = ⟨b, off + j, none⟩ := by
  unfold Addr.add
  by_cases hz : j = 0
  · rw [if_pos hz, hz]; rfl
  · rw [if_neg hz]
/-- What a slice holds, cell by cell: to be appended. -/
theorem GrAt.news {w : World} {ad : Addr} {l : List α} (hk : ∀ x, (enc x).length = k) (h : GrAt enc k w (some ad) l) : ∀ j u, (flat enc l)[j]? = some u → w.cell? (ad.add j) = some u := by
  intro j u hj
  have hlt := (List.getElem?_eq_some_iff.1 hj).1
  rw [flat_len hk] at hlt
  have hl0 : 0 < l.length := by
    rcases Nat.eq_zero_or_pos l.length with h0 | h0
    · rw [h0] at hlt; omega
    · exact h0
  have hk0 : 0 < k := by
    rcases Nat.eq_zero_or_pos k with h0 | h0
    · rw [h0] at hlt; omega
    · exact h0
  obtain ⟨b, off, e, hc⟩ := h hl0
  obtain rfl : ad = ⟨b, off, none⟩ := by simpa using e
  rw [add_lit']
  have hi : j / k < l.length := Nat.div_lt_of_lt_mul (by rw [Nat.mul_comm]; exact hlt)
  have hm : j % k < k := Nat.mod_lt _ hk0
  have e1 : j / k * k + j % k = j := Nat.div_add_mod' j k
  have h1 := flat_at hk l (j / k) _ (List.getElem?_eq_getElem hi) (j % k) hm
  rw [e1, hj] at h1
  have h2 := hc (j / k) _ (List.getElem?_eq_getElem hi) (j % k) u h1.symm
  rw [show off + j = off + j / k * k + j % k from by omega]
  exact h2
end
end Go.Proofs.YtjcpdcncfjkejaaGreat

namespace Go
variable {P : Program}
/-- An operation that yields a value and leaves the world. -/
theorem wpList_valG {ops : Array Oper} {rest : List Oper} {op : Oper} {a : Act} {w : World} {Q : Exit → Act → World → Prop} (v : Value) (hw : Region.wanted op (yielded ops a.tmps) = true) (hr : (execOp a.eval op).run P w = .ok (.value v) w)
    (h : wpList P ops Q rest (a.put op.dst v) w) : wpList P ops Q (op :: rest) a w := by
  unfold wpList
  rw [if_pos hw]
  refine .inl ?_
  unfold Oper.wp
  rw [hr]
  exact h
/-- An operation that yields a value and another world. -/
theorem wpList_actG {ops : Array Oper} {rest : List Oper} {op : Oper} {a : Act} {w : World} {Q : Exit → Act → World → Prop} (v : Value) (w' : World) (hw : Region.wanted op (yielded ops a.tmps) = true) (hr : (execOp a.eval op).run P w = .ok (.value v) w')
    (h : wpList P ops Q rest (a.put op.dst v) w') : wpList P ops Q (op :: rest) a w := by
  unfold wpList
  rw [if_pos hw]
  refine .inl ?_
  unfold Oper.wp
  rw [hr]
  exact h
end Go

namespace Go
section
variable {P : Program} {ops : Array Oper} {md : Region.Mode} {S : World → Prop}
def samePut (n : Nat) (dst : Option Tmp) (u v : Value) : Prop := ∀ a : Act, a.tmps.size = n → a.put dst u = a.put dst v
theorem samePut.rfl' {n : Nat} {dst : Option Tmp} {v : Value} : samePut n dst v v := fun _ _ => rfl
def upU (P : Program) (S : World → Prop) (n : Nat) (dst : Option Tmp) (v : Value) : Result Next → Prop
  | .ok (.value u) w' => samePut n dst u v ∧ S w'
  | .ok .skip w' => samePut n dst undef v ∧ S w'
  | .ok (.enter f args) w' => Calls P f args w' fun e w'' => match e with
      | .returned u => samePut n dst u v ∧ S w''
      | _ => False
  | .ok (.row row args) w' => Rows P row args w' fun u w'' => samePut n dst u v ∧ S w''
  | _ => False
/-- In state 'a', from every world that meets S, operation 'o' yields 'v' (up to its slot), and S holds behind it. -/
def StabU (P : Program) (ops : Array Oper) (S : World → Prop) (o : Oper) (v : Value) (a : Act) : Prop :=
  (Region.wanted o (yielded ops a.tmps) = true ∧ ∀ w, S w → upU P S a.tmps.size o.dst v ((execOp a.eval o).run P w)) ∨
  (Region.wanted o (yielded ops a.tmps) = false ∧ v = undef)
theorem StabU.of_same {o : Oper} {v : Value} {a a' : Act} (hy : StabU P ops S o v a) (he : execOp a'.eval o = execOp a.eval o)
    (hw : Region.wanted o (yielded ops a'.tmps) = Region.wanted o (yielded ops a.tmps)) (hs : a'.tmps.size = a.tmps.size) : StabU P ops S o v a' := by
  unfold StabU at *
  rw [he, hw, hs]
  exact hy
theorem Act.put_size (a : Act) (dst : Option Tmp) (v : Value) : (a.put dst v).tmps.size = a.tmps.size := by
  cases dst <;> simp [Act.put]
theorem StabU.wpOp {Q : Exit → Act → World → Prop} {i : Nat} {o : Oper} {v : Value} {a : Act} (hi : ops[i]? = some o) (hy : StabU P ops S o v a)
    {K : Act → World → Prop} {w : World} (hS : S w) (h : ∀ w', S w' → K (a.put o.dst v) w') : wpOp P ops Q i K a w := by
  unfold Go.wpOp
  simp only [hi]
  rcases hy with ⟨hw, hv⟩ | ⟨hw, rfl⟩
  · simp only [hw, if_true, Oper.wp]
    refine .inl ?_
    have hv := hv w hS
    generalize (execOp a.eval o).run P w = r at *
    cases r with
    | ok n w' =>
      cases n <;> simp only [upU, Oper.upon] at hv ⊢
      case value u => rw [hv.1 a rfl]; exact h _ hv.2
      case skip => rw [hv.1 a rfl]; exact h _ hv.2
      case enter f args =>
        refine Calls.mono hv fun e w'' he => ?_
        cases e with
        | returned u => simp only at he ⊢; rw [he.1 a rfl]; exact h _ he.2
        | panicked c => exact he.elim
        | outgrown => exact he.elim
      case row row args => exact Rows.mono hv fun u w'' he => (by rw [he.1 a rfl]; exact h _ he.2)
    | halt x w' => exact hv.elim
  · simp only [hw, Bool.false_eq_true, if_false]; exact h _ hS
/-- Whatever order is picked, each operation of the head (numbers below n) is stable; 'L' behind it. No world. -/
def wpUL (P : Program) (md : Region.Mode) (ops : Array Oper) (S : World → Prop) (n : Nat) (L : Array Bool → Act → Prop) : Nat → Array Bool → Act → Prop
  | 0, listed, a => L listed a
  | f + 1, listed, a =>
    Region.ready md ops listed ≠ [] ∧ ∀ i ∈ Region.ready md ops listed, i < n ∧ ∃ o v, ops[i]? = some o ∧ StabU P ops S o v a ∧ wpUL P md ops S n L f (listed.setIfInBounds i true) (a.put o.dst v)
theorem wpAny_of_headU {n g : Nat} {L : Array Bool → Act → Prop} {Q' : Exit → Act → World → Prop} (hL : ∀ listed a, L listed a → ∀ w, S w → wpAny P md ops Q' g listed a w) :
    ∀ (f : Nat) (listed : Array Bool) (a : Act), wpUL P md ops S n L f listed a → ∀ w, S w → wpAny P md ops Q' (f + g) listed a w
  | 0, listed, a, h, w, hS => by rw [Nat.zero_add]; exact hL _ _ h w hS
  | f + 1, listed, a, h, w, hS => by
    rw [show f + 1 + g = (f + g) + 1 by omega]
    refine ⟨fun h0 => absurd h0 h.1, fun i hi => ?_⟩
    obtain ⟨_, o, v, ho, hy, hr⟩ := h.2 i hi
    exact hy.wpOp ho hS (fun w' hS' => wpAny_of_headU hL f _ _ hr w' hS')
theorem wpUL_first {n i : Nat} {oi : Oper} {v : Value} {L : Array Bool → Act → Prop} (hi : ops[i]? = some oi) (hsel : ∀ (j : Nat) (o : Oper) cs b, ops[j]? = some o → o.op ≠ .select cs b)
    (hs : Region.sinkB md ops n = true) (hc : Region.chainB md ops n = true) (hn : n < ops.size) (hin : i < n)
    (hdone : ∀ listed a, L listed a → ∀ j ∈ Region.ready md ops listed, n ≤ j) :
    ∀ (f : Nat) (listed : Array Bool) (a : Act), HeadInv md ops n listed →
      (∀ j oj, ops[j]? = some oj → j ≠ i → listed.getD j true = false → (∀ e ∈ oj.after, Region.binds md e = true → e.on ≠ i) → oi.apart ops oj = true) →
      i ∈ Region.ready md ops listed → StabU P ops S oi v a →
      wpUL P md ops S n L f (listed.setIfInBounds i true) (a.put oi.dst v) → wpUL P md ops S n L (f + 1) listed a := by
  intro f
  induction f with
  | zero =>
    intro listed a inv _ hr hy H
    have hun := (mem_ready.1 hr).1
    refine ⟨fun h => (by rw [h] at hr; cases hr), fun j hj => ?_⟩
    have hjn : j < n := by
      rcases Nat.lt_or_ge j n with h | h
      · exact h
      · exact absurd hj (tail_waits hs hc hn inv _ i rfl hin hun j h)
    refine ⟨hjn, ?_⟩
    by_cases hji : j = i
    · subst hji; exact ⟨oi, v, hi, hy, H⟩
    · have := hdone _ _ H j (ready_mono hj hji)
      omega
  | succ f ih =>
    intro listed a inv hfree hr hy H
    have hun := (mem_ready.1 hr).1
    refine ⟨fun h => (by rw [h] at hr; cases hr), fun j hj => ?_⟩
    have hjn : j < n := by
      rcases Nat.lt_or_ge j n with h | h
      · exact h
      · exact absurd hj (tail_waits hs hc hn inv _ i rfl hin hun j h)
    refine ⟨hjn, ?_⟩
    by_cases hji : j = i
    · subst hji; exact ⟨oi, v, hi, hy, H⟩
    · obtain ⟨_, oj', u, hoj', hyj, Hj⟩ := H.2 j (ready_mono hj hji)
      obtain ⟨hjun, oj, hoj, hall⟩ := mem_ready.1 hj
      obtain rfl : oj' = oj := Option.some.inj (hoj'.symm.trans hoj)
      have hnot : ∀ e ∈ oj'.after, Region.binds md e = true → e.on ≠ i := fun e he hb heq => by
        have h1 := hall e he hb
        rw [heq, getD_both hun] at h1
        cases h1
      obtain ⟨h1, h2, h3⟩ := Oper.apart_spec (hfree j oj' hoj hji hjun hnot)
      have hsi := fun cs b => hsel i oi cs b hi
      have hsj := fun cs b => hsel j oj' cs b hoj
      have hyj' : StabU P ops S oj' u a := hyj.of_same (execOp_put oj' hsj a oi.dst v h1).symm (wanted_put oj' a oi.dst v h1).symm (Act.put_size _ _ _).symm
      have hyi' : StabU P ops S oi v (a.put oj'.dst u) := hy.of_same (execOp_put oi hsi a oj'.dst u h3) (wanted_put oi a oj'.dst u h3) (Act.put_size _ _ _)
      have hfree' : ∀ k ok, ops[k]? = some ok → k ≠ i → (listed.setIfInBounds j true).getD k true = false →
          (∀ e ∈ ok.after, Region.binds md e = true → e.on ≠ i) → oi.apart ops ok = true := fun k ok hk hki hun hno => by
        refine hfree k ok hk hki ?_ hno
        by_cases hjk : j = k
        · subst hjk; exact hjun
        · rw [getD_set_ne true hjk] at hun; exact hun
      refine ⟨oj', u, hoj, hyj', ih (listed.setIfInBounds j true) _ (inv.set hj hjn) hfree' (ready_mono hr (Ne.symm hji)) hyi' ?_⟩
      rw [Array.setIfInBounds_comm _ _ hji, ← Act.put_comm a v u h2]
      exact Hj
/-- The walk in the order of the text. -/
def seqU (P : Program) (ops : Array Oper) (S : World → Prop) (Lq : Act → Prop) : List Oper → Act → Prop
  | [], a => Lq a
  | o :: l, a => ∃ v, StabU P ops S o v a ∧ seqU P ops S Lq l (a.put o.dst v)
theorem wpUL_lex {n g : Nat} {Lq : Act → Prop} (hsel : Region.noSelect ops = true) (hs : Region.sinkB md ops n = true) (hc : Region.chainB md ops n = true) (hn : n < ops.size) :
    ∀ (l : List Oper) (k : Nat) (listed : Array Bool) (a : Act), (∀ j, j < l.length → l[j]? = ops[k + j]?) → k + l.length = n → HeadInv md ops n listed →
    Region.lexHead md ops g l.length k listed = true → seqU P ops S Lq l a →
    wpUL P md ops S n (fun listed' a' => Region.seqB md ops g n listed' = true ∧ Lq a') l.length listed a
  | [], k, listed, a, _, hk, _, hB, h => by
    have : k = n := by simpa using hk
    subst this
    exact ⟨by simpa [Region.lexHead] using hB, h⟩
  | o :: l, k, listed, a, hl, hk, inv, hB, h => by
    have h0 : ops[k]? = some o := by simpa using (hl 0 (by simp)).symm
    simp only [List.length_cons, Region.lexHead, Bool.and_eq_true] at hB
    obtain ⟨⟨hr, hf⟩, hB'⟩ := hB
    have hkn : k < n := by simp only [List.length_cons] at hk; omega
    have hr' : k ∈ Region.ready md ops listed := by simpa using hr
    obtain ⟨v, hy, hK⟩ := h
    exact wpUL_first h0 (Region.noSelect_spec hsel) hs hc hn hkn (fun listed' a' hL => seqB_ready hL.1) l.length listed a inv (Region.free_spec h0 hf) hr' hy
      (wpUL_lex hsel hs hc hn l (k + 1) _ _ (fun j hj => by have := hl (j + 1) (by simp; omega); simpa [Nat.add_assoc, Nat.add_comm 1 j] using this) (by simp only [List.length_cons] at hk; omega) (inv.set hr' hkn) hB' hK)
theorem wp_region_u {id : Nat} {Q : Exit → Act → World → Prop} {a : Act} {w : World} {l : List Oper} (n : Nat) (S : World → Prop) (hm : P.follows .mixedOrders = true) (hB : Region.lexTailB .any l.toArray n = true)
    (hS : S w.drew) (h : seqU P l.toArray S (fun a' => ∀ w', S w' → wpList P l.toArray Q (l.drop n) a' w') (l.take n) a) : (Code.region id l.toArray true).wp P Q a w := by
  simp only [Region.lexTailB, Bool.and_eq_true, decide_eq_true_eq] at hB
  obtain ⟨⟨⟨⟨hsel, hn⟩, hs⟩, hc⟩, hlex⟩ := hB
  have htl : (l.take n).length = n := by
    have hn' : n < l.length := by simpa using hn
    simp; omega
  have hdl : (l.drop n).length = l.toArray.size - n := by simp
  have inv0 : HeadInv .any l.toArray n (Array.replicate l.toArray.size false) :=
    ⟨by simp, fun j oj _ hl => (by rw [getD_replicate_false] at hl; cases hl), fun t _ ht => getD_in (by simpa using ht) (getD_replicate_false _ _)⟩
  have H := wpUL_lex (md := .any) (g := l.toArray.size - n) hsel hs hc hn (l.take n) 0 _ a (fun j hj => by
    have hj' : j < n := by rw [htl] at hj; exact hj
    simp [hj']) (by simpa using htl) inv0 (by rw [htl]; exact hlex) h
  refine wp_region_any hm ?_
  have := wpAny_of_headU (Q' := Q) (g := l.toArray.size - n) (fun listed a' hL w' hS' => by
    have := wpAny_of_seq (md := .any) (Q' := Q) (l.drop n) n listed a' w' (fun j => by simp [List.getElem?_drop]) (by rw [hdl]; exact hL.1) (hL.2 w' hS')
    rwa [hdl] at this) _ _ _ H w.drew hS
  rw [htl, show n + (l.toArray.size - n) = l.toArray.size by simp at hn; simp; omega] at this
  exact this
variable {Lq : Act → Prop}
theorem seqU_nil {a : Act} (h : Lq a) : seqU P ops S Lq [] a := h
theorem seqU_skip {o : Oper} {l : List Oper} {a : Act} (hw : Region.wanted o (yielded ops a.tmps) = false) (hr : seqU P ops S Lq l (a.put o.dst undef)) : seqU P ops S Lq (o :: l) a :=
  ⟨undef, .inr ⟨hw, rfl⟩, hr⟩
/-- An operation that yields its value and leaves the world. -/
theorem seqU_val {o : Oper} {l : List Oper} {a : Act} (v : Value) (hw : Region.wanted o (yielded ops a.tmps) = true) (h : ∀ w, S w → (execOp a.eval o).run P w = .ok (.value v) w)
    (hr : seqU P ops S Lq l (a.put o.dst v)) : seqU P ops S Lq (o :: l) a :=
  ⟨v, .inl ⟨hw, fun w hS => by rw [h w hS]; exact ⟨samePut.rfl', hS⟩⟩, hr⟩
/-- A call. -/
theorem seqU_call {o : Oper} {l : List Oper} {a : Act} (f : FuncId) (args : Array Value) (v : Value) (hw : Region.wanted o (yielded ops a.tmps) = true) (h : ∀ w, (execOp a.eval o).run P w = .ok (.enter f args) w)
    (hc : ∀ w, S w → Calls P f args w fun e w' => e = .returned v ∧ S w')
    (hr : seqU P ops S Lq l (a.put o.dst v)) : seqU P ops S Lq (o :: l) a :=
  ⟨v, .inl ⟨hw, fun w hS => by
    rw [h w]
    refine (hc w hS).mono fun e w' he => ?_
    rw [he.1]
    exact ⟨samePut.rfl', he.2⟩⟩, hr⟩
end
end Go

namespace Go.Proofs.YtjcpdcncfjkejaaGreat
def marksT : List (Int × Int) := [(0x300, 0x36f), (0x483, 0x489), (0x591, 0x5bd), (0x610, 0x61a), (0x64b, 0x65f), (0x900, 0x902), (0x93c, 0x93c), (0x941, 0x948), (0xe31, 0xe31), (0xe34, 0xe3a), (0x1ab0, 0x1aff), (0x1dc0, 0x1dff), (0x200b, 0x200f), (0x20d0, 0x20ff), (0x2060, 0x2064), (0xfe00, 0xfe0f), (0xfe20, 0xfe2f), (0xfeff, 0xfeff), (0xe0100, 0xe01ef)]
def widesT : List (Int × Int) := [(0x1100, 0x115f), (0x231a, 0x231b), (0x2329, 0x232a), (0x23e9, 0x23ec), (0x25fd, 0x25fe), (0x2614, 0x2615), (0x2e80, 0x303e), (0x3041, 0x33ff), (0x3400, 0x4dbf), (0x4e00, 0x9fff), (0xa000, 0xa4cf), (0xa960, 0xa97f), (0xac00, 0xd7a3), (0xf900, 0xfaff), (0xfe30, 0xfe6f), (0xff00, 0xff60), (0xffe0, 0xffe6), (0x1f300, 0x1f64f), (0x1f680, 0x1f6ff), (0x1f900, 0x1f9ff), (0x20000, 0x2fffd), (0x30000, 0x3fffd)]
def amongB (l : List (Int × Int)) (r : Int) : Bool := l.any (fun x => decide (x.1 ≤ r) && decide (r ≤ x.2))
def noneW (r : Int) : Bool := decide (r < 32) || (decide (127 ≤ r) && decide (r < 160)) || (decide (0xd800 ≤ r) && decide (r < 0xe000)) || decide (0x10ffff < r)
/-- A scalar's width. -/
def widOf (r : Int) : Int := if noneW r then -1 else if amongB marksT r then 0 else if amongB widesT r then 2 else 1
theorem among_low {r : Int} (h : r < 0x300) : amongB marksT r = false ∧ amongB widesT r = false := by
  constructor <;>
  · simp only [amongB, marksT, widesT, List.any_cons, List.any_nil, Bool.or_false, Bool.or_eq_false_iff, Bool.and_eq_false_iff, decide_eq_false_iff_not]
    omega
theorem widOf_low {r : Int} (h : r < 0x300) : widOf r = if noneW r then -1 else 1 := by
  unfold widOf
  rw [(among_low h).1, (among_low h).2]
  rfl
/-- An attribute, and a color. -/
structure Atr where
  fk : Int
  fn : Int
  bk : Int
  bn : Int
  fl : Int
structure Col where
  k : Int
  n : Int
def atrOf (c : Cl) : Atr := ⟨c.fk, c.fn, c.bk, c.bn, c.fl⟩
def mkCl (r : Int) (more : ByteArray) (half : Int) (a : Atr) : Cl := ⟨r, more, half, a.fk, a.fn, a.bk, a.bn, a.fl⟩
def emptyA (a : Atr) : Cl := mkCl 0 ByteArray.empty 0 a
def emptyC (c : Cl) : Cl := emptyA (atrOf c)
def blankC (b : Col) : Cl := emptyA ⟨0, 0, b.k, b.n, 0⟩
def padC : Cl := mkCl 0 ByteArray.empty 3 ⟨0, 0, 0, 0, 0⟩
def pairB (a b : Cl) : Bool := decide (a.half = 1) && decide (b.half = 2) && decide (a = { b with half := 1 })
/-- A row, mended. -/
def mendL : List Cl → List Cl
  | [] => []
  | [c] => if c.half = 0 ∨ c.half = 3 then [c] else [emptyC c]
  | c :: d :: l => if c.half = 0 then c :: mendL (d :: l) else if pairB c d then c :: d :: mendL l else emptyC c :: mendL (d :: l)
theorem mendL_cons (c d : Cl) (l : List Cl) : mendL (c :: d :: l) = if c.half = 0 then c :: mendL (d :: l) else if pairB c d then c :: d :: mendL l else emptyC c :: mendL (d :: l) := by rw [mendL]
theorem mendL_one (c : Cl) : mendL [c] = if c.half = 0 ∨ c.half = 3 then [c] else [emptyC c] := by rw [mendL]
theorem mendL_len : ∀ l : List Cl, (mendL l).length = l.length
  | [] => rfl
  | [c] => by rw [mendL]; split <;> rfl
  | c :: d :: l => by
    rw [mendL]
    have h1 := mendL_len (d :: l)
    have h2 := mendL_len l
    split
    · simp only [List.length_cons] at h1 ⊢; omega
    split
    · simp only [List.length_cons]; omega
    · simp only [List.length_cons] at h1 ⊢; omega
theorem mendL_zero {c : Cl} (h : c.half = 0) (l : List Cl) : mendL (c :: l) = c :: mendL l := by
  match l with
  | [] => rw [mendL_one, if_pos (Or.inl h)]; rfl
  | d :: l => rw [mendL, if_pos h]
theorem mendL_idem : ∀ l : List Cl, mendL (mendL l) = mendL l
  | [] => rfl
  | [c] => by
    rw [mendL]
    split
    · next h => rw [mendL, if_pos h]
    · rw [mendL_zero rfl]; rfl
  | c :: d :: l => by
    have h1 := mendL_idem (d :: l)
    have h2 := mendL_idem l
    rw [mendL]
    split
    · next h => rw [mendL_zero h, h1]
    split
    · next h hp => rw [mendL, if_neg h, if_pos hp, h2]
    · rw [mendL_zero rfl, h1]
/-- A scalar is written. -/
def putL (l : List Cl) (x r : Int) (a : Atr) : List Cl :=
  let o := mendL l
  if widOf r = 1 ∧ 0 ≤ x ∧ x < o.length then mendL (o.set x.toNat (mkCl r ByteArray.empty 0 a))
  else if widOf r = 2 ∧ 0 ≤ x ∧ x + 1 < o.length then mendL ((o.set x.toNat (mkCl r ByteArray.empty 1 a)).set (x.toNat + 1) (mkCl r ByteArray.empty 2 a))
  else o
def closeL (l : List Cl) : List Cl := mendL ((mendL l).set (l.length - 1) padC)
def insertL (l : List Cl) (x n : Int) (b : Col) : List Cl :=
  let o := mendL l
  if x < 0 ∨ (o.length : Int) ≤ x ∨ n < 1 then o
  else mendL ((o.take x.toNat ++ List.replicate n.toNat (blankC b) ++ o.drop x.toNat).take o.length)
theorem putL_len (l : List Cl) (x r : Int) (a : Atr) : (putL l x r a).length = l.length := by
  unfold putL
  simp only []
  split
  · rw [mendL_len, List.length_set, mendL_len]
  split
  · rw [mendL_len, List.length_set, List.length_set, mendL_len]
  · rw [mendL_len]
theorem closeL_len (l : List Cl) : (closeL l).length = l.length := by unfold closeL; rw [mendL_len, List.length_set, mendL_len]
theorem insertL_len (l : List Cl) (x n : Int) (b : Col) : (insertL l x n b).length = l.length := by
  unfold insertL
  simp only []
  split
  · exact mendL_len l
  · rw [mendL_len, List.length_take]
    have := mendL_len l
    simp only [List.length_append, List.length_take, List.length_replicate, List.length_drop]
    omega
end Go.Proofs.YtjcpdcncfjkejaaGreat

namespace Go.Proofs.YtjcpdcncfjkejaaGreat
open Go.RowKit
/-- w' is w but for the blocks of X, and new ones. -/
structure Mod (X : List Nat) (w w' : World) : Prop where
  os : w'.os = w.os
  tape : w'.tape = w.tape
  output : w'.output = w.output
  size : w.heap.size ≤ w'.heap.size
  block : ∀ k, k < w.heap.size → k ∉ X → w'.heap[k]? = w.heap[k]?
theorem Mod.refl (X : List Nat) (w : World) : Mod X w w := ⟨rfl, rfl, rfl, Nat.le_refl _, fun _ _ _ => rfl⟩
/-- Two steps; the second one may write to what the first one made. -/
theorem Mod.trans {X Y : List Nat} {a b c : World} (h : Mod X a b) (k : Mod Y b c) (hY : ∀ g ∈ Y, g ∈ X ∨ a.heap.size ≤ g) : Mod X a c :=
  ⟨k.os.trans h.os, k.tape.trans h.tape, k.output.trans h.output, Nat.le_trans h.size k.size, fun i hi hx => (k.block i (Nat.lt_of_lt_of_le hi h.size) (fun hy => by
    rcases hY i hy with h1 | h1
    · exact hx h1
    · omega)).trans (h.block i hi hx)⟩
theorem Mod.of_below {X : List Nat} {w w' : World} (h : Below w.heap.size w w') : Mod X w w' := ⟨h.os, h.tape, h.output, h.size, fun k hk _ => h.block k hk⟩
theorem Mod.below {X : List Nat} {w w' : World} {B : Nat} (h : Mod X w w') (hX : ∀ g ∈ X, B ≤ g) (hB : B ≤ w.heap.size) : Below B w w' := ⟨h.os, h.tape, h.output, h.size, fun k hk => h.block k (by omega) (fun hx => by have := hX k hx; omega)⟩
theorem Mod.mono {X Y : List Nat} {w w' : World} (h : Mod X w w') (hXY : ∀ g ∈ X, g ∈ Y) : Mod Y w w' := ⟨h.os, h.tape, h.output, h.size, fun k hk hy => h.block k hk (fun hx => hy (hXY k hx))⟩
theorem Mod.then_below {X : List Nat} {a b c : World} (h : Mod X a b) (k : Below b.heap.size b c) : Mod X a c := h.trans (Mod.of_below (X := []) k) (fun g hg => by cases hg)
theorem Mod.of_grown {X : List Nat} {w w' : World} {row : Option Nat} (h : w.grownBy w' row) (hX : ∀ g, row = some g → g ∈ X) : Mod X w w' :=
  ⟨h.os, h.tape, h.output, h.size, fun k hk hx => h.block k hk (fun e => hx (hX k e.symm))⟩
theorem Mod.setCell {X : List Nat} {w w1 : World} (h : Mod X w w1) {a : Addr} (ha : a.block ∈ X ∨ w.heap.size ≤ a.block) (v : Value) : Mod X w (w1.setCell a v) :=
  ⟨h.os, h.tape, h.output, by simpa [World.setCell] using h.size, fun k hk hx => by
    rw [Below.heap_setCell _ _ _ _ (fun e => by subst e; rcases ha with h1 | h1; exact hx h1; omega)]
    exact h.block k hk hx⟩
theorem Mod.cell {X : List Nat} {w w1 : World} (h : Mod X w w1) {b o : Nat} {v : Value} (hb : b ∉ X) (hc : w.cell? ⟨b, o, none⟩ = some v) : w1.cell? ⟨b, o, none⟩ = some v :=
  (World.cell?_of_block (w := w) (h.block b (lt_of_cell hc) hb)).trans hc
theorem Mod.hold {X : List Nat} {w w1 : World} (h : Mod X w w1) {b o : Nat} {v : Value} (hb : b ∉ X) (hc : w.cell? ⟨b, o, none⟩ = some v ∧ w.frozen? ⟨b, o, none⟩ = false) : w1.cell? ⟨b, o, none⟩ = some v ∧ w1.frozen? ⟨b, o, none⟩ = false :=
  ⟨h.cell hb hc.1, (World.frozen?_of_block (w := w) (h.block b (lt_of_cell hc.1) hb)).trans hc.2⟩
theorem owns_mod {X : List Nat} {w w' : World} {base : Nat} {e : TypeId} {size : Nat} {v : Value} {n : Nat} {xs : List Value} (h : w.ownsRow base e size v n xs) (hm : Mod X w w') (hX : ∀ g, v.ownBlock = some g → g ∉ X) : w'.ownsRow base e size v n xs := by
  obtain ⟨h1, h2 | ⟨g, cap, cur, rfl, e2, e3, e4⟩⟩ := h
  · exact ⟨h1, .inl h2⟩
  · refine ⟨h1, .inr ⟨g, cap, cur, rfl, e2, ?_, e4⟩⟩
    rw [hm.block g ?_ (hX g rfl)]; exact e3
    rcases Nat.lt_or_ge g w.heap.size with h | h
    · exact h
    · rw [Array.getElem?_eq_none h] at e3; cases e3
theorem gr_mod {α : Type} {enc : α → List Value} {k : Nat} {X : List Nat} {w w1 : World} {b off : Nat} {l : List α} (h : GrAt enc k w (some ⟨b, off, none⟩) l) (hm : Mod X w w1) (hX : b ∉ X) : GrAt enc k w1 (some ⟨b, off, none⟩) l := fun hl => by
  obtain ⟨b', off', e, hc⟩ := h hl
  simp only [Option.some.injEq, Addr.mk.injEq] at e
  obtain ⟨rfl, rfl, -⟩ := e
  exact ⟨b, off, rfl, fun i x hx j v hv => hm.cell hX (hc i x hx j v hv)⟩
theorem owns_weaken {w : World} {base base' : Nat} {e : TypeId} {size : Nat} {v : Value} {n : Nat} {xs : List Value} (h : w.ownsRow base e size v n xs) (hb : base' ≤ base) : w.ownsRow base' e size v n xs := by
  obtain ⟨h1, h2 | ⟨g, cap, cur, rfl, e2, e3⟩⟩ := h
  · exact ⟨h1, .inl h2⟩
  · exact ⟨h1, .inr ⟨g, cap, cur, rfl, Nat.le_trans hb e2, e3⟩⟩
theorem keep_none_f {w w' : World} (hg : w.grownBy w' (Value.ownBlock (.slice none 0 0))) {b o : Nat} {v : Value} (h : w.cell? ⟨b, o, none⟩ = some v) (hf : w.frozen? ⟨b, o, none⟩ = false) : w'.frozen? ⟨b, o, none⟩ = false :=
  (World.frozen?_of_block (w := w) (hg.block b (lt_of_cell h) (fun e => by cases e))).trans hf
section
variable {P : Program}
theorem exec_append {w w' : World} {ρ : Operand → Value} {o : Oper} (s x : Operand) (t : TypeId) (ho : o.op = .call { callee := .builtin .append, args := #[s, x], argTypes := #[t, t] }) (vs vx v' : Value) (hs : ρ s = vs) (hx : ρ x = vx)
    (hr : (Builtin.append_ #[t, t] o.type #[vs, vx]).run P w = .ok v' w') : (execOp ρ o).run P w = .ok (.value v') w' := by
  unfold execOp
  simp only [ho, resolve, invoke, builtin, Sem.run_bind, Sem.run_pure, Result.andThen_ok, List.map_toArray, List.map_cons, List.map_nil, hs, hx, hr]
end
end Go.Proofs.YtjcpdcncfjkejaaGreat
