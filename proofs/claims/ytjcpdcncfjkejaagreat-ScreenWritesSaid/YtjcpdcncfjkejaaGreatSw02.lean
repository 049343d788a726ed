/- Joined by a tool of this claim out of smaller texts. Conditions: as stated. -/
import Derived.Test.YtjcpdcncfjkejaaGreatSw01
import Derived.Laws.ResultCell
import Derived.Deep.MidRow
import Derived.Lib.SlicesCompact
import Derived.Below
set_option linter.unusedVariables false
set_option linter.unusedSimpArgs false
namespace Go.Proofs.YtjcpdcncfjkejaaGreat
/-- A row: its cells, and whether it goes on from the row above. -/
structure Ro where
  cs : List Cl
  cont : Bool
structure Tl where
  k : Int
  a : Int
  n : Int
/-- A page: room, history (eldest first), how many went, the screen, columns, what was told. -/
structure Pg where
  room : Nat
  hist : List Ro
  gone : Int
  scr : List Ro
  cols : Nat
  told : List Tl
def blankR (cols : Nat) (b : Col) : Ro := ⟨List.replicate cols (blankC b), false⟩
def inP (g : Pg) (y : Int) : Bool := decide (0 ≤ y) && decide (y < g.scr.length)
def rowP (g : Pg) (y : Int) (f : List Cl → List Cl) : Pg := if inP g y then { g with scr := g.scr.modify y.toNat (fun r => { r with cs := f r.cs }) } else g
def contP (g : Pg) (y : Int) (b : Bool) : Pg := if inP g y then { g with scr := g.scr.modify y.toNat (fun r => { r with cont := b }) } else g
def tellP (g : Pg) (k a n : Int) : Pg := { g with told := g.told ++ [⟨k, a, n⟩] }
def pushP (g : Pg) (r : Ro) : Pg × Bool :=
  if g.room = 0 then ({ g with gone := g.gone + 1 }, true)
  else if g.hist.length = g.room then ({ g with hist := g.hist.drop 1 ++ [r], gone := g.gone + 1 }, true)
  else ({ g with hist := g.hist ++ [r] }, false)
/-- Rows of the screen from top to bottom, one up, or one down. -/
def slideUp (l : List Ro) (top bottom : Nat) (b : Ro) : List Ro := l.take top ++ ((l.drop (top + 1)).take (bottom - top) ++ (b :: l.drop (bottom + 1)))
def slideDn (l : List Ro) (top bottom : Nat) (b : Ro) : List Ro := l.take top ++ (b :: ((l.drop top).take (bottom - top) ++ l.drop (bottom + 1)))
def cutP (g : Pg) (top bottom : Nat) (b : Col) : Pg :=
  let g1 := tellP (tellP g 1 (g.hist.length + top) 1) 0 (g.hist.length + bottom) 1
  let g2 := { g1 with scr := slideUp g.scr top bottom (blankR g.cols b) }
  contP (contP g2 top false) (bottom + 1) false
def upP (g : Pg) (top bottom : Nat) (b : Col) : Pg :=
  if 0 < top then cutP g top bottom b
  else
    let g1 := tellP g 0 (g.hist.length + bottom + 1) 1
    let p := pushP g1 (g.scr.getD 0 ⟨[], false⟩)
    let g2 := if p.2 then tellP p.1 2 0 1 else p.1
    let g3 := { g2 with scr := slideUp g.scr 0 bottom (blankR g.cols b) }
    contP g3 (bottom + 1) false
def iterP (f : Pg → Pg) : Nat → Pg → Pg
  | 0, g => g
  | n + 1, g => f (iterP f n g)
/-- So often as n says, but no more than the region has rows. -/
def timesP (g : Pg) (top bottom n : Int) (f : Nat → Nat → Pg → Pg) : Pg :=
  if inP g top && inP g bottom && decide (top ≤ bottom) then iterP (f top.toNat bottom.toNat) (min n.toNat (bottom - top + 1).toNat) g else g
theorem slideUp_len {l : List Ro} {top bottom : Nat} {b : Ro} (h : top ≤ bottom) (h2 : bottom < l.length) : (slideUp l top bottom b).length = l.length := by
  unfold slideUp
  simp only [List.length_append, List.length_take, List.length_drop, List.length_cons]
  omega
/-- The document's list of rows. -/
structure Dc where
  L : List Ro
  base : Nat
  cols : Nat
  room : Nat
  gone : Int
  told : List Tl
def dcOf (g : Pg) : Dc := ⟨g.hist ++ g.scr, g.hist.length, g.cols, g.room, g.gone, g.told⟩
def dcRows (d : Dc) : Int := (d.L.length : Int) - d.base
def dcIn (d : Dc) (y : Int) : Bool := decide (0 ≤ y) && decide (y < dcRows d)
def dcInsert (d : Dc) (at_ : Nat) (r : Ro) : Dc := { d with L := d.L.take at_ ++ (r :: d.L.drop at_), told := d.told ++ [⟨0, at_, 1⟩] }
def dcRemove (d : Dc) (at_ : Nat) : Dc := { d with L := d.L.take at_ ++ d.L.drop (at_ + 1), told := d.told ++ [⟨1, at_, 1⟩] }
def dcEvict (d : Dc) (n : Nat) : Dc := { d with L := d.L.drop n, base := d.base - n, gone := d.gone + n, told := d.told ++ [⟨2, 0, n⟩] }
def dcPart (d : Dc) (y : Int) : Dc := if dcIn d y then { d with L := d.L.modify (d.base + y.toNat) (fun r => { r with cont := false }) } else d
def dcCut (d : Dc) (top bottom : Nat) (b : Col) : Dc := dcPart (dcPart (dcInsert (dcRemove d (d.base + top)) (d.base + bottom) (blankR d.cols b)) top) (bottom + 1)
def dcUp (d : Dc) (top bottom : Nat) (b : Col) : Dc :=
  if top = 0 then
    let d1 := dcInsert d (d.base + bottom + 1) (blankR d.cols b)
    let d2 := dcPart { d1 with base := d1.base + 1 } (bottom + 1)
    if d2.room < d2.base then dcEvict d2 1 else d2
  else dcCut d top bottom b
theorem dcOf_in (g : Pg) (y : Int) : dcIn (dcOf g) y = inP g y := by
  unfold dcIn inP dcRows dcOf
  simp only [List.length_append]
  congr 1
  exact decide_eq_decide.2 (by omega)
theorem modify_append {α : Type} (a b : List α) (k : Nat) (f : α → α) : (a ++ b).modify (a.length + k) f = a ++ b.modify k f := by
  induction a with
  | nil => simp
  | cons x a ih => simp [Nat.succ_add, ih]
theorem dcOf_part (g : Pg) (y : Int) : dcPart (dcOf g) y = dcOf (contP g y false) := by
  unfold dcPart contP
  rw [dcOf_in]
  split
  · show Dc.mk ((g.hist ++ g.scr).modify (g.hist.length + y.toNat) _) _ _ _ _ _ = _
    rw [modify_append]
    rfl
  · rfl
theorem take_cut (h l : List Ro) (k : Nat) : (h ++ l).take (h.length + k) = h ++ l.take k := by rw [List.take_length_add_append]
theorem drop_cut (h l : List Ro) (k : Nat) : (h ++ l).drop (h.length + k) = l.drop k := by rw [List.drop_length_add_append]
theorem dcOf_cut (g : Pg) (top bottom : Nat) (b : Col) (h1 : top ≤ bottom) (h2 : bottom < g.scr.length) : dcCut (dcOf g) top bottom b = dcOf (cutP g top bottom b) := by
  unfold dcCut cutP
  rw [← dcOf_part, ← dcOf_part]
  congr 2
  unfold dcInsert dcRemove dcOf tellP slideUp
  simp only [Dc.mk.injEq, true_and]
  refine ⟨?_, by simp⟩
  rw [take_cut, show g.hist.length + top + 1 = g.hist.length + (top + 1) by omega, drop_cut, List.append_assoc, take_cut, drop_cut, List.append_assoc]
  congr 1
  rw [List.take_append, List.drop_append]
  have e1 : (g.scr.take top).length = top := by rw [List.length_take]; omega
  rw [e1, List.take_take, show min bottom top = top by omega, List.append_assoc]
  congr 1
  rw [List.drop_eq_nil_of_le (show (g.scr.take top).length ≤ bottom by rw [e1]; exact h1), List.nil_append, List.drop_drop, show top + 1 + (bottom - top) = bottom + 1 by omega]
theorem dcOf_evict (g : Pg) (n : Nat) (h : n ≤ g.hist.length) : dcEvict (dcOf g) n = dcOf (tellP { g with hist := g.hist.drop n, gone := g.gone + n } 2 0 n) := by
  unfold dcEvict dcOf tellP
  simp only [Dc.mk.injEq, true_and]
  exact ⟨by rw [List.drop_append_of_le_length h], by rw [List.length_drop], trivial⟩
theorem contP_other (g : Pg) (h : List Ro) (gn : Int) (td : List Tl) (y : Int) (b : Bool) : contP { g with hist := h, gone := gn, told := td } y b = { contP g y b with hist := h, gone := gn, told := td } := by
  unfold contP
  have e : inP { g with hist := h, gone := gn, told := td } y = inP g y := rfl
  rw [e]
  split <;> rfl
theorem contP_hist (g : Pg) (y : Int) (b : Bool) : (contP g y b).hist = g.hist ∧ (contP g y b).gone = g.gone ∧ (contP g y b).told = g.told ∧ (contP g y b).cols = g.cols ∧ (contP g y b).room = g.room ∧ (contP g y b).scr.length = g.scr.length := by
  unfold contP
  split
  · exact ⟨rfl, rfl, rfl, rfl, rfl, by simp⟩
  · exact ⟨rfl, rfl, rfl, rfl, rfl, rfl⟩
theorem dcOf_up (g : Pg) (top bottom : Nat) (b : Col) (h1 : top ≤ bottom) (h2 : bottom < g.scr.length) (hr : g.hist.length ≤ g.room) : dcUp (dcOf g) top bottom b = dcOf (upP g top bottom b) := by
  unfold dcUp upP
  by_cases ht : top = 0
  rotate_left
  · rw [if_neg ht, if_pos (by omega)]
    exact dcOf_cut g top bottom b h1 h2
  subst ht
  rw [if_pos rfl, if_neg (show ¬ (0 : Nat) < 0 by omega)]
  simp only []
  obtain ⟨s0, l, hs⟩ : ∃ s0 l, g.scr = s0 :: l := by
    match h : g.scr, h2 with
    | s0 :: l, _ => exact ⟨s0, l, rfl⟩
  have key : { dcInsert (dcOf g) ((dcOf g).base + bottom + 1) (blankR (dcOf g).cols b) with base := (dcInsert (dcOf g) ((dcOf g).base + bottom + 1) (blankR (dcOf g).cols b)).base + 1 } = dcOf { g with hist := g.hist ++ [s0], scr := slideUp g.scr 0 bottom (blankR g.cols b), told := g.told ++ [⟨0, g.hist.length + bottom + 1, 1⟩] } := by
    unfold dcInsert dcOf slideUp
    simp only [Dc.mk.injEq, true_and]
    refine ⟨?_, by simp, by simp⟩
    rw [show g.hist.length + bottom + 1 = g.hist.length + (bottom + 1) by omega, take_cut, drop_cut, hs]
    simp
  rw [key, dcOf_part]
  have hg0 : g.scr.getD 0 ⟨[], false⟩ = s0 := by rw [hs]; rfl
  rw [hg0]
  have hh := contP_hist { g with hist := g.hist ++ [s0], scr := slideUp g.scr 0 bottom (blankR g.cols b), told := g.told ++ [⟨0, g.hist.length + bottom + 1, 1⟩] } (bottom + 1) false
  obtain ⟨q1, q2, q3, q4, q5, q6⟩ := hh
  by_cases hf : g.hist.length = g.room
  · have c1 : (dcOf (contP { g with hist := g.hist ++ [s0], scr := slideUp g.scr 0 bottom (blankR g.cols b), told := g.told ++ [⟨0, g.hist.length + bottom + 1, 1⟩] } (bottom + 1) false)).room < (dcOf (contP { g with hist := g.hist ++ [s0], scr := slideUp g.scr 0 bottom (blankR g.cols b), told := g.told ++ [⟨0, g.hist.length + bottom + 1, 1⟩] } (bottom + 1) false)).base := by
      show (contP _ _ _).room < (contP _ _ _).hist.length
      rw [q1, q5]; simp; omega
    rw [if_pos c1, dcOf_evict _ 1 (by rw [q1]; simp)]
    congr 1
    unfold tellP
    rw [q1, q2, q3, ← contP_other]
    unfold pushP
    by_cases h0 : g.room = 0
    · have hn : g.hist = [] := List.length_eq_zero_iff.1 (by omega)
      simp only [h0, if_true, hn, List.nil_append, List.drop_succ_cons, List.drop_nil]
      simp
    · simp only [h0, if_false, hf, if_true]
      have e1 : (g.hist ++ [s0]).drop 1 = g.hist.drop 1 ++ [s0] := List.drop_append_of_le_length (by omega)
      rw [e1]
      simp
  · have c1 : ¬ ((dcOf (contP { g with hist := g.hist ++ [s0], scr := slideUp g.scr 0 bottom (blankR g.cols b), told := g.told ++ [⟨0, g.hist.length + bottom + 1, 1⟩] } (bottom + 1) false)).room < (dcOf (contP { g with hist := g.hist ++ [s0], scr := slideUp g.scr 0 bottom (blankR g.cols b), told := g.told ++ [⟨0, g.hist.length + bottom + 1, 1⟩] } (bottom + 1) false)).base) := by
      show ¬ ((contP _ _ _).room < (contP _ _ _).hist.length)
      rw [q1, q5]; simp; omega
    rw [if_neg c1]
    congr 1
    unfold pushP tellP
    have h0 : ¬ g.room = 0 := by omega
    simp only [h0, if_false, hf]
    simp
end Go.Proofs.YtjcpdcncfjkejaaGreat

namespace Go.Proofs.YtjcpdcncfjkejaaGreat
open Go.RowKit
def HoldAt (W : World) (b i : Nat) (v : Value) : Prop := W.cell? ⟨b, i, none⟩ = some v ∧ W.frozen? ⟨b, i, none⟩ = false
theorem heap_setCell_eq {w : World} {b o : Nat} {v : Value} {cs : Array Value} {e : TypeId} {fz : Nat × Nat} (h : w.heap[b]? = some (.cells cs e fz)) : (w.setCell ⟨b, o, none⟩ v).heap[b]? = some (.cells (cs.setIfInBounds o v) e fz) := by
  unfold World.setCell
  simp only [Array.getElem?_modify, if_true, h]
  rfl
theorem set_two {W : World} {b : Nat} {u v u' v' : Value} (h0 : W.cell? ⟨b, 0, none⟩ = some u ∧ W.frozen? ⟨b, 0, none⟩ = false) (h1 : W.cell? ⟨b, 1, none⟩ = some v ∧ W.frozen? ⟨b, 1, none⟩ = false) :
    (((W.setCell ⟨b, 0, none⟩ u').setCell ⟨b, 1, none⟩ v').cell? ⟨b, 0, none⟩ = some u' ∧ ((W.setCell ⟨b, 0, none⟩ u').setCell ⟨b, 1, none⟩ v').frozen? ⟨b, 0, none⟩ = false) ∧ ((W.setCell ⟨b, 0, none⟩ u').setCell ⟨b, 1, none⟩ v').cell? ⟨b, 1, none⟩ = some v' ∧ ((W.setCell ⟨b, 0, none⟩ u').setCell ⟨b, 1, none⟩ v').frozen? ⟨b, 1, none⟩ = false := by
  have k0 := set_self (u := u') h0
  have k1 : (W.setCell ⟨b, 0, none⟩ u').cell? ⟨b, 1, none⟩ = some v ∧ (W.setCell ⟨b, 0, none⟩ u').frozen? ⟨b, 1, none⟩ = false := ⟨(World.cell?_setCell_other W _ _ _ (fun e => by injection e with e1 e2; omega)).trans h1.1, by rw [World.frozen?_setCell]; exact h1.2⟩
  exact ⟨⟨(World.cell?_setCell_other _ _ _ _ (fun e => by injection e with e1 e2; omega)).trans k0.1, by rw [World.frozen?_setCell]; exact k0.2⟩, set_self k1⟩
theorem row_form {w : World} {base n : Nat} {e : TypeId} {v : Value} {xs : List Value} {size : Nat} (h : w.ownsRow base e size v n xs) : ∃ A c, v = .slice A n c := by
  rcases h.2 with ⟨rfl, rfl⟩ | ⟨g, cap, cur, rfl, _⟩
  · exact ⟨none, 0, rfl⟩
  · exact ⟨_, cap, rfl⟩
/-- A block that is known whole, one cell of which is set. -/
theorem whole_set {w : World} {b : Nat} {cs cs' : List Value} {t : TypeId} (h : w.heap[b]? = some (.cells cs.toArray t (0, 0))) (i : Nat) (v : Value) (hc : cs.set i v = cs') : (w.setCell ⟨b, i, none⟩ v).heap[b]? = some (.cells cs'.toArray t (0, 0)) := by
  rw [heap_setCell_eq h, ← hc]
  simp
theorem whole_at {w : World} {b : Nat} {cs : List Value} {t : TypeId} (h : w.heap[b]? = some (.cells cs.toArray t (0, 0))) (i : Nat) (v : Value) (hc : cs[i]? = some v) : HoldAt w b i v :=
  at_ h i v (by simpa using hc)
theorem heap_other {w : World} {b k i : Nat} {v : Value} (h : k ≠ b) : (w.setCell ⟨b, i, none⟩ v).heap[k]? = w.heap[k]? := Below.heap_setCell _ _ _ _ h
section
variable {P : Program}
end
end Go.Proofs.YtjcpdcncfjkejaaGreat

namespace Go
open Go.RowKit
section
variable {P : Program} {ops : Array Oper} {md : Region.Mode}
/-- A condition that holds on behind whatever leaves old memory as it was. -/
def Pers (S : World → Prop) : Prop := ∀ w w', S w → Below w.heap.size w w' → S w'
theorem Pers.and {S T : World → Prop} (h : Pers S) (k : Pers T) : Pers (fun w => S w ∧ T w) := fun w w' hS hb => ⟨h w w' hS.1 hb, k w w' hS.2 hb⟩
/-- From every world that meets S the operation yields a value of V, and leaves old memory as it was. -/
def upN (P : Program) (w : World) (n : Nat) (dst : Option Tmp) (V : Value → World → Prop) : Result Next → Prop
  | .ok (.value u) w' => ∃ v, samePut n dst u v ∧ V v w' ∧ Below w.heap.size w w'
  | .ok .skip w' => ∃ v, samePut n dst undef v ∧ V v w' ∧ Below w.heap.size w w'
  | .ok (.enter f args) w' => Calls P f args w' fun e w'' => match e with
      | .returned u => ∃ v, samePut n dst u v ∧ V v w'' ∧ Below w.heap.size w w''
      | _ => False
  | .ok (.row row args) w' => Rows P row args w' fun u w'' => ∃ v, samePut n dst u v ∧ V v w'' ∧ Below w.heap.size w w''
  | _ => False
def StabN (P : Program) (ops : Array Oper) (S : World → Prop) (o : Oper) (V : Value → World → Prop) (a : Act) : Prop :=
  (Region.wanted o (yielded ops a.tmps) = true ∧ ∀ w, S w → upN P w a.tmps.size o.dst V ((execOp a.eval o).run P w)) ∨
  (Region.wanted o (yielded ops a.tmps) = false ∧ ∀ w, S w → V undef w)
theorem StabN.of_same {S : World → Prop} {o : Oper} {V : Value → World → Prop} {a a' : Act} (hy : StabN P ops S o V a) (he : execOp a'.eval o = execOp a.eval o)
    (hw : Region.wanted o (yielded ops a'.tmps) = Region.wanted o (yielded ops a.tmps)) (hs : a'.tmps.size = a.tmps.size) : StabN P ops S o V a' := by
  unfold StabN at *
  rw [he, hw, hs]
  exact hy
theorem StabN.strengthen {S T : World → Prop} {o : Oper} {V : Value → World → Prop} {a : Act} (h : ∀ w, T w → S w) (hy : StabN P ops S o V a) : StabN P ops T o V a := by
  rcases hy with ⟨hw, hv⟩ | ⟨hw, hv⟩
  · exact .inl ⟨hw, fun w hT => hv w (h w hT)⟩
  · exact .inr ⟨hw, fun w hT => hv w (h w hT)⟩
theorem StabN.wpOp {S : World → Prop} {Q : Exit → Act → World → Prop} {i : Nat} {o : Oper} {V : Value → World → Prop} {a : Act} (hi : ops[i]? = some o) (hp : Pers S) (hy : StabN P ops S o V a)
    {K : Act → World → Prop} {w : World} (hS : S w) (h : ∀ v w', S w' → V v w' → K (a.put o.dst v) w') : wpOp P ops Q i K a w := by
  unfold Go.wpOp
  simp only [hi]
  rcases hy with ⟨hw, hv⟩ | ⟨hw, hv⟩
  · simp only [hw, if_true, Oper.wp]
    refine .inl ?_
    have hv := hv w hS
    generalize (execOp a.eval o).run P w = r at *
    cases r with
    | ok n w' =>
      cases n <;> simp only [upN, Oper.upon] at hv ⊢
      case value u => obtain ⟨v, h1, h2, h3⟩ := hv; rw [h1 a rfl]; exact h _ _ (hp _ _ hS h3) h2
      case skip => obtain ⟨v, h1, h2, h3⟩ := hv; rw [h1 a rfl]; exact h _ _ (hp _ _ hS h3) h2
      case enter f args =>
        refine Calls.mono hv fun e w'' he => ?_
        cases e with
        | returned u => obtain ⟨v, h1, h2, h3⟩ := he; simp only; rw [h1 a rfl]; exact h _ _ (hp _ _ hS h3) h2
        | panicked c => exact he.elim
        | outgrown => exact he.elim
      case row row args => exact Rows.mono hv fun u w'' he => (by obtain ⟨v, h1, h2, h3⟩ := he; rw [h1 a rfl]; exact h _ _ (hp _ _ hS h3) h2)
    | halt x w' => exact hv.elim
  · simp only [hw, Bool.false_eq_true, if_false]; exact h _ _ hS (hv w hS)
/-- What an operation may yield (A), and what holds of the world then (T). -/
def AT (A : Value → Prop) (T : Value → World → Prop) : Value → World → Prop := fun v w => A v ∧ T v w
def wpUN (P : Program) (md : Region.Mode) (ops : Array Oper) (n : Nat) (L : Array Bool → Act → (World → Prop) → Prop) : Nat → Array Bool → Act → (World → Prop) → Prop
  | 0, listed, a, S => L listed a S
  | f + 1, listed, a, S =>
    Region.ready md ops listed ≠ [] ∧ ∀ i ∈ Region.ready md ops listed, i < n ∧ ∃ o A T, ops[i]? = some o ∧ (∀ v, Pers (T v)) ∧ StabN P ops S o (AT A T) a ∧
      ∀ v, A v → wpUN P md ops n L f (listed.setIfInBounds i true) (a.put o.dst v) (fun w => S w ∧ T v w)
theorem wpAny_of_headN {n g : Nat} {L : Array Bool → Act → (World → Prop) → Prop} {Q' : Exit → Act → World → Prop} (hL : ∀ listed a S, L listed a S → ∀ w, S w → wpAny P md ops Q' g listed a w) :
    ∀ (f : Nat) (listed : Array Bool) (a : Act) (S : World → Prop), Pers S → wpUN P md ops n L f listed a S → ∀ w, S w → wpAny P md ops Q' (f + g) listed a w
  | 0, listed, a, S, _, h, w, hS => by rw [Nat.zero_add]; exact hL _ _ _ h w hS
  | f + 1, listed, a, S, hp, h, w, hS => by
    rw [show f + 1 + g = (f + g) + 1 by omega]
    refine ⟨fun h0 => absurd h0 h.1, fun i hi => ?_⟩
    obtain ⟨_, o, A, T, ho, hT, hy, hr⟩ := h.2 i hi
    exact hy.wpOp ho hp hS (fun v w' hS' hV' => wpAny_of_headN hL f _ _ _ (hp.and (hT v)) (hr v hV'.1) w' ⟨hS', hV'.2⟩)
/-- The leaf does not mind a stronger or an equal condition. -/
def LeafOk (L : Array Bool → Act → (World → Prop) → Prop) : Prop := ∀ listed a (S T : World → Prop), (∀ w, T w → S w) → L listed a S → L listed a T
theorem wpUN.weaken {n : Nat} {L : Array Bool → Act → (World → Prop) → Prop} (hLk : LeafOk L) : ∀ (f : Nat) (listed : Array Bool) (a : Act) (S T : World → Prop), (∀ w, T w → S w) → wpUN P md ops n L f listed a S → wpUN P md ops n L f listed a T
  | 0, listed, a, S, T, h, hh => hLk listed a S T h hh
  | f + 1, listed, a, S, T, h, hh => by
    refine ⟨hh.1, fun i hi => ?_⟩
    obtain ⟨hn, o, A, V, ho, hV, hy, hr⟩ := hh.2 i hi
    exact ⟨hn, o, A, V, ho, hV, hy.strengthen h, fun v hv => wpUN.weaken hLk f _ _ _ _ (fun w ⟨h1, h2⟩ => ⟨h w h1, h2⟩) (hr v hv)⟩
/-- A stable operation: one value. -/
def Any : Value → World → Prop := fun _ _ => True
theorem Any.pers (u : Value) : Pers (Any u) := fun _ _ _ _ => trivial
theorem wpUN_first {n i : Nat} {oi : Oper} {v : Value} {L : Array Bool → Act → (World → Prop) → Prop} (hLk : LeafOk L) (hi : ops[i]? = some oi) (hsel : ∀ (j : Nat) (o : Oper) cs b, ops[j]? = some o → o.op ≠ .select cs b)
    (hs : Region.sinkB md ops n = true) (hc : Region.chainB md ops n = true) (hn : n < ops.size) (hin : i < n)
    (hdone : ∀ listed a S, L listed a S → ∀ j ∈ Region.ready md ops listed, n ≤ j) :
    ∀ (f : Nat) (listed : Array Bool) (a : Act) (S : World → Prop), HeadInv md ops n listed →
      (∀ j oj, ops[j]? = some oj → j ≠ i → listed.getD j true = false → (∀ e ∈ oj.after, Region.binds md e = true → e.on ≠ i) → oi.apart ops oj = true) →
      i ∈ Region.ready md ops listed → StabN P ops S oi (AT (· = v) Any) a →
      wpUN P md ops n L f (listed.setIfInBounds i true) (a.put oi.dst v) S → wpUN P md ops n L (f + 1) listed a S := by
  intro f
  induction f with
  | zero =>
    intro listed a S inv _ hr hy H
    have hun := (mem_ready.1 hr).1
    refine ⟨fun h => (by rw [h] at hr; cases hr), fun j hj => ?_⟩
    have hjn : j < n := by
      rcases Nat.lt_or_ge j n with h | h
      · exact h
      · exact absurd hj (tail_waits hs hc hn inv _ i rfl hin hun j h)
    refine ⟨hjn, ?_⟩
    by_cases hji : j = i
    · subst hji
      exact ⟨oi, _, _, hi, Any.pers, hy, fun u hu => by subst hu; exact hLk _ _ S _ (fun w h => h.1) H⟩
    · have := hdone _ _ _ H j (ready_mono hj hji)
      omega
  | succ f ih =>
    intro listed a S inv hfree hr hy H
    have hun := (mem_ready.1 hr).1
    refine ⟨fun h => (by rw [h] at hr; cases hr), fun j hj => ?_⟩
    have hjn : j < n := by
      rcases Nat.lt_or_ge j n with h | h
      · exact h
      · exact absurd hj (tail_waits hs hc hn inv _ i rfl hin hun j h)
    refine ⟨hjn, ?_⟩
    by_cases hji : j = i
    · subst hji
      exact ⟨oi, _, _, hi, Any.pers, hy, fun u hu => by subst hu; exact wpUN.weaken hLk _ _ _ S _ (fun w h => h.1) H⟩
    · obtain ⟨_, oj', A, T, hoj', hT, hyj, Hj⟩ := H.2 j (ready_mono hj hji)
      obtain ⟨hjun, oj, hoj, hall⟩ := mem_ready.1 hj
      obtain rfl : oj' = oj := Option.some.inj (hoj'.symm.trans hoj)
      have hnot : ∀ e ∈ oj'.after, Region.binds md e = true → e.on ≠ i := fun e he hb heq => by
        have h1 := hall e he hb
        rw [heq, getD_both hun] at h1
        cases h1
      obtain ⟨h1, h2, h3⟩ := Oper.apart_spec (hfree j oj' hoj hji hjun hnot)
      have hsi := fun cs b => hsel i oi cs b hi
      have hsj := fun cs b => hsel j oj' cs b hoj
      have hyj' : StabN P ops S oj' (AT A T) a := hyj.of_same (execOp_put oj' hsj a oi.dst v h1).symm (wanted_put oj' a oi.dst v h1).symm (Act.put_size _ _ _).symm
      have hfree' : ∀ k ok, ops[k]? = some ok → k ≠ i → (listed.setIfInBounds j true).getD k true = false →
          (∀ e ∈ ok.after, Region.binds md e = true → e.on ≠ i) → oi.apart ops ok = true := fun k ok hk hki hun hno => by
        refine hfree k ok hk hki ?_ hno
        by_cases hjk : j = k
        · subst hjk; exact hjun
        · rw [getD_set_ne true hjk] at hun; exact hun
      refine ⟨oj', A, T, hoj, hT, hyj', fun u hu => ?_⟩
      have hyi' : StabN P ops (fun w => S w ∧ T u w) oi (AT (· = v) Any) (a.put oj'.dst u) := (hy.of_same (execOp_put oi hsi a oj'.dst u h3) (wanted_put oi a oj'.dst u h3) (Act.put_size _ _ _)).strengthen (fun w h => h.1)
      refine ih (listed.setIfInBounds j true) _ _ (inv.set hj hjn) hfree' (ready_mono hr (Ne.symm hji)) hyi' ?_
      rw [Array.setIfInBounds_comm _ _ hji, ← Act.put_comm a v u h2]
      exact Hj u hu
/-- The leaf: the forced tail, from every world that meets the condition. -/
def tailN (P : Program) (ops : Array Oper) (Q : Exit → Act → World → Prop) (n : Nat) : Array Bool → Act → (World → Prop) → Prop := fun listed a S =>
  Region.seqB .any ops (ops.size - n) n listed = true ∧ ∀ w, S w → wpList P ops Q (ops.toList.drop n) a w
theorem tailN_ok {Q : Exit → Act → World → Prop} {n : Nat} : LeafOk (tailN P ops Q n) := fun _ _ _ _ h hh => ⟨hh.1, fun w hw => hh.2 w (h w hw)⟩
/-- A walk of the head: what is listed, the frame, the condition. -/
structure AtN (P : Program) (ops : Array Oper) (Q : Exit → Act → World → Prop) (n : Nat) (f : Nat) (listed : Array Bool) (a : Act) (S : World → Prop) : Prop where
  h : HeadInv .any ops n listed → wpUN P .any ops n (tailN P ops Q n) f listed a S
variable {Q : Exit → Act → World → Prop} {S : World → Prop} {a : Act} {listed : Array Bool} {n f : Nat}
def Region.tailB (ops : Array Oper) (n : Nat) : Bool := Region.noSelect ops && decide (n < ops.size) && Region.sinkB .any ops n && Region.chainB .any ops n
/-- Take number i, a stable operation, first. -/
theorem AtN.take (i : Nat) {o : Oper} {v : Value} (hB : Region.tailB ops n = true) (hi : ops[i]? = some o) (hin : (i < n) = True) (hf : Region.free .any ops listed i = true) (hr : (Region.ready .any ops listed).contains i = true)
    (hy : StabN P ops S o (AT (· = v) Any) a) (h : AtN P ops Q n f (listed.setIfInBounds i true) (a.put o.dst v) S) : AtN P ops Q n (f + 1) listed a S := ⟨fun inv => by
  simp only [Region.tailB, Bool.and_eq_true, decide_eq_true_eq] at hB
  obtain ⟨⟨⟨hsel, hn⟩, hs⟩, hc⟩ := hB
  have hr' : i ∈ Region.ready .any ops listed := by simpa using hr
  have hin' : i < n := by rw [hin]; trivial
  exact wpUN_first tailN_ok hi (Region.noSelect_spec hsel) hs hc hn hin' (fun listed a S hL => seqB_ready hL.1) f listed a S inv (Region.free_spec hi hf) hr' hy (h.h (inv.set hr' hin'))⟩
/-- At number c of the operations that are taken one behind the other. -/
def AtC (c : Nat) (P : Program) (ops : Array Oper) (Q : Exit → Act → World → Prop) (n : Nat) (f : Nat) (listed : Array Bool) (a : Act) (S : World → Prop) : Prop := c ≤ c ∧ AtN P ops Q n f listed a S
theorem AtN.go (c : Nat) (h : AtC c P ops Q n f listed a S) : AtN P ops Q n f listed a S := h.2
theorem AtC.back {c : Nat} (h : AtN P ops Q n f listed a S) : AtC c P ops Q n f listed a S := ⟨Nat.le_refl c, h⟩
theorem AtC.take {i : Nat} {o : Oper} {v : Value} (hB : Region.tailB ops n = true) (hi : ops[i]? = some o) (hin : (i < n) = True) (hf : Region.free .any ops listed i = true) (hr : (Region.ready .any ops listed).contains i = true)
    (hy : StabN P ops S o (AT (· = v) Any) a) (h : AtC (i + 1) P ops Q n f (listed.setIfInBounds i true) (a.put o.dst v) S) : AtC i P ops Q n (f + 1) listed a S := ⟨Nat.le_refl i, AtN.take i hB hi hin hf hr hy h.2⟩
/-- One alone may come up. -/
theorem AtN.one (i : Nat) {o : Oper} (A : Value → Prop) (T : Value → World → Prop) (hin : (i < n) = True) (hr : Region.ready .any ops listed = [i]) (hi : ops[i]? = some o) (hT : ∀ v, Pers (T v))
    (hy : StabN P ops S o (AT A T) a) (h : ∀ v, A v → AtN P ops Q n f (listed.setIfInBounds i true) (a.put o.dst v) (fun w => S w ∧ T v w)) : AtN P ops Q n (f + 1) listed a S := ⟨fun inv => by
  have hin' : i < n := by rw [hin]; trivial
  refine ⟨by rw [hr]; simp, fun j hj => ?_⟩
  have hj' := hj
  rw [hr] at hj
  obtain rfl : j = i := by simpa using hj
  exact ⟨hin', o, A, T, hi, hT, hy, fun v hv => (h v hv).h (inv.set hj' hin')⟩⟩
theorem AtN.done (hB : Region.seqB .any ops (ops.size - n) n listed = true) (h : ∀ w, S w → wpList P ops Q (ops.toList.drop n) a w) : AtN P ops Q n 0 listed a S := ⟨fun _ => ⟨hB, h⟩⟩
theorem wp_region_n {id : Nat} {w : World} (n : Nat) (S : World → Prop) (hm : P.follows .mixedOrders = true) (hB : Region.tailB ops n = true) (hp : Pers S) (hS : S w.drew)
    (h : AtN P ops Q n n (Array.replicate ops.size false) a S) : (Code.region id ops true).wp P Q a w := by
  simp only [Region.tailB, Bool.and_eq_true, decide_eq_true_eq] at hB
  obtain ⟨⟨⟨hsel, hn⟩, hs⟩, hc⟩ := hB
  have inv0 : HeadInv .any ops n (Array.replicate ops.size false) :=
    ⟨by simp, fun j oj _ hl => (by rw [getD_replicate_false] at hl; cases hl), fun t _ ht => getD_in (by simpa using ht) (getD_replicate_false _ _)⟩
  refine wp_region_any hm ?_
  have := wpAny_of_headN (Q' := Q) (g := ops.size - n) (fun listed a' S hL w' hS' => by
    have := wpAny_of_seq (md := .any) (Q' := Q) (ops.toList.drop n) n listed a' w' (fun j => by simp [List.getElem?_drop]) (by simpa using hL.1) (hL.2 w' hS')
    simpa using this) _ _ _ _ hp (h.h inv0) w.drew hS
  rw [show n + (ops.size - n) = ops.size by omega] at this
  exact this
/-- An operation that yields its value and leaves the world. -/
theorem StabN.val {o : Oper} {v : Value} (hw : Region.wanted o (yielded ops a.tmps) = true) (h : ∀ w, S w → (execOp a.eval o).run P w = .ok (.value v) w) : StabN P ops S o (AT (· = v) Any) a :=
  .inl ⟨hw, fun w hS => by rw [h w hS]; exact ⟨v, samePut.rfl', ⟨rfl, trivial⟩, Below.refl _ _⟩⟩
theorem StabN.call {o : Oper} (f : FuncId) (args : Array Value) (A : Value → Prop) (T : Value → World → Prop) (hw : Region.wanted o (yielded ops a.tmps) = true) (h : ∀ w, (execOp a.eval o).run P w = .ok (.enter f args) w)
    (hc : ∀ w, S w → Calls P f args w fun e w' => ∃ v, e = .returned v ∧ (A v ∧ T v w') ∧ Below w.heap.size w w') : StabN P ops S o (AT A T) a :=
  .inl ⟨hw, fun w hS => by
    rw [h w]
    refine (hc w hS).mono fun e w' ⟨v, he, hv, hb⟩ => ?_
    rw [he]
    exact ⟨v, samePut.rfl', hv, hb⟩⟩
theorem StabN.call1 {o : Oper} (f : FuncId) (args : Array Value) (v : Value) (hw : Region.wanted o (yielded ops a.tmps) = true) (h : ∀ w, (execOp a.eval o).run P w = .ok (.enter f args) w)
    (hc : ∀ w, S w → Calls P f args w fun e w' => e = .returned v ∧ Below w.heap.size w w') : StabN P ops S o (AT (· = v) Any) a :=
  StabN.call f args _ _ hw h (fun _ hS => (hc _ hS).mono fun _ _ ⟨he, hb⟩ => ⟨v, he, ⟨rfl, trivial⟩, hb⟩)
/-- An operation that makes a block. -/
theorem StabN.new {o : Oper} (A : Value → Prop) (T : Value → World → Prop) (hw : Region.wanted o (yielded ops a.tmps) = true)
    (h : ∀ w, S w → ∃ v w', (execOp a.eval o).run P w = .ok (.value v) w' ∧ A v ∧ T v w' ∧ Below w.heap.size w w') : StabN P ops S o (AT A T) a :=
  .inl ⟨hw, fun w hS => by
    obtain ⟨v, w', hr, hA, hT, hb⟩ := h w hS
    rw [hr]; exact ⟨v, samePut.rfl', ⟨hA, hT⟩, hb⟩⟩
/-- A pointer to a block that is known whole. -/
def NewP (t : TypeId) (cs : Array Value) : Value → World → Prop := fun v w => ∃ g, v = .pointer (some ⟨g, 0, none⟩) ∧ w.heap[g]? = some (.cells cs t (0, 0))
theorem lt_of_heap {w : World} {g : Nat} {o : Obj} (h : w.heap[g]? = some o) : g < w.heap.size := by
  rcases Nat.lt_or_ge g w.heap.size with hlt | hge
  · exact hlt
  · rw [Array.getElem?_eq_none hge] at h; cases h
theorem NewP.pers (t : TypeId) (cs : Array Value) (v : Value) : Pers (NewP t cs v) := fun _ _ ⟨g, hv, hh⟩ hb => ⟨g, hv, (hb.block g (lt_of_heap hh)).trans hh⟩
theorem NewP.at_ {t : TypeId} {cs : Array Value} {g : Nat} {w : World} (h : NewP t cs (.pointer (some ⟨g, 0, none⟩)) w) : w.heap[g]? = some (.cells cs t (0, 0)) := by
  obtain ⟨g', e, hh⟩ := h
  injection e with e
  injection e with e
  injection e with e1 _ _
  rw [e1]; exact hh
/-- A new variable. -/
theorem StabN.alloc {o : Oper} (base : Nat) (t : TypeId) (cs : Array Value) (avoid : List Nat) (hw : Region.wanted o (yielded ops a.tmps) = true)
    (h : ∀ w, S w → (execOp a.eval o).run P w = .ok (.value (.pointer (some ⟨w.heap.size, 0, none⟩))) (w.alloc (.cells cs t))) (hb : ∀ w, S w → base ≤ w.heap.size) (hav : ∀ w, S w → ∀ x ∈ avoid, x < w.heap.size) :
    StabN P ops S o (AT (fun v => ∃ g, v = .pointer (some ⟨g, 0, none⟩) ∧ base ≤ g ∧ ∀ x ∈ avoid, g ≠ x) (NewP t cs)) a :=
  StabN.new _ _ hw fun w hS => ⟨_, _, h w hS, ⟨_, rfl, hb w hS, fun x hx => Nat.ne_of_gt (hav w hS x hx)⟩, ⟨_, rfl, by
    show (w.heap.push _)[w.heap.size]? = _
    simp⟩, (Below.refl _ _).alloc (Nat.le_refl _) _⟩
end
end Go
