/- Plain: a page, and what is done to it; the document's list of rows says the same. Conditions: none. -/
import Derived.Test.YtffdblmdelgkaaaGreatCeP
namespace Go.Proofs.YtffdblmdelgkaaaGreat

/-- A row: its cells, and whether it goes on from the row above. -/
structure Ro where
  cs : List Cl
  cont : Bool
structure Tl where
  k : Int
  a : Int
  n : Int
/-- A page: room, history (eldest first), how many went, the screen, columns, what was told. -/
structure Pg where
  room : Nat
  hist : List Ro
  gone : Int
  scr : List Ro
  cols : Nat
  told : List Tl
def blankR (cols : Nat) (b : Col) : Ro := ⟨List.replicate cols (blankC b), false⟩
def inP (g : Pg) (y : Int) : Bool := decide (0 ≤ y) && decide (y < g.scr.length)
def rowP (g : Pg) (y : Int) (f : List Cl → List Cl) : Pg := if inP g y then { g with scr := g.scr.modify y.toNat (fun r => { r with cs := f r.cs }) } else g
def contP (g : Pg) (y : Int) (b : Bool) : Pg := if inP g y then { g with scr := g.scr.modify y.toNat (fun r => { r with cont := b }) } else g
def tellP (g : Pg) (k a n : Int) : Pg := { g with told := g.told ++ [⟨k, a, n⟩] }
def pushP (g : Pg) (r : Ro) : Pg × Bool :=
  if g.room = 0 then ({ g with gone := g.gone + 1 }, true)
  else if g.hist.length = g.room then ({ g with hist := g.hist.drop 1 ++ [r], gone := g.gone + 1 }, true)
  else ({ g with hist := g.hist ++ [r] }, false)
/-- Rows of the screen from top to bottom, one up, or one down. -/
def slideUp (l : List Ro) (top bottom : Nat) (b : Ro) : List Ro := l.take top ++ ((l.drop (top + 1)).take (bottom - top) ++ (b :: l.drop (bottom + 1)))
def slideDn (l : List Ro) (top bottom : Nat) (b : Ro) : List Ro := l.take top ++ (b :: ((l.drop top).take (bottom - top) ++ l.drop (bottom + 1)))
def cutP (g : Pg) (top bottom : Nat) (b : Col) : Pg :=
  let g1 := tellP (tellP g 1 (g.hist.length + top) 1) 0 (g.hist.length + bottom) 1
  let g2 := { g1 with scr := slideUp g.scr top bottom (blankR g.cols b) }
  contP (contP g2 top false) (bottom + 1) false
def upP (g : Pg) (top bottom : Nat) (b : Col) : Pg :=
  if 0 < top then cutP g top bottom b
  else
    let g1 := tellP g 0 (g.hist.length + bottom + 1) 1
    let p := pushP g1 (g.scr.getD 0 ⟨[], false⟩)
    let g2 := if p.2 then tellP p.1 2 0 1 else p.1
    let g3 := { g2 with scr := slideUp g.scr 0 bottom (blankR g.cols b) }
    contP g3 (bottom + 1) false
def downP (g : Pg) (top bottom : Nat) (b : Col) : Pg :=
  let g1 := tellP (tellP g 1 (g.hist.length + bottom) 1) 0 (g.hist.length + top) 1
  let g2 := { g1 with scr := slideDn g.scr top bottom (blankR g.cols b) }
  contP (contP g2 (top + 1) false) (bottom + 1) false
def iterP (f : Pg → Pg) : Nat → Pg → Pg
  | 0, g => g
  | n + 1, g => f (iterP f n g)
/-- So often as n says, but no more than the region has rows. -/
def timesP (g : Pg) (top bottom n : Int) (f : Nat → Nat → Pg → Pg) : Pg :=
  if inP g top && inP g bottom && decide (top ≤ bottom) then iterP (f top.toNat bottom.toNat) (min n.toNat (bottom - top + 1).toNat) g else g
def forgetP (g : Pg) : Pg := if g.hist.length = 0 then g else contP (tellP { g with hist := [], gone := g.gone + g.hist.length } 2 0 g.hist.length) 0 false
def eraseP (g : Pg) (y x z : Int) (b : Col) : Pg :=
  if inP g y then
    let g1 := rowP g y (fun l => eraseL l x z b)
    if x < g.cols ∧ (g.cols : Int) ≤ z then (if x ≤ 0 then contP (contP g1 (y + 1) false) y false else contP g1 (y + 1) false) else g1
  else g
theorem slideUp_len {l : List Ro} {top bottom : Nat} {b : Ro} (h : top ≤ bottom) (h2 : bottom < l.length) : (slideUp l top bottom b).length = l.length := by
  unfold slideUp
  simp only [List.length_append, List.length_take, List.length_drop, List.length_cons]
  omega
theorem slideDn_len {l : List Ro} {top bottom : Nat} {b : Ro} (h : top ≤ bottom) (h2 : bottom < l.length) : (slideDn l top bottom b).length = l.length := by
  unfold slideDn
  simp only [List.length_append, List.length_take, List.length_drop, List.length_cons]
  omega
/-- The document's list of rows. -/
structure Dc where
  L : List Ro
  base : Nat
  cols : Nat
  room : Nat
  gone : Int
  told : List Tl
def dcOf (g : Pg) : Dc := ⟨g.hist ++ g.scr, g.hist.length, g.cols, g.room, g.gone, g.told⟩
def dcRows (d : Dc) : Int := (d.L.length : Int) - d.base
def dcIn (d : Dc) (y : Int) : Bool := decide (0 ≤ y) && decide (y < dcRows d)
def dcInsert (d : Dc) (at_ : Nat) (r : Ro) : Dc := { d with L := d.L.take at_ ++ (r :: d.L.drop at_), told := d.told ++ [⟨0, at_, 1⟩] }
def dcRemove (d : Dc) (at_ : Nat) : Dc := { d with L := d.L.take at_ ++ d.L.drop (at_ + 1), told := d.told ++ [⟨1, at_, 1⟩] }
def dcEvict (d : Dc) (n : Nat) : Dc := { d with L := d.L.drop n, base := d.base - n, gone := d.gone + n, told := d.told ++ [⟨2, 0, n⟩] }
def dcPart (d : Dc) (y : Int) : Dc := if dcIn d y then { d with L := d.L.modify (d.base + y.toNat) (fun r => { r with cont := false }) } else d
def dcCut (d : Dc) (top bottom : Nat) (b : Col) : Dc := dcPart (dcPart (dcInsert (dcRemove d (d.base + top)) (d.base + bottom) (blankR d.cols b)) top) (bottom + 1)
def dcUp (d : Dc) (top bottom : Nat) (b : Col) : Dc :=
  if top = 0 then
    let d1 := dcInsert d (d.base + bottom + 1) (blankR d.cols b)
    let d2 := dcPart { d1 with base := d1.base + 1 } (bottom + 1)
    if d2.room < d2.base then dcEvict d2 1 else d2
  else dcCut d top bottom b
def dcDown (d : Dc) (top bottom : Nat) (b : Col) : Dc := dcPart (dcPart (dcInsert (dcRemove d (d.base + bottom)) (d.base + top) (blankR d.cols b)) (top + 1)) (bottom + 1)
theorem dcOf_in (g : Pg) (y : Int) : dcIn (dcOf g) y = inP g y := by
  unfold dcIn inP dcRows dcOf
  simp only [List.length_append]
  congr 1
  exact decide_eq_decide.2 (by omega)
theorem modify_append {α : Type} (a b : List α) (k : Nat) (f : α → α) : (a ++ b).modify (a.length + k) f = a ++ b.modify k f := by
  induction a with
  | nil => simp
  | cons x a ih => simp [Nat.succ_add, ih]
theorem dcOf_part (g : Pg) (y : Int) : dcPart (dcOf g) y = dcOf (contP g y false) := by
  unfold dcPart contP
  rw [dcOf_in]
  split
  · show Dc.mk ((g.hist ++ g.scr).modify (g.hist.length + y.toNat) _) _ _ _ _ _ = _
    rw [modify_append]
    rfl
  · rfl
theorem take_cut (h l : List Ro) (k : Nat) : (h ++ l).take (h.length + k) = h ++ l.take k := by rw [List.take_length_add_append]
theorem drop_cut (h l : List Ro) (k : Nat) : (h ++ l).drop (h.length + k) = l.drop k := by rw [List.drop_length_add_append]
theorem dcOf_cut (g : Pg) (top bottom : Nat) (b : Col) (h1 : top ≤ bottom) (h2 : bottom < g.scr.length) : dcCut (dcOf g) top bottom b = dcOf (cutP g top bottom b) := by
  unfold dcCut cutP
  rw [← dcOf_part, ← dcOf_part]
  congr 2
  unfold dcInsert dcRemove dcOf tellP slideUp
  simp only [Dc.mk.injEq, true_and]
  refine ⟨?_, by simp⟩
  rw [take_cut, show g.hist.length + top + 1 = g.hist.length + (top + 1) by omega, drop_cut, List.append_assoc, take_cut, drop_cut, List.append_assoc]
  congr 1
  rw [List.take_append, List.drop_append]
  have e1 : (g.scr.take top).length = top := by rw [List.length_take]; omega
  rw [e1, List.take_take, show min bottom top = top by omega, List.append_assoc]
  congr 1
  rw [List.drop_eq_nil_of_le (show (g.scr.take top).length ≤ bottom by rw [e1]; exact h1), List.nil_append, List.drop_drop, show top + 1 + (bottom - top) = bottom + 1 by omega]
theorem dcOf_down (g : Pg) (top bottom : Nat) (b : Col) (h1 : top ≤ bottom) (h2 : bottom < g.scr.length) : dcDown (dcOf g) top bottom b = dcOf (downP g top bottom b) := by
  unfold dcDown downP
  rw [← dcOf_part, ← dcOf_part]
  congr 2
  unfold dcInsert dcRemove dcOf tellP slideDn
  simp only [Dc.mk.injEq, true_and]
  refine ⟨?_, by simp⟩
  rw [take_cut, show g.hist.length + bottom + 1 = g.hist.length + (bottom + 1) by omega, drop_cut, List.append_assoc, take_cut, drop_cut, List.append_assoc]
  congr 1
  have e1 : (g.scr.take bottom).length = bottom := by rw [List.length_take]; omega
  rw [List.take_append, List.drop_append, e1, List.take_take, show min top bottom = top by omega, show top - bottom = 0 by omega]
  rw [List.take_zero, List.append_nil, List.drop_zero, List.drop_take]
theorem dcOf_evict (g : Pg) (n : Nat) (h : n ≤ g.hist.length) : dcEvict (dcOf g) n = dcOf (tellP { g with hist := g.hist.drop n, gone := g.gone + n } 2 0 n) := by
  unfold dcEvict dcOf tellP
  simp only [Dc.mk.injEq, true_and]
  exact ⟨by rw [List.drop_append_of_le_length h], by rw [List.length_drop], trivial⟩
theorem contP_other (g : Pg) (h : List Ro) (gn : Int) (td : List Tl) (y : Int) (b : Bool) : contP { g with hist := h, gone := gn, told := td } y b = { contP g y b with hist := h, gone := gn, told := td } := by
  unfold contP
  have e : inP { g with hist := h, gone := gn, told := td } y = inP g y := rfl
  rw [e]
  split <;> rfl
theorem contP_hist (g : Pg) (y : Int) (b : Bool) : (contP g y b).hist = g.hist ∧ (contP g y b).gone = g.gone ∧ (contP g y b).told = g.told ∧ (contP g y b).cols = g.cols ∧ (contP g y b).room = g.room ∧ (contP g y b).scr.length = g.scr.length := by
  unfold contP
  split
  · exact ⟨rfl, rfl, rfl, rfl, rfl, by simp⟩
  · exact ⟨rfl, rfl, rfl, rfl, rfl, rfl⟩
theorem dcOf_up (g : Pg) (top bottom : Nat) (b : Col) (h1 : top ≤ bottom) (h2 : bottom < g.scr.length) (hr : g.hist.length ≤ g.room) : dcUp (dcOf g) top bottom b = dcOf (upP g top bottom b) := by
  unfold dcUp upP
  by_cases ht : top = 0
  rotate_left
  · rw [if_neg ht, if_pos (by omega)]
    exact dcOf_cut g top bottom b h1 h2
  subst ht
  rw [if_pos rfl, if_neg (show ¬ (0 : Nat) < 0 by omega)]
  simp only []
  obtain ⟨s0, l, hs⟩ : ∃ s0 l, g.scr = s0 :: l := by
    match h : g.scr, h2 with
    | s0 :: l, _ => exact ⟨s0, l, rfl⟩
  have key : { dcInsert (dcOf g) ((dcOf g).base + bottom + 1) (blankR (dcOf g).cols b) with base := (dcInsert (dcOf g) ((dcOf g).base + bottom + 1) (blankR (dcOf g).cols b)).base + 1 } = dcOf { g with hist := g.hist ++ [s0], scr := slideUp g.scr 0 bottom (blankR g.cols b), told := g.told ++ [⟨0, g.hist.length + bottom + 1, 1⟩] } := by
    unfold dcInsert dcOf slideUp
    simp only [Dc.mk.injEq, true_and]
    refine ⟨?_, by simp, by simp⟩
    rw [show g.hist.length + bottom + 1 = g.hist.length + (bottom + 1) by omega, take_cut, drop_cut, hs]
    simp
  rw [key, dcOf_part]
  have hg0 : g.scr.getD 0 ⟨[], false⟩ = s0 := by rw [hs]; rfl
  rw [hg0]
  have hh := contP_hist { g with hist := g.hist ++ [s0], scr := slideUp g.scr 0 bottom (blankR g.cols b), told := g.told ++ [⟨0, g.hist.length + bottom + 1, 1⟩] } (bottom + 1) false
  obtain ⟨q1, q2, q3, q4, q5, q6⟩ := hh
  by_cases hf : g.hist.length = g.room
  · have c1 : (dcOf (contP { g with hist := g.hist ++ [s0], scr := slideUp g.scr 0 bottom (blankR g.cols b), told := g.told ++ [⟨0, g.hist.length + bottom + 1, 1⟩] } (bottom + 1) false)).room < (dcOf (contP { g with hist := g.hist ++ [s0], scr := slideUp g.scr 0 bottom (blankR g.cols b), told := g.told ++ [⟨0, g.hist.length + bottom + 1, 1⟩] } (bottom + 1) false)).base := by
      show (contP _ _ _).room < (contP _ _ _).hist.length
      rw [q1, q5]; simp; omega
    rw [if_pos c1, dcOf_evict _ 1 (by rw [q1]; simp)]
    congr 1
    unfold tellP
    rw [q1, q2, q3, ← contP_other]
    unfold pushP
    by_cases h0 : g.room = 0
    · have hn : g.hist = [] := List.length_eq_zero_iff.1 (by omega)
      simp only [h0, if_true, hn, List.nil_append, List.drop_succ_cons, List.drop_nil]
      simp
    · simp only [h0, if_false, hf, if_true]
      have e1 : (g.hist ++ [s0]).drop 1 = g.hist.drop 1 ++ [s0] := List.drop_append_of_le_length (by omega)
      rw [e1]
      simp
  · have c1 : ¬ ((dcOf (contP { g with hist := g.hist ++ [s0], scr := slideUp g.scr 0 bottom (blankR g.cols b), told := g.told ++ [⟨0, g.hist.length + bottom + 1, 1⟩] } (bottom + 1) false)).room < (dcOf (contP { g with hist := g.hist ++ [s0], scr := slideUp g.scr 0 bottom (blankR g.cols b), told := g.told ++ [⟨0, g.hist.length + bottom + 1, 1⟩] } (bottom + 1) false)).base) := by
      show ¬ ((contP _ _ _).room < (contP _ _ _).hist.length)
      rw [q1, q5]; simp; omega
    rw [if_neg c1]
    congr 1
    unfold pushP tellP
    have h0 : ¬ g.room = 0 := by omega
    simp only [h0, if_false, hf]
    simp
def dcForget (d : Dc) : Dc := if 0 < d.base then dcPart (dcEvict d d.base) 0 else d
theorem dcOf_forget (g : Pg) : dcForget (dcOf g) = dcOf (forgetP g) := by
  unfold dcForget forgetP
  by_cases h : g.hist.length = 0
  · rw [if_neg (by show ¬ 0 < g.hist.length; omega), if_pos h]
  · rw [if_pos (by show 0 < g.hist.length; omega), if_neg h, show (dcOf g).base = g.hist.length from rfl, dcOf_evict g _ (Nat.le_refl _), dcOf_part, List.drop_length]
end Go.Proofs.YtffdblmdelgkaaaGreat
