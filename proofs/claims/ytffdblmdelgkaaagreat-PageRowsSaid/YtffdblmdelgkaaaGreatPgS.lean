/- Plain: the document's operations on its list of rows are the page's. Conditions: none. -/
import Derived.Test.YtffdblmdelgkaaaGreatPgQ
namespace Go.Proofs.YtffdblmdelgkaaaGreat

def dcRow (d : Dc) (y : Int) (f : List Cl → List Cl) : Dc := if dcIn d y then { d with L := d.L.modify (d.base + y.toNat) (fun r => { r with cs := f r.cs }) } else d
def dcWrap (d : Dc) (y : Int) : Dc := if dcIn d y then { d with L := d.L.modify (d.base + y.toNat) (fun r => { r with cont := true }) } else d
def dcErase (d : Dc) (y x z : Int) (b : Col) : Dc :=
  if dcIn d y then
    let d1 := dcRow d y (fun l => eraseL l x z b)
    if x < d.cols ∧ (d.cols : Int) ≤ z then (if x < 1 then dcPart (dcPart d1 (y + 1)) y else dcPart d1 (y + 1)) else d1
  else d
def iterD (f : Dc → Dc) : Nat → Dc → Dc
  | 0, d => d
  | n + 1, d => f (iterD f n d)
def dcTimes (d : Dc) (top bottom n : Int) (f : Nat → Nat → Dc → Dc) : Dc :=
  if dcIn d top && dcIn d bottom && decide (top ≤ bottom) then iterD (f top.toNat bottom.toNat) (min n.toNat (bottom - top + 1).toNat) d else d
theorem dcOf_row (g : Pg) (y : Int) (f : List Cl → List Cl) : dcRow (dcOf g) y f = dcOf (rowP g y f) := by
  unfold dcRow rowP
  rw [dcOf_in]
  split
  · show Dc.mk ((g.hist ++ g.scr).modify (g.hist.length + y.toNat) _) _ _ _ _ _ = _
    rw [modify_append]
    rfl
  · rfl
theorem dcOf_wrap (g : Pg) (y : Int) : dcWrap (dcOf g) y = dcOf (contP g y true) := by
  unfold dcWrap contP
  rw [dcOf_in]
  split
  · show Dc.mk ((g.hist ++ g.scr).modify (g.hist.length + y.toNat) _) _ _ _ _ _ = _
    rw [modify_append]
    rfl
  · rfl
theorem dcOf_erase (g : Pg) (y x z : Int) (b : Col) : dcErase (dcOf g) y x z b = dcOf (eraseP g y x z b) := by
  unfold dcErase eraseP
  rw [dcOf_in]
  by_cases h : inP g y = true
  · rw [if_pos h, if_pos h]
    simp only []
    rw [dcOf_row]
    show (if x < (g.cols : Int) ∧ (g.cols : Int) ≤ z then _ else _) = _
    by_cases h2 : x < (g.cols : Int) ∧ (g.cols : Int) ≤ z
    · rw [if_pos h2, if_pos h2, dcOf_part, dcOf_part]
      by_cases h3 : x < 1
      · rw [if_pos h3, if_pos (by omega)]
      · rw [if_neg h3, if_neg (by omega)]
    · rw [if_neg h2, if_neg h2]
  · rw [if_neg h, if_neg h]
theorem dcOf_iter {rows cols room : Nat} {f : Pg → Pg} {fd : Dc → Dc} (hf : ∀ g, PgInv rows cols room g → fd (dcOf g) = dcOf (f g)) (hi : ∀ g, PgInv rows cols room g → PgInv rows cols room (f g)) : ∀ (n : Nat) (g : Pg), PgInv rows cols room g → iterD fd n (dcOf g) = dcOf (iterP f n g)
  | 0, _, _ => rfl
  | n + 1, g, h => by
    show fd (iterD fd n (dcOf g)) = dcOf (f (iterP f n g))
    rw [dcOf_iter hf hi n g h, hf _ (PgInv.iter hi n h)]
theorem dcOf_times {rows cols room : Nat} {g : Pg} (h : PgInv rows cols room g) (top bottom n : Int) (f : Nat → Nat → Pg → Pg) (fd : Nat → Nat → Dc → Dc) (hf : ∀ t b : Nat, t ≤ b → ∀ g, PgInv rows cols room g → b < g.scr.length → fd t b (dcOf g) = dcOf (f t b g) ∧ PgInv rows cols room (f t b g)) :
    dcTimes (dcOf g) top bottom n fd = dcOf (timesP g top bottom n f) := by
  unfold dcTimes timesP
  rw [dcOf_in, dcOf_in]
  split
  · next hc =>
    simp only [Bool.and_eq_true, inP, decide_eq_true_eq] at hc
    have hb : ∀ g', PgInv rows cols room g' → bottom.toNat < g'.scr.length := fun g' h' => by
      have := h.hrows
      have := h'.hrows
      omega
    exact dcOf_iter (fun g' h' => (hf _ _ (by omega) g' h' (hb g' h')).1) (fun g' h' => (hf _ _ (by omega) g' h' (hb g' h')).2) _ g h
  · rfl
/-- An operation on the document. -/
def stepD (d : Dc) (o : Pop) : Dc :=
  if o.kind = 0 then dcRow d o.y (fun l => putL l o.x o.r o.at_)
  else if o.kind = 1 then dcRow d o.y (fun l => markL l o.x o.r)
  else if o.kind = 2 then dcErase d o.y o.x o.n (backOf o.at_)
  else if o.kind = 3 then dcRow d o.y (fun l => insertL l o.x o.n (backOf o.at_))
  else if o.kind = 4 then dcRow d o.y (fun l => deleteL l o.x o.n (backOf o.at_))
  else if o.kind = 5 then dcWrap d o.y
  else if o.kind = 6 then dcTimes d o.top o.bottom o.n (fun t b d => dcUp d t b (backOf o.at_))
  else if o.kind = 7 then dcTimes d o.top o.bottom o.n (fun t b d => dcDown d t b (backOf o.at_))
  else if o.kind = 8 then dcForget d
  else if o.kind = 9 then dcRow d o.y closeL
  else if o.kind = 10 then dcTimes d o.top o.bottom o.n (fun t b d => dcCut d t b (backOf o.at_))
  else d
theorem dcOf_step {rows cols room : Nat} {g : Pg} (h : PgInv rows cols room g) (o : Pop) : stepD (dcOf g) o = dcOf (stepP g o) := by
  unfold stepD stepP
  by_cases h0 : o.kind = 0
  · rw [if_pos h0, if_pos h0]; exact dcOf_row _ _ _
  rw [if_neg h0, if_neg h0]
  by_cases h1 : o.kind = 1
  · rw [if_pos h1, if_pos h1]; exact dcOf_row _ _ _
  rw [if_neg h1, if_neg h1]
  by_cases h2 : o.kind = 2
  · rw [if_pos h2, if_pos h2]; exact dcOf_erase _ _ _ _ _
  rw [if_neg h2, if_neg h2]
  by_cases h3 : o.kind = 3
  · rw [if_pos h3, if_pos h3]; exact dcOf_row _ _ _
  rw [if_neg h3, if_neg h3]
  by_cases h4 : o.kind = 4
  · rw [if_pos h4, if_pos h4]; exact dcOf_row _ _ _
  rw [if_neg h4, if_neg h4]
  by_cases h5 : o.kind = 5
  · rw [if_pos h5, if_pos h5]; exact dcOf_wrap _ _
  rw [if_neg h5, if_neg h5]
  by_cases h6 : o.kind = 6
  · rw [if_pos h6, if_pos h6]; exact dcOf_times h _ _ _ _ _ (fun t b htb g' h' hb => ⟨dcOf_up g' t b _ htb hb (by rw [h'.hroom]; exact h'.hhist), h'.up htb hb _⟩)
  rw [if_neg h6, if_neg h6]
  by_cases h7 : o.kind = 7
  · rw [if_pos h7, if_pos h7]; exact dcOf_times h _ _ _ _ _ (fun t b htb g' h' hb => ⟨dcOf_down g' t b _ htb hb, h'.down htb hb _⟩)
  rw [if_neg h7, if_neg h7]
  by_cases h8 : o.kind = 8
  · rw [if_pos h8, if_pos h8]; exact dcOf_forget _
  rw [if_neg h8, if_neg h8]
  by_cases h9 : o.kind = 9
  · rw [if_pos h9, if_pos h9]; exact dcOf_row _ _ _
  rw [if_neg h9, if_neg h9]
  by_cases h10 : o.kind = 10
  · rw [if_pos h10, if_pos h10]; exact dcOf_times h _ _ _ _ _ (fun t b htb g' h' hb => ⟨dcOf_cut g' t b _ htb hb, h'.cut htb hb _⟩)
  rw [if_neg h10, if_neg h10]
end Go.Proofs.YtffdblmdelgkaaaGreat
