/- Plain: an operation on a page; what stays true of pages. Conditions: none. -/
import Derived.Test.YtffdblmdelgkaaaGreatPgP
namespace Go.Proofs.YtffdblmdelgkaaaGreat

def isScal (r : Int) : Bool := decide (0 ≤ r) && decide (r ≤ 0x10ffff) && (decide (r < 0xd800) || decide (0xdfff < r))
/-- A scalar's bytes. -/
def putB (r : Int) : ByteArray :=
  if isScal r then
    (if r < 0x80 then ⟨#[r.toNat.toUInt8]⟩
    else if r < 0x800 then ⟨#[(192 + r / 64).toNat.toUInt8, (128 + r % 64).toNat.toUInt8]⟩
    else if r < 0x10000 then ⟨#[(224 + r / 4096).toNat.toUInt8, (128 + r / 64 % 64).toNat.toUInt8, (128 + r % 64).toNat.toUInt8]⟩
    else ⟨#[(240 + r / 262144).toNat.toUInt8, (128 + r / 4096 % 64).toNat.toUInt8, (128 + r / 64 % 64).toNat.toUInt8, (128 + r % 64).toNat.toUInt8]⟩)
  else ByteArray.empty
def withMore (m : ByteArray) (c : Cl) : Cl := { c with more := m }
/-- A mark is laid. -/
def markL (l : List Cl) (x r : Int) : List Cl :=
  let o := mendL l
  match o[x.toNat]? with
  | none => o
  | some c =>
    if x < 0 ∨ c.r = 0 ∨ widOf r ≠ 0 ∨ 32 < (c.more ++ putB r).size then o
    else
      let m := c.more ++ putB r
      let o1 := if c.half = 1 then o.modify (x.toNat + 1) (withMore m) else if c.half = 2 then o.modify (x.toNat - 1) (withMore m) else o
      mendL (o1.modify x.toNat (withMore m))
theorem markL_len (l : List Cl) (x r : Int) : (markL l x r).length = l.length := by
  unfold markL
  simp only []
  split
  · exact mendL_len l
  · split
    · exact mendL_len l
    · rw [mendL_len, List.length_modify]
      split
      · rw [List.length_modify, mendL_len]
      split
      · rw [List.length_modify, mendL_len]
      · exact mendL_len l
/-- An operation. -/
structure Pop where
  kind : Int
  x : Int
  n : Int
  r : Int
  at_ : Atr
  y : Int
  top : Int
  bottom : Int
def backOf (a : Atr) : Col := ⟨a.bk, a.bn⟩
def stepP (g : Pg) (o : Pop) : Pg :=
  if o.kind = 0 then rowP g o.y (fun l => putL l o.x o.r o.at_)
  else if o.kind = 1 then rowP g o.y (fun l => markL l o.x o.r)
  else if o.kind = 2 then eraseP g o.y o.x o.n (backOf o.at_)
  else if o.kind = 3 then rowP g o.y (fun l => insertL l o.x o.n (backOf o.at_))
  else if o.kind = 4 then rowP g o.y (fun l => deleteL l o.x o.n (backOf o.at_))
  else if o.kind = 5 then contP g o.y true
  else if o.kind = 6 then timesP g o.top o.bottom o.n (fun t b g => upP g t b (backOf o.at_))
  else if o.kind = 7 then timesP g o.top o.bottom o.n (fun t b g => downP g t b (backOf o.at_))
  else if o.kind = 8 then forgetP g
  else if o.kind = 9 then rowP g o.y closeL
  else if o.kind = 10 then timesP g o.top o.bottom o.n (fun t b g => cutP g t b (backOf o.at_))
  else g
/-- What stays true: rows, columns, room. -/
structure PgInv (rows cols room : Nat) (g : Pg) : Prop where
  hrows : g.scr.length = rows
  hcols : g.cols = cols
  hroom : g.room = room
  hhist : g.hist.length ≤ room
  wide : ∀ r ∈ g.hist ++ g.scr, r.cs.length = cols
theorem mem_modify {α : Type} {f : α → α} {y : α} : ∀ {l : List α} {i : Nat}, y ∈ l.modify i f → y ∈ l ∨ ∃ x ∈ l, y = f x
  | [], i, h => by simp at h
  | x :: l, 0, h => by
    rw [List.modify_zero_cons] at h
    rcases List.mem_cons.1 h with rfl | h
    · exact .inr ⟨x, by simp, rfl⟩
    · exact .inl (by simp [h])
  | x :: l, i + 1, h => by
    rw [List.modify_succ_cons] at h
    rcases List.mem_cons.1 h with rfl | h
    · exact .inl (by simp)
    · rcases mem_modify h with h | ⟨z, hz, e⟩
      · exact .inl (by simp [h])
      · exact .inr ⟨z, by simp [hz], e⟩
theorem PgInv.mod {rows cols room : Nat} {g : Pg} (h : PgInv rows cols room g) (i : Nat) (f : Ro → Ro) (hf : ∀ r, (f r).cs.length = r.cs.length) : PgInv rows cols room { g with scr := g.scr.modify i f } := by
  refine ⟨by show (g.scr.modify i f).length = rows; rw [List.length_modify]; exact h.hrows, h.hcols, h.hroom, h.hhist, fun r hr => ?_⟩
  rcases List.mem_append.1 (show r ∈ g.hist ++ g.scr.modify i f from hr) with hr | hr
  · exact h.wide r (by simp [hr])
  · rcases mem_modify hr with hr | ⟨x, hx, rfl⟩
    · exact h.wide r (by simp [hr])
    · rw [hf]; exact h.wide x (by simp [hx])
theorem PgInv.row {rows cols room : Nat} {g : Pg} (h : PgInv rows cols room g) (y : Int) (f : List Cl → List Cl) (hf : ∀ l, (f l).length = l.length) : PgInv rows cols room (rowP g y f) := by
  unfold rowP
  split
  · exact h.mod _ _ (fun r => hf r.cs)
  · exact h
theorem PgInv.cont {rows cols room : Nat} {g : Pg} (h : PgInv rows cols room g) (y : Int) (b : Bool) : PgInv rows cols room (contP g y b) := by
  unfold contP
  split
  · exact h.mod _ _ (fun r => rfl)
  · exact h
theorem PgInv.tell {rows cols room : Nat} {g : Pg} (h : PgInv rows cols room g) (k a n : Int) : PgInv rows cols room (tellP g k a n) := ⟨h.hrows, h.hcols, h.hroom, h.hhist, h.wide⟩
theorem mem_slideUp {l : List Ro} {top bottom : Nat} {b r : Ro} (h : r ∈ slideUp l top bottom b) : r ∈ l ∨ r = b := by
  unfold slideUp at h
  simp only [List.mem_append, List.mem_cons] at h
  rcases h with h | h | h | h
  · exact .inl (List.mem_of_mem_take h)
  · exact .inl (List.mem_of_mem_drop (List.mem_of_mem_take h))
  · exact .inr h
  · exact .inl (List.mem_of_mem_drop h)
theorem mem_slideDn {l : List Ro} {top bottom : Nat} {b r : Ro} (h : r ∈ slideDn l top bottom b) : r ∈ l ∨ r = b := by
  unfold slideDn at h
  simp only [List.mem_append, List.mem_cons] at h
  rcases h with h | h | h | h
  · exact .inl (List.mem_of_mem_take h)
  · exact .inr h
  · exact .inl (List.mem_of_mem_drop (List.mem_of_mem_take h))
  · exact .inl (List.mem_of_mem_drop h)
theorem PgInv.slide {rows cols room : Nat} {g : Pg} (h : PgInv rows cols room g) {s : List Ro} {b : Col} (hl : s.length = g.scr.length) (hm : ∀ r ∈ s, r ∈ g.scr ∨ r = blankR g.cols b) : PgInv rows cols room { g with scr := s } := by
  refine ⟨hl.trans h.hrows, h.hcols, h.hroom, h.hhist, fun r hr => ?_⟩
  rcases List.mem_append.1 (show r ∈ g.hist ++ s from hr) with hr | hr
  · exact h.wide r (by simp [hr])
  · rcases hm r hr with hr | rfl
    · exact h.wide r (by simp [hr])
    · unfold blankR; rw [List.length_replicate]; exact h.hcols
theorem PgInv.cut {rows cols room : Nat} {g : Pg} (h : PgInv rows cols room g) {top bottom : Nat} (h1 : top ≤ bottom) (h2 : bottom < g.scr.length) (b : Col) : PgInv rows cols room (cutP g top bottom b) := by
  unfold cutP
  exact ((PgInv.slide (g := tellP (tellP g 1 (g.hist.length + top) 1) 0 (g.hist.length + bottom) 1) ((h.tell _ _ _).tell _ _ _) (b := b) (slideUp_len h1 h2) (fun r hr => mem_slideUp hr)).cont _ _).cont _ _
theorem PgInv.down {rows cols room : Nat} {g : Pg} (h : PgInv rows cols room g) {top bottom : Nat} (h1 : top ≤ bottom) (h2 : bottom < g.scr.length) (b : Col) : PgInv rows cols room (downP g top bottom b) := by
  unfold downP
  exact ((PgInv.slide (g := tellP (tellP g 1 (g.hist.length + bottom) 1) 0 (g.hist.length + top) 1) ((h.tell _ _ _).tell _ _ _) (b := b) (slideDn_len h1 h2) (fun r hr => mem_slideDn hr)).cont _ _).cont _ _
theorem PgInv.push {rows cols room : Nat} {g : Pg} (h : PgInv rows cols room g) {r : Ro} (hr : r.cs.length = cols) : PgInv rows cols room (pushP g r).1 ∧ (pushP g r).1.scr = g.scr := by
  have hh := h.hhist
  have hr0 := h.hroom
  unfold pushP
  split
  · exact ⟨⟨h.hrows, h.hcols, h.hroom, h.hhist, h.wide⟩, rfl⟩
  split
  · next h0 h1 =>
    refine ⟨⟨h.hrows, h.hcols, h.hroom, by show (g.hist.drop 1 ++ [r]).length ≤ room; simp; omega, fun x hx => ?_⟩, rfl⟩
    rcases List.mem_append.1 (show x ∈ (g.hist.drop 1 ++ [r]) ++ g.scr from hx) with hx | hx
    · rcases List.mem_append.1 hx with hx | hx
      · exact h.wide x (List.mem_append_left _ (List.mem_of_mem_drop hx))
      · rw [List.mem_singleton.1 hx]; exact hr
    · exact h.wide x (by simp [hx])
  · next h0 h1 =>
    refine ⟨⟨h.hrows, h.hcols, h.hroom, by show (g.hist ++ [r]).length ≤ room; simp; omega, fun x hx => ?_⟩, rfl⟩
    rcases List.mem_append.1 (show x ∈ (g.hist ++ [r]) ++ g.scr from hx) with hx | hx
    · rcases List.mem_append.1 hx with hx | hx
      · exact h.wide x (by simp [hx])
      · rw [List.mem_singleton.1 hx]; exact hr
    · exact h.wide x (by simp [hx])
theorem PgInv.up {rows cols room : Nat} {g : Pg} (h : PgInv rows cols room g) {top bottom : Nat} (h1 : top ≤ bottom) (h2 : bottom < g.scr.length) (b : Col) : PgInv rows cols room (upP g top bottom b) := by
  unfold upP
  split
  · exact h.cut h1 h2 b
  · next ht =>
    simp only []
    have hw : (g.scr.getD 0 ⟨[], false⟩).cs.length = cols := by
      rw [List.getD_eq_getElem?_getD, List.getElem?_eq_getElem (by omega)]
      exact h.wide _ (by simp)
    have hp := (h.tell 0 (g.hist.length + bottom + 1) 1).push hw
    have hc : (pushP (tellP g 0 (g.hist.length + bottom + 1) 1) (g.scr.getD 0 ⟨[], false⟩)).1.cols = g.cols := hp.1.hcols.trans h.hcols.symm
    generalize pushP (tellP g 0 (g.hist.length + bottom + 1) 1) (g.scr.getD 0 ⟨[], false⟩) = q at hp hc
    obtain ⟨q, e⟩ := q
    refine PgInv.cont ?_ _ _
    have hq : PgInv rows cols room (if e = true then tellP q 2 0 1 else q) := by
      split
      · exact hp.1.tell _ _ _
      · exact hp.1
    have hs : (if e = true then tellP q 2 0 1 else q).scr = g.scr := by
      split <;> exact hp.2
    have hcc : (if e = true then tellP q 2 0 1 else q).cols = g.cols := by
      split <;> exact hc
    exact hq.slide (b := b) (by rw [hs]; exact slideUp_len (by omega) h2) (fun r hr => by rw [hs, hcc]; exact mem_slideUp hr)
theorem PgInv.iter {rows cols room : Nat} {f : Pg → Pg} (hf : ∀ g, PgInv rows cols room g → PgInv rows cols room (f g)) : ∀ (n : Nat) {g : Pg}, PgInv rows cols room g → PgInv rows cols room (iterP f n g)
  | 0, _, h => h
  | n + 1, _, h => hf _ (PgInv.iter hf n h)
theorem PgInv.times {rows cols room : Nat} {g : Pg} (h : PgInv rows cols room g) (top bottom n : Int) (f : Nat → Nat → Pg → Pg) (hf : ∀ t b : Nat, t ≤ b → ∀ g, PgInv rows cols room g → b < g.scr.length → PgInv rows cols room (f t b g)) : PgInv rows cols room (timesP g top bottom n f) := by
  unfold timesP
  split
  · next hc =>
    simp only [Bool.and_eq_true, inP, decide_eq_true_eq] at hc
    refine PgInv.iter (fun g' h' => hf _ _ (by omega) g' h' ?_) _ h
    have := h.hrows
    have := h'.hrows
    omega
  · exact h
theorem PgInv.forget {rows cols room : Nat} {g : Pg} (h : PgInv rows cols room g) : PgInv rows cols room (forgetP g) := by
  unfold forgetP
  split
  · exact h
  · exact PgInv.cont (PgInv.tell (g := { g with hist := [], gone := g.gone + g.hist.length }) ⟨h.hrows, h.hcols, h.hroom, Nat.zero_le _, fun r hr => h.wide r (by have hr' : r ∈ ([] : List Ro) ++ g.scr := hr; simp at hr'; simp [hr'])⟩ _ _ _) _ _
theorem PgInv.erase {rows cols room : Nat} {g : Pg} (h : PgInv rows cols room g) (y x z : Int) (b : Col) : PgInv rows cols room (eraseP g y x z b) := by
  unfold eraseP
  have h1 := h.row y (fun l => eraseL l x z b) (fun l => eraseL_len l x z b)
  split
  · simp only []
    split
    · split
      · exact (h1.cont _ _).cont _ _
      · exact h1.cont _ _
    · exact h1
  · exact h
theorem PgInv.step {rows cols room : Nat} {g : Pg} (h : PgInv rows cols room g) (o : Pop) : PgInv rows cols room (stepP g o) := by
  unfold stepP
  split
  · exact h.row _ _ (fun l => putL_len l _ _ _)
  split
  · exact h.row _ _ (fun l => markL_len l _ _)
  split
  · exact h.erase _ _ _ _
  split
  · exact h.row _ _ (fun l => insertL_len l _ _ _)
  split
  · exact h.row _ _ (fun l => deleteL_len l _ _ _)
  split
  · exact h.cont _ _
  split
  · exact h.times _ _ _ _ (fun t b htb g' h' hb => h'.up htb hb _)
  split
  · exact h.times _ _ _ _ (fun t b htb g' h' hb => h'.down htb hb _)
  split
  · exact h.forget
  split
  · exact h.row _ _ closeL_len
  split
  · exact h.times _ _ _ _ (fun t b htb g' h' hb => h'.cut htb hb _)
  · exact h
end Go.Proofs.YtffdblmdelgkaaaGreat
