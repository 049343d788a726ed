/- Joined by a tool of this claim out of smaller texts. Conditions: as stated. -/
import Derived.Test.YtjcpdcncfjkejaaGreatSw19
set_option linter.unusedVariables false
set_option linter.unusedSimpArgs false
namespace Go.Proofs.YtjcpdcncfjkejaaGreat
/-- The cell of a number, behind so many prints; a row; rows. -/
def txtC (i k : Nat) : Cl := if k < i then mkCl (97 + (k : Int) % 26) ByteArray.empty 0 zeroA else blankC ⟨0, 0⟩
def txtR (cols i j : Nat) : Ro := ⟨(List.range cols).map (fun k => txtC i (j * cols + k)), decide (0 < j ∧ j * cols < i)⟩
def txtD (cols i a n : Nat) : List Ro := (List.range n).map (fun k => txtR cols i (a + k))
theorem txtC_half (i k : Nat) : (txtC i k).half = 0 := by unfold txtC; split <;> rfl
theorem mendL_flat : ∀ l : List Cl, (∀ c ∈ l, c.half = 0) → mendL l = l
  | [], _ => rfl
  | c :: l, h => by rw [mendL_zero (h c (List.mem_cons_self ..)), mendL_flat l (fun d hd => h d (List.mem_cons_of_mem _ hd))]
theorem txtR_half (cols i j : Nat) : ∀ c ∈ (txtR cols i j).cs, c.half = 0 := by
  intro c hc
  obtain ⟨k, -, rfl⟩ := List.mem_map.1 hc
  exact txtC_half _ _
theorem txtR_len (cols i j : Nat) : (txtR cols i j).cs.length = cols := by simp [txtR]
theorem txtD_len (cols i a n : Nat) : (txtD cols i a n).length = n := by simp [txtD]
theorem txtD_get {cols i a n k : Nat} (h : k < n) : (txtD cols i a n)[k]? = some (txtR cols i (a + k)) := by
  unfold txtD; rw [List.getElem?_map, List.getElem?_range h]; rfl
theorem wid_low {r : Int} (h1 : 32 ≤ r) (h2 : r < 127) : widOf r = 1 := by
  rw [widOf_low (by omega), if_neg (by simp [noneW]; omega)]
/-- Where the next one stands. -/
theorem cols_ne {cols j k J x : Nat} (hk : k < cols) (hx : x < cols) (h : j * cols + k = J * cols + x) : j = J ∧ k = x := by
  have e1 : (j * cols + k) / cols = j := by rw [Nat.mul_comm, Nat.mul_add_div (by omega), Nat.div_eq_of_lt hk, Nat.add_zero]
  have e2 : (J * cols + x) / cols = J := by rw [Nat.mul_comm, Nat.mul_add_div (by omega), Nat.div_eq_of_lt hx, Nat.add_zero]
  have e : j = J := by rw [← e1, h, e2]
  subst e
  exact ⟨rfl, by omega⟩
theorem txtC_other {i k : Nat} (h : k ≠ i) : txtC (i + 1) k = txtC i k := by
  unfold txtC
  by_cases hk : k < i
  · rw [if_pos hk, if_pos (by omega)]
  · rw [if_neg hk, if_neg (by omega)]
theorem txtR_other {cols j J x i : Nat} (hj : j ≠ J) (hx : x < cols) (hi : J * cols + x = i) : txtR cols (i + 1) j = txtR cols i j := by
  unfold txtR
  congr 1
  · refine List.map_congr_left fun k hk => txtC_other fun h => ?_
    exact hj (cols_ne (List.mem_range.1 hk) hx (h.trans hi.symm)).1
  · by_cases h0 : j * cols = i
    · exact absurd (cols_ne (k := 0) (by omega) hx (by omega)).1 hj
    · congr 1
      apply propext
      constructor
      · rintro ⟨a, b⟩; exact ⟨a, by omega⟩
      · rintro ⟨a, b⟩; exact ⟨a, by omega⟩
theorem txtR_put {cols J x i : Nat} (hx : x < cols) (hi : J * cols + x = i) : putL (txtR cols i J).cs x (97 + (i : Int) % 26) zeroA = (txtR cols (i + 1) J).cs := by
  unfold putL
  simp only []
  rw [mendL_flat _ (txtR_half _ _ _), if_pos ⟨wid_low (by omega) (by omega), by omega, by rw [txtR_len]; omega⟩, Int.toNat_natCast, mendL_flat]
  · apply List.ext_getElem?
    intro k
    rw [List.getElem?_set]
    by_cases hk : x = k
    · subst hk
      rw [if_pos rfl, txtR_len, if_pos hx]
      show _ = ((List.range cols).map _)[x]?
      rw [List.getElem?_map, List.getElem?_range hx]
      show _ = some (txtC (i + 1) (J * cols + x))
      rw [hi]
      unfold txtC
      rw [if_pos (by omega)]
    · rw [if_neg hk]
      show ((List.range cols).map _)[k]? = ((List.range cols).map _)[k]?
      rw [List.getElem?_map, List.getElem?_map]
      by_cases hc : k < cols
      · rw [List.getElem?_range hc]
        show some (txtC i (J * cols + k)) = some (txtC (i + 1) (J * cols + k))
        rw [txtC_other (by omega)]
      · rw [List.getElem?_eq_none (by simpa using hc)]; rfl
  · intro c hc
    rcases List.mem_or_eq_of_mem_set hc with h | rfl
    · exact txtR_half _ _ _ c h
    · rfl
/-- One more is written. -/
theorem txtD_put {cols i a n p x : Nat} (hx : x < cols) (_ : p < n) (hi : (a + p) * cols + x = i) (c : Bool → Bool) (hc : c (decide (0 < a + p ∧ (a + p) * cols < i)) = decide (0 < a + p)) :
    (txtD cols i a n).modify p (fun r => { cs := putL r.cs x (97 + (i : Int) % 26) zeroA, cont := c r.cont }) = txtD cols (i + 1) a n := by
  apply List.ext_getElem?
  intro k
  rw [List.getElem?_modify]
  by_cases hk : k < n
  · rw [txtD_get hk, txtD_get hk]
    by_cases hpk : p = k
    · subst hpk
      show (fun a => if p = p then _ else _) <$> _ = _
      simp only [if_true]
      show some (Ro.mk (putL (txtR cols i (a + p)).cs x (97 + (i : Int) % 26) zeroA) (c (decide (0 < a + p ∧ (a + p) * cols < i)))) = _
      rw [txtR_put hx hi, hc]
      show some (Ro.mk (txtR cols (i + 1) (a + p)).cs _) = some (Ro.mk (txtR cols (i + 1) (a + p)).cs (decide (0 < a + p ∧ (a + p) * cols < i + 1)))
      congr 2
      congr 1
      apply propext
      constructor
      · exact fun h => ⟨h, by omega⟩
      · exact fun h => h.1
    · simp only [if_neg hpk]
      show some (txtR cols i (a + k)) = _
      rw [txtR_other (J := a + p) (by omega) hx hi]
  · rw [List.getElem?_eq_none (by rw [txtD_len]; omega), List.getElem?_eq_none (by rw [txtD_len]; omega)]; rfl
theorem blank_txt {cols i j : Nat} (h : i ≤ j * cols) : blankR cols ⟨0, 0⟩ = txtR cols i j := by
  unfold blankR txtR
  congr 1
  · apply List.ext_getElem?
    intro k
    rw [List.getElem?_map]
    by_cases hk : k < cols
    · rw [List.getElem?_range hk, List.getElem?_replicate, if_pos hk]
      show _ = some (txtC i (j * cols + k))
      unfold txtC
      rw [if_neg (by omega)]
    · rw [List.getElem?_eq_none (by simpa using hk), List.getElem?_eq_none (by simpa using hk)]; rfl
  · rw [decide_eq_false]; omega
theorem txtD_grow {cols i a n : Nat} (h : i ≤ (a + n) * cols) : txtD cols i a n ++ [blankR cols ⟨0, 0⟩] = txtD cols i a (n + 1) := by
  unfold txtD
  rw [List.range_succ, List.map_append, blank_txt h]
  rfl
theorem txtD_drop {cols i a n : Nat} : (txtD cols i a (n + 1)).drop 1 = txtD cols i (a + 1) n := by
  unfold txtD
  rw [List.range_succ_eq_map, List.map_cons, List.map_map]
  show List.map _ _ = _
  refine List.map_congr_left fun k _ => ?_
  show txtR cols i (a + (k + 1)) = txtR cols i (a + 1 + k)
  rw [show a + (k + 1) = a + 1 + k by omega]
/-- A whole screen goes one up. -/
theorem dcUp_all {d : Dc} {rows : Nat} (b : Col) (h : d.L.length = d.base + rows) (h0 : 1 ≤ rows) :
    dcUp d 0 (rows - 1) b = (let d2 : Dc := { d with L := d.L ++ [blankR d.cols b], base := d.base + 1, told := d.told ++ [⟨0, d.base + rows, 1⟩] }; if d.room < d.base + 1 then dcEvict d2 1 else d2) := by
  unfold dcUp
  rw [if_pos rfl]
  have e : dcInsert d (d.base + (rows - 1) + 1) (blankR d.cols b) = { d with L := d.L ++ [blankR d.cols b], told := d.told ++ [⟨0, d.base + rows, 1⟩] } := by
    unfold dcInsert
    rw [show d.base + (rows - 1) + 1 = d.L.length by omega, List.take_length, List.drop_length, h]
    rfl
  rw [e]
  have e2 : ∀ d3 : Dc, dcRows d3 = rows → dcPart d3 (((rows - 1 : Nat) : Int) + 1) = d3 := by
    intro d3 h3
    unfold dcPart
    have : dcIn d3 (((rows - 1 : Nat) : Int) + 1) = false := by unfold dcIn; rw [h3]; simp; omega
    rw [this]; rfl
  simp only []
  rw [e2 _ (by unfold dcRows; simp; omega)]
/-- What is so behind so many prints. -/
structure Wr (rows cols room i : Nat) (s : Sc) : Prop where
  pen : s.pen = firstPe
  inv : PgInv rows cols room s.pg
  a : ∃ a y x : Nat, s.pg.gone = a ∧ s.y = y ∧ s.x = x ∧ s.pg.hist ++ s.pg.scr = txtD cols i a (s.pg.hist.length + rows) ∧ (a + (s.pg.hist.length + y)) * cols + x = i ∧ x ≤ cols ∧ y < rows ∧ (x = 0 → a + (s.pg.hist.length + y) = 0)
  top : s.top = 0
  bot : s.bot = rows - 1
  told : s.pg.told.length ≤ 2 * i
theorem modify_modify {α : Type} (l : List α) (k : Nat) (f g : α → α) : (l.modify k f).modify k g = l.modify k (fun r => g (f r)) := by
  apply List.ext_getElem?
  intro j
  rw [List.getElem?_modify, List.getElem?_modify, List.getElem?_modify]
  cases l[j]? with
  | none => rfl
  | some v => by_cases h : k = j <;> simp [h]
/-- A scalar is laid, in a row that may go on. -/
theorem wr_lay {rows cols room i a y x : Nat} {s : Sc} {c : Bool → Bool} {scr : List Ro} (hpen : s.pen = firstPe) (hinv : PgInv rows cols room s.pg) (hg : s.pg.gone = a) (hy : s.y = y) (hx : s.x = x) (hs : s.pg.scr = scr.modify y (fun r => { r with cont := c r.cont })) (hD : s.pg.hist ++ scr = txtD cols i a (s.pg.hist.length + rows))
    (hi : (a + (s.pg.hist.length + y)) * cols + x = i) (hxc : x < cols) (hyr : y < rows) (hc : c (decide (0 < a + (s.pg.hist.length + y) ∧ (a + (s.pg.hist.length + y)) * cols < i)) = decide (0 < a + (s.pg.hist.length + y))) (ht : s.top = 0) (hb : s.bot = rows - 1) (htd : s.pg.told.length ≤ 2 * (i + 1)) :
    Wr rows cols room (i + 1) (layS s (97 + (i : Int) % 26) 1) := by
  have hin : inP s.pg s.y = true := by unfold inP; rw [hinv.hrows, hy]; simp; omega
  have hrow : rowP s.pg s.y (fun l => putL l s.x (97 + (i : Int) % 26) s.pen.at_) = { s.pg with scr := scr.modify y (fun r => { cs := putL r.cs x (97 + (i : Int) % 26) zeroA, cont := c r.cont }) } := by
    unfold rowP
    rw [hin, if_pos rfl, hy, hx, hs, Int.toNat_natCast, modify_modify, hpen]
    rfl
  have hinv2 := hinv.row s.y (fun l => putL l s.x (97 + (i : Int) % 26) s.pen.at_) (fun l => putL_len l _ _ _)
  refine ⟨hpen, hinv2, ⟨a, y, x + 1, ?_, hy, by show s.x + 1 = _; rw [hx]; rfl, ?_, ?_, by omega, hyr, by omega⟩, ht, hb, by show (rowP _ _ _).told.length ≤ _; rw [hrow]; exact htd⟩
  · show (rowP _ _ _).gone = _
    rw [hrow]; exact hg
  · show (rowP _ _ _).hist ++ (rowP _ _ _).scr = txtD cols (i + 1) a ((rowP _ _ _).hist.length + rows)
    rw [hrow]
    show s.pg.hist ++ scr.modify y _ = txtD cols (i + 1) a (s.pg.hist.length + rows)
    rw [← modify_append, hD]
    exact txtD_put hxc (by omega) (by omega) c hc
  · show (a + ((rowP _ _ _).hist.length + y)) * cols + (x + 1) = i + 1
    rw [hrow]
    show (a + (s.pg.hist.length + y)) * cols + (x + 1) = i + 1
    omega
theorem wr_step {rows cols room i : Nat} {s : Sc} (h : Wr rows cols room i s) (h0 : 1 ≤ rows) (hc2 : 2 ≤ cols) : Wr rows cols room (i + 1) (printS s (97 + (i : Int) % 26)) := by
  obtain ⟨a, y, x, hg, hy, hx, hD, hi, hxc, hyr, hx0⟩ := h.a
  have hw : widOf (97 + (i : Int) % 26) = 1 := wid_low (by omega) (by omega)
  have hm : mapC s.pen.ch (97 + (i : Int) % 26) = 97 + (i : Int) % 26 := by
    rw [h.pen]
    show shownC 66 _ = _
    unfold shownC
    rw [if_neg (by omega), if_neg (by omega), if_neg (by omega)]
  have hpen2 : ({ s.pen with ch := onceC s.pen.ch } : Pe) = firstPe := by rw [h.pen]; rfl
  unfold printS writeS
  rw [hm, hw, if_neg (by decide), if_neg (by decide), hpen2]
  have hcols : colsS { s with pen := firstPe } = cols := by show ((s.pg.cols : Nat) : Int) = _; rw [h.inv.hcols]
  unfold shoveS
  have hput : ∀ s1 : Sc, s1.pen = firstPe → (if s1.pen.put = true then { s1 with pg := rowP s1.pg s1.y (fun l => insertL l s1.x 1 (backS s1)) } else s1) = s1 := by
    intro s1 h1; rw [h1]; rfl
  by_cases hlt : x < cols
  · have hr : roomS { s with pen := firstPe } 1 = { s with pen := firstPe } := by
      unfold roomS
      rw [hcols, if_pos (by show s.x + 1 ≤ _; omega)]
    rw [hr, hput _ rfl]
    refine wr_lay (c := fun b => b) (scr := s.pg.scr) rfl h.inv hg hy hx ?_ hD hi hlt hyr ?_ h.top h.bot (by have := h.told; show s.pg.told.length ≤ _; omega)
    · show s.pg.scr = s.pg.scr.modify y (fun r => r)
      apply List.ext_getElem?
      intro j
      rw [List.getElem?_modify]
      cases s.pg.scr[j]? <;> simp
    · show decide _ = decide _
      congr 1
      apply propext
      constructor
      · exact fun h => h.1
      · intro h1
        have h2 : 0 < a + (s.pg.hist.length + y) := h1
        refine ⟨h1, ?_⟩
        show (a + (s.pg.hist.length + y)) * cols < i
        have : x ≠ 0 := fun h3 => by have := hx0 h3; omega
        omega
  · obtain rfl : x = cols := by omega
    have hi2 : (a + (s.pg.hist.length + y) + 1) * x = i := by rw [Nat.add_mul]; omega
    have hr : roomS { s with pen := firstPe } 1 = onS (feedS { s with pen := firstPe }) := by
      unfold roomS padS
      rw [hcols, if_neg (by show ¬ s.x + 1 ≤ _; omega)]
      simp only []
      rw [if_neg (by decide), if_neg (by show ¬ s.x < _; omega)]
    rw [hr]
    by_cases hyb : y + 1 < rows
    · have hf : feedS { s with pen := firstPe } = ({ s with pen := firstPe, x := inS { s with pen := firstPe }, y := s.y + 1 }, true) := by
        unfold feedS
        rw [if_neg (by show s.y ≠ s.bot; rw [h.bot]; omega), if_pos (by show s.y < (s.pg.scr.length : Int) - 1; rw [h.inv.hrows]; omega)]
      rw [hf]
      unfold onS
      rw [if_pos rfl, hput _ rfl]
      have hcp : contP s.pg (s.y + 1) true = { s.pg with scr := s.pg.scr.modify (y + 1) (fun r => { r with cont := true }) } := by
        unfold contP
        have : inP s.pg (s.y + 1) = true := by unfold inP; rw [h.inv.hrows]; simp; omega
        rw [this, if_pos rfl, show (s.y + 1).toNat = y + 1 by omega]
      have hinv2 := h.inv.cont (s.y + 1) true
      refine wr_lay (c := fun _ => true) (scr := s.pg.scr) (a := a) (y := y + 1) (x := 0) rfl hinv2 ?_ (by show s.y + 1 = _; omega) rfl ?_ ?_ ?_ (by omega) hyb ?_ h.top h.bot (by have := h.told; show (contP s.pg (s.y + 1) true).told.length ≤ _; rw [hcp]; show s.pg.told.length ≤ _; omega)
      · show (contP s.pg (s.y + 1) true).gone = a; rw [hcp]; exact hg
      · show (contP s.pg (s.y + 1) true).scr = _; rw [hcp]
      · show (contP s.pg (s.y + 1) true).hist ++ _ = txtD _ _ _ ((contP s.pg (s.y + 1) true).hist.length + rows); rw [hcp]; exact hD
      · show (a + ((contP s.pg (s.y + 1) true).hist.length + (y + 1))) * x + 0 = i
        rw [hcp]
        show (a + (s.pg.hist.length + (y + 1))) * x + 0 = i
        rw [show a + (s.pg.hist.length + (y + 1)) = a + (s.pg.hist.length + y) + 1 by omega]; exact hi2
      · show true = decide _
        rw [decide_eq_true]; omega
    · obtain rfl : rows = y + 1 := by omega
      have hhl : (s.pg.hist ++ s.pg.scr).length = s.pg.hist.length + (y + 1) := by rw [List.length_append, h.inv.hrows]
      have hf : feedS { s with pen := firstPe } = ({ s with pen := firstPe, x := inS { s with pen := firstPe }, pg := upP s.pg 0 y ⟨0, 0⟩ }, true) := by
        unfold feedS
        rw [if_pos (by show s.y = s.bot; rw [h.bot]; omega)]
        congr 2
        show timesP s.pg s.top s.bot 1 _ = _
        unfold timesP
        rw [h.top, h.bot]
        have i1 : inP s.pg 0 = true := by unfold inP; rw [h.inv.hrows]; simp
        have i2 : inP s.pg (((y + 1 : Nat) : Int) - 1) = true := by unfold inP; rw [h.inv.hrows, Bool.and_eq_true, decide_eq_true_eq, decide_eq_true_eq]; omega
        rw [i1, i2, if_pos (by simp), show min (1 : Int).toNat ((((y + 1 : Nat) : Int) - 1 - 0 + 1).toNat) = 1 by omega, show (((y + 1 : Nat) : Int) - 1).toNat = y by omega]
        rfl
      rw [hf]
      unfold onS
      rw [if_pos rfl, hput _ rfl]
      have hU := dcOf_up s.pg 0 y ⟨0, 0⟩ (by omega) (by rw [h.inv.hrows]; omega) (by rw [h.inv.hroom]; exact h.inv.hhist)
      have hinvU := h.inv.up (top := 0) (bottom := y) (by omega) (by rw [h.inv.hrows]; omega) ⟨0, 0⟩
      rw [show y = (y + 1) - 1 by omega] at hU
      rw [dcUp_all (d := dcOf s.pg) (rows := y + 1) _ hhl (by omega)] at hU
      simp only [Nat.add_sub_cancel] at hU
      have hgrow : (s.pg.hist ++ s.pg.scr) ++ [blankR s.pg.cols ⟨0, 0⟩] = txtD x i a (s.pg.hist.length + (y + 1) + 1) := by
        rw [hD, h.inv.hcols]
        exact txtD_grow (by rw [show a + (s.pg.hist.length + (y + 1)) = a + (s.pg.hist.length + y) + 1 by omega]; omega)
      -- what the page holds behind it
      have hAll : ∃ a' : Nat, (upP s.pg 0 y ⟨0, 0⟩).gone = a' ∧ (upP s.pg 0 y ⟨0, 0⟩).hist ++ (upP s.pg 0 y ⟨0, 0⟩).scr = txtD x i a' ((upP s.pg 0 y ⟨0, 0⟩).hist.length + (y + 1)) ∧ a' + (upP s.pg 0 y ⟨0, 0⟩).hist.length = a + s.pg.hist.length + 1 := by
        by_cases hroom : s.pg.room < s.pg.hist.length + 1
        · rw [if_pos (show (dcOf s.pg).room < (dcOf s.pg).base + 1 from hroom)] at hU
          have hL := congrArg Dc.L hU
          have hB := congrArg Dc.base hU
          have hG := congrArg Dc.gone hU
          change (s.pg.hist ++ s.pg.scr ++ [blankR s.pg.cols ⟨0, 0⟩]).drop 1 = (upP s.pg 0 y ⟨0, 0⟩).hist ++ (upP s.pg 0 y ⟨0, 0⟩).scr at hL
          change s.pg.hist.length + 1 - 1 = (upP s.pg 0 y ⟨0, 0⟩).hist.length at hB
          change s.pg.gone + ((1 : Nat) : Int) = (upP s.pg 0 y ⟨0, 0⟩).gone at hG
          refine ⟨a + 1, by omega, ?_, by omega⟩
          rw [← hL, hgrow, txtD_drop, ← hB]
          rfl
        · rw [if_neg (show ¬ (dcOf s.pg).room < (dcOf s.pg).base + 1 from hroom)] at hU
          have hL := congrArg Dc.L hU
          have hB := congrArg Dc.base hU
          have hG := congrArg Dc.gone hU
          change s.pg.hist ++ s.pg.scr ++ [blankR s.pg.cols ⟨0, 0⟩] = (upP s.pg 0 y ⟨0, 0⟩).hist ++ (upP s.pg 0 y ⟨0, 0⟩).scr at hL
          change s.pg.hist.length + 1 = (upP s.pg 0 y ⟨0, 0⟩).hist.length at hB
          change s.pg.gone = (upP s.pg 0 y ⟨0, 0⟩).gone at hG
          refine ⟨a, by omega, ?_, by omega⟩
          rw [← hL, hgrow, ← hB]
          congr 1
          omega
      obtain ⟨a', e1, e2, e3⟩ := hAll
      have hut := (calm_up ⟨0, 0⟩ 0 y s.pg (by omega) (by rw [h.inv.hrows]; omega)).2.1
      simp only [] at hut
      generalize hu : upP s.pg 0 y ⟨0, 0⟩ = u at e1 e2 e3 hinvU hut ⊢
      have hcp : contP u s.y true = { u with scr := u.scr.modify y (fun r => { r with cont := true }) } := by
        unfold contP
        have : inP u s.y = true := by unfold inP; rw [hinvU.hrows]; simp; omega
        rw [this, if_pos rfl, show s.y.toNat = y by omega]
      have hinv2 := hinvU.cont s.y true
      refine wr_lay (c := fun _ => true) (scr := u.scr) (a := a') (y := y) (x := 0) rfl hinv2 ?_ hy rfl ?_ ?_ ?_ (by omega) (by omega) ?_ h.top h.bot (by have := h.told; show (contP u s.y true).told.length ≤ _; rw [hcp]; show u.told.length ≤ _; omega)
      · show (contP u s.y true).gone = a'; rw [hcp]; exact e1
      · show (contP u s.y true).scr = _; rw [hcp]
      · show (contP u s.y true).hist ++ _ = txtD _ _ _ ((contP u s.y true).hist.length + _); rw [hcp]; exact e2
      · show (a' + ((contP u s.y true).hist.length + y)) * x + 0 = i
        rw [hcp]
        show (a' + (u.hist.length + y)) * x + 0 = i
        rw [show a' + (u.hist.length + y) = a + (s.pg.hist.length + y) + 1 by omega]; exact hi2
      · show true = decide _
        rw [decide_eq_true]
        rw [hcp]
        show 0 < a' + (u.hist.length + y)
        omega
theorem wr_new {rows cols room : Nat} {st : List Bool} (h0 : 1 ≤ rows) : Wr rows cols room 0 (newS rows cols room st) := by
  refine ⟨rfl, ⟨by simp [newS], rfl, rfl, Nat.zero_le _, ?_⟩, ⟨0, 0, 0, rfl, rfl, rfl, ?_, by simp [newS], by omega, by omega, fun _ => rfl⟩, rfl, rfl, by simp [newS]⟩
  · intro r hr
    have h1 : r ∈ List.replicate rows (blankR cols ⟨0, 0⟩) := by simpa [newS] using hr
    rw [List.eq_of_mem_replicate h1]
    simp [blankR]
  · show [] ++ List.replicate rows (blankR cols ⟨0, 0⟩) = txtD cols 0 0 (0 + rows)
    apply List.ext_getElem?
    intro k
    rw [List.nil_append, Nat.zero_add]
    by_cases hk : k < rows
    · rw [txtD_get hk, List.getElem?_replicate, if_pos hk, blank_txt (i := 0) (j := 0 + k) (by omega)]
    · rw [List.getElem?_eq_none (by rw [List.length_replicate]; omega), List.getElem?_eq_none (by rw [txtD_len]; omega)]
/-- What the law asks of a number. -/
theorem wr_end {rows cols room n : Nat} {s : Sc} (h : Wr rows cols room n s) (hc : 2 ≤ cols) {i : Nat} (hg : s.pg.gone * cols ≤ i) (hi : i < n) :
    ∃ y : Nat, (y : Int) = ((i / cols : Nat) : Int) - s.pg.gone ∧ ∃ r, (s.pg.hist ++ s.pg.scr)[y]? = some r ∧ r.cs.length = cols ∧ (∃ c, r.cs[i % cols]? = some c ∧ c.r = 97 + (i : Int) % 26) ∧ r.cont = decide (0 < i / cols) := by
  obtain ⟨a, y, x, e1, e2, e3, e4, e5, e6, e7, e8⟩ := h.a
  rw [e1] at hg ⊢
  have hg2 : a * cols ≤ i := by exact_mod_cast hg
  have hq : a ≤ i / cols := (Nat.le_div_iff_mul_le (by omega)).2 hg2
  have hlt : i / cols < a + (s.pg.hist.length + rows) := by
    rw [Nat.div_lt_iff_lt_mul (by omega)]
    have : (a + (s.pg.hist.length + y) + 1) * cols ≤ (a + (s.pg.hist.length + rows)) * cols := Nat.mul_le_mul_right _ (by omega)
    rw [Nat.add_mul, Nat.one_mul] at this
    omega
  refine ⟨i / cols - a, by omega, txtR cols n (i / cols), ?_, txtR_len _ _ _, ⟨txtC n i, ?_, ?_⟩, ?_⟩
  · rw [e4, txtD_get (by omega), show a + (i / cols - a) = i / cols by omega]
  · show ((List.range cols).map _)[i % cols]? = _
    rw [List.getElem?_map, List.getElem?_range (Nat.mod_lt _ (by omega))]
    show some (txtC n (i / cols * cols + i % cols)) = _
    rw [Nat.mul_comm, Nat.div_add_mod]
  · unfold txtC; rw [if_pos hi]; rfl
  · show decide _ = decide _
    congr 1
    apply propext
    constructor
    · exact fun h => h.1
    · exact fun h => ⟨h, Nat.lt_of_le_of_lt (Nat.div_mul_le_self _ _) hi⟩
/-- So many prints. -/
def wrS (s : Sc) : Nat → Sc
  | 0 => s
  | n + 1 => printS (wrS s n) (97 + (n : Int) % 26)
theorem wr_all {rows cols room : Nat} {s : Sc} (h : Wr rows cols room 0 s) (h0 : 1 ≤ rows) (hc2 : 2 ≤ cols) : ∀ n, Wr rows cols room n (wrS s n)
  | 0 => h
  | n + 1 => wr_step (wr_all h h0 hc2 n) h0 hc2
theorem wr_gone {rows cols room n : Nat} {s : Sc} (h : Wr rows cols room n s) (_ : 2 ≤ cols) : ∃ a : Nat, s.pg.gone = a ∧ a * cols ≤ n := by
  obtain ⟨a, y, x, e1, e2, e3, e4, e5, e6, e7, e8⟩ := h.a
  refine ⟨a, e1, ?_⟩
  have : a * cols ≤ (a + (s.pg.hist.length + y)) * cols := Nat.mul_le_mul_right _ (by omega)
  omega
end Go.Proofs.YtjcpdcncfjkejaaGreat

namespace Go.Proofs.YtjcpdcncfjkejaaGreat
open Go.RowKit
section
variable {base : Nat} {w : World} {v : Sv} {s : Sc}
theorem room_x (hi : ScI s) (hc : 2 ≤ s.pg.cols) {n : Int} (hn1 : 1 ≤ n) (hn2 : n ≤ 2) : 0 ≤ (roomS s n).x ∧ (roomS s n).x + n ≤ s.pg.cols := by
  have hx0 := hi.x0
  unfold roomS colsS
  split
  · exact ⟨hx0, by assumption⟩
  split
  · exact ⟨by show 0 ≤ (s.pg.cols : Int) - n; omega, by show (s.pg.cols : Int) - n + n ≤ _; omega⟩
  · unfold onS
    split
    · exact ⟨Int.le_refl _, by show 0 + n ≤ _; omega⟩
    · exact ⟨Int.le_refl _, by show 0 + n ≤ _; omega⟩
set_option maxRecDepth 100000 in
set_option maxHeartbeats 3200000 in
theorem sWrite_any (h : ScO base w v s) (hi : ScI s) (ht : s.pg.told.length ≤ 900000) (r : Int) : Calls Tryz.prog 16 #[.pointer (some ⟨v.S, 0, none⟩), .int .i32 r] w (ScPost base w v (writeS s r)) := by
  have HW := Lib.hid (fun w => widOf_any r w)
  have hc2 := h.page.cols2
  have hc3 := h.page.cols1000
  have hx0 := hi.x0
  have hx1 := hi.x1
  have HO := Lib.hid h
  have HI := Lib.hid hi
  have hwr : writeS s r = if widOf r = 0 then { s with pg := rowP s.pg s.y (fun l => markL l (s.x - 1) r) } else if widOf r < 1 then s else layS (shoveS (roomS s (widOf r)) (widOf r)) r (widOf r) := rfl
  rw [hwr]
  have hwd : widOf r ≤ 2 := by
    unfold widOf
    split
    · decide
    split
    · decide
    split <;> decide
  generalize hn : widOf r = n at *
  clear h hi hwr hn
  by_cases h0 : n = 0
  · subst h0
    rw [if_pos rfl]
    have hwx : IntKind.i64.wrap (s.x - 1) = s.x - 1 := IntWalk.i64_in _ (by omega)
    go_enter Tryz.func16, Tryz.ntmps16
    go_upto_region 2 with (go_at_call 31; refine (HW.out _).mono ?_; rintro e w1 ⟨rfl, hb⟩; have HB1 := Lib.hid hb; clear hb)
    rename World => W1
    have hO1 := HO.out.below HB1.out
    have HMK : Hid (∀ w', Below W1.heap.size W1 w' → Calls Tryz.prog 32 #[.pointer (some ⟨v.q.P, 0, none⟩), .int .i64 s.y, .int .i64 (s.x - 1), .int .i32 r] w' (PgPost base w' v.q (rowP s.pg s.y (fun l => markL l (s.x - 1) r)))) := Lib.hid (fun w' hb => pMark_any (hO1.below hb).page s.y (s.x - 1) r)
    obtain ⟨c14, -⟩ := at_ hO1.blk 14 (.pointer (some ⟨v.q.P, 0, none⟩)) rfl
    obtain ⟨c16, -⟩ := at_ hO1.blk 16 (.int .i64 s.y) rfl
    obtain ⟨c17, -⟩ := at_ hO1.blk 17 (.int .i64 s.x) rfl
    have HO1 := Lib.hid hO1
    clear hO1
    refine wp_region_u 14 (fun w' => Below W1.heap.size W1 w' ∧ w'.cell? ⟨v.S, 14, none⟩ = some (.pointer (some ⟨v.q.P, 0, none⟩)) ∧ w'.cell? ⟨v.S, 16, none⟩ = some (.int .i64 s.y) ∧ w'.cell? ⟨v.S, 17, none⟩ = some (.int .i64 s.x)) (by kernel_rfl) (by kernel_rfl) ?_ ?_
    · exact ⟨(Below.refl _ _).drew, c14, c16, c17⟩
    simp only [List.take_succ_cons, List.take_zero, List.drop_succ_cons, List.drop_zero]
    repeat (
      (first
       | refine seqU_skip (by rfl) ?_
       | (refine seqU_val ?_ (by rfl) ?_ ?_; rotate_left; (focus (intro w' hS; obtain ⟨_, _, _, _⟩ := hS; go_simp; first | done | with_reducible rfl))))
      simp only [Act.put, List.setIfInBounds_toArray, List.set_cons_zero, List.set_cons_succ])
    refine seqU_nil (fun w' hS => ?_)
    have HB2 := Lib.hid hS.1
    clear hS c14 c16 c17
    go_wp2_with (go_at_call 32; refine (HMK.out _ HB2.out).mono ?_; rintro e w3 ⟨rfl, hp⟩; have HP3 := Lib.hid hp; clear hp)
    go_end0
    exact ⟨rfl, ScRes.trans ⟨rfl, rfl, rfl, (Mod.of_below HB1.out).then_below HB2.out, fun b hb => .inl hb⟩ ((HO1.out.below HB2.out).paged HP3.out)⟩
  rw [if_neg h0]
  have h0b : (n == 0) = false := by simpa using h0
  by_cases h1 : n < 1
  · rw [if_pos h1]
    go_enter Tryz.func16, Tryz.ntmps16
    go_wp2_with (go_at_call 31; refine (HW.out _).mono ?_; rintro e w1 ⟨rfl, hb⟩; have HB1 := Lib.hid hb; clear hb)
    go_end0
    exact ⟨rfl, HO.out.res_below HB1.out⟩
  rw [if_neg h1]
  have HRM : Hid (∀ w', Below w.heap.size w w' → Calls Tryz.prog 33 #[.pointer (some ⟨v.S, 0, none⟩), .int .i64 n] w' (ScPost base w' v (roomS s n))) := Lib.hid (fun w' hb => sRoom_any (HO.out.below hb) HI.out ht n (by omega) hwd)
  obtain ⟨hr0, hr1⟩ := room_x HI.out hc2 (n := n) (by omega) hwd
  obtain ⟨s1, hs1⟩ : ∃ s1, roomS s n = s1 := ⟨_, rfl⟩
  rw [hs1] at HRM hr0 hr1 ⊢
  have hwx : IntKind.i64.wrap (s1.x + n) = s1.x + n := IntWalk.i64_in _ (by omega)
  clear hs1
  have hsh : shoveS s1 n = if s1.pen.put = true then { s1 with pg := rowP s1.pg s1.y (fun l => insertL l s1.x n (backS s1)) } else s1 := by unfold shoveS; cases s1.pen.put <;> rfl
  obtain ⟨s2, hs2⟩ : ∃ s2, shoveS s1 n = s2 := ⟨_, rfl⟩
  have hs2x : s2.x = s1.x ∧ s2.y = s1.y ∧ s2.pen = s1.pen := by rw [← hs2, hsh]; split <;> exact ⟨rfl, rfl, rfl⟩
  rw [hs2] at hsh ⊢
  have HX2 := Lib.hid hs2x
  clear hs2x
  have HSH := Lib.hid hsh
  clear hsh hs2
  cases hput : s1.pen.put
  all_goals
    go_enter Tryz.func16, Tryz.ntmps16
    go_upto_region 5 with (first
      | (go_at_call 31; refine (HW.out _).mono ?_; rintro e w1 ⟨rfl, hb⟩; have HB1 := Lib.hid hb; clear hb)
      | (go_at_call 33; refine (HRM.out _ HB1.out).mono ?_; rintro e w2 ⟨rfl, hs⟩; have HS2 := Lib.hid (ScRes.pre HB1.out hs); clear hs))
    obtain ⟨v2, e1, e2, e3, hO2, hm2, hx2⟩ := HS2.out
    rename World => W2
    have HO2 := Lib.hid hO2
    have HE2 := Lib.hid (show v2.S = v.S ∧ v2.T = v.T ∧ v2.q.P = v.q.P ∧ Mod (scX v) w W2 ∧ ∀ b ∈ scX v2, b ∈ scX v ∨ w.heap.size ≤ b from ⟨e1, e2, e3, hm2, hx2⟩)
    obtain ⟨c11, -⟩ := at_ hO2.blk 11 (.bool s1.pen.put) rfl
    rw [e1, hput] at c11
    clear hO2 hm2 hx2 e2 e3 HS2
  have HR7 : Hid (ScRes base w v s2 W2) := Lib.hid (by
    have e : s2 = s1 := by rw [HSH.out, hput]; rfl
    rw [e]
    exact ScRes.trans HE2.out HO2.out.res)
  go_upto_region 7 with fail
  clear HO2 HE2 c11
  rename World => W7
  rotate_left
  have HBK : Hid (∀ w', Below W2.heap.size W2 w' → Calls Tryz.prog 35 #[.pointer (some ⟨v.S, 0, none⟩)] w' fun e w3 => e = .returned (.agg #[.int .i64 s1.pen.at_.bk, .int .i64 s1.pen.at_.bn]) ∧ Below w'.heap.size w' w3) := Lib.hid (fun w' hb => by rw [← e1]; exact sBack_any (HO2.out.below hb))
  have HIN : Hid (∀ w', Below W2.heap.size W2 w' → Calls Tryz.prog 34 #[.pointer (some ⟨v2.q.P, 0, none⟩), .int .i64 s1.y, .int .i64 s1.x, .int .i64 n, .agg #[.int .i64 s1.pen.at_.bk, .int .i64 s1.pen.at_.bn]] w' (PgPost base w' v2.q (rowP s1.pg s1.y (fun l => insertL l s1.x n ⟨s1.pen.at_.bk, s1.pen.at_.bn⟩)))) := Lib.hid (fun w' hb => pInsert_any (HO2.out.below hb).page s1.y s1.x n ⟨s1.pen.at_.bk, s1.pen.at_.bn⟩)
  obtain ⟨c14, -⟩ := at_ HO2.out.blk 14 (.pointer (some ⟨v2.q.P, 0, none⟩)) rfl
  obtain ⟨c16, -⟩ := at_ HO2.out.blk 16 (.int .i64 s1.y) rfl
  obtain ⟨c17, -⟩ := at_ HO2.out.blk 17 (.int .i64 s1.x) rfl
  rw [e1] at c14 c16 c17
  go_upto_region 6 with fail
  clear c11
  refine wp_region_u 15 (fun w' => Below W2.heap.size W2 w' ∧ w'.cell? ⟨v.S, 14, none⟩ = some (.pointer (some ⟨v2.q.P, 0, none⟩)) ∧ w'.cell? ⟨v.S, 16, none⟩ = some (.int .i64 s1.y) ∧ w'.cell? ⟨v.S, 17, none⟩ = some (.int .i64 s1.x)) (by kernel_rfl) (by kernel_rfl) ?_ ?_
  · exact ⟨(Below.refl _ _).drew, c14, c16, c17⟩
  simp only [List.take_succ_cons, List.take_zero, List.drop_succ_cons, List.drop_zero]
  repeat (
    (first
     | refine seqU_skip (by rfl) ?_
     | ((refine seqU_call 35 #[.pointer (some ⟨v.S, 0, none⟩)] (.agg #[.int .i64 s1.pen.at_.bk, .int .i64 s1.pen.at_.bn]) (by rfl) ?_ (fun w' hS => (HBK.out w' hS.1).mono fun e w2 ⟨he, hb⟩ => ⟨he, below_tail hS.1 hb, holda hb hS.2.1, holda hb hS.2.2.1, holda hb hS.2.2.2⟩) ?_; (focus (intro w2; go_simp; done))))
     | (refine seqU_val ?_ (by rfl) ?_ ?_; rotate_left; (focus (intro w' hS; obtain ⟨_, _, _, _⟩ := hS; go_simp; first | done | with_reducible rfl))))
    simp only [Act.put, List.setIfInBounds_toArray, List.set_cons_zero, List.set_cons_succ])
  refine seqU_nil (fun w' hS => ?_)
  have HB3 := Lib.hid hS.1
  clear hS c14 c16 c17
  go_upto_region 7 with (go_at_call 34; refine (HIN.out _ HB3.out).mono ?_; rintro e w4 ⟨rfl, hp⟩; have HP4 := Lib.hid hp; clear hp)
  have HR7 : Hid (ScRes base w v s2 w4) := Lib.hid (by
    have e : s2 = { s1 with pg := rowP s1.pg s1.y (fun l => insertL l s1.x n (backS s1)) } := by rw [HSH.out, hput]; rfl
    rw [e]
    exact ScRes.trans HE2.out (ScRes.pre HB3.out ((HO2.out.below HB3.out).paged HP4.out)))
  clear HO2 HE2 HB3 HP4 HBK HIN
  rename World => W7
  rotate_left
  all_goals
    obtain ⟨v7, f1, f2, f3, hO7, hm7, hx7⟩ := HR7.out
    have HO7 := Lib.hid hO7
    have HE7 := Lib.hid (show v7.S = v.S ∧ v7.T = v.T ∧ v7.q.P = v.q.P ∧ Mod (scX v) w W7 ∧ ∀ b ∈ scX v7, b ∈ scX v ∨ w.heap.size ≤ b from ⟨f1, f2, f3, hm7, hx7⟩)
    have HPT : Hid (∀ w', Below W7.heap.size W7 w' → Calls Tryz.prog 36 #[.pointer (some ⟨v7.q.P, 0, none⟩), .int .i64 s2.y, .int .i64 s2.x, .int .i32 r, .agg #[.int .i64 s2.pen.at_.fk, .int .i64 s2.pen.at_.fn, .int .i64 s2.pen.at_.bk, .int .i64 s2.pen.at_.bn, .int .i64 s2.pen.at_.fl]] w' (PgPost base w' v7.q (rowP s2.pg s2.y (fun l => putL l s2.x r s2.pen.at_)))) := Lib.hid (fun w' hb => pPut_any (HO7.out.below hb).page s2.y s2.x r s2.pen.at_)
    obtain ⟨c14, -⟩ := at_ hO7.blk 14 (.pointer (some ⟨v7.q.P, 0, none⟩)) rfl
    obtain ⟨c16, -⟩ := at_ hO7.blk 16 (.int .i64 s2.y) rfl
    obtain ⟨c17, -⟩ := at_ hO7.blk 17 (.int .i64 s2.x) rfl
    obtain ⟨c0, -⟩ := at_ hO7.blk 0 (.int .i64 s2.pen.at_.fk) rfl
    obtain ⟨c1, -⟩ := at_ hO7.blk 1 (.int .i64 s2.pen.at_.fn) rfl
    obtain ⟨c2, -⟩ := at_ hO7.blk 2 (.int .i64 s2.pen.at_.bk) rfl
    obtain ⟨c3, -⟩ := at_ hO7.blk 3 (.int .i64 s2.pen.at_.bn) rfl
    obtain ⟨c4, -⟩ := at_ hO7.blk 4 (.int .i64 s2.pen.at_.fl) rfl
    rw [f1] at c14 c16 c17 c0 c1 c2 c3 c4
    clear hO7 hm7 hx7 HR7 f2 f3
    refine wp_region_u 18 (fun w' => Below W7.heap.size W7 w' ∧ w'.cell? ⟨v.S, 14, none⟩ = some (.pointer (some ⟨v7.q.P, 0, none⟩)) ∧ w'.cell? ⟨v.S, 16, none⟩ = some (.int .i64 s2.y) ∧ w'.cell? ⟨v.S, 17, none⟩ = some (.int .i64 s2.x) ∧ w'.cell? ⟨v.S, 0, none⟩ = some (.int .i64 s2.pen.at_.fk) ∧ w'.cell? ⟨v.S, 1, none⟩ = some (.int .i64 s2.pen.at_.fn) ∧ w'.cell? ⟨v.S, 2, none⟩ = some (.int .i64 s2.pen.at_.bk) ∧ w'.cell? ⟨v.S, 3, none⟩ = some (.int .i64 s2.pen.at_.bn) ∧ w'.cell? ⟨v.S, 4, none⟩ = some (.int .i64 s2.pen.at_.fl)) (by kernel_rfl) (by kernel_rfl) ?_ ?_
    · exact ⟨(Below.refl _ _).drew, c14, c16, c17, c0, c1, c2, c3, c4⟩
    simp only [List.take_succ_cons, List.take_zero, List.drop_succ_cons, List.drop_zero]
    repeat (
      (first
       | refine seqU_skip (by rfl) ?_
       | (refine seqU_val ?_ (by rfl) ?_ ?_; rotate_left; (focus (intro w' hS; obtain ⟨_, _, _, _, _, _, _, _, _⟩ := hS; go_simp; first | done | with_reducible rfl))))
      simp only [Act.put, List.setIfInBounds_toArray, List.set_cons_zero, List.set_cons_succ])
    refine seqU_nil (fun w' hS => ?_)
    have HB8 := Lib.hid hS.1
    clear hS c14 c16 c17 c0 c1 c2 c3 c4
    rename World => W8
    go_upto_region 8 with (go_at_call 36; refine (HPT.out _ HB8.out).mono ?_; rintro e w9 ⟨rfl, hp⟩; have HS9 := Lib.hid (ScRes.trans HE7.out (ScRes.pre HB8.out ((HO7.out.below HB8.out).paged hp))); clear hp)
    obtain ⟨v9, g1, g2, g3, hO9, hm9, hx9⟩ := HS9.out
    obtain ⟨d17, df17⟩ := at_ hO9.blk 17 (.int .i64 s2.x) rfl
    obtain ⟨d37, df37⟩ := at_ hO9.blk 37 (.int .i32 s2.last) rfl
    rw [g1] at d17 df17 d37 df37
    rw [HX2.out.1] at d17
    have HO10 := Lib.hid (hO9.put 17 (.int .i64 (s1.x + n)) (s' := { s2 with pg := rowP s2.pg s2.y (fun l => putL l s2.x r s2.pen.at_), x := s1.x + n }) rfl rfl rfl)
    have HM10 := Lib.hid (hm9.trans (ScO.mod_put (v := v9) 17 (.int .i64 (s1.x + n))) hx9)
    have HE10 := Lib.hid (show v9.S = v.S ∧ v9.T = v.T ∧ v9.q.P = v.q.P ∧ ∀ b ∈ scX v9, b ∈ scX v ∨ w.heap.size ≤ b from ⟨g1, g2, g3, hx9⟩)
    rw [g1] at HO10 HM10
    clear hO9 hm9 hx9 HS9 HE7 HO7 HPT d37 df37 g2 g3
    go_upto_region 9 with fail
    clear d17 df17
    generalize World.setCell _ _ _ = W10 at HO10 HM10 ⊢
    obtain ⟨d37, df37⟩ := at_ HO10.out.blk 37 (.int .i32 s2.last) rfl
    rw [g1] at d37 df37
    go_wp2
    go_end0
    have hf : layS s2 r n = { s2 with pg := rowP s2.pg s2.y (fun l => putL l s2.x r s2.pen.at_), x := s1.x + n, last := r } := by unfold layS; rw [HX2.out.1]
    rw [hf]
    have hO11 := HO10.out.put 37 (.int .i32 r) (s' := { s2 with pg := rowP s2.pg s2.y (fun l => putL l s2.x r s2.pen.at_), x := s1.x + n, last := r }) rfl rfl rfl
    have hM11 := HM10.out.trans (ScO.mod_put (v := v9) 37 (.int .i32 r)) HE10.out.2.2.2
    rw [g1] at hO11 hM11
    exact ⟨rfl, v9, g1, HE10.out.2.1, HE10.out.2.2.1, hO11, hM11, HE10.out.2.2.2⟩
end
end Go.Proofs.YtjcpdcncfjkejaaGreat
