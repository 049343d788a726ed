/- Joined by a tool of this claim out of smaller texts. Conditions: as stated. -/
import Derived.Test.YtjcpdcncfjkejaaGreatSw03
set_option linter.unusedVariables false
set_option linter.unusedSimpArgs false
namespace Go.Proofs.YtjcpdcncfjkejaaGreat
/-- A state of characters: four sets' kinds, which is in use, and which once. -/
structure Ch where
  g0 : Int
  g1 : Int
  g2 : Int
  g3 : Int
  use : Int
  once : Int
/-- A pen. -/
structure Pe where
  at_ : Atr
  ch : Ch
  put : Bool
  wrap : Bool
  home : Bool
/-- A screen: page, stops, pen, cursor, region, what is kept, the last scalar. -/
structure Sc where
  pg : Pg
  st : List Bool
  pen : Pe
  y : Int
  x : Int
  top : Int
  bot : Int
  sp : Pe
  sy : Int
  sx : Int
  has : Bool
  last : Int
def zeroA : Atr := ⟨0, 0, 0, 0, 0⟩
def firstCh : Ch := ⟨66, 66, 66, 66, 0, 0⟩
def firstPe : Pe := ⟨zeroA, firstCh, false, true, false⟩
def zeroPe : Pe := ⟨zeroA, ⟨0, 0, 0, 0, 0, 0⟩, false, false, false⟩
def drawnT : List Int := [0x25c6, 0x2592, 0x2409, 0x240c, 0x240d, 0x240a, 0xb0, 0xb1, 0x2424, 0x240b, 0x2518, 0x2510, 0x250c, 0x2514, 0x253c, 0x23ba, 0x23bb, 0x2500, 0x23bc, 0x23bd, 0x251c, 0x2524, 0x2534, 0x252c, 0x2502, 0x2264, 0x2265, 0x3c0, 0x2260, 0xa3, 0xb7]
def shownC (kind r : Int) : Int :=
  if kind = 65 ∧ r = 35 then 163 else if kind = 48 ∧ r = 95 then 32 else if kind = 48 ∧ 96 ≤ r ∧ r ≤ 126 then drawnT.getD (r - 96).toNat 0 else r
def usedC (c : Ch) : Int := if c.once = 2 ∨ c.once = 3 then c.once else if 0 ≤ c.use ∧ c.use ≤ 3 then c.use else 0
def setC (c : Ch) (k : Int) : Int := if k = 0 then c.g0 else if k = 1 then c.g1 else if k = 2 then c.g2 else c.g3
def mapC (c : Ch) (r : Int) : Int := shownC (setC c (usedC c)) r
def onceC (c : Ch) : Ch := { c with once := 0 }
def backS (s : Sc) : Col := backOf s.pen.at_
def rowsS (s : Sc) : Int := s.pg.scr.length
def colsS (s : Sc) : Int := s.pg.cols
def inS (s : Sc) : Int := min s.x (colsS s - 1)
def feedS (s : Sc) : Sc × Bool :=
  if s.y = s.bot then ({ s with x := inS s, pg := timesP s.pg s.top s.bot 1 (fun t b g => upP g t b (backS s)) }, true)
  else if s.y < rowsS s - 1 then ({ s with x := inS s, y := s.y + 1 }, true)
  else ({ s with x := inS s }, false)
def padS (s : Sc) : Sc := if s.x < colsS s then { s with pg := rowP s.pg s.y closeL } else s
def onS (p : Sc × Bool) : Sc := if p.2 then { p.1 with x := 0, pg := contP p.1.pg p.1.y true } else { p.1 with x := 0 }
def roomS (s : Sc) (w : Int) : Sc :=
  if s.x + w ≤ colsS s then s
  else if s.pen.wrap = false then { s with x := colsS s - w }
  else onS (feedS (padS s))
def shoveS (s : Sc) (w : Int) : Sc := if s.pen.put then { s with pg := rowP s.pg s.y (fun l => insertL l s.x w (backS s)) } else s
def layS (s : Sc) (r w : Int) : Sc := { s with pg := rowP s.pg s.y (fun l => putL l s.x r s.pen.at_), x := s.x + w, last := r }
def writeS (s : Sc) (r : Int) : Sc :=
  if widOf r = 0 then { s with pg := rowP s.pg s.y (fun l => markL l (s.x - 1) r) }
  else if widOf r < 1 then s
  else layS (shoveS (roomS s (widOf r)) (widOf r)) r (widOf r)
def printS (s : Sc) (r : Int) : Sc := writeS { s with pen := { s.pen with ch := onceC s.pen.ch } } (mapC s.pen.ch r)
def newS (rows cols lines : Nat) (st : List Bool) : Sc := ⟨⟨lines, [], 0, List.replicate rows (blankR cols ⟨0, 0⟩), cols, []⟩, st, firstPe, 0, 0, 0, rows - 1, zeroPe, 0, 0, false, 0⟩
end Go.Proofs.YtjcpdcncfjkejaaGreat

namespace Go.Proofs.YtjcpdcncfjkejaaGreat
open Go.RowKit
def encCh (c : Ch) : List Value := [.int .i64 c.g0, .int .i64 c.g1, .int .i64 c.g2, .int .i64 c.g3, .int .i64 c.use, .int .i64 c.once]
def chV (c : Ch) : Value := .agg #[.int .i64 c.g0, .int .i64 c.g1, .int .i64 c.g2, .int .i64 c.g3, .int .i64 c.use, .int .i64 c.once]
theorem encCh_one : ∀ c, ∀ v ∈ encCh c, v.oneCell' = true := fun c v hv => by
  simp only [encCh, List.mem_cons, List.not_mem_nil, or_false] at hv
  rcases hv with rfl | rfl | rfl | rfl | rfl | rfl <;> rfl
theorem info_ch : (Tryz.prog.info? 55).map (·.size) = some 6 := by kernel_rfl
theorem info_drawn : (Tryz.prog.info? 118).map (·.size) = some 31 := by kernel_rfl
section
variable {P : Program}
theorem results_tmp_cell {fn : Func} {u p : Tmp} {ty : TypeId} (h : fn.results = #[.tmp u, .cell p ty]) (tmps : Array Value) (w : World) :
    (results fn tmps).run P w = ((asAddr (tmps.getD p undef)).run P w).andThen fun a w1 => ((loadVar ty a).run P w1).andThen fun v w2 => .ok (.tuple #[tmps.getD u undef, v]) w2 := by
  simp only [results, h]
  simp [Sem.run_bind, Result.andThen]
theorem run_index_cell (w : World) (t e : TypeId) (n : Nat) (cs : Array Value) (k : IntKind) (i : Int) (v : Value) (h : P.underlying t = some (.array n e)) (h0 : 0 ≤ i) (h1 : i < n) (hs : (sizeOf e).run P w = .ok 1 w) (ha : (isAgg e).run P w = .ok false w) (hv : cs.toList[i.toNat]? = some v) :
    (Instr.index t (.agg cs) (.int k i)).run P w = .ok v w := by
  have hc : 0 ≤ i ∧ i < (n : Int) := ⟨h0, h1⟩
  have hv2 : cs[i.toNat]? = some v := by rw [← Array.getElem?_toList]; exact hv
  simp [Instr.index, part, run_underlying h, asIntOf, hc, hs, ha, hv2, Result.andThen, go_sem]
theorem ret_agg {fn : Func} {p : Tmp} {ty : TypeId} {d : TypeDesc} (hr : fn.results = #[.cell p ty]) (tmps : Array Value) (w : World) (b : Nat) (cs : List Value) (hp : tmps.getD p undef = .pointer (some ⟨b, 0, none⟩)) (h : w.rangeAt b 0 cs)
    (hu : P.underlying ty = some d) (hd : d.isRow = true) (hi : (P.info? ty).map (·.size) = some cs.length) : (results fn tmps).run P w = .ok (.agg cs.toArray) w := by
  rw [results_cell1 hr, hp]
  have := run_loadVar_mid (P := P) w b 0 ty cs _ h hu hd hi
  simp only [asAddr, Sem.run_pure, Result.andThen_ok, this]
theorem ret_tmp_agg {fn : Func} {u p : Tmp} {ty : TypeId} {d : TypeDesc} (hr : fn.results = #[.tmp u, .cell p ty]) (tmps : Array Value) (w : World) (b : Nat) (cs : List Value) (hp : tmps.getD p undef = .pointer (some ⟨b, 0, none⟩)) (h : w.rangeAt b 0 cs)
    (hu : P.underlying ty = some d) (hd : d.isRow = true) (hi : (P.info? ty).map (·.size) = some cs.length) : (results fn tmps).run P w = .ok (.tuple #[tmps.getD u undef, .agg cs.toArray]) w := by
  rw [results_tmp_cell hr, hp]
  have := run_loadVar_mid (P := P) w b 0 ty cs _ h hu hd hi
  simp only [asAddr, Sem.run_pure, Result.andThen_ok, this]
end
theorem below_setN {B : Nat} {W w1 : World} (h : Below B W w1) {b : Nat} (hb : B ≤ b) : ∀ (vs : List Value) (o : Nat), Below B W (w1.setCells b o vs)
  | [], _ => h
  | v :: vs, o => below_setN (h.setCell (p := ⟨b, o, none⟩) hb v) hb vs (o + 1)
theorem setC_used (c : Ch) : ∃ k : Nat, k < 4 ∧ usedC c = k := by
  unfold usedC
  split
  · next h => exact ⟨c.once.toNat, by omega, by omega⟩
  split
  · exact ⟨c.use.toNat, by omega, by omega⟩
  · exact ⟨0, by decide, rfl⟩
theorem cnew_any (w : World) : Calls Tryz.prog 45 #[] w fun e w' => e = .returned (chV firstCh) ∧ Below w.heap.size w w' := by
  go_enter Tryz.func45, Tryz.ntmps45
  go_wp2
  exact bodyPost_ret (ret_agg rfl _ _ w.heap.size (encCh firstCh) rfl (range_new (hp_new rfl)) Tryz.underlying55 rfl info_ch) rfl ⟨rfl, below_allocs (Below.refl _ _) _⟩
theorem cused_any (c : Ch) (w : World) : Calls Tryz.prog 30 #[chV c] w fun e w' => e = .returned (.int .i64 (usedC c)) ∧ Below w.heap.size w w' := by
  obtain ⟨g0, g1, g2, g3, u, o⟩ := c
  unfold usedC chV
  simp only []
  by_cases h2 : o = 2
  · subst h2
    rw [if_pos (Or.inl rfl)]
    go_enter Tryz.func30, Tryz.ntmps30
    go_wp2
    go_ret
    exact ⟨rfl, (Below.refl _ _).alloc (Nat.le_refl _) _⟩
  by_cases h3 : o = 3
  · subst h3
    rw [if_pos (Or.inr rfl)]
    go_enter Tryz.func30, Tryz.ntmps30
    go_wp2
    go_ret
    exact ⟨rfl, (Below.refl _ _).alloc (Nat.le_refl _) _⟩
  have e2 : (o == 2) = false := by simpa using h2
  have e3 : (o == 3) = false := by simpa using h3
  rw [if_neg (by omega)]
  by_cases hu : 0 ≤ u
  · by_cases hu3 : u ≤ 3
    · rw [if_pos ⟨hu, hu3⟩]
      go_enter Tryz.func30, Tryz.ntmps30
      go_wp2
      go_ret
      exact ⟨rfl, (Below.refl _ _).alloc (Nat.le_refl _) _⟩
    · rw [if_neg (by omega)]
      go_enter Tryz.func30, Tryz.ntmps30
      go_wp2
      go_ret
      exact ⟨rfl, (Below.refl _ _).alloc (Nat.le_refl _) _⟩
  · rw [if_neg (by omega)]
    go_enter Tryz.func30, Tryz.ntmps30
    go_wp2
    go_ret
    exact ⟨rfl, (Below.refl _ _).alloc (Nat.le_refl _) _⟩
def drawnV : List Value := [.int .i32 9670, .int .i32 9618, .int .i32 9225, .int .i32 9228, .int .i32 9229, .int .i32 9226, .int .i32 176, .int .i32 177, .int .i32 9252, .int .i32 9227, .int .i32 9496, .int .i32 9488, .int .i32 9484, .int .i32 9492, .int .i32 9532, .int .i32 9146, .int .i32 9147, .int .i32 9472, .int .i32 9148, .int .i32 9149, .int .i32 9500, .int .i32 9508, .int .i32 9524, .int .i32 9516, .int .i32 9474, .int .i32 8804, .int .i32 8805, .int .i32 960, .int .i32 8800, .int .i32 163, .int .i32 183]
theorem drawnV_get (k : Nat) (hk : k < 31) : drawnV[k]? = some (.int .i32 (drawnT.getD k 0)) := by
  have e : drawnV = drawnT.map (fun r => Value.int .i32 r) := rfl
  rw [e, List.getElem?_map, List.getD_eq_getElem?_getD, List.getElem?_eq_getElem (show k < drawnT.length from hk)]
  rfl
theorem drawnV_one : ∀ v ∈ drawnV, v.oneCell' = true := by
  intro v hv
  rw [show drawnV = drawnT.map (fun r => Value.int .i32 r) from rfl] at hv
  obtain ⟨r, -, rfl⟩ := List.mem_map.1 hv
  rfl
set_option maxRecDepth 100000 in
set_option maxHeartbeats 1600000 in
theorem cdrawn_any (w : World) : Calls Tryz.prog 49 #[] w fun e w' => e = .returned (.agg drawnV.toArray) ∧ Below w.heap.size w w' := by
  go_enter Tryz.func49, Tryz.ntmps49
  go_upto_region 1 with fail
  generalize hW : World.alloc _ _ = W
  have hb2 : Below w.heap.size w W := by rw [← hW]; exact below_allocs (Below.refl _ _) _
  have hc2 : W.heap[w.heap.size]? = some (.cells (List.replicate 31 (Value.int .i32 0)).toArray 118 (0, 0)) := by rw [← hW]; exact hp_new rfl
  refine wp_region_lit ?_
  refine wpList_valG (.agg drawnV.toArray) (by rfl) (by go_simp; rfl) ?_
  simp only [Act.put, List.setIfInBounds_toArray, List.set_cons_zero, List.set_cons_succ]
  refine wpList_store_mid rfl 118 (.tmp 0) (.tmp 1) rfl (w.heap.size) (0) (drawnV.toArray) rfl rfl ((show W.there w.heap.size 0 31 from there_new hc2)) info_drawn (all_oneCell_toArray drawnV_one) ?_
  simp only [Act.put]
  go_wp2
  have hw := whole_setCells drawnV 0 _ W hc2 (by decide)
  exact bodyPost_ret (ret_agg rfl _ _ w.heap.size drawnV rfl (range_new hw) Tryz.underlying118 rfl info_drawn) rfl ⟨rfl, below_setN hb2 (Nat.le_refl _) _ _⟩
def ShownPost (kind r : Int) (w : World) (e : Ending) (w' : World) : Prop := e = .returned (.int .i32 (shownC kind r)) ∧ Below w.heap.size w w'
set_option maxRecDepth 100000 in
set_option maxHeartbeats 1600000 in
theorem cshown_any (kind r : Int) (w : World) : Calls Tryz.prog 29 #[.int .i64 kind, .int .i32 r] w (ShownPost kind r w) := by
  have HD := Lib.hid (fun w => cdrawn_any w)
  unfold ShownPost shownC
  by_cases k1 : kind = 65
  · subst k1
    by_cases r1 : r = 35
    · subst r1
      go_enter Tryz.func29, Tryz.ntmps29
      go_wp2
      go_ret
      exact ⟨rfl, Below.refl _ _⟩
    · have e1 : (r == 35) = false := by simpa using r1
      rw [if_neg (by omega), if_neg (by omega), if_neg (by omega)]
      clear r1
      go_enter Tryz.func29, Tryz.ntmps29
      go_wp2
      go_ret
      exact ⟨rfl, Below.refl _ _⟩
  have e1 : (kind == 65) = false := by simpa using k1
  rw [if_neg (fun h => k1 h.1)]
  by_cases k2 : kind = 48
  · subst k2
    by_cases r1 : r = 95
    · subst r1
      clear e1
      go_enter Tryz.func29, Tryz.ntmps29
      go_wp2
      go_ret
      exact ⟨rfl, Below.refl _ _⟩
    · have e2 : (r == 95) = false := by simpa using r1
      rw [if_neg (by omega)]
      clear e1 k1
      by_cases h1 : 96 ≤ r
      · by_cases h2 : r ≤ 126
        · rw [if_pos ⟨rfl, h1, h2⟩]
          have hk := drawnV_get (r - 96).toNat (by omega)
          have hw : IntKind.i32.wrap (r - 96) = r - 96 := IntWalk.i32_in _ (by omega)
          have HK := Lib.hid hk
          clear hk
          go_enter Tryz.func29, Tryz.ntmps29
          go_wp2_with (go_at_call 49; refine (HD.out _).mono ?_; rintro e w1 ⟨rfl, hb⟩; have HB := Lib.hid hb; clear hb)
          rw [run_index_cell w1 _ _ 31 drawnV.toArray _ _ _ Tryz.underlying118 (by omega) (by omega) (Tryz.sizeOf21 _) (Tryz.isAgg21 _) HK.out]
          go_wp2
          go_ret
          exact ⟨rfl, HB.out⟩
        · rw [if_neg (by omega)]
          go_enter Tryz.func29, Tryz.ntmps29
          go_wp2
          go_ret
          exact ⟨rfl, Below.refl _ _⟩
      · rw [if_neg (by omega)]
        go_enter Tryz.func29, Tryz.ntmps29
        go_wp2
        go_ret
        exact ⟨rfl, Below.refl _ _⟩
  · have e2 : (kind == 48) = false := by simpa using k2
    rw [if_neg (by omega), if_neg (by omega)]
    go_enter Tryz.func29, Tryz.ntmps29
    go_wp2
    go_ret
    exact ⟨rfl, Below.refl _ _⟩
def MapPost (c : Ch) (r : Int) (w : World) (e : Ending) (w' : World) : Prop := e = .returned (.tuple #[.int .i32 (mapC c r), chV (onceC c)]) ∧ Below w.heap.size w w'
set_option maxRecDepth 100000 in
set_option maxHeartbeats 1600000 in
theorem cmap_any (c : Ch) (r : Int) (w : World) : Calls Tryz.prog 15 #[chV c, .int .i32 r] w (MapPost c r w) := by
  have HU := Lib.hid (fun w => cused_any c w)
  have HS := Lib.hid (fun k w => cshown_any k r w)
  obtain ⟨k, hk, hku⟩ := setC_used c
  unfold MapPost mapC
  rw [hku] at HU ⊢
  clear hku
  obtain ⟨g0, g1, g2, g3, u, o⟩ := c
  unfold chV setC onceC at *
  simp only [] at HU ⊢
  have HX := Lib.hid (hp_old (o := .cells (encCh ⟨0, 0, 0, 0, 0, 0⟩).toArray 55) (hp_new (W := w) (b := w.heap.size) (o := .cells (encCh ⟨g0, g1, g2, g3, u, o⟩).toArray 55) rfl))
  have HY := Lib.hid (hp_new (W := w.alloc (.cells (encCh ⟨g0, g1, g2, g3, u, o⟩).toArray 55)) (b := w.heap.size + 1) (o := .cells (encCh ⟨0, 0, 0, 0, 0, 0⟩).toArray 55) (by simp))
  have HB0 := Lib.hid (below_allocs (below_allocs (Below.refl w.heap.size w) (.cells (encCh ⟨g0, g1, g2, g3, u, o⟩).toArray 55)) (.cells (encCh ⟨0, 0, 0, 0, 0, 0⟩).toArray 55))
  obtain rfl | rfl | rfl | rfl : k = 0 ∨ k = 1 ∨ k = 2 ∨ k = 3 := by omega
  all_goals
    go_enter Tryz.func15, Tryz.ntmps15
    go_upto_region 3 with (first
      | (go_at_call 30; refine (HU.out _).mono ?_; rintro e w1 ⟨rfl, hb1⟩; have HX1 := Lib.hid ((hb1.block _ (lt_of_heap HX.out)).trans HX.out); have HY1 := Lib.hid ((hb1.block _ (lt_of_heap HY.out)).trans HY.out); have HB1 := Lib.hid (below_tail HB0.out hb1); clear hb1; obtain ⟨c0, f0⟩ := at_ HX1.out 0 _ rfl; obtain ⟨c1, f1⟩ := at_ HX1.out 1 _ rfl; obtain ⟨c2, f2⟩ := at_ HX1.out 2 _ rfl; obtain ⟨c3, f3⟩ := at_ HX1.out 3 _ rfl)
      | (go_at_call 29; refine (HS.out _ _).mono ?_; rintro e w2 ⟨rfl, hb2⟩; have HX2 := Lib.hid ((hb2.block _ (lt_of_heap HX1.out)).trans HX1.out); have HY2 := Lib.hid ((hb2.block _ (lt_of_heap HY1.out)).trans HY1.out); have HB2 := Lib.hid (below_tail HB1.out hb2); clear hb2 c0 f0 c1 f1 c2 f2 c3 f3; obtain ⟨c5, f5⟩ := at_ HX2.out 5 _ rfl))
    have hx3 := whole_set HX2.out 5 (.int .i64 0) rfl
    have hy3 := (heap_other (w := w2) (b := w.heap.size) (i := 5) (v := .int .i64 0) (show w.heap.size + 1 ≠ w.heap.size by omega)).trans HY2.out
    have hb3 := below_set HB2.out (Nat.le_refl w.heap.size) (o := 5) (.int .i64 0)
    clear c5 f5
    generalize World.setCell _ _ _ = W3 at hx3 hy3 hb3 ⊢
    obtain ⟨x0, -⟩ := at_ hx3 0 _ rfl
    obtain ⟨x1, -⟩ := at_ hx3 1 _ rfl
    obtain ⟨x2, -⟩ := at_ hx3 2 _ rfl
    obtain ⟨x3, -⟩ := at_ hx3 3 _ rfl
    obtain ⟨x4, -⟩ := at_ hx3 4 _ rfl
    obtain ⟨x5, -⟩ := at_ hx3 5 _ rfl
    refine wp_region_u 3 (fun w' => Below W3.heap.size W3 w' ∧ w'.cell? ⟨w.heap.size, 0, none⟩ = some (.int .i64 g0) ∧ w'.cell? ⟨w.heap.size, 1, none⟩ = some (.int .i64 g1) ∧ w'.cell? ⟨w.heap.size, 2, none⟩ = some (.int .i64 g2) ∧ w'.cell? ⟨w.heap.size, 3, none⟩ = some (.int .i64 g3) ∧ w'.cell? ⟨w.heap.size, 4, none⟩ = some (.int .i64 u) ∧ w'.cell? ⟨w.heap.size, 5, none⟩ = some (.int .i64 0)) (by kernel_rfl) (by kernel_rfl) ?_ ?_
    · exact ⟨(Below.refl _ _).drew, x0, x1, x2, x3, x4, x5⟩
    simp only [List.take_succ_cons, List.take_zero, List.drop_succ_cons, List.drop_zero]
    repeat (
      (first
       | refine seqU_skip (by rfl) ?_
       | (refine seqU_val ?_ (by rfl) ?_ ?_; rotate_left; (focus (intro w' hS; obtain ⟨_, _, _, _, _, _, _⟩ := hS; go_simp; first | done | with_reducible rfl))))
      simp only [Act.put, List.setIfInBounds_toArray, List.set_cons_zero, List.set_cons_succ])
    refine seqU_nil (fun w' hS => ?_)
    have hy4 := (hS.1.block _ (lt_of_heap hy3)).trans hy3
    have hb4 := below_tail hb3 hS.1
    refine wpList_store_mid rfl 55 (.tmp 5) (.tmp 16) rfl (w.heap.size + 1) (0) ((encCh ⟨g0, g1, g2, g3, u, 0⟩).toArray) rfl rfl ((show World.there _ (w.heap.size + 1) 0 6 from there_new hy4)) info_ch (all_oneCell_toArray (encCh_one _)) ?_
    simp only [Act.put]
    go_wp2
    have hw := whole_setCells (encCh ⟨g0, g1, g2, g3, u, 0⟩) 0 _ _ hy4 (by simp [encCh])
    exact bodyPost_ret (ret_tmp_agg rfl _ _ (w.heap.size + 1) (encCh ⟨g0, g1, g2, g3, u, 0⟩) rfl (range_new hw) Tryz.underlying55 rfl info_ch) rfl ⟨rfl, below_setN hb4 (by omega) _ _⟩
end Go.Proofs.YtjcpdcncfjkejaaGreat

namespace Go.Proofs.YtjcpdcncfjkejaaGreat
open Go.RowKit
def inPr (r : Int) (x : Int × Int) : Bool := decide (x.1 ≤ r) && decide (r ≤ x.2)
theorem among_take {l : List (Int × Int)} {r : Int} {k : Nat} {x : Int × Int} (hx : l[k]? = some x) : amongB (l.take (k + 1)) r = (amongB (l.take k) r || inPr r x) := by
  have hk := List.getElem?_eq_some_iff.1 hx
  rw [List.take_succ_eq_append_getElem hk.1, hk.2]
  unfold amongB inPr
  simp
theorem among_of_take {l : List (Int × Int)} {r : Int} {k : Nat} (h : amongB (l.take k) r = true) : amongB l r = true := by
  unfold amongB at h ⊢
  rw [List.any_eq_true] at h ⊢
  obtain ⟨x, hx, h⟩ := h
  exact ⟨x, List.mem_of_mem_take hx, h⟩
def IxPost (l : List (Int × Int)) (r : Int) (w : World) (e : Ending) (w' : World) : Prop := ∃ n : Int, e = .returned (.int .i64 n) ∧ decide (0 ≤ n) = amongB l r ∧ Below w.heap.size w w'
set_option maxRecDepth 100000 in
set_option maxHeartbeats 1600000 in
theorem indexPr_any (r : Int) (g a : Nat) (l : List (Int × Int)) (w : World) (hg : w.cell? ⟨g, 0, none⟩ = some (.int .i32 r)) (hl : GrAt encPr 2 w (some ⟨a, 0, none⟩) l) (hz : l.length ≤ 1000) :
    Calls Tryz.prog 85 #[.slice (some ⟨a, 0, none⟩) l.length l.length, .func (.func 70) #[] #[.pointer (some ⟨g, 0, none⟩)]] w (IxPost l r w) := by
  have HG := Lib.hid hg
  have HL := Lib.hid hl
  clear hg hl
  go_enter Tryz.func85, Tryz.ntmps85
  go_wp2_with fail
  go_loopw [8] (fun s8 wr => ∃ k : Nat, k ≤ l.length ∧ s8 = .int .i64 k ∧ amongB (l.take k) r = false ∧ Below w.heap.size w wr) (fun s8 _ => l.length - (intOf s8).toNat)
  case atStart => exact ⟨0, Nat.zero_le _, rfl, rfl, Below.refl _ _⟩
  case round =>
    obtain ⟨k, hk, rfl, hno, hb⟩ := hrel
    have HNO := Lib.hid hno
    have HB := Lib.hid hb
    clear hno hb
    by_cases hlt : k < l.length
    rotate_left
    · have hge : ¬ (k : Int) < (l.length : Int) := by omega
      go_wp2
      go_ret
      refine ⟨-1, rfl, ?_, HB.out⟩
      have := HNO.out
      rw [List.take_of_length_le (by omega)] at this
      rw [this]; rfl
    · have hltI : (k : Int) < (l.length : Int) := by omega
      obtain ⟨b, off, x, hA, hx, cx⟩ := (HL.out.below HB.out).at_ hlt
      simp only [Option.some.injEq, Addr.mk.injEq, and_true] at hA
      obtain ⟨rfl, rfl⟩ := hA
      have c0 : wr.cell? ⟨a, k * 2, none⟩ = some (.int .i32 x.1) := by have := cx 0 _ rfl; rwa [Nat.zero_add] at this
      have c1 : wr.cell? ⟨a, k * 2 + 1, none⟩ = some (.int .i32 x.2) := by have := cx 1 _ rfl; rwa [Nat.zero_add] at this
      have HT := Lib.hid (among_take (r := r) hx)
      have HC := Lib.hid (among1_any r g x wr (holda HB.out HG.out))
      have HO := Lib.hid (fun h => among_of_take (l := l) (r := r) (k := k + 1) h)
      cases hp : inPr r x with
      | false =>
        have HP := Lib.hid hp
        have HC2 : Hid (Calls Tryz.prog 70 #[.agg #[.int .i32 x.1, .int .i32 x.2], .pointer (some ⟨g, 0, none⟩)] wr fun e w' => e = .returned (.bool false) ∧ Below wr.heap.size wr w') := Lib.hid (HC.out.mono fun e w' ⟨he, hb⟩ => ⟨by rw [he]; unfold inPr at hp; rw [hp], hb⟩)
        clear hx cx hp
        go_wp2_with (go_at_call 70; refine HC2.out.mono ?_; rintro e w1 ⟨rfl, hb1⟩)
        go_roundw
        case rel => exact ⟨k + 1, by omega, by go_num, by rw [HT.out, HNO.out, HP.out]; rfl, below_tail HB.out hb1⟩
        case measure => simp [intOf]; omega
      | true =>
        have HP := Lib.hid hp
        have HC2 : Hid (Calls Tryz.prog 70 #[.agg #[.int .i32 x.1, .int .i32 x.2], .pointer (some ⟨g, 0, none⟩)] wr fun e w' => e = .returned (.bool true) ∧ Below wr.heap.size wr w') := Lib.hid (HC.out.mono fun e w' ⟨he, hb⟩ => ⟨by rw [he]; unfold inPr at hp; rw [hp], hb⟩)
        clear hx cx hp
        go_wp2_with (go_at_call 70; refine HC2.out.mono ?_; rintro e w1 ⟨rfl, hb1⟩)
        go_ret
        refine ⟨k, rfl, ?_, below_tail HB.out hb1⟩
        rw [HO.out (by rw [HT.out, HP.out]; simp)]
        simp
def AmPost (l : List (Int × Int)) (r : Int) (w : World) (e : Ending) (w' : World) : Prop := e = .returned (.bool (amongB l r)) ∧ Below w.heap.size w w'
theorem containsPr_any (r : Int) (g a : Nat) (l : List (Int × Int)) (w : World) (hg : w.cell? ⟨g, 0, none⟩ = some (.int .i32 r)) (hl : GrAt encPr 2 w (some ⟨a, 0, none⟩) l) (hz : l.length ≤ 1000) :
    Calls Tryz.prog 69 #[.slice (some ⟨a, 0, none⟩) l.length l.length, .func (.func 70) #[] #[.pointer (some ⟨g, 0, none⟩)]] w (AmPost l r w) := by
  have HI := Lib.hid (indexPr_any r g a l w hg hl hz)
  clear hg hl
  go_enter Tryz.func69, Tryz.ntmps69
  go_wp2_with (go_at_call 85; refine HI.out.mono ?_; rintro e w1 ⟨n, rfl, hn, hb⟩; have HN := Lib.hid hn; clear hn)
  go_ret
  exact ⟨by rw [HN.out]; rfl, hb⟩
theorem among_any (r : Int) (a : Nat) (l : List (Int × Int)) (w : World) (hl : GrAt encPr 2 w (some ⟨a, 0, none⟩) l) (hz : l.length ≤ 1000) :
    Calls Tryz.prog 51 #[.slice (some ⟨a, 0, none⟩) l.length l.length, .int .i32 r] w (AmPost l r w) := by
  have hb0 := below_allocs (Below.refl w.heap.size w) (.cells #[.int .i32 r] 21)
  have HC := Lib.hid (containsPr_any r w.heap.size a l _ (at_ (hp_new rfl) 0 _ rfl).1 (hl.below hb0) hz)
  have HB0 := Lib.hid hb0
  clear hl hb0
  go_enter Tryz.func51, Tryz.ntmps51
  go_wp2_with (go_at_call 69; refine HC.out.mono ?_; rintro e w1 ⟨rfl, hb⟩)
  go_ret
  exact ⟨rfl, below_tail HB0.out hb⟩
set_option maxHeartbeats 1600000 in
theorem widOf_any (r : Int) (w : World) : Calls Tryz.prog 31 #[.int .i32 r] w fun e w' => e = .returned (.int .i64 (widOf r)) ∧ Below w.heap.size w w' := by
  have HN := Lib.hid (fun w => wnone_any r w)
  by_cases h0 : r < 768
  · have hw := widOf_low h0
    rw [hw]
    clear hw
    cases hn : noneW r with
    | true =>
      rw [hn] at HN
      clear hn
      go_enter Tryz.func31, Tryz.ntmps31
      go_wp2_with (go_at_call 50; refine (HN.out _).mono ?_; rintro e w1 ⟨rfl, rfl⟩)
      go_ret
      exact ⟨rfl, Below.refl _ _⟩
    | false =>
      rw [hn] at HN
      clear hn
      go_enter Tryz.func31, Tryz.ntmps31
      go_wp2_with (go_at_call 50; refine (HN.out _).mono ?_; rintro e w1 ⟨rfl, rfl⟩)
      go_ret
      exact ⟨rfl, Below.refl _ _⟩
  · have HM := Lib.hid (fun w => wmarks_any w)
    have HW := Lib.hid (fun w => wwides_any w)
    have HA1 := Lib.hid (fun a w hl => among_any r a marksT w hl (by decide))
    have HA2 := Lib.hid (fun a w hl => among_any r a widesT w hl (by decide))
    unfold widOf
    unfold AmPost at HA1 HA2
    generalize noneW r = b0 at HN
    generalize amongB marksT r = b1 at HA1
    generalize amongB widesT r = b2 at HA2
    cases b0 <;> cases b1 <;> cases b2
    all_goals
      go_enter Tryz.func31, Tryz.ntmps31
      go_wp2_with (first
        | (go_at_call 50; refine (HN.out _).mono ?_; rintro e w1 ⟨rfl, rfl⟩)
        | (go_at_call 52; refine (HM.out _).mono ?_; rintro e w2 ⟨g, rfl, hg, hb2⟩; have HG := Lib.hid hg; have HB := Lib.hid hb2; clear hg hb2)
        | (go_at_call 53; refine (HW.out _).mono ?_; rintro e w4 ⟨g2, rfl, hg, hb2⟩; have HG2 := Lib.hid hg; have HB3 := Lib.hid (below_tail HB2.out hb2); clear hg hb2)
        | (go_at_call 51; first
            | (have hpv := HB3.out; clear hpv; refine (HA2.out _ _ HG2.out).mono ?_; rintro e w5 ⟨rfl, hb3⟩; have HB4 := Lib.hid (below_tail HB3.out hb3); clear hb3)
            | (refine (HA1.out _ _ HG.out).mono ?_; rintro e w3 ⟨rfl, hb3⟩; have HB2 := Lib.hid (below_tail HB.out hb3); clear hb3)))
      go_ret
      exact ⟨rfl, by first | exact HB4.out | exact HB2.out | exact Below.refl _ _⟩
end Go.Proofs.YtjcpdcncfjkejaaGreat

namespace Go.Proofs.YtjcpdcncfjkejaaGreat
open Go.RowKit
theorem pairB_H (c d : Cl) : pairB c d = (pairH c d && decide (d.half = 2)) := by
  unfold pairB pairH
  cases decide (c.half = 1) <;> cases decide (d.half = 2) <;> cases decide (c = { d with half := 1 }) <;> rfl
theorem mendL_pair {c d : Cl} (h : pairB c d = true) (l : List Cl) : mendL (c :: d :: l) = c :: d :: mendL l := by
  have h0 : ¬ c.half = 0 := fun e => by unfold pairB at h; simp [e] at h
  rw [mendL_cons, if_neg h0, if_pos h]
theorem mendL_other {c : Cl} {l : List Cl} (h0 : ¬ c.half = 0) (h3 : ¬ (c.half = 3 ∧ l = [])) (hp : ∀ d m, l = d :: m → pairB c d = false) : mendL (c :: l) = emptyC c :: mendL l := by
  match l with
  | [] => rw [mendL_one, if_neg (fun h => h.elim h0 (fun h => h3 ⟨h, rfl⟩))]; rfl
  | d :: m => rw [mendL_cons, if_neg h0, hp d m rfl]; rfl
theorem mendL_pad {c : Cl} (h : c.half = 3) : mendL [c] = [c] := by rw [mendL_one, if_pos (.inr h)]
/-- A row of cells of the call's own. -/
def CrO (w : World) (base g cap : Nat) (l : List Cl) : Prop := w.ownsRow base 45 8 (.slice (some ⟨g, 0, none⟩) l.length cap) l.length (flat encCl l)
theorem CrO.mod {w w' : World} {base g cap : Nat} {l : List Cl} {X : List Nat} (h : CrO w base g cap l) (hm : Mod X w w') (hX : g ∉ X) : CrO w' base g cap l := owns_mod h hm (fun k hk => by simp [Value.ownBlock] at hk; rw [← hk]; exact hX)
theorem CrO.below {w w' : World} {base g cap : Nat} {l : List Cl} (h : CrO w base g cap l) (hb : Below w.heap.size w w') : CrO w' base g cap l := h.mod (Mod.of_below (X := []) hb) (fun h => by cases h)
theorem CrO.lt {w : World} {base g cap : Nat} {l : List Cl} (h : CrO w base g cap l) : base ≤ g ∧ g < w.heap.size := World.ownsRow.lt h g rfl
theorem CrO.range {w : World} {base g cap : Nat} {l : List Cl} (h : CrO w base g cap l) {i : Nat} {c : Cl} (hc : l[i]? = some c) : w.rangeAt g (i * 8) (encCl c) := fun j v hj => by
  have hj8 : j < 8 := by have := (List.getElem?_eq_some_iff.1 hj).1; rwa [encCl_len] at this
  exact (owns_hold h (i := i * 8 + j) (v := v) (by rw [flat_at2 encCl_len l i c j hc hj8]; exact hj)).1
theorem CrO.there {w : World} {base g cap : Nat} {l : List Cl} (h : CrO w base g cap l) {i : Nat} (hi : i < l.length) : w.there g (i * 8) 8 := fun j hj => by
  obtain ⟨c, hc⟩ : ∃ c, l[i]? = some c := ⟨l[i], List.getElem?_eq_getElem hi⟩
  obtain ⟨v, hv⟩ : ∃ v, (encCl c)[j]? = some v := ⟨_, List.getElem?_eq_getElem (by rw [encCl_len]; exact hj)⟩
  have := owns_hold h (i := i * 8 + j) (v := v) (by rw [flat_at2 encCl_len l i c j hc hj]; exact hv)
  exact ⟨by rw [this.1]; rfl, this.2⟩
theorem CrO.set {w : World} {base g cap : Nat} {l : List Cl} (h : CrO w base g cap l) {i : Nat} (hi : i < l.length) (c : Cl) : CrO (w.setCells g (i * 8) (encCl c)) base g cap (l.set i c) ∧ Mod [g] w (w.setCells g (i * 8) (encCl c)) := by
  refine ⟨?_, mod_setCellsN (.inl (by simp)) _ _ _ (Mod.refl _ _)⟩
  have h1 := owns_setCells (encCl c) (i * 8) (flat encCl l) w h (by rw [flat_len encCl_len, encCl_len]; omega)
  unfold CrO
  rw [List.length_set]
  have e : (flat encCl l).take (i * 8) ++ (encCl c ++ (flat encCl l).drop (i * 8 + (encCl c).length)) = flat encCl (l.set i c) := by
    rw [encCl_len]
    clear h h1
    induction l generalizing i with
    | nil => simp at hi
    | cons x l ih =>
      have e : flat encCl (x :: l) = encCl x ++ flat encCl l := rfl
      match i with
      | 0 =>
        have e2 : flat encCl ((x :: l).set 0 c) = encCl c ++ flat encCl l := rfl
        rw [e, e2, Nat.zero_mul, List.take_zero, List.nil_append, Nat.zero_add, List.drop_left' (encCl_len x)]
      | i + 1 =>
        have e2 : flat encCl ((x :: l).set (i + 1) c) = encCl x ++ flat encCl (l.set i c) := rfl
        rw [e, e2, ← ih (by simpa using hi), Nat.add_mul, Nat.one_mul]
        rw [List.take_append, List.drop_append, encCl_len, List.take_of_length_le (by rw [encCl_len]; omega), List.drop_eq_nil_of_le (by rw [encCl_len]; omega)]
        rw [show i * 8 + 8 - 8 = i * 8 by omega, show i * 8 + 8 + 8 - 8 = i * 8 + 8 by omega, List.nil_append, List.append_assoc]
  rw [e] at h1
  exact h1
end Go.Proofs.YtjcpdcncfjkejaaGreat
