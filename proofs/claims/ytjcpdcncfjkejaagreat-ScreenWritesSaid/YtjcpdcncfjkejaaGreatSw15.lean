/- Joined by a tool of this claim out of smaller texts. Conditions: as stated. -/
import Derived.Test.YtjcpdcncfjkejaaGreatSw13
set_option linter.unusedVariables false
set_option linter.unusedSimpArgs false
namespace Go.Proofs.YtjcpdcncfjkejaaGreat
open Go.RowKit
/-- A screen's cells. -/
def encSc (s : Sc) (P T : Nat) : List Value :=
  [.int .i64 s.pen.at_.fk, .int .i64 s.pen.at_.fn, .int .i64 s.pen.at_.bk, .int .i64 s.pen.at_.bn, .int .i64 s.pen.at_.fl,
   .int .i64 s.pen.ch.g0, .int .i64 s.pen.ch.g1, .int .i64 s.pen.ch.g2, .int .i64 s.pen.ch.g3, .int .i64 s.pen.ch.use, .int .i64 s.pen.ch.once,
   .bool s.pen.put, .bool s.pen.wrap, .bool s.pen.home,
   .pointer (some ⟨P, 0, none⟩), .pointer (some ⟨T, 0, none⟩), .int .i64 s.y, .int .i64 s.x, .int .i64 s.top, .int .i64 s.bot,
   .int .i64 s.sp.at_.fk, .int .i64 s.sp.at_.fn, .int .i64 s.sp.at_.bk, .int .i64 s.sp.at_.bn, .int .i64 s.sp.at_.fl,
   .int .i64 s.sp.ch.g0, .int .i64 s.sp.ch.g1, .int .i64 s.sp.ch.g2, .int .i64 s.sp.ch.g3, .int .i64 s.sp.ch.use, .int .i64 s.sp.ch.once,
   .bool s.sp.put, .bool s.sp.wrap, .bool s.sp.home, .int .i64 s.sy, .int .i64 s.sx, .bool s.has, .int .i32 s.last]
/-- Where a screen lies. -/
structure Sv where
  S : Nat
  q : Pv
  T : Nat
  vw : Value
  ws : List Nat
structure ScO (base : Nat) (w : World) (v : Sv) (s : Sc) : Prop where
  blk : w.heap[v.S]? = some (.cells (encSc s v.q.P v.T).toArray 70 (0, 0))
  hb : base ≤ v.S
  page : PgO base w v.q s.pg
  tabs : TbO base w v.T v.vw v.ws s.st
def scX (v : Sv) : List Nat := v.S :: (tbX v.T v.vw ++ pgX v.q)
theorem PgO.types {base : Nat} {w : World} {q : Pv} {g : Pg} (h : PgO base w q g) : ∀ b ∈ pgX q, ∃ cur ty, w.heap[b]? = some (.cells cur ty (0, 0)) ∧ (ty = 74 ∨ ty = 39 ∨ ty = 149 ∨ ty = 103) := by
  intro b hb
  rcases List.mem_cons.1 hb with rfl | hb
  · exact ⟨_, _, h.blk, .inl rfl⟩
  rcases List.mem_append.1 hb with hb | hb
  · obtain ⟨cur, hc⟩ := own_block h.own (Option.mem_toList.1 hb)
    exact ⟨_, _, hc, .inr (.inl rfl)⟩
  rcases List.mem_append.1 hb with hb | hb
  · obtain ⟨cur, hc⟩ := own_block h.told (Option.mem_toList.1 hb)
    exact ⟨_, _, hc, .inr (.inr (.inl rfl))⟩
  rcases List.mem_cons.1 hb with rfl | hb
  · exact ⟨_, _, h.ring.blk, .inr (.inr (.inr rfl))⟩
  · obtain ⟨cur, hc⟩ := own_block h.ring.own (Option.mem_toList.1 hb)
    exact ⟨_, _, hc, .inr (.inl rfl)⟩
theorem PgO.not {base : Nat} {w : World} {q : Pv} {g : Pg} (h : PgO base w q g) {b : Nat} {cs : Array Value} {ty : TypeId} (hb : w.heap[b]? = some (.cells cs ty (0, 0))) (ht : ty ≠ 74 ∧ ty ≠ 39 ∧ ty ≠ 149 ∧ ty ≠ 103) : b ∉ pgX q := fun hx => by
  obtain ⟨cur, t2, h1, h2⟩ := h.types b hx
  rw [hb, Option.some.injEq, Obj.cells.injEq] at h1
  obtain ⟨-, rfl, -⟩ := h1
  rcases h2 with h2 | h2 | h2 | h2
  · exact ht.1 h2
  · exact ht.2.1 h2
  · exact ht.2.2.1 h2
  · exact ht.2.2.2 h2
theorem TbO.types {base : Nat} {w : World} {T : Nat} {vw : Value} {ws : List Nat} {st : List Bool} (h : TbO base w T vw ws st) : ∀ b ∈ tbX T vw, ∃ cur ty, w.heap[b]? = some (.cells cur ty (0, 0)) ∧ (ty = 111 ∨ ty = 35) := by
  intro b hb
  rcases List.mem_cons.1 hb with rfl | hb
  · exact ⟨_, _, h.blk, .inl rfl⟩
  · obtain ⟨cur, hc⟩ := own_block h.own (Option.mem_toList.1 hb)
    exact ⟨_, _, hc, .inr rfl⟩
section
variable {base : Nat} {w : World} {v : Sv} {s : Sc}
theorem ScO.np (h : ScO base w v s) : v.S ∉ pgX v.q := h.page.not h.blk (by decide)
theorem ScO.nt (h : ScO base w v s) : v.S ∉ tbX v.T v.vw := fun hx => by
  obtain ⟨cur, ty, h1, h2⟩ := h.tabs.types _ hx
  rw [h.blk, Option.some.injEq, Obj.cells.injEq] at h1
  obtain ⟨-, rfl, -⟩ := h1
  rcases h2 with h2 | h2 <;> exact absurd h2 (by decide)
theorem ScO.ntp (h : ScO base w v s) : ∀ b ∈ tbX v.T v.vw, b ∉ pgX v.q := fun b hb => by
  obtain ⟨cur, ty, h1, h2⟩ := h.tabs.types _ hb
  refine h.page.not h1 ?_
  rcases h2 with rfl | rfl <;> decide
theorem ScO.lt (h : ScO base w v s) : ∀ b ∈ scX v, base ≤ b ∧ b < w.heap.size := by
  intro b hb
  rcases List.mem_cons.1 hb with rfl | hb
  · exact ⟨h.hb, (Array.getElem?_eq_some_iff.1 h.blk).1⟩
  rcases List.mem_append.1 hb with hb | hb
  · rcases List.mem_cons.1 hb with rfl | hb
    · exact ⟨h.tabs.hb, (Array.getElem?_eq_some_iff.1 h.tabs.blk).1⟩
    · exact h.tabs.own.lt b (Option.mem_toList.1 hb)
  · exact h.page.lt b hb
theorem ScO.mod {X : List Nat} {w' : World} (h : ScO base w v s) (hm : Mod X w w') (hX : NoCel w X) (hd : ∀ b ∈ scX v, b ∉ X) : ScO base w' v s :=
  ⟨(hm.block v.S (Array.getElem?_eq_some_iff.1 h.blk).1 (hd v.S (by simp [scX]))).trans h.blk, h.hb, h.page.mod hm hX (fun b hb => hd b (by simp [scX, hb])), h.tabs.mod hm (fun b hb => hd b (by simp [scX, hb]))⟩
theorem ScO.below {w' : World} (h : ScO base w v s) (hb : Below w.heap.size w w') : ScO base w' v s := h.mod (Mod.of_below (X := []) hb) (NoCel.nil w) (fun _ _ h => by cases h)
/-- What a screen's method leaves. -/
def ScRes (base : Nat) (w : World) (v : Sv) (s' : Sc) (w' : World) : Prop :=
  ∃ v', v'.S = v.S ∧ v'.T = v.T ∧ v'.q.P = v.q.P ∧ ScO base w' v' s' ∧ Mod (scX v) w w' ∧ ∀ b ∈ scX v', b ∈ scX v ∨ w.heap.size ≤ b
theorem ScO.res (h : ScO base w v s) : ScRes base w v s w := ⟨v, rfl, rfl, rfl, h, Mod.refl _ _, fun _ hb => .inl hb⟩
theorem ScO.res_below {w' : World} (h : ScO base w v s) (hb : Below w.heap.size w w') : ScRes base w v s w' := ⟨v, rfl, rfl, rfl, h.below hb, Mod.of_below hb, fun _ hb => .inl hb⟩
theorem ScRes.trans {w1 w2 : World} {v1 : Sv} {s2 : Sc} (h1 : v1.S = v.S ∧ v1.T = v.T ∧ v1.q.P = v.q.P ∧ Mod (scX v) w w1 ∧ ∀ b ∈ scX v1, b ∈ scX v ∨ w.heap.size ≤ b) (h2 : ScRes base w1 v1 s2 w2) : ScRes base w v s2 w2 := by
  obtain ⟨e1, e2, e3, hm, hx⟩ := h1
  obtain ⟨v2, a1, a2, a3, a4, a5, a6⟩ := h2
  refine ⟨v2, a1.trans e1, a2.trans e2, a3.trans e3, a4, hm.trans a5 hx, fun b hb => ?_⟩
  rcases a6 b hb with h | h
  · exact hx b h
  · exact .inr (Nat.le_trans hm.size h)
theorem ScRes.pre {w1 w2 : World} {s2 : Sc} (hb : Below w.heap.size w w1) (h2 : ScRes base w1 v s2 w2) : ScRes base w v s2 w2 := ScRes.trans ⟨rfl, rfl, rfl, Mod.of_below hb, fun _ hb => .inl hb⟩ h2
theorem ScRes.post {w1 w2 : World} {s2 : Sc} (h : ScRes base w v s2 w1) (hb : Below w1.heap.size w1 w2) : ScRes base w v s2 w2 := by
  obtain ⟨v', a1, a2, a3, a4, a5, a6⟩ := h
  exact ⟨v', a1, a2, a3, a4.below hb, a5.then_below hb, a6⟩
/-- A cell of the screen's own block is another. -/
theorem ScO.put {s' : Sc} (h : ScO base w v s) (i : Nat) (x : Value) (he : (encSc s v.q.P v.T).set i x = encSc s' v.q.P v.T) (hp : s'.pg = s.pg) (ht : s'.st = s.st) : ScO base (w.setCell ⟨v.S, i, none⟩ x) v s' := by
  have hM : Mod [v.S] w (w.setCell ⟨v.S, i, none⟩ x) := (Mod.refl _ _).setCell (a := ⟨v.S, i, none⟩) (.inl (by simp)) _
  refine ⟨?_, h.hb, ?_, ?_⟩
  · rw [← he]
    have := heap_setCell_eq (o := i) (v := x) h.blk
    rw [List.setIfInBounds_toArray] at this
    exact this
  · rw [hp]
    exact h.page.mod hM (fun b hb cs f he => by rw [List.mem_singleton.1 hb] at he; exact block_ne h.blk he (by decide) rfl) (fun b hb hx => h.np (by rw [← List.mem_singleton.1 hx]; exact hb))
  · rw [ht]
    exact h.tabs.mod hM (fun b hb hx => h.nt (by rw [← List.mem_singleton.1 hx]; exact hb))
theorem ScO.mod_put (i : Nat) (x : Value) : Mod (scX v) w (w.setCell ⟨v.S, i, none⟩ x) := (Mod.refl _ _).setCell (a := ⟨v.S, i, none⟩) (.inl (by simp [scX])) _
/-- The page is another one. -/
theorem ScO.paged {g' : Pg} {w' : World} (h : ScO base w v s) (hp : PgRes base w v.q g' w') : ScRes base w v { s with pg := g' } w' := by
  obtain ⟨q', e1, e2, hq, hm, hx⟩ := hp
  have hS := (hm.block v.S (Array.getElem?_eq_some_iff.1 h.blk).1 h.np).trans h.blk
  refine ⟨{ v with q := q' }, rfl, rfl, e1, ⟨?_, h.hb, hq, h.tabs.mod hm h.ntp⟩, hm.mono (fun b hb => by simp [scX, hb]), fun b hb => ?_⟩
  · show w'.heap[v.S]? = some (.cells (encSc { s with pg := g' } q'.P v.T).toArray _ _)
    rw [e1]; exact hS
  · have hb2 : b ∈ v.S :: (tbX v.T v.vw ++ pgX q') := hb
    rcases List.mem_cons.1 hb2 with rfl | hb2
    · exact .inl (by simp [scX])
    rcases List.mem_append.1 hb2 with hb2 | hb2
    · exact .inl (by simp [scX, hb2])
    · rcases hx b hb2 with h1 | h1
      · exact .inl (by simp [scX, h1])
      · exact .inr h1
set_option maxRecDepth 100000 in
theorem sPage_any (h : ScO base w v s) : Calls Tryz.prog 6 #[.pointer (some ⟨v.S, 0, none⟩)] w fun e w' => e = .returned (.pointer (some ⟨v.q.P, 0, none⟩)) ∧ w = w' := by
  obtain ⟨x0, -⟩ := at_ h.blk 14 (.pointer (some ⟨v.q.P, 0, none⟩)) rfl
  clear h
  go_enter Tryz.func6, Tryz.ntmps6
  go_wp2
  go_ret
  exact ⟨rfl, rfl⟩
set_option maxRecDepth 100000 in
theorem sCols_any (h : ScO base w v s) : Calls Tryz.prog 57 #[.pointer (some ⟨v.S, 0, none⟩)] w fun e w' => e = .returned (.int .i64 s.pg.cols) ∧ w = w' := by
  have HP := Lib.hid (sPage_any h)
  have HC := Lib.hid (pCols_any h.page)
  clear h
  go_enter Tryz.func57, Tryz.ntmps57
  go_wp2_with (first
    | (go_at_call 6; refine HP.out.mono ?_; rintro e w1 ⟨rfl, rfl⟩)
    | (go_at_call 7; refine HC.out.mono ?_; rintro e w1 ⟨rfl, rfl⟩))
  go_ret
  exact ⟨rfl, rfl⟩
set_option maxRecDepth 100000 in
theorem sRows_any (h : ScO base w v s) : Calls Tryz.prog 78 #[.pointer (some ⟨v.S, 0, none⟩)] w fun e w' => e = .returned (.int .i64 s.pg.scr.length) ∧ w = w' := by
  have HP := Lib.hid (sPage_any h)
  have HC := Lib.hid (pRows_any h.page)
  clear h
  go_enter Tryz.func78, Tryz.ntmps78
  go_wp2_with (first
    | (go_at_call 6; refine HP.out.mono ?_; rintro e w1 ⟨rfl, rfl⟩)
    | (go_at_call 24; refine HC.out.mono ?_; rintro e w1 ⟨rfl, rfl⟩))
  go_ret
  exact ⟨rfl, rfl⟩
theorem info_color : (Tryz.prog.info? 41).map (·.size) = some 2 := by kernel_rfl
set_option maxRecDepth 100000 in
theorem sBack_any (h : ScO base w v s) : Calls Tryz.prog 35 #[.pointer (some ⟨v.S, 0, none⟩)] w fun e w' => e = .returned (.agg #[.int .i64 s.pen.at_.bk, .int .i64 s.pen.at_.bn]) ∧ Below w.heap.size w w' := by
  obtain ⟨x0, -⟩ := at_ h.blk 2 (.int .i64 s.pen.at_.bk) rfl
  obtain ⟨x1, -⟩ := at_ h.blk 3 (.int .i64 s.pen.at_.bn) rfl
  have hl := lt_of_cell x0
  clear h
  go_enter Tryz.func35, Tryz.ntmps35
  go_wp2
  exact bodyPost_ret (ret_agg rfl _ _ w.heap.size [.int .i64 s.pen.at_.bk, .int .i64 s.pen.at_.bn] rfl (range_new (hp_new rfl)) Tryz.underlying41 rfl info_color) rfl ⟨rfl, below_allocs (Below.refl _ _) _⟩
set_option maxRecDepth 100000 in
theorem sIn_any (h : ScO base w v s) : Calls Tryz.prog 76 #[.pointer (some ⟨v.S, 0, none⟩)] w fun e w' => e = .returned (.int .i64 (inS s)) ∧ Below w.heap.size w w' := by
  have HC : Hid (∀ w', Below w.heap.size w w' → Calls Tryz.prog 57 #[.pointer (some ⟨v.S, 0, none⟩)] w' fun e w2 => e = .returned (.int .i64 s.pg.cols) ∧ w' = w2) := Lib.hid (fun w' hb => sCols_any (h.below hb))
  obtain ⟨x0, -⟩ := at_ h.blk 17 (.int .i64 s.x) rfl
  have h2 := h.page.cols2
  have h3 := h.page.cols1000
  have hw : IntKind.i64.wrap ((s.pg.cols : Int) - 1) = (s.pg.cols : Int) - 1 := IntWalk.i64_in _ (by omega)
  unfold inS colsS
  clear h
  go_enter Tryz.func76, Tryz.ntmps76
  go_upto_region 1 with fail
  refine wp_region_u 8 (fun w' => Below w.heap.size w w' ∧ w'.cell? ⟨v.S, 17, none⟩ = some (.int .i64 s.x)) (by kernel_rfl) (by kernel_rfl) ?_ ?_
  · exact ⟨(Below.refl _ _).drew, x0⟩
  simp only [List.take_succ_cons, List.take_zero, List.drop_succ_cons, List.drop_zero]
  repeat (
    (first
     | refine seqU_skip (by rfl) ?_
     | ((refine seqU_call 57 #[.pointer (some ⟨v.S, 0, none⟩)] (.int .i64 s.pg.cols) (by rfl) ?_ (fun w' hS => (HC.out w' hS.1).mono fun e w2 ⟨he, hb⟩ => ⟨he, hb ▸ hS⟩) ?_; (focus (intro w2; go_simp; done))))
     | (refine seqU_val ?_ (by rfl) ?_ ?_; rotate_left; (focus (intro w' hS; obtain ⟨_, _⟩ := hS; go_simp; first | done | with_reducible rfl))))
    simp only [Act.put, List.setIfInBounds_toArray, List.set_cons_zero, List.set_cons_succ])
  refine seqU_nil (fun w' hS => ?_)
  go_wp2
  all_goals
    go_ret
    exact ⟨by simp; omega, hS.1⟩
end
end Go.Proofs.YtjcpdcncfjkejaaGreat
