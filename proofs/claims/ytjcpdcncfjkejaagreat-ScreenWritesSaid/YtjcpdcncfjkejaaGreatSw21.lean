/- Joined by a tool of this claim out of smaller texts. Conditions: as stated. -/
import Derived.Test.YtjcpdcncfjkejaaGreatSw18
import Derived.Test.YtjcpdcncfjkejaaGreatSw20
import Derived.LoopN
import Derived.Deep.OwnRows
set_option linter.unusedVariables false
set_option linter.unusedSimpArgs false
namespace Go.Proofs.YtjcpdcncfjkejaaGreat
open Go.RowKit
theorem wpList_callS {P : Program} {ops : Array Oper} {rest : List Oper} {o : Oper} {a : Act} {w : World} {Q : Exit → Act → World → Prop} (hg : o.guard = none) (f : FuncId) (args : Array Value) (hrun : (execOp a.eval o).run P w = .ok (.enter f args) w)
    {Post : Ending → World → Prop} (hc : Calls P f args w Post) (v : Value) (hv : ∀ e w', Post e w' → e = .returned v) (h : ∀ w', Post (.returned v) w' → wpList P ops Q rest (a.put o.dst v) w') : wpList P ops Q (o :: rest) a w := by
  refine wpList_plain hg fun K hK => ?_
  unfold Oper.wp
  rw [hrun, Oper.upon_enter]
  refine hc.mono fun e w'' hh => ?_
  obtain rfl := hv e w'' hh
  exact hK _ _ (h _ hh)
section
variable {base : Nat} {w : World} {v : Sv} {s : Sc}
set_option maxRecDepth 100000 in
set_option maxHeartbeats 1600000 in
theorem sPrint_any (h : ScO base w v s) (hi : ScI s) (ht : s.pg.told.length ≤ 900000) (r : Int) : Calls Tryz.prog 8 #[.pointer (some ⟨v.S, 0, none⟩), .int .i32 r] w (ScPost base w v (printS s r)) := by
  have HM := Lib.hid (fun w => cmap_any s.pen.ch r w)
  unfold MapPost chV onceC at HM
  have HO := Lib.hid h
  have HI := Lib.hid hi
  obtain ⟨c5, -⟩ := at_ h.blk 5 (.int .i64 s.pen.ch.g0) rfl
  obtain ⟨c6, -⟩ := at_ h.blk 6 (.int .i64 s.pen.ch.g1) rfl
  obtain ⟨c7, -⟩ := at_ h.blk 7 (.int .i64 s.pen.ch.g2) rfl
  obtain ⟨c8, -⟩ := at_ h.blk 8 (.int .i64 s.pen.ch.g3) rfl
  obtain ⟨c9, -⟩ := at_ h.blk 9 (.int .i64 s.pen.ch.use) rfl
  obtain ⟨c10, -⟩ := at_ h.blk 10 (.int .i64 s.pen.ch.once) rfl
  clear h hi
  go_enter Tryz.func8, Tryz.ntmps8
  go_upto_region 2 with (go_at_call 15; refine (HM.out _).mono ?_; rintro e w1 ⟨rfl, hb⟩; have HB1 := Lib.hid hb; have hO1 := HO.out.below hb; clear hb c5 c6 c7 c8 c9 c10; obtain ⟨c5, f5⟩ := at_ hO1.blk 5 (.int .i64 s.pen.ch.g0) rfl; obtain ⟨c6, f6⟩ := at_ hO1.blk 6 (.int .i64 s.pen.ch.g1) rfl; obtain ⟨c7, f7⟩ := at_ hO1.blk 7 (.int .i64 s.pen.ch.g2) rfl; obtain ⟨c8, f8⟩ := at_ hO1.blk 8 (.int .i64 s.pen.ch.g3) rfl; obtain ⟨c9, f9⟩ := at_ hO1.blk 9 (.int .i64 s.pen.ch.use) rfl; obtain ⟨c10, f10⟩ := at_ hO1.blk 10 (.int .i64 s.pen.ch.once) rfl; have HO1 := Lib.hid hO1; clear hO1)
  have hb6 : ScO base ((((((w1.setCell ⟨v.S, 5, none⟩ (.int .i64 s.pen.ch.g0)).setCell ⟨v.S, 6, none⟩ (.int .i64 s.pen.ch.g1)).setCell ⟨v.S, 7, none⟩ (.int .i64 s.pen.ch.g2)).setCell ⟨v.S, 8, none⟩ (.int .i64 s.pen.ch.g3)).setCell ⟨v.S, 9, none⟩ (.int .i64 s.pen.ch.use)).setCell ⟨v.S, 10, none⟩ (.int .i64 0)) v { s with pen := { s.pen with ch := onceC s.pen.ch } } :=
    (((((HO1.out.put 5 _ (s' := s) rfl rfl rfl).put 6 _ (s' := s) rfl rfl rfl).put 7 _ (s' := s) rfl rfl rfl).put 8 _ (s' := s) rfl rfl rfl).put 9 _ (s' := s) rfl rfl rfl).put 10 _ rfl rfl rfl
  have hm6 : Mod (scX v) w1 ((((((w1.setCell ⟨v.S, 5, none⟩ (.int .i64 s.pen.ch.g0)).setCell ⟨v.S, 6, none⟩ (.int .i64 s.pen.ch.g1)).setCell ⟨v.S, 7, none⟩ (.int .i64 s.pen.ch.g2)).setCell ⟨v.S, 8, none⟩ (.int .i64 s.pen.ch.g3)).setCell ⟨v.S, 9, none⟩ (.int .i64 s.pen.ch.use)).setCell ⟨v.S, 10, none⟩ (.int .i64 0)) := by
    have hv : v.S ∈ scX v := by simp [scX]
    exact ((((((Mod.refl _ _).setCell (a := ⟨v.S, 5, none⟩) (.inl hv) _).setCell (a := ⟨v.S, 6, none⟩) (.inl hv) _).setCell (a := ⟨v.S, 7, none⟩) (.inl hv) _).setCell (a := ⟨v.S, 8, none⟩) (.inl hv) _).setCell (a := ⟨v.S, 9, none⟩) (.inl hv) _).setCell (a := ⟨v.S, 10, none⟩) (.inl hv) _
  have HM6 := Lib.hid ((Mod.of_below HB1.out).trans hm6 (fun b hb => .inl hb))
  have HI6 : Hid (ScI { s with pen := { s.pen with ch := onceC s.pen.ch } }) := Lib.hid ⟨HI.out.y0, HI.out.y1, HI.out.x0, HI.out.x1, HI.out.t0, HI.out.tb, HI.out.b1⟩
  clear hm6 c5 f5 c6 f6 c7 f7 c8 f8 c9 f9 c10 f10
  generalize World.setCell _ _ _ = W6 at hb6 HM6 ⊢
  have HW := Lib.hid (sWrite_any hb6 HI6.out ht (mapC s.pen.ch r))
  clear hb6
  go_wp2_with (go_at_call 16; refine HW.out.mono ?_; rintro e w7 ⟨rfl, hs⟩; have HS7 := Lib.hid hs; clear hs)
  go_end0
  exact ⟨rfl, ScRes.trans ⟨rfl, rfl, rfl, HM6.out, fun b hb => .inl hb⟩ HS7.out⟩
/-- What a screen tells of itself. -/
def stL (s : Sc) : List Value := [.int .i64 s.y, .int .i64 s.x, .int .i64 s.pen.at_.fk, .int .i64 s.pen.at_.fn, .int .i64 s.pen.at_.bk, .int .i64 s.pen.at_.bn, .int .i64 s.pen.at_.fl, .int .i64 s.pen.ch.g0, .int .i64 s.pen.ch.g1, .int .i64 s.pen.ch.g2, .int .i64 s.pen.ch.g3, .int .i64 s.pen.ch.use, .int .i64 s.pen.ch.once, .bool s.pen.put, .bool s.pen.wrap, .bool s.pen.home, .int .i64 s.top, .int .i64 s.bot, .bool s.has]
theorem stL_one (s : Sc) : ∀ v ∈ stL s, v.oneCell' = true := fun v hv => by
  simp only [stL, List.mem_cons, List.not_mem_nil, or_false] at hv
  rcases hv with rfl | rfl | rfl | rfl | rfl | rfl | rfl | rfl | rfl | rfl | rfl | rfl | rfl | rfl | rfl | rfl | rfl | rfl | rfl <;> rfl
theorem info_state : (Tryz.prog.info? 59).map (·.size) = some 19 := by kernel_rfl
def StPost (s : Sc) (w : World) (e : Ending) (w' : World) : Prop := e = .returned (.agg (stL s).toArray) ∧ Below w.heap.size w w'
set_option maxRecDepth 100000 in
set_option maxHeartbeats 3200000 in
theorem sState_any (h : ScO base w v s) : Calls Tryz.prog 12 #[.pointer (some ⟨v.S, 0, none⟩)] w (StPost s w) := by
  obtain ⟨c0, -⟩ := at_ h.blk 0 (.int .i64 s.pen.at_.fk) rfl
  obtain ⟨c1, -⟩ := at_ h.blk 1 (.int .i64 s.pen.at_.fn) rfl
  obtain ⟨c2, -⟩ := at_ h.blk 2 (.int .i64 s.pen.at_.bk) rfl
  obtain ⟨c3, -⟩ := at_ h.blk 3 (.int .i64 s.pen.at_.bn) rfl
  obtain ⟨c4, -⟩ := at_ h.blk 4 (.int .i64 s.pen.at_.fl) rfl
  obtain ⟨c5, -⟩ := at_ h.blk 5 (.int .i64 s.pen.ch.g0) rfl
  obtain ⟨c6, -⟩ := at_ h.blk 6 (.int .i64 s.pen.ch.g1) rfl
  obtain ⟨c7, -⟩ := at_ h.blk 7 (.int .i64 s.pen.ch.g2) rfl
  obtain ⟨c8, -⟩ := at_ h.blk 8 (.int .i64 s.pen.ch.g3) rfl
  obtain ⟨c9, -⟩ := at_ h.blk 9 (.int .i64 s.pen.ch.use) rfl
  obtain ⟨c10, -⟩ := at_ h.blk 10 (.int .i64 s.pen.ch.once) rfl
  obtain ⟨c11, -⟩ := at_ h.blk 11 (.bool s.pen.put) rfl
  obtain ⟨c12, -⟩ := at_ h.blk 12 (.bool s.pen.wrap) rfl
  obtain ⟨c13, -⟩ := at_ h.blk 13 (.bool s.pen.home) rfl
  obtain ⟨c16, -⟩ := at_ h.blk 16 (.int .i64 s.y) rfl
  obtain ⟨c17, -⟩ := at_ h.blk 17 (.int .i64 s.x) rfl
  obtain ⟨c18, -⟩ := at_ h.blk 18 (.int .i64 s.top) rfl
  obtain ⟨c19, -⟩ := at_ h.blk 19 (.int .i64 s.bot) rfl
  obtain ⟨c36, -⟩ := at_ h.blk 36 (.bool s.has) rfl
  have hl := lt_of_cell c0
  clear h
  go_enter Tryz.func12, Tryz.ntmps12
  go_upto_region 3 with fail
  generalize hW : World.alloc _ _ = W
  have hb2 : Below w.heap.size w W := by rw [← hW]; exact below_allocs (Below.refl _ _) _
  have hc2 : W.heap[w.heap.size]? = some (.cells ([.int .i64 0, .int .i64 0, .int .i64 0, .int .i64 0, .int .i64 0, .int .i64 0, .int .i64 0, .int .i64 0, .int .i64 0, .int .i64 0, .int .i64 0, .int .i64 0, .int .i64 0, .bool false, .bool false, .bool false, .int .i64 0, .int .i64 0, .bool false] : List Value).toArray 59 (0, 0)) := by rw [← hW]; exact hp_new rfl
  have HB2 := Lib.hid hb2
  have HC2 := Lib.hid hc2
  replace c0 := holda hb2 c0
  replace c1 := holda hb2 c1
  replace c2 := holda hb2 c2
  replace c3 := holda hb2 c3
  replace c4 := holda hb2 c4
  replace c5 := holda hb2 c5
  replace c6 := holda hb2 c6
  replace c7 := holda hb2 c7
  replace c8 := holda hb2 c8
  replace c9 := holda hb2 c9
  replace c10 := holda hb2 c10
  replace c11 := holda hb2 c11
  replace c12 := holda hb2 c12
  replace c13 := holda hb2 c13
  replace c16 := holda hb2 c16
  replace c17 := holda hb2 c17
  replace c18 := holda hb2 c18
  replace c19 := holda hb2 c19
  replace c36 := holda hb2 c36
  clear hW hb2 hc2
  refine wp_region_u 37 (fun w' => Below W.heap.size W w' ∧ w'.cell? ⟨v.S, 0, none⟩ = some (.int .i64 s.pen.at_.fk) ∧ w'.cell? ⟨v.S, 1, none⟩ = some (.int .i64 s.pen.at_.fn) ∧ w'.cell? ⟨v.S, 2, none⟩ = some (.int .i64 s.pen.at_.bk) ∧ w'.cell? ⟨v.S, 3, none⟩ = some (.int .i64 s.pen.at_.bn) ∧ w'.cell? ⟨v.S, 4, none⟩ = some (.int .i64 s.pen.at_.fl) ∧ w'.cell? ⟨v.S, 5, none⟩ = some (.int .i64 s.pen.ch.g0) ∧ w'.cell? ⟨v.S, 6, none⟩ = some (.int .i64 s.pen.ch.g1) ∧ w'.cell? ⟨v.S, 7, none⟩ = some (.int .i64 s.pen.ch.g2) ∧ w'.cell? ⟨v.S, 8, none⟩ = some (.int .i64 s.pen.ch.g3) ∧ w'.cell? ⟨v.S, 9, none⟩ = some (.int .i64 s.pen.ch.use) ∧ w'.cell? ⟨v.S, 10, none⟩ = some (.int .i64 s.pen.ch.once) ∧ w'.cell? ⟨v.S, 11, none⟩ = some (.bool s.pen.put) ∧ w'.cell? ⟨v.S, 12, none⟩ = some (.bool s.pen.wrap) ∧ w'.cell? ⟨v.S, 13, none⟩ = some (.bool s.pen.home) ∧ w'.cell? ⟨v.S, 16, none⟩ = some (.int .i64 s.y) ∧ w'.cell? ⟨v.S, 17, none⟩ = some (.int .i64 s.x) ∧ w'.cell? ⟨v.S, 18, none⟩ = some (.int .i64 s.top) ∧ w'.cell? ⟨v.S, 19, none⟩ = some (.int .i64 s.bot) ∧ w'.cell? ⟨v.S, 36, none⟩ = some (.bool s.has)) (by kernel_rfl) (by kernel_rfl) ?_ ?_
  · exact ⟨(Below.refl _ _).drew, c0, c1, c2, c3, c4, c5, c6, c7, c8, c9, c10, c11, c12, c13, c16, c17, c18, c19, c36⟩
  simp only [List.take_succ_cons, List.take_zero, List.drop_succ_cons, List.drop_zero]
  repeat (
    (first
     | refine seqU_skip (by rfl) ?_
     | (refine seqU_val ?_ (by rfl) ?_ ?_; rotate_left; (focus (intro w' hS; obtain ⟨_, _, _, _, _, _, _, _, _, _, _, _, _, _, _, _, _, _, _, _⟩ := hS; go_simp; first | done | with_reducible rfl))))
    simp only [Act.put, List.setIfInBounds_toArray, List.set_cons_zero, List.set_cons_succ])
  refine seqU_nil (fun w' hS => ?_)
  have hc3 := (hS.1.block _ (lt_of_heap HC2.out)).trans HC2.out
  have hb3 := below_tail HB2.out hS.1
  refine wpList_store_mid rfl 59 (.tmp 2) (.tmp 42) rfl (w.heap.size) (0) ((stL s).toArray) rfl rfl ((show World.there _ w.heap.size 0 19 from there_new hc3)) info_state (all_oneCell_toArray (stL_one s)) ?_
  simp only [Act.put]
  go_wp2
  have hw := whole_setCells (stL s) 0 _ _ hc3 (by simp [stL])
  exact bodyPost_ret (ret_agg rfl _ _ w.heap.size (stL s) rfl (range_new hw) Tryz.underlying59 rfl info_state) rfl ⟨rfl, below_setN hb3 (Nat.le_refl _) _ _⟩
def peL (p : Pe) : List Value := [.int .i64 p.at_.fk, .int .i64 p.at_.fn, .int .i64 p.at_.bk, .int .i64 p.at_.bn, .int .i64 p.at_.fl, .int .i64 p.ch.g0, .int .i64 p.ch.g1, .int .i64 p.ch.g2, .int .i64 p.ch.g3, .int .i64 p.ch.use, .int .i64 p.ch.once, .bool p.put, .bool p.wrap, .bool p.home]
theorem peL_one (p : Pe) : ∀ v ∈ peL p, v.oneCell' = true := fun v hv => by
  simp only [peL, List.mem_cons, List.not_mem_nil, or_false] at hv
  rcases hv with rfl | rfl | rfl | rfl | rfl | rfl | rfl | rfl | rfl | rfl | rfl | rfl | rfl | rfl <;> rfl
theorem info_pen : (Tryz.prog.info? 65).map (·.size) = some 14 := by kernel_rfl
set_option maxRecDepth 100000 in
set_option maxHeartbeats 1600000 in
theorem sfresh_any (w : World) : Calls Tryz.prog 22 #[] w fun e w' => e = .returned (.agg (peL firstPe).toArray) ∧ Below w.heap.size w w' := by
  have HN := Lib.hid (fun w => cnew_any w)
  unfold chV at HN
  go_enter Tryz.func22, Tryz.ntmps22
  go_upto_region 1 with fail
  generalize hW : World.alloc _ _ = W
  have hb2 : Below w.heap.size w W := by rw [← hW]; exact below_allocs (Below.refl _ _) _
  have hc2 : W.heap[w.heap.size]? = some (.cells (peL zeroPe).toArray 65 (0, 0)) := by rw [← hW]; exact hp_new rfl
  clear hW
  refine wp_region_lit ?_
  refine wpList_callS rfl 45 #[] (by go_simp) (HN.out _) (.agg #[.int .i64 66, .int .i64 66, .int .i64 66, .int .i64 66, .int .i64 0, .int .i64 0]) (fun e w' h => h.1) ?_
  rintro w1 ⟨-, hb⟩
  simp only [Act.put, List.setIfInBounds_toArray, List.set_cons_zero, List.set_cons_succ]
  refine wpList_valG (.agg #[.bool false, .bool true, .bool false]) (by rfl) (by go_simp) ?_
  simp only [Act.put, List.setIfInBounds_toArray, List.set_cons_zero, List.set_cons_succ]
  refine wpList_valG (.agg (peL firstPe).toArray) (by rfl) (by go_simp; rfl) ?_
  simp only [Act.put, List.setIfInBounds_toArray, List.set_cons_zero, List.set_cons_succ]
  have hc3 := (hb.block _ (lt_of_heap hc2)).trans hc2
  have hb3 := below_tail hb2 hb
  refine wpList_store_mid rfl 65 (.tmp 0) (.tmp 3) rfl (w.heap.size) (0) ((peL firstPe).toArray) rfl rfl ((show World.there _ w.heap.size 0 14 from there_new hc3)) info_pen (all_oneCell_toArray (peL_one _)) ?_
  simp only [Act.put]
  go_wp2
  have hw := whole_setCells (peL firstPe) 0 _ _ hc3 (by simp [peL])
  exact bodyPost_ret (ret_agg rfl _ _ w.heap.size (peL firstPe) rfl (range_new hw) Tryz.underlying65 rfl info_pen) rfl ⟨rfl, below_setN hb3 (Nat.le_refl _) _ _⟩
def SNewPost (rows cols lines : Nat) (w : World) (e : Ending) (w' : World) : Prop :=
  ∃ v, e = .returned (.tuple #[.pointer (some ⟨v.S, 0, none⟩), .int .i64 0]) ∧ ScO w.heap.size w' v (newS rows cols lines (sizeT [] cols)) ∧ Below w.heap.size w w'
theorem TbO.weaken {b2 T : Nat} {vw : Value} {ws : List Nat} {st : List Bool} (h : TbO base w T vw ws st) (hb : b2 ≤ base) : TbO b2 w T vw ws st :=
  ⟨h.blk, Nat.le_trans hb h.hb, owns_weaken h.own hb, h.wds, h.le, h.few⟩
set_option maxRecDepth 100000 in
set_option maxHeartbeats 1600000 in
theorem snew_ok (rows cols lines : Nat) (w : World) (hr1 : 1 ≤ rows) (hr2 : rows ≤ 1000) (hc1 : 2 ≤ cols) (hc2 : cols ≤ 1000) (hl : lines ≤ 100000) :
    Calls Tryz.prog 11 #[.int .i64 rows, .int .i64 cols, .int .i64 lines] w (SNewPost rows cols lines w) := by
  have HP := Lib.hid (pnew_ok rows cols lines w hr1 hr2 hc1 hc2 hl)
  have HT := Lib.hid (fun w => tnew_ok cols w hc1 hc2)
  have HF := Lib.hid (fun w => sfresh_any w)
  unfold peL at HF
  have hwr : IntKind.i64.wrap ((rows : Int) - 1) = (rows : Int) - 1 := IntWalk.i64_in _ (by omega)
  go_enter Tryz.func11, Tryz.ntmps11
  go_wp2_with (first
    | (go_at_call 20; refine HP.out.mono ?_; rintro e w1 ⟨q, rfl, hq, hb⟩; have HQ := Lib.hid hq; have HB1 := Lib.hid hb; clear hq hb)
    | (go_at_call 21; refine (HT.out _).mono ?_; rintro e w2 ⟨T, vw, ws, rfl, ht, hb⟩; have HTB := Lib.hid ht; have HB2 := Lib.hid hb; clear ht hb)
    | (go_at_call 22; refine (HF.out _).mono ?_; rintro e w3 ⟨rfl, hb⟩; have HB3 := Lib.hid hb; clear hb))
  go_ret2
  have hba := below_allocs (Below.refl w3.heap.size w3) (.cells (encSc (newS rows cols lines (sizeT [] cols)) q.P T).toArray 70)
  have h1 := HB1.out.size
  have h2 := HB2.out.size
  have h3 := HB3.out.size
  exact ⟨⟨w3.heap.size, q, T, vw, ws⟩, rfl, ⟨hp_new rfl, by show w.heap.size ≤ w3.heap.size; omega, ((HQ.out.below HB2.out).below HB3.out).below hba, (((HTB.out.weaken h1).below HB3.out).below hba)⟩, below_tail (below_tail (below_tail HB1.out HB2.out) HB3.out) hba⟩
end
end Go.Proofs.YtjcpdcncfjkejaaGreat

namespace Go.Proofs.YtjcpdcncfjkejaaGreat
open Go.RowKit
/-- Where a document lies. -/
structure Dv where
  D : Nat
  vl : Value
  vt : Value
  S : List Rh
def dcX (q : Dv) : List Nat := q.D :: (q.vl.ownBlock.toList ++ q.vt.ownBlock.toList)
/-- A document in memory. -/
structure DcO (base : Nat) (w : World) (q : Dv) (d : Dc) : Prop where
  blk : w.heap[q.D]? = some (.cells #[q.vl, .int .i64 d.base, .int .i64 d.cols, .int .i64 d.room, .int .u64 (d.gone % 18446744073709551616), q.vt] 115 (0, 0))
  hb : base ≤ q.D
  own : w.ownsRow base 39 2 q.vl q.S.length (flat encRh q.S)
  told : w.ownsRow base 149 3 q.vt d.told.length (flat encTl d.told)
  rl : q.S.map roOf = d.L
  rows : ∀ r ∈ q.S, RcAt w r ∧ r.cs.length = d.cols
  cols2 : 2 ≤ d.cols
  cols1000 : d.cols ≤ 1000
  gone0 : 0 ≤ d.gone
section
variable {base : Nat} {w : World} {q : Dv} {d : Dc}
theorem DcO.len (h : DcO base w q d) : q.S.length = d.L.length := by rw [← h.rl, List.length_map]
theorem DcO.nocel (h : DcO base w q d) : NoCel w (dcX q) := by
  intro b hb cs f he
  rcases List.mem_cons.1 hb with rfl | hb
  · exact block_ne h.blk he (by decide) rfl
  rcases List.mem_append.1 hb with hb | hb
  · obtain ⟨cur, hc⟩ := own_block h.own (by simpa [Option.mem_toList] using hb)
    exact block_ne hc he (by decide) rfl
  · obtain ⟨cur, hc⟩ := own_block h.told (by simpa [Option.mem_toList] using hb)
    exact block_ne hc he (by decide) rfl
theorem DcO.lt (h : DcO base w q d) : ∀ b ∈ dcX q, base ≤ b ∧ b < w.heap.size := by
  intro b hb
  rcases List.mem_cons.1 hb with rfl | hb
  · exact ⟨h.hb, (Array.getElem?_eq_some_iff.1 h.blk).1⟩
  rcases List.mem_append.1 hb with hb | hb
  · exact h.own.lt b (by simpa [Option.mem_toList] using hb)
  · exact h.told.lt b (by simpa [Option.mem_toList] using hb)
theorem DcO.mod {X : List Nat} {w' : World} (h : DcO base w q d) (hm : Mod X w w') (hX : NoCel w X) (hd : ∀ b ∈ dcX q, b ∉ X) : DcO base w' q d :=
  ⟨(hm.block q.D (Array.getElem?_eq_some_iff.1 h.blk).1 (hd q.D (by simp [dcX]))).trans h.blk, h.hb, owns_mod h.own hm (fun b hb => hd b (by simp [dcX, hb])), owns_mod h.told hm (fun b hb => hd b (by simp [dcX, hb])), h.rl, fun r hr => ⟨(h.rows r hr).1.mod hm hX, (h.rows r hr).2⟩, h.cols2, h.cols1000, h.gone0⟩
theorem DcO.below {w' : World} (h : DcO base w q d) (hb : Below w.heap.size w w') : DcO base w' q d := h.mod (Mod.of_below (X := []) hb) (NoCel.nil w) (fun _ _ h => by cases h)
/-- What a document's method leaves. -/
def DcRes (base : Nat) (w : World) (q : Dv) (d' : Dc) (w' : World) : Prop :=
  ∃ q', q'.D = q.D ∧ DcO base w' q' d' ∧ Mod (dcX q) w w' ∧ ∀ b ∈ dcX q', b ∈ dcX q ∨ w.heap.size ≤ b
theorem DcO.res (h : DcO base w q d) : DcRes base w q d w := ⟨q, rfl, h, Mod.refl _ _, fun b hb => .inl hb⟩
theorem DcRes.trans {w1 w2 : World} {q1 : Dv} {d2 : Dc} (h1 : q1.D = q.D ∧ Mod (dcX q) w w1 ∧ ∀ b ∈ dcX q1, b ∈ dcX q ∨ w.heap.size ≤ b) (h2 : DcRes base w1 q1 d2 w2) : DcRes base w q d2 w2 := by
  obtain ⟨e1, hm, hx⟩ := h1
  obtain ⟨q2, a1, a3, a4, a5⟩ := h2
  refine ⟨q2, a1.trans e1, a3, hm.trans a4 hx, fun b hb => ?_⟩
  rcases a5 b hb with h | h
  · exact hx b h
  · exact .inr (Nat.le_trans hm.size h)
theorem DcRes.post {w1 w2 : World} {d2 : Dc} (h : DcRes base w q d2 w1) (hb : Below w1.heap.size w1 w2) : DcRes base w q d2 w2 := by
  obtain ⟨q', a1, a3, a4, a5⟩ := h
  exact ⟨q', a1, a3.below hb, a4.then_below hb, a5⟩
theorem DcO.cells (h : DcO base w q d) : (w.cell? ⟨q.D, 0, none⟩ = some q.vl ∧ w.frozen? ⟨q.D, 0, none⟩ = false) ∧ (w.cell? ⟨q.D, 1, none⟩ = some (.int .i64 d.base) ∧ w.frozen? ⟨q.D, 1, none⟩ = false) ∧ (w.cell? ⟨q.D, 2, none⟩ = some (.int .i64 d.cols) ∧ w.frozen? ⟨q.D, 2, none⟩ = false) ∧ (w.cell? ⟨q.D, 3, none⟩ = some (.int .i64 d.room) ∧ w.frozen? ⟨q.D, 3, none⟩ = false) ∧ (w.cell? ⟨q.D, 4, none⟩ = some (.int .u64 (d.gone % 18446744073709551616)) ∧ w.frozen? ⟨q.D, 4, none⟩ = false) ∧ (w.cell? ⟨q.D, 5, none⟩ = some q.vt ∧ w.frozen? ⟨q.D, 5, none⟩ = false) :=
  ⟨at_ h.blk 0 _ rfl, at_ h.blk 1 _ rfl, at_ h.blk 2 _ rfl, at_ h.blk 3 _ rfl, at_ h.blk 4 _ rfl, at_ h.blk 5 _ rfl⟩
end
end Go.Proofs.YtjcpdcncfjkejaaGreat
namespace Go.Proofs.YtjcpdcncfjkejaaGreat
open Go.RowKit
section
variable {base : Nat} {w : World} {q : Dv} {d : Dc}
set_option maxRecDepth 100000 in
set_option maxHeartbeats 1600000 in
theorem rdblank_any (h : DcO base w q d) (b : Col) :
    Calls Tryz.prog 46 #[.pointer (some ⟨q.D, 0, none⟩), .agg #[.int .i64 b.k, .int .i64 b.n]] w (BlankPost d.cols b w) := by
  obtain ⟨cols, hcols⟩ : ∃ c, c = d.cols := ⟨_, rfl⟩
  have h2 := h.cols2
  have h3 := h.cols1000
  obtain ⟨-, -, ⟨x2, -⟩, -⟩ := h.cells
  rw [← hcols] at h2 h3 x2 ⊢
  clear h hcols
  have HBL := Lib.hid (fun w => rBlanks_any cols b w (by omega) h3)
  have x := hp_old (o := .cells #[.slice none 0 0, .bool false] 39) (hp_new (W := w) (b := w.heap.size) (o := .cells #[.int .i64 b.k, .int .i64 b.n] 41) rfl)
  have y := hp_new (W := w.alloc (.cells #[.int .i64 b.k, .int .i64 b.n] 41)) (b := w.heap.size + 1) (o := .cells #[.slice none 0 0, .bool false] 39) (by simp)
  have hb0 := below_allocs (below_allocs (Below.refl w.heap.size w) (.cells #[.int .i64 b.k, .int .i64 b.n] 41)) (.cells #[.slice none 0 0, .bool false] 39)
  have HB := Lib.hid hb0
  have X2 := Lib.hid (holda hb0 x2)
  have X0 := Lib.hid (at_ x 0 _ rfl).1
  have X1 := Lib.hid (at_ x 1 _ rfl).1
  have Y := Lib.hid y
  clear x y hb0 x2
  go_enter Tryz.func46, Tryz.ntmps46
  go_upto_region 1 with fail
  generalize World.alloc _ _ = W at HB X2 X0 X1 Y ⊢
  have x2 := X2.out
  have x0 := X0.out
  have x1 := X1.out
  refine wp_region_u 5 (fun w' => Below W.heap.size W w' ∧ w'.cell? ⟨q.D, 2, none⟩ = some (.int .i64 cols) ∧ w'.cell? ⟨w.heap.size, 0, none⟩ = some (.int .i64 b.k) ∧ w'.cell? ⟨w.heap.size, 1, none⟩ = some (.int .i64 b.n)) (by kernel_rfl) (by kernel_rfl) ?_ ?_
  · exact ⟨(Below.refl _ _).drew, x2, x0, x1⟩
  simp only [List.take_succ_cons, List.take_zero, List.drop_succ_cons, List.drop_zero]
  repeat (
    (first
     | refine seqU_skip (by rfl) ?_
     | (refine seqU_val ?_ (by rfl) ?_ ?_; rotate_left; (focus (intro w' hS; obtain ⟨_, _, _, _⟩ := hS; go_simp; first | done | with_reducible rfl))))
    simp only [Act.put, List.setIfInBounds_toArray, List.set_cons_zero, List.set_cons_succ])
  refine seqU_nil (fun w' hS => ?_)
  have HB1 := Lib.hid (below_tail HB.out hS.1)
  have HY := Lib.hid ((hS.1.block _ (lt_of_heap Y.out)).trans Y.out)
  clear hS x2 x0 x1 X2 X0 X1 Y
  go_wp2_with (go_at_call 68; refine (HBL.out _).mono ?_; rintro e w2 ⟨g, cap, rfl, hc, hb⟩; rw [List.length_replicate]; have HC := Lib.hid hc; have HB2 := Lib.hid hb
               have HY2 := Lib.hid ((hb.block _ (lt_of_heap HY.out)).trans HY.out); obtain ⟨y0, y0f⟩ := at_ HY2.out 0 _ rfl; obtain ⟨y1, y1f⟩ := at_ HY2.out 1 _ rfl; clear hc hb)
  have hset := set_two (u' := .slice (some ⟨g, 0, none⟩) cols cap) (v' := .bool false) ⟨y0, y0f⟩ ⟨y1, y1f⟩
  have HB3 := below_set (below_set (below_tail HB1.out HB2.out) (show w.heap.size ≤ w.heap.size + 1 by omega) (o := 0) (.slice (some ⟨g, 0, none⟩) cols cap)) (show w.heap.size ≤ w.heap.size + 1 by omega) (o := 1) (.bool false)
  refine bodyPost_ret (ret_row rfl _ _ (w.heap.size + 1) _ _ rfl hset.1.1 hset.2.1) rfl ⟨g, cap, rfl, (RcAt.of_own HC.out (by simp; omega) (fine_rep _ _) false).mod (X := [w.heap.size + 1]) (mod_set2 (Mod.refl _ _) (.inl (by simp))) ?_, HB3⟩
  intro x hx cs' f he
  rw [List.mem_singleton.1 hx] at he
  exact block_ne HY2.out he (by decide) rfl
end
end Go.Proofs.YtjcpdcncfjkejaaGreat
namespace Go.Proofs.YtjcpdcncfjkejaaGreat
open Go.RowKit
section
variable {ops : Array Oper} {rest : List Oper} {o : Oper} {a : Act} {w : World} {Q : Exit → Act → World → Prop}
end
section
variable {base : Nat} {w : World} {q : Dv} {d : Dc}
end
end Go.Proofs.YtjcpdcncfjkejaaGreat
namespace Go.Proofs.YtjcpdcncfjkejaaGreat
open Go.RowKit
section
variable {base : Nat} {w : World} {q : Dv} {d : Dc}
end
end Go.Proofs.YtjcpdcncfjkejaaGreat
namespace Go.Proofs.YtjcpdcncfjkejaaGreat
open Go.RowKit
section
variable {base : Nat} {w : World} {q : Dv} {d : Dc}
end
end Go.Proofs.YtjcpdcncfjkejaaGreat

namespace Go.Proofs.YtjcpdcncfjkejaaGreat
open Go.RowKit
section
variable {base : Nat} {w w1 : World} {q : Dv} {d d1 : Dc}
theorem blank_then (hs : DcRes base w q d1 w1) (b : Col) : Calls Tryz.prog 46 #[.pointer (some ⟨q.D, 0, none⟩), .agg #[.int .i64 b.k, .int .i64 b.n]] w1 (BlankPost d1.cols b w1) := by
  obtain ⟨q1, e1, h1, -, -⟩ := hs
  rw [← e1]; exact rdblank_any h1 b
end
end Go.Proofs.YtjcpdcncfjkejaaGreat
namespace Go.Proofs.YtjcpdcncfjkejaaGreat
open Go.RowKit
section
variable {base : Nat} {w w1 : World} {q : Dv} {d d1 : Dc}
end
end Go.Proofs.YtjcpdcncfjkejaaGreat
namespace Go.Proofs.YtjcpdcncfjkejaaGreat
open Go.RowKit
section
variable {base : Nat} {w w1 : World} {q : Dv} {d d1 : Dc}
end
end Go.Proofs.YtjcpdcncfjkejaaGreat
namespace Go.Proofs.YtjcpdcncfjkejaaGreat
open Go.RowKit
section
variable {base : Nat} {w w1 : World} {q : Dv} {d d1 : Dc}
/-- One more row at the end. -/
theorem DcO.grown {vs' : Value} {r : Rh} (h : DcO base w q d) (ho : w1.ownsRow base 39 2 vs' (q.S.length + 1) (flat encRh (q.S ++ [r]))) (hm : Mod q.vl.ownBlock.toList w w1) (hv : ∀ b, vs'.ownBlock = some b → q.vl.ownBlock = some b ∨ w.heap.size ≤ b)
    (hr : RcAt w1 r) (hrl : r.cs.length = d.cols) : DcRes base w q { d with L := d.L ++ [roOf r] } (w1.setCell ⟨q.D, 0, none⟩ vs') := by
  have hvs : ∀ b, q.vl.ownBlock = some b → ∃ cur : Array Value, w.heap[b]? = some (.cells cur 39 (0, 0)) := fun b hb => own_block h.own hb
  have hPv : q.D ∉ q.vl.ownBlock.toList := fun hb => by
    obtain ⟨cur, hc⟩ := hvs _ (Option.mem_toList.1 hb)
    exact block_ne h.blk hc (by decide) rfl
  have hPl := (Array.getElem?_eq_some_iff.1 h.blk).1
  have hm2 : Mod (q.D :: q.vl.ownBlock.toList) w (w1.setCell ⟨q.D, 0, none⟩ vs') := (hm.mono (fun b hb => by simp [Option.mem_toList.1 hb])).setCell (a := ⟨q.D, 0, none⟩) (.inl (by simp)) _
  have hX : NoCel w (q.D :: q.vl.ownBlock.toList) := fun b hb cs f he => by
    refine h.nocel b ?_ cs f he
    rcases List.mem_cons.1 hb with rfl | hb
    · simp [dcX]
    · simp [dcX, Option.mem_toList.1 hb]
  have hblk := whole_set (cs := [q.vl, .int .i64 d.base, .int .i64 d.cols, .int .i64 d.room, .int .u64 (d.gone % 18446744073709551616), q.vt]) ((hm.block q.D hPl hPv).trans h.blk) 0 vs' (cs' := [vs', .int .i64 d.base, .int .i64 d.cols, .int .i64 d.room, .int .u64 (d.gone % 18446744073709551616), q.vt]) rfl
  have hM1 : Mod [q.D] w1 (w1.setCell ⟨q.D, 0, none⟩ vs') := (Mod.refl [q.D] w1).setCell (a := ⟨q.D, 0, none⟩) (.inl (by simp)) vs'
  have hN1 : NoCel w1 [q.D] := fun b hb cs f he => by
    rw [List.mem_singleton.1 hb, hm.block q.D hPl hPv] at he
    exact block_ne h.blk he (by decide) rfl
  refine ⟨{ q with vl := vs', S := q.S ++ [r] }, rfl, ⟨hblk, h.hb, ?_, owns_mod h.told hm2 (fun b hb hx => ?_), ?_, fun x hx => ?_, h.cols2, h.cols1000, h.gone0⟩, hm2.mono (fun b hb => ?_), fun b hb => ?_⟩
  · have := owns_mod ho hM1 (fun b hb hx => by
      have e := List.mem_singleton.1 hx
      rcases hv b hb with h1 | h1
      · exact hPv (by rw [← e]; simp [h1])
      · omega)
    simpa using this
  · obtain ⟨cur, hc⟩ := own_block h.told hb
    rcases List.mem_cons.1 hx with rfl | hx
    · exact block_ne h.blk hc (by decide) rfl
    · obtain ⟨cur2, hc2⟩ := hvs _ (Option.mem_toList.1 hx)
      exact block_ne hc2 hc (by decide) rfl
  · show (q.S ++ [r]).map roOf = d.L ++ [roOf r]
    rw [List.map_append, h.rl]; rfl
  · rcases List.mem_append.1 (show x ∈ q.S ++ [r] from hx) with hx | hx
    · exact ⟨(h.rows x hx).1.mod hm2 hX, (h.rows x hx).2⟩
    · rw [List.mem_singleton.1 hx]
      exact ⟨hr.mod hM1 hN1, hrl⟩
  · rcases List.mem_cons.1 hb with rfl | hb
    · simp [dcX]
    · simp [dcX, Option.mem_toList.1 hb]
  · rcases List.mem_cons.1 hb with rfl | hb
    · exact .inl (by simp [dcX])
    rcases List.mem_append.1 hb with hb | hb
    · rcases hv b (Option.mem_toList.1 hb) with h1 | h1
      · exact .inl (by simp [dcX, h1])
      · exact .inr h1
    · exact .inl (by simp [dcX, Option.mem_toList.1 hb])
def newD (cols lines i : Nat) : Dc := ⟨List.replicate i (blankR cols zeroCol), 0, cols, lines, 0, []⟩
def NewDPost (cols lines rows : Nat) (w : World) (e : Ending) (w' : World) : Prop :=
  ∃ q, e = .returned (.pointer (some ⟨q.D, 0, none⟩)) ∧ DcO w.heap.size w' q (newD cols lines rows) ∧ Below w.heap.size w w'
set_option maxRecDepth 100000 in
set_option maxHeartbeats 3200000 in
theorem rNew_any (rows cols lines : Nat) (w : World) (hr2 : rows ≤ 1000) (hc1 : 2 ≤ cols) (hc2 : cols ≤ 1000) (hl : lines ≤ 100000) :
    Calls Tryz.prog 26 #[.int .i64 rows, .int .i64 cols, .int .i64 lines] w (NewDPost cols lines rows w) := by
  obtain ⟨j0, hj, gz0, gz1, gz2⟩ := info_parts info_rowz
  have hc3 := hc2
  obtain ⟨q, hq⟩ : ∃ q : Dv, q = ⟨w.heap.size, .slice none 0 0, .slice none 0 0, []⟩ := ⟨_, rfl⟩
  obtain ⟨W, hW⟩ : ∃ W, w.alloc (.cells #[.slice none 0 0, .int .i64 0, .int .i64 cols, .int .i64 lines, .int .u64 0, .slice none 0 0] 115) = W := ⟨_, rfl⟩
  have hb0 : Below w.heap.size w W := by rw [← hW]; exact below_allocs (Below.refl _ _) _
  have HB := Lib.hid hb0
  have h0 : DcO w.heap.size W q (newD cols lines 0) := by
    rw [hq]
    refine ⟨by rw [← hW]; exact hp_new rfl, Nat.le_refl _, World.ownsRow_nil _ _ _ _, World.ownsRow_nil _ _ _ _, rfl, (fun r hr => by cases hr), hc1, hc2, Int.le_refl _⟩
  have HQD := Lib.hid (show q.D = w.heap.size from by rw [hq])
  have H0 := Lib.hid h0.res
  have hdx : ∀ x ∈ dcX q, w.heap.size ≤ x := by
    rw [hq]; intro x hx
    simp [dcX, Value.ownBlock] at hx
    omega
  have HDX := Lib.hid hdx
  have HW := Lib.hid hW
  clear h0 hW hb0 hq hdx
  go_enter Tryz.func26, Tryz.ntmps26
  go_upto_region 2 with fail
  rw [HW.out, ← HQD.out]
  go_wp2_with fail
  go_loopw [8] (fun s8 wr => ∃ i : Nat, s8 = .int .i64 i ∧ i ≤ rows ∧ DcRes w.heap.size W q (newD cols lines i) wr) (fun s8 _ => rows - (intOf s8).toNat)
  case atStart => exact ⟨0, rfl, Nat.zero_le _, H0.out⟩
  case round =>
    obtain ⟨i, rfl, hi, hs⟩ := hrel
    have HS := Lib.hid hs
    obtain ⟨q1, e1, hq1, hm1, hx1⟩ := hs
    obtain ⟨A1, c1, hv1⟩ := row_form hq1.own
    have hl1 : q1.S.length = i := by rw [hq1.len]; simp [newD]
    obtain ⟨⟨x1, x1f⟩, -, ⟨x2, -⟩, -, -, -⟩ := hq1.cells
    rw [e1] at x1 x1f x2
    rw [hv1, hl1] at x1
    have HM := Lib.hid hl1
    have hbw : w.heap.size ≤ wr.heap.size := by have := hq1.lt q1.D (by simp [dcX]); omega
    have hPl := lt_of_cell x2
    have x2' : wr.cell? ⟨q.D, 2, none⟩ = some (.int .i64 cols) := x2
    by_cases hlt : i < rows
    rotate_left
    · have hltI : ¬ (i : Int) < (rows : Int) := by omega
      obtain rfl : i = rows := by omega
      have HQ := Lib.hid (And.intro hq1 (And.intro e1 (And.intro hm1 hx1)))
      clear hl1 hq1 hm1 hx1 hv1 e1 x2
      go_wp2
      go_ret
      exact ⟨q1, by rw [HQ.out.2.1]; rfl, HQ.out.1, HB.out.trans (HQ.out.2.2.1.below HDX.out HB.out.size)⟩
    · have hltI : (i : Int) < (rows : Int) := by omega
      have HQ := Lib.hid hq1
      have HE := Lib.hid (And.intro e1 (And.intro hm1 hx1))
      have HV := Lib.hid (show q1.vl = .slice A1 i c1 from by rw [hv1, hl1])
      have hm1000 : i + 1 ≤ 1000 := by omega
      have HBK : Hid (∀ w', Below wr.heap.size wr w' → Calls Tryz.prog 46 #[.pointer (some ⟨q.D, 0, none⟩), .agg #[.int .i64 0, .int .i64 0]] w' (BlankPost cols zeroCol w')) := Lib.hid (fun w' hb => blank_then (HS.out.post hb) zeroCol)
      clear hl1 hq1 hm1 hx1 hv1 HS x2 e1
      go_upto_region 5 with fail
      refine Go.RL.wp_region_l 12 (fun w' => (w'.cell? ⟨q.D, 0, none⟩ = some (.slice A1 i c1) ∧ w'.frozen? ⟨q.D, 0, none⟩ = false) ∧ w'.cell? ⟨q.D, 2, none⟩ = some (.int .i64 cols)) (fun w' => Below wr.heap.size wr w') (by kernel_rfl) (by kernel_rfl) ⟨⟨x1, x1f⟩, x2'⟩ ((Below.refl _ _).drew) ?_
      refine Go.RL.AtL.go 0 ?_
      iterate 7 (refine Go.RL.AtK.take (o := ⟨_, _, _, _, _, _⟩) (v := ?_) (by kernel_rfl) rfl (by simp) (by kernel_rfl) (by kernel_rfl) ?_ ?_; rotate_left; (focus (refine Go.RL.Pure.val (by rfl) ?_; intro w' hI; obtain ⟨⟨_, _⟩, _⟩ := hI; go_simp; first | done | with_reducible rfl)); simp only [Act.put, List.setIfInBounds_toArray, List.set_cons_zero, List.set_cons_succ])
      refine Go.RL.AtK.back ?_
      refine Go.RL.AtL.one 7 (o := ⟨_, _, _, _, _, _⟩) (fun v => ∃ g1 cap, v = .agg #[.slice (some ⟨g1, 0, none⟩) cols cap, .bool false]) (fun v w' => ∃ g1 cap, v = .agg #[.slice (some ⟨g1, 0, none⟩) cols cap, .bool false] ∧ Below wr.heap.size wr w' ∧ RcAt w' ⟨some ⟨g1, 0, none⟩, List.replicate cols (blankC zeroCol), cap, false⟩) (by simp) (by kernel_rfl) rfl
        (Go.RL.StabL.call 46 #[.pointer (some ⟨q.D, 0, none⟩), .agg #[.int .i64 0, .int .i64 0]] _ _ (by rfl) ?_ (fun w' hI hS => ?_)) ?_
      · intro w'
        go_simp
      · refine (HBK.out w' hS).mono ?_
        rintro e w3 ⟨g1, cap, rfl, hr, hb⟩
        exact ⟨_, rfl, ⟨g1, cap, rfl⟩, ⟨hold hb hI.1, holda hb hI.2⟩, g1, cap, rfl, below_tail hS hb, hr⟩
      rintro v ⟨g1, cap, rfl⟩
      simp only [Act.put, List.setIfInBounds_toArray, List.set_cons_zero, List.set_cons_succ]
      refine Go.RL.AtL.one 8 (o := ⟨_, _, _, _, _, _⟩) (fun v => ∃ k, v = .slice (some ⟨k, 0, none⟩) 1 1) (fun v w' => ∃ k, v = .slice (some ⟨k, 0, none⟩) 1 1 ∧ Below wr.heap.size wr w' ∧ RcAt w' ⟨some ⟨g1, 0, none⟩, List.replicate cols (blankC zeroCol), cap, false⟩ ∧ w'.heap[k]? = some (.cells #[.slice (some ⟨g1, 0, none⟩) cols cap, .bool false] 39 (0, 0))) (by simp) (by kernel_rfl) rfl (Go.RL.StabL.op _ _ (by rfl) (fun w' hI hS => ?_)) ?_
      · obtain ⟨g1', cap', hv', hb, hrc⟩ := hS
        simp only [Value.agg.injEq, Array.mk.injEq, List.cons.injEq, Value.slice.injEq, Option.some.injEq, Addr.mk.injEq, and_true, true_and] at hv'
        obtain ⟨rfl, rfl⟩ := hv'
        have hb2 := below_allocs (Below.refl w'.heap.size w') (.cells #[.slice (some ⟨g1, 0, none⟩) cols cap, .bool false] 39)
        exact ⟨.slice (some ⟨w'.heap.size, 0, none⟩) 1 1, w'.alloc (.cells #[.slice (some ⟨g1, 0, none⟩) cols cap, .bool false] 39), by go_simp, ⟨_, rfl⟩, ⟨hold hb2 hI.1, holda hb2 hI.2⟩, _, rfl, below_tail hb hb2, hrc.below hb2, hp_new rfl⟩
      rintro v ⟨k, rfl⟩
      simp only [Act.put, List.setIfInBounds_toArray, List.set_cons_zero, List.set_cons_succ]
      refine Go.RL.AtL.one 9 (o := ⟨some 27, .call { callee := .builtin .append, args := #[.tmp 22, .tmp 26], argTypes := #[33, 33] }, 33, _, _, none⟩) (fun v => ∃ g' c', v = .slice (some ⟨g', 0, none⟩) (i + 1) c') (fun v w' => w'.ownsRow w.heap.size 39 2 v (i + 1) (flat encRh (q1.S ++ [⟨some ⟨g1, 0, none⟩, List.replicate cols (blankC zeroCol), cap, false⟩])) ∧ Mod q1.vl.ownBlock.toList wr w' ∧ (∀ b, v.ownBlock = some b → q1.vl.ownBlock = some b ∨ wr.heap.size ≤ b) ∧ RcAt w' ⟨some ⟨g1, 0, none⟩, List.replicate cols (blankC zeroCol), cap, false⟩) (by simp) (by kernel_rfl) rfl (Go.RL.StabL.op _ _ (by rfl) (fun w' hI hS => ?_)) ?_
      · obtain ⟨k', hv', hb, hrc, hk⟩ := hS
        simp only [Value.slice.injEq, Option.some.injEq, Addr.mk.injEq, and_true, true_and] at hv'
        subst hv'
        have hown := (HQ.out.below hb).own
        rw [HM.out] at hown
        obtain ⟨v', w3, hr3, ho3, hg3, -, hn3⟩ := run_append_own_at (P := Tryz.prog) w' w.heap.size 33 33 39 j0 _ 2 32 Tryz.underlying33 hj gz0 gz1 gz2 rfl (by decide) q1.vl i (flat encRh q1.S) hown ⟨k, 0, none⟩ 1 1 (encRh ⟨some ⟨g1, 0, none⟩, List.replicate cols (blankC zeroCol), cap, false⟩) rfl (fun j u hj => by
          rw [add_lit', Nat.zero_add]
          exact (at_ hk j u (by simpa [encRh] using hj)).1) (encRh_one _) (by simp only [maxLen]; omega) (by omega) (Nat.le_trans hbw hb.size)
        obtain ⟨g', c', rfl⟩ := own_form ho3 (by omega)
        have hvs : ∀ b, q1.vl.ownBlock = some b → b < wr.heap.size := fun b hb => (HQ.out.own.lt b hb).2
        have hMg : Mod q1.vl.ownBlock.toList w' w3 := Mod.of_grown hg3 (fun b hb => by simp [hb])
        have hPn : q.D ∉ q1.vl.ownBlock.toList := fun hx => by
          obtain ⟨cur, hc⟩ := own_block HQ.out.own (Option.mem_toList.1 hx)
          have := HQ.out.blk
          rw [HE.out.1] at this
          exact block_ne this hc (by decide) rfl
        have hNC : NoCel w' q1.vl.ownBlock.toList := fun b hb' cs f he => by
          obtain ⟨cur, hc⟩ := own_block hown (Option.mem_toList.1 hb')
          exact block_ne hc he (by decide) rfl
        refine ⟨_, w3, exec_append _ _ _ rfl _ _ _ rfl rfl (by rw [HV.out] at hr3; exact hr3), ⟨g', c', rfl⟩, ⟨hMg.hold hPn hI.1, hMg.cell hPn hI.2⟩, ?_, (Mod.of_below (X := q1.vl.ownBlock.toList) hb).trans hMg (fun b hb => .inl hb), fun b hb' => ?_, hrc.mod hMg hNC⟩
        · rw [flat_append]; exact ho3
        · rcases hn3 with h3 | h3
          · exact .inl (by rw [← h3]; exact hb')
          · rw [h3] at hb'; injection hb' with hb'; exact .inr (by have := hb.size; omega)
      rintro v ⟨g', c', rfl⟩
      simp only [Act.put, List.setIfInBounds_toArray, List.set_cons_zero, List.set_cons_succ]
      refine Go.RL.AtL.go 10 ?_
      iterate 2 (refine Go.RL.AtK.take (o := ⟨_, _, _, _, _, _⟩) (v := ?_) (by kernel_rfl) rfl (by simp) (by kernel_rfl) (by kernel_rfl) ?_ ?_; rotate_left; (focus (refine Go.RL.Pure.val (by rfl) ?_; intro w' hI; obtain ⟨⟨_, _⟩, _⟩ := hI; go_simp; first | done | with_reducible rfl)); simp only [Act.put, List.setIfInBounds_toArray, List.set_cons_zero, List.set_cons_succ])
      refine Go.RL.AtK.back ?_
      refine Go.RL.AtL.done (by kernel_rfl) (fun w' hI hS => ?_)
      obtain ⟨hs1, hs2, hs3, hs4⟩ := hS
      rw [← HM.out] at hs1
      have HG := Lib.hid (HQ.out.grown hs1 hs2 hs3 hs4 (by simp [newD]))
      rw [HM.out, HE.out.1] at HG
      obtain ⟨⟨z1, z1f⟩, -⟩ := hI
      clear hs1 hs2 hs3 hs4 x1 x1f x2'
      go_wp2
      go_roundw
      case rel =>
        refine ⟨i + 1, by go_num, by omega, ?_⟩
        have := DcRes.trans ⟨HE.out.1, HE.out.2.1, HE.out.2.2⟩ HG.out
        unfold newD
        rw [List.replicate_succ']
        exact this
      case measure => simp [intOf]; omega
end
end Go.Proofs.YtjcpdcncfjkejaaGreat
