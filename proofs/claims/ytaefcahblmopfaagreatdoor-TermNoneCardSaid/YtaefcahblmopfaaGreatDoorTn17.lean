/- Joined by a tool of this claim out of smaller texts. Conditions: as stated. -/
import Derived.Test.YtaefcahblmopfaaGreatDoorTn16
import Derived.Lib.TrailingZeros
import Derived.Lib.BitFns
set_option linter.unusedVariables false
set_option linter.unusedSimpArgs false
namespace Go.Proofs.YtaefcahblmopfaaGreatDoor
open Go.RowKit
section
variable {base : Nat} {w : World} {v : Sv} {s : Sc}
theorem room_x (hi : ScI s) (hc : 2 ≤ s.pg.cols) {n : Int} (hn1 : 1 ≤ n) (hn2 : n ≤ 2) : 0 ≤ (roomS s n).x ∧ (roomS s n).x + n ≤ s.pg.cols := by
  have hx0 := hi.x0
  unfold roomS colsS
  split
  · exact ⟨hx0, by assumption⟩
  split
  · exact ⟨by show 0 ≤ (s.pg.cols : Int) - n; omega, by show (s.pg.cols : Int) - n + n ≤ _; omega⟩
  · unfold onS
    split
    · exact ⟨Int.le_refl _, by show 0 + n ≤ _; omega⟩
    · exact ⟨Int.le_refl _, by show 0 + n ≤ _; omega⟩
set_option maxRecDepth 100000 in
set_option maxHeartbeats 3200000 in
theorem sWrite_any (h : ScO base w v s) (hi : ScI s) (ht : s.pg.told.length ≤ 900000) (r : Int) : Calls Tryz.prog 181 #[.pointer (some ⟨v.S, 0, none⟩), .int .i32 r] w (ScPost base w v (writeS s r)) := by
  have HW := Lib.hid (fun w => widOf_any r w)
  have hc2 := h.page.cols2
  have hc3 := h.page.cols1000
  have hx0 := hi.x0
  have hx1 := hi.x1
  have HO := Lib.hid h
  have HI := Lib.hid hi
  have hwr : writeS s r = if widOf r = 0 then { s with pg := rowP s.pg s.y (fun l => markL l (s.x - 1) r) } else if widOf r < 1 then s else layS (shoveS (roomS s (widOf r)) (widOf r)) r (widOf r) := rfl
  rw [hwr]
  have hwd : widOf r ≤ 2 := by
    unfold widOf
    split
    · decide
    split
    · decide
    split <;> decide
  generalize hn : widOf r = n at *
  clear h hi hwr hn
  by_cases h0 : n = 0
  · subst h0
    rw [if_pos rfl]
    have hwx : IntKind.i64.wrap (s.x - 1) = s.x - 1 := IntWalk.i64_in _ (by omega)
    go_enter Tryz.func181, Tryz.ntmps181
    go_upto_region 2 with (go_at_call 162; refine (HW.out _).mono ?_; rintro e w1 ⟨rfl, hb⟩; have HB1 := Lib.hid hb; clear hb)
    rename World => W1
    have hO1 := HO.out.below HB1.out
    have HMK : Hid (∀ w', Below W1.heap.size W1 w' → Calls Tryz.prog 276 #[.pointer (some ⟨v.q.P, 0, none⟩), .int .i64 s.y, .int .i64 (s.x - 1), .int .i32 r] w' (PgPost base w' v.q (rowP s.pg s.y (fun l => markL l (s.x - 1) r)))) := Lib.hid (fun w' hb => pMark_any (hO1.below hb).page s.y (s.x - 1) r)
    obtain ⟨c14, -⟩ := at_ hO1.blk 14 (.pointer (some ⟨v.q.P, 0, none⟩)) rfl
    obtain ⟨c16, -⟩ := at_ hO1.blk 16 (.int .i64 s.y) rfl
    obtain ⟨c17, -⟩ := at_ hO1.blk 17 (.int .i64 s.x) rfl
    have HO1 := Lib.hid hO1
    clear hO1
    refine wp_region_u 14 (fun w' => Below W1.heap.size W1 w' ∧ w'.cell? ⟨v.S, 14, none⟩ = some (.pointer (some ⟨v.q.P, 0, none⟩)) ∧ w'.cell? ⟨v.S, 16, none⟩ = some (.int .i64 s.y) ∧ w'.cell? ⟨v.S, 17, none⟩ = some (.int .i64 s.x)) (by kernel_rfl) (by kernel_rfl) ?_ ?_
    · exact ⟨(Below.refl _ _).drew, c14, c16, c17⟩
    simp only [List.take_succ_cons, List.take_zero, List.drop_succ_cons, List.drop_zero]
    repeat (
      (first
       | refine seqU_skip (by rfl) ?_
       | (refine seqU_val ?_ (by rfl) ?_ ?_; rotate_left; (focus (intro w' hS; obtain ⟨_, _, _, _⟩ := hS; go_simp; first | done | with_reducible rfl))))
      simp only [Act.put, List.setIfInBounds_toArray, List.set_cons_zero, List.set_cons_succ])
    refine seqU_nil (fun w' hS => ?_)
    have HB2 := Lib.hid hS.1
    clear hS c14 c16 c17
    go_wp2_with (go_at_call 276; refine (HMK.out _ HB2.out).mono ?_; rintro e w3 ⟨rfl, hp⟩; have HP3 := Lib.hid hp; clear hp)
    go_end0
    exact ⟨rfl, ScRes.trans ⟨rfl, rfl, rfl, (Mod.of_below HB1.out).then_below HB2.out, fun b hb => .inl hb⟩ ((HO1.out.below HB2.out).paged HP3.out)⟩
  rw [if_neg h0]
  have h0b : (n == 0) = false := by simpa using h0
  by_cases h1 : n < 1
  · rw [if_pos h1]
    go_enter Tryz.func181, Tryz.ntmps181
    go_wp2_with (go_at_call 162; refine (HW.out _).mono ?_; rintro e w1 ⟨rfl, hb⟩; have HB1 := Lib.hid hb; clear hb)
    go_end0
    exact ⟨rfl, HO.out.res_below HB1.out⟩
  rw [if_neg h1]
  have HRM : Hid (∀ w', Below w.heap.size w w' → Calls Tryz.prog 277 #[.pointer (some ⟨v.S, 0, none⟩), .int .i64 n] w' (ScPost base w' v (roomS s n))) := Lib.hid (fun w' hb => sRoom_any (HO.out.below hb) HI.out ht n (by omega) hwd)
  obtain ⟨hr0, hr1⟩ := room_x HI.out hc2 (n := n) (by omega) hwd
  obtain ⟨s1, hs1⟩ : ∃ s1, roomS s n = s1 := ⟨_, rfl⟩
  rw [hs1] at HRM hr0 hr1 ⊢
  have hwx : IntKind.i64.wrap (s1.x + n) = s1.x + n := IntWalk.i64_in _ (by omega)
  clear hs1
  have hsh : shoveS s1 n = if s1.pen.put = true then { s1 with pg := rowP s1.pg s1.y (fun l => insertL l s1.x n (backS s1)) } else s1 := by unfold shoveS; cases s1.pen.put <;> rfl
  obtain ⟨s2, hs2⟩ : ∃ s2, shoveS s1 n = s2 := ⟨_, rfl⟩
  have hs2x : s2.x = s1.x ∧ s2.y = s1.y ∧ s2.pen = s1.pen := by rw [← hs2, hsh]; split <;> exact ⟨rfl, rfl, rfl⟩
  rw [hs2] at hsh ⊢
  have HX2 := Lib.hid hs2x
  clear hs2x
  have HSH := Lib.hid hsh
  clear hsh hs2
  cases hput : s1.pen.put
  all_goals
    go_enter Tryz.func181, Tryz.ntmps181
    go_upto_region 5 with (first
      | (go_at_call 162; refine (HW.out _).mono ?_; rintro e w1 ⟨rfl, hb⟩; have HB1 := Lib.hid hb; clear hb)
      | (go_at_call 277; refine (HRM.out _ HB1.out).mono ?_; rintro e w2 ⟨rfl, hs⟩; have HS2 := Lib.hid (ScRes.pre HB1.out hs); clear hs))
    obtain ⟨v2, e1, e2, e3, hO2, hm2, hx2⟩ := HS2.out
    rename World => W2
    have HO2 := Lib.hid hO2
    have HE2 := Lib.hid (show v2.S = v.S ∧ v2.T = v.T ∧ v2.q.P = v.q.P ∧ Mod (scX v) w W2 ∧ ∀ b ∈ scX v2, b ∈ scX v ∨ w.heap.size ≤ b from ⟨e1, e2, e3, hm2, hx2⟩)
    obtain ⟨c11, -⟩ := at_ hO2.blk 11 (.bool s1.pen.put) rfl
    rw [e1, hput] at c11
    clear hO2 hm2 hx2 e2 e3 HS2
  have HR7 : Hid (ScRes base w v s2 W2) := Lib.hid (by
    have e : s2 = s1 := by rw [HSH.out, hput]; rfl
    rw [e]
    exact ScRes.trans HE2.out HO2.out.res)
  go_upto_region 7 with fail
  clear HO2 HE2 c11
  rename World => W7
  rotate_left
  have HBK : Hid (∀ w', Below W2.heap.size W2 w' → Calls Tryz.prog 279 #[.pointer (some ⟨v.S, 0, none⟩)] w' fun e w3 => e = .returned (.agg #[.int .i64 s1.pen.at_.bk, .int .i64 s1.pen.at_.bn]) ∧ Below w'.heap.size w' w3) := Lib.hid (fun w' hb => by rw [← e1]; exact sBack_any (HO2.out.below hb))
  have HIN : Hid (∀ w', Below W2.heap.size W2 w' → Calls Tryz.prog 278 #[.pointer (some ⟨v2.q.P, 0, none⟩), .int .i64 s1.y, .int .i64 s1.x, .int .i64 n, .agg #[.int .i64 s1.pen.at_.bk, .int .i64 s1.pen.at_.bn]] w' (PgPost base w' v2.q (rowP s1.pg s1.y (fun l => insertL l s1.x n ⟨s1.pen.at_.bk, s1.pen.at_.bn⟩)))) := Lib.hid (fun w' hb => pInsert_any (HO2.out.below hb).page s1.y s1.x n ⟨s1.pen.at_.bk, s1.pen.at_.bn⟩)
  obtain ⟨c14, -⟩ := at_ HO2.out.blk 14 (.pointer (some ⟨v2.q.P, 0, none⟩)) rfl
  obtain ⟨c16, -⟩ := at_ HO2.out.blk 16 (.int .i64 s1.y) rfl
  obtain ⟨c17, -⟩ := at_ HO2.out.blk 17 (.int .i64 s1.x) rfl
  rw [e1] at c14 c16 c17
  go_upto_region 6 with fail
  clear c11
  refine wp_region_u 15 (fun w' => Below W2.heap.size W2 w' ∧ w'.cell? ⟨v.S, 14, none⟩ = some (.pointer (some ⟨v2.q.P, 0, none⟩)) ∧ w'.cell? ⟨v.S, 16, none⟩ = some (.int .i64 s1.y) ∧ w'.cell? ⟨v.S, 17, none⟩ = some (.int .i64 s1.x)) (by kernel_rfl) (by kernel_rfl) ?_ ?_
  · exact ⟨(Below.refl _ _).drew, c14, c16, c17⟩
  simp only [List.take_succ_cons, List.take_zero, List.drop_succ_cons, List.drop_zero]
  repeat (
    (first
     | refine seqU_skip (by rfl) ?_
     | ((refine seqU_call 279 #[.pointer (some ⟨v.S, 0, none⟩)] (.agg #[.int .i64 s1.pen.at_.bk, .int .i64 s1.pen.at_.bn]) (by rfl) ?_ (fun w' hS => (HBK.out w' hS.1).mono fun e w2 ⟨he, hb⟩ => ⟨he, below_tail hS.1 hb, holda hb hS.2.1, holda hb hS.2.2.1, holda hb hS.2.2.2⟩) ?_; (focus (intro w2; go_simp; done))))
     | (refine seqU_val ?_ (by rfl) ?_ ?_; rotate_left; (focus (intro w' hS; obtain ⟨_, _, _, _⟩ := hS; go_simp; first | done | with_reducible rfl))))
    simp only [Act.put, List.setIfInBounds_toArray, List.set_cons_zero, List.set_cons_succ])
  refine seqU_nil (fun w' hS => ?_)
  have HB3 := Lib.hid hS.1
  clear hS c14 c16 c17
  go_upto_region 7 with (go_at_call 278; refine (HIN.out _ HB3.out).mono ?_; rintro e w4 ⟨rfl, hp⟩; have HP4 := Lib.hid hp; clear hp)
  have HR7 : Hid (ScRes base w v s2 w4) := Lib.hid (by
    have e : s2 = { s1 with pg := rowP s1.pg s1.y (fun l => insertL l s1.x n (backS s1)) } := by rw [HSH.out, hput]; rfl
    rw [e]
    exact ScRes.trans HE2.out (ScRes.pre HB3.out ((HO2.out.below HB3.out).paged HP4.out)))
  clear HO2 HE2 HB3 HP4 HBK HIN
  rename World => W7
  rotate_left
  all_goals
    obtain ⟨v7, f1, f2, f3, hO7, hm7, hx7⟩ := HR7.out
    have HO7 := Lib.hid hO7
    have HE7 := Lib.hid (show v7.S = v.S ∧ v7.T = v.T ∧ v7.q.P = v.q.P ∧ Mod (scX v) w W7 ∧ ∀ b ∈ scX v7, b ∈ scX v ∨ w.heap.size ≤ b from ⟨f1, f2, f3, hm7, hx7⟩)
    have HPT : Hid (∀ w', Below W7.heap.size W7 w' → Calls Tryz.prog 198 #[.pointer (some ⟨v7.q.P, 0, none⟩), .int .i64 s2.y, .int .i64 s2.x, .int .i32 r, .agg #[.int .i64 s2.pen.at_.fk, .int .i64 s2.pen.at_.fn, .int .i64 s2.pen.at_.bk, .int .i64 s2.pen.at_.bn, .int .i64 s2.pen.at_.fl]] w' (PgPost base w' v7.q (rowP s2.pg s2.y (fun l => putL l s2.x r s2.pen.at_)))) := Lib.hid (fun w' hb => pPut_any (HO7.out.below hb).page s2.y s2.x r s2.pen.at_)
    obtain ⟨c14, -⟩ := at_ hO7.blk 14 (.pointer (some ⟨v7.q.P, 0, none⟩)) rfl
    obtain ⟨c16, -⟩ := at_ hO7.blk 16 (.int .i64 s2.y) rfl
    obtain ⟨c17, -⟩ := at_ hO7.blk 17 (.int .i64 s2.x) rfl
    obtain ⟨c0, -⟩ := at_ hO7.blk 0 (.int .i64 s2.pen.at_.fk) rfl
    obtain ⟨c1, -⟩ := at_ hO7.blk 1 (.int .i64 s2.pen.at_.fn) rfl
    obtain ⟨c2, -⟩ := at_ hO7.blk 2 (.int .i64 s2.pen.at_.bk) rfl
    obtain ⟨c3, -⟩ := at_ hO7.blk 3 (.int .i64 s2.pen.at_.bn) rfl
    obtain ⟨c4, -⟩ := at_ hO7.blk 4 (.int .i64 s2.pen.at_.fl) rfl
    rw [f1] at c14 c16 c17 c0 c1 c2 c3 c4
    clear hO7 hm7 hx7 HR7 f2 f3
    refine wp_region_u 18 (fun w' => Below W7.heap.size W7 w' ∧ w'.cell? ⟨v.S, 14, none⟩ = some (.pointer (some ⟨v7.q.P, 0, none⟩)) ∧ w'.cell? ⟨v.S, 16, none⟩ = some (.int .i64 s2.y) ∧ w'.cell? ⟨v.S, 17, none⟩ = some (.int .i64 s2.x) ∧ w'.cell? ⟨v.S, 0, none⟩ = some (.int .i64 s2.pen.at_.fk) ∧ w'.cell? ⟨v.S, 1, none⟩ = some (.int .i64 s2.pen.at_.fn) ∧ w'.cell? ⟨v.S, 2, none⟩ = some (.int .i64 s2.pen.at_.bk) ∧ w'.cell? ⟨v.S, 3, none⟩ = some (.int .i64 s2.pen.at_.bn) ∧ w'.cell? ⟨v.S, 4, none⟩ = some (.int .i64 s2.pen.at_.fl)) (by kernel_rfl) (by kernel_rfl) ?_ ?_
    · exact ⟨(Below.refl _ _).drew, c14, c16, c17, c0, c1, c2, c3, c4⟩
    simp only [List.take_succ_cons, List.take_zero, List.drop_succ_cons, List.drop_zero]
    repeat (
      (first
       | refine seqU_skip (by rfl) ?_
       | (refine seqU_val ?_ (by rfl) ?_ ?_; rotate_left; (focus (intro w' hS; obtain ⟨_, _, _, _, _, _, _, _, _⟩ := hS; go_simp; first | done | with_reducible rfl))))
      simp only [Act.put, List.setIfInBounds_toArray, List.set_cons_zero, List.set_cons_succ])
    refine seqU_nil (fun w' hS => ?_)
    have HB8 := Lib.hid hS.1
    clear hS c14 c16 c17 c0 c1 c2 c3 c4
    rename World => W8
    go_upto_region 8 with (go_at_call 198; refine (HPT.out _ HB8.out).mono ?_; rintro e w9 ⟨rfl, hp⟩; have HS9 := Lib.hid (ScRes.trans HE7.out (ScRes.pre HB8.out ((HO7.out.below HB8.out).paged hp))); clear hp)
    obtain ⟨v9, g1, g2, g3, hO9, hm9, hx9⟩ := HS9.out
    obtain ⟨d17, df17⟩ := at_ hO9.blk 17 (.int .i64 s2.x) rfl
    obtain ⟨d37, df37⟩ := at_ hO9.blk 37 (.int .i32 s2.last) rfl
    rw [g1] at d17 df17 d37 df37
    rw [HX2.out.1] at d17
    have HO10 := Lib.hid (hO9.put 17 (.int .i64 (s1.x + n)) (s' := { s2 with pg := rowP s2.pg s2.y (fun l => putL l s2.x r s2.pen.at_), x := s1.x + n }) rfl rfl rfl)
    have HM10 := Lib.hid (hm9.trans (ScO.mod_put (v := v9) 17 (.int .i64 (s1.x + n))) hx9)
    have HE10 := Lib.hid (show v9.S = v.S ∧ v9.T = v.T ∧ v9.q.P = v.q.P ∧ ∀ b ∈ scX v9, b ∈ scX v ∨ w.heap.size ≤ b from ⟨g1, g2, g3, hx9⟩)
    rw [g1] at HO10 HM10
    clear hO9 hm9 hx9 HS9 HE7 HO7 HPT d37 df37 g2 g3
    go_upto_region 9 with fail
    clear d17 df17
    generalize World.setCell _ _ _ = W10 at HO10 HM10 ⊢
    obtain ⟨d37, df37⟩ := at_ HO10.out.blk 37 (.int .i32 s2.last) rfl
    rw [g1] at d37 df37
    go_wp2
    go_end0
    have hf : layS s2 r n = { s2 with pg := rowP s2.pg s2.y (fun l => putL l s2.x r s2.pen.at_), x := s1.x + n, last := r } := by unfold layS; rw [HX2.out.1]
    rw [hf]
    have hO11 := HO10.out.put 37 (.int .i32 r) (s' := { s2 with pg := rowP s2.pg s2.y (fun l => putL l s2.x r s2.pen.at_), x := s1.x + n, last := r }) rfl rfl rfl
    have hM11 := HM10.out.trans (ScO.mod_put (v := v9) 37 (.int .i32 r)) HE10.out.2.2.2
    rw [g1] at hO11 hM11
    exact ⟨rfl, v9, g1, HE10.out.2.1, HE10.out.2.2.1, hO11, hM11, HE10.out.2.2.2⟩
end
end Go.Proofs.YtaefcahblmopfaaGreatDoor

namespace Go.Proofs.YtaefcahblmopfaaGreatDoor
open Go.RowKit
theorem wpList_callS {P : Program} {ops : Array Oper} {rest : List Oper} {o : Oper} {a : Act} {w : World} {Q : Exit → Act → World → Prop} (hg : o.guard = none) (f : FuncId) (args : Array Value) (hrun : (execOp a.eval o).run P w = .ok (.enter f args) w)
    {Post : Ending → World → Prop} (hc : Calls P f args w Post) (v : Value) (hv : ∀ e w', Post e w' → e = .returned v) (h : ∀ w', Post (.returned v) w' → wpList P ops Q rest (a.put o.dst v) w') : wpList P ops Q (o :: rest) a w := by
  refine wpList_plain hg fun K hK => ?_
  unfold Oper.wp
  rw [hrun, Oper.upon_enter]
  refine hc.mono fun e w'' hh => ?_
  obtain rfl := hv e w'' hh
  exact hK _ _ (h _ hh)
section
variable {base : Nat} {w : World} {v : Sv} {s : Sc}
set_option maxRecDepth 100000 in
set_option maxHeartbeats 1600000 in
theorem sPrint_any (h : ScO base w v s) (hi : ScI s) (ht : s.pg.told.length ≤ 900000) (r : Int) : Calls Tryz.prog 121 #[.pointer (some ⟨v.S, 0, none⟩), .int .i32 r] w (ScPost base w v (printS s r)) := by
  have HM := Lib.hid (fun w => cmap_any s.pen.ch r w)
  unfold MapPost chV onceC at HM
  have HO := Lib.hid h
  have HI := Lib.hid hi
  obtain ⟨c5, -⟩ := at_ h.blk 5 (.int .i64 s.pen.ch.g0) rfl
  obtain ⟨c6, -⟩ := at_ h.blk 6 (.int .i64 s.pen.ch.g1) rfl
  obtain ⟨c7, -⟩ := at_ h.blk 7 (.int .i64 s.pen.ch.g2) rfl
  obtain ⟨c8, -⟩ := at_ h.blk 8 (.int .i64 s.pen.ch.g3) rfl
  obtain ⟨c9, -⟩ := at_ h.blk 9 (.int .i64 s.pen.ch.use) rfl
  obtain ⟨c10, -⟩ := at_ h.blk 10 (.int .i64 s.pen.ch.once) rfl
  clear h hi
  go_enter Tryz.func121, Tryz.ntmps121
  go_upto_region 2 with (go_at_call 180; refine (HM.out _).mono ?_; rintro e w1 ⟨rfl, hb⟩; have HB1 := Lib.hid hb; have hO1 := HO.out.below hb; clear hb c5 c6 c7 c8 c9 c10; obtain ⟨c5, f5⟩ := at_ hO1.blk 5 (.int .i64 s.pen.ch.g0) rfl; obtain ⟨c6, f6⟩ := at_ hO1.blk 6 (.int .i64 s.pen.ch.g1) rfl; obtain ⟨c7, f7⟩ := at_ hO1.blk 7 (.int .i64 s.pen.ch.g2) rfl; obtain ⟨c8, f8⟩ := at_ hO1.blk 8 (.int .i64 s.pen.ch.g3) rfl; obtain ⟨c9, f9⟩ := at_ hO1.blk 9 (.int .i64 s.pen.ch.use) rfl; obtain ⟨c10, f10⟩ := at_ hO1.blk 10 (.int .i64 s.pen.ch.once) rfl; have HO1 := Lib.hid hO1; clear hO1)
  have hb6 : ScO base ((((((w1.setCell ⟨v.S, 5, none⟩ (.int .i64 s.pen.ch.g0)).setCell ⟨v.S, 6, none⟩ (.int .i64 s.pen.ch.g1)).setCell ⟨v.S, 7, none⟩ (.int .i64 s.pen.ch.g2)).setCell ⟨v.S, 8, none⟩ (.int .i64 s.pen.ch.g3)).setCell ⟨v.S, 9, none⟩ (.int .i64 s.pen.ch.use)).setCell ⟨v.S, 10, none⟩ (.int .i64 0)) v { s with pen := { s.pen with ch := onceC s.pen.ch } } :=
    (((((HO1.out.put 5 _ (s' := s) rfl rfl rfl).put 6 _ (s' := s) rfl rfl rfl).put 7 _ (s' := s) rfl rfl rfl).put 8 _ (s' := s) rfl rfl rfl).put 9 _ (s' := s) rfl rfl rfl).put 10 _ rfl rfl rfl
  have hm6 : Mod (scX v) w1 ((((((w1.setCell ⟨v.S, 5, none⟩ (.int .i64 s.pen.ch.g0)).setCell ⟨v.S, 6, none⟩ (.int .i64 s.pen.ch.g1)).setCell ⟨v.S, 7, none⟩ (.int .i64 s.pen.ch.g2)).setCell ⟨v.S, 8, none⟩ (.int .i64 s.pen.ch.g3)).setCell ⟨v.S, 9, none⟩ (.int .i64 s.pen.ch.use)).setCell ⟨v.S, 10, none⟩ (.int .i64 0)) := by
    have hv : v.S ∈ scX v := by simp [scX]
    exact ((((((Mod.refl _ _).setCell (a := ⟨v.S, 5, none⟩) (.inl hv) _).setCell (a := ⟨v.S, 6, none⟩) (.inl hv) _).setCell (a := ⟨v.S, 7, none⟩) (.inl hv) _).setCell (a := ⟨v.S, 8, none⟩) (.inl hv) _).setCell (a := ⟨v.S, 9, none⟩) (.inl hv) _).setCell (a := ⟨v.S, 10, none⟩) (.inl hv) _
  have HM6 := Lib.hid ((Mod.of_below HB1.out).trans hm6 (fun b hb => .inl hb))
  have HI6 : Hid (ScI { s with pen := { s.pen with ch := onceC s.pen.ch } }) := Lib.hid ⟨HI.out.y0, HI.out.y1, HI.out.x0, HI.out.x1, HI.out.t0, HI.out.tb, HI.out.b1⟩
  clear hm6 c5 f5 c6 f6 c7 f7 c8 f8 c9 f9 c10 f10
  generalize World.setCell _ _ _ = W6 at hb6 HM6 ⊢
  have HW := Lib.hid (sWrite_any hb6 HI6.out ht (mapC s.pen.ch r))
  clear hb6
  go_wp2_with (go_at_call 181; refine HW.out.mono ?_; rintro e w7 ⟨rfl, hs⟩; have HS7 := Lib.hid hs; clear hs)
  go_end0
  exact ⟨rfl, ScRes.trans ⟨rfl, rfl, rfl, HM6.out, fun b hb => .inl hb⟩ HS7.out⟩
/-- What a screen tells of itself. -/
def stL (s : Sc) : List Value := [.int .i64 s.y, .int .i64 s.x, .int .i64 s.pen.at_.fk, .int .i64 s.pen.at_.fn, .int .i64 s.pen.at_.bk, .int .i64 s.pen.at_.bn, .int .i64 s.pen.at_.fl, .int .i64 s.pen.ch.g0, .int .i64 s.pen.ch.g1, .int .i64 s.pen.ch.g2, .int .i64 s.pen.ch.g3, .int .i64 s.pen.ch.use, .int .i64 s.pen.ch.once, .bool s.pen.put, .bool s.pen.wrap, .bool s.pen.home, .int .i64 s.top, .int .i64 s.bot, .bool s.has]
theorem stL_one (s : Sc) : ∀ v ∈ stL s, v.oneCell' = true := fun v hv => by
  simp only [stL, List.mem_cons, List.not_mem_nil, or_false] at hv
  rcases hv with rfl | rfl | rfl | rfl | rfl | rfl | rfl | rfl | rfl | rfl | rfl | rfl | rfl | rfl | rfl | rfl | rfl | rfl | rfl <;> rfl
theorem info_state : (Tryz.prog.info? 103).map (·.size) = some 19 := by kernel_rfl
def StPost (s : Sc) (w : World) (e : Ending) (w' : World) : Prop := e = .returned (.agg (stL s).toArray) ∧ Below w.heap.size w w'
set_option maxRecDepth 100000 in
set_option maxHeartbeats 3200000 in
theorem sState_any (h : ScO base w v s) : Calls Tryz.prog 47 #[.pointer (some ⟨v.S, 0, none⟩)] w (StPost s w) := by
  obtain ⟨c0, -⟩ := at_ h.blk 0 (.int .i64 s.pen.at_.fk) rfl
  obtain ⟨c1, -⟩ := at_ h.blk 1 (.int .i64 s.pen.at_.fn) rfl
  obtain ⟨c2, -⟩ := at_ h.blk 2 (.int .i64 s.pen.at_.bk) rfl
  obtain ⟨c3, -⟩ := at_ h.blk 3 (.int .i64 s.pen.at_.bn) rfl
  obtain ⟨c4, -⟩ := at_ h.blk 4 (.int .i64 s.pen.at_.fl) rfl
  obtain ⟨c5, -⟩ := at_ h.blk 5 (.int .i64 s.pen.ch.g0) rfl
  obtain ⟨c6, -⟩ := at_ h.blk 6 (.int .i64 s.pen.ch.g1) rfl
  obtain ⟨c7, -⟩ := at_ h.blk 7 (.int .i64 s.pen.ch.g2) rfl
  obtain ⟨c8, -⟩ := at_ h.blk 8 (.int .i64 s.pen.ch.g3) rfl
  obtain ⟨c9, -⟩ := at_ h.blk 9 (.int .i64 s.pen.ch.use) rfl
  obtain ⟨c10, -⟩ := at_ h.blk 10 (.int .i64 s.pen.ch.once) rfl
  obtain ⟨c11, -⟩ := at_ h.blk 11 (.bool s.pen.put) rfl
  obtain ⟨c12, -⟩ := at_ h.blk 12 (.bool s.pen.wrap) rfl
  obtain ⟨c13, -⟩ := at_ h.blk 13 (.bool s.pen.home) rfl
  obtain ⟨c16, -⟩ := at_ h.blk 16 (.int .i64 s.y) rfl
  obtain ⟨c17, -⟩ := at_ h.blk 17 (.int .i64 s.x) rfl
  obtain ⟨c18, -⟩ := at_ h.blk 18 (.int .i64 s.top) rfl
  obtain ⟨c19, -⟩ := at_ h.blk 19 (.int .i64 s.bot) rfl
  obtain ⟨c36, -⟩ := at_ h.blk 36 (.bool s.has) rfl
  have hl := lt_of_cell c0
  clear h
  go_enter Tryz.func47, Tryz.ntmps47
  go_upto_region 3 with fail
  generalize hW : World.alloc _ _ = W
  have hb2 : Below w.heap.size w W := by rw [← hW]; exact below_allocs (Below.refl _ _) _
  have hc2 : W.heap[w.heap.size]? = some (.cells ([.int .i64 0, .int .i64 0, .int .i64 0, .int .i64 0, .int .i64 0, .int .i64 0, .int .i64 0, .int .i64 0, .int .i64 0, .int .i64 0, .int .i64 0, .int .i64 0, .int .i64 0, .bool false, .bool false, .bool false, .int .i64 0, .int .i64 0, .bool false] : List Value).toArray 103 (0, 0)) := by rw [← hW]; exact hp_new rfl
  have HB2 := Lib.hid hb2
  have HC2 := Lib.hid hc2
  replace c0 := holda hb2 c0
  replace c1 := holda hb2 c1
  replace c2 := holda hb2 c2
  replace c3 := holda hb2 c3
  replace c4 := holda hb2 c4
  replace c5 := holda hb2 c5
  replace c6 := holda hb2 c6
  replace c7 := holda hb2 c7
  replace c8 := holda hb2 c8
  replace c9 := holda hb2 c9
  replace c10 := holda hb2 c10
  replace c11 := holda hb2 c11
  replace c12 := holda hb2 c12
  replace c13 := holda hb2 c13
  replace c16 := holda hb2 c16
  replace c17 := holda hb2 c17
  replace c18 := holda hb2 c18
  replace c19 := holda hb2 c19
  replace c36 := holda hb2 c36
  clear hW hb2 hc2
  refine wp_region_u 37 (fun w' => Below W.heap.size W w' ∧ w'.cell? ⟨v.S, 0, none⟩ = some (.int .i64 s.pen.at_.fk) ∧ w'.cell? ⟨v.S, 1, none⟩ = some (.int .i64 s.pen.at_.fn) ∧ w'.cell? ⟨v.S, 2, none⟩ = some (.int .i64 s.pen.at_.bk) ∧ w'.cell? ⟨v.S, 3, none⟩ = some (.int .i64 s.pen.at_.bn) ∧ w'.cell? ⟨v.S, 4, none⟩ = some (.int .i64 s.pen.at_.fl) ∧ w'.cell? ⟨v.S, 5, none⟩ = some (.int .i64 s.pen.ch.g0) ∧ w'.cell? ⟨v.S, 6, none⟩ = some (.int .i64 s.pen.ch.g1) ∧ w'.cell? ⟨v.S, 7, none⟩ = some (.int .i64 s.pen.ch.g2) ∧ w'.cell? ⟨v.S, 8, none⟩ = some (.int .i64 s.pen.ch.g3) ∧ w'.cell? ⟨v.S, 9, none⟩ = some (.int .i64 s.pen.ch.use) ∧ w'.cell? ⟨v.S, 10, none⟩ = some (.int .i64 s.pen.ch.once) ∧ w'.cell? ⟨v.S, 11, none⟩ = some (.bool s.pen.put) ∧ w'.cell? ⟨v.S, 12, none⟩ = some (.bool s.pen.wrap) ∧ w'.cell? ⟨v.S, 13, none⟩ = some (.bool s.pen.home) ∧ w'.cell? ⟨v.S, 16, none⟩ = some (.int .i64 s.y) ∧ w'.cell? ⟨v.S, 17, none⟩ = some (.int .i64 s.x) ∧ w'.cell? ⟨v.S, 18, none⟩ = some (.int .i64 s.top) ∧ w'.cell? ⟨v.S, 19, none⟩ = some (.int .i64 s.bot) ∧ w'.cell? ⟨v.S, 36, none⟩ = some (.bool s.has)) (by kernel_rfl) (by kernel_rfl) ?_ ?_
  · exact ⟨(Below.refl _ _).drew, c0, c1, c2, c3, c4, c5, c6, c7, c8, c9, c10, c11, c12, c13, c16, c17, c18, c19, c36⟩
  simp only [List.take_succ_cons, List.take_zero, List.drop_succ_cons, List.drop_zero]
  repeat (
    (first
     | refine seqU_skip (by rfl) ?_
     | (refine seqU_val ?_ (by rfl) ?_ ?_; rotate_left; (focus (intro w' hS; obtain ⟨_, _, _, _, _, _, _, _, _, _, _, _, _, _, _, _, _, _, _, _⟩ := hS; go_simp; first | done | with_reducible rfl))))
    simp only [Act.put, List.setIfInBounds_toArray, List.set_cons_zero, List.set_cons_succ])
  refine seqU_nil (fun w' hS => ?_)
  have hc3 := (hS.1.block _ (lt_of_heap HC2.out)).trans HC2.out
  have hb3 := below_tail HB2.out hS.1
  refine wpList_store_mid rfl 103 (.tmp 2) (.tmp 42) rfl (w.heap.size) (0) ((stL s).toArray) rfl rfl ((show World.there _ w.heap.size 0 19 from there_new hc3)) info_state (all_oneCell_toArray (stL_one s)) ?_
  simp only [Act.put]
  go_wp2
  have hw := whole_setCells (stL s) 0 _ _ hc3 (by simp [stL])
  exact bodyPost_ret (ret_agg rfl _ _ w.heap.size (stL s) rfl (range_new hw) Tryz.underlying103 rfl info_state) rfl ⟨rfl, below_setN hb3 (Nat.le_refl _) _ _⟩
def peL (p : Pe) : List Value := [.int .i64 p.at_.fk, .int .i64 p.at_.fn, .int .i64 p.at_.bk, .int .i64 p.at_.bn, .int .i64 p.at_.fl, .int .i64 p.ch.g0, .int .i64 p.ch.g1, .int .i64 p.ch.g2, .int .i64 p.ch.g3, .int .i64 p.ch.use, .int .i64 p.ch.once, .bool p.put, .bool p.wrap, .bool p.home]
theorem peL_one (p : Pe) : ∀ v ∈ peL p, v.oneCell' = true := fun v hv => by
  simp only [peL, List.mem_cons, List.not_mem_nil, or_false] at hv
  rcases hv with rfl | rfl | rfl | rfl | rfl | rfl | rfl | rfl | rfl | rfl | rfl | rfl | rfl | rfl <;> rfl
theorem info_pen : (Tryz.prog.info? 123).map (·.size) = some 14 := by kernel_rfl
set_option maxRecDepth 100000 in
set_option maxHeartbeats 1600000 in
theorem sfresh_any (w : World) : Calls Tryz.prog 64 #[] w fun e w' => e = .returned (.agg (peL firstPe).toArray) ∧ Below w.heap.size w w' := by
  have HN := Lib.hid (fun w => cnew_any w)
  unfold chV at HN
  go_enter Tryz.func64, Tryz.ntmps64
  go_upto_region 1 with fail
  generalize hW : World.alloc _ _ = W
  have hb2 : Below w.heap.size w W := by rw [← hW]; exact below_allocs (Below.refl _ _) _
  have hc2 : W.heap[w.heap.size]? = some (.cells (peL zeroPe).toArray 123 (0, 0)) := by rw [← hW]; exact hp_new rfl
  clear hW
  refine wp_region_lit ?_
  refine wpList_callS rfl 114 #[] (by go_simp) (HN.out _) (.agg #[.int .i64 66, .int .i64 66, .int .i64 66, .int .i64 66, .int .i64 0, .int .i64 0]) (fun e w' h => h.1) ?_
  rintro w1 ⟨-, hb⟩
  simp only [Act.put, List.setIfInBounds_toArray, List.set_cons_zero, List.set_cons_succ]
  refine wpList_valG (.agg #[.bool false, .bool true, .bool false]) (by rfl) (by go_simp) ?_
  simp only [Act.put, List.setIfInBounds_toArray, List.set_cons_zero, List.set_cons_succ]
  refine wpList_valG (.agg (peL firstPe).toArray) (by rfl) (by go_simp; rfl) ?_
  simp only [Act.put, List.setIfInBounds_toArray, List.set_cons_zero, List.set_cons_succ]
  have hc3 := (hb.block _ (lt_of_heap hc2)).trans hc2
  have hb3 := below_tail hb2 hb
  refine wpList_store_mid rfl 123 (.tmp 0) (.tmp 3) rfl (w.heap.size) (0) ((peL firstPe).toArray) rfl rfl ((show World.there _ w.heap.size 0 14 from there_new hc3)) info_pen (all_oneCell_toArray (peL_one _)) ?_
  simp only [Act.put]
  go_wp2
  have hw := whole_setCells (peL firstPe) 0 _ _ hc3 (by simp [peL])
  exact bodyPost_ret (ret_agg rfl _ _ w.heap.size (peL firstPe) rfl (range_new hw) Tryz.underlying123 rfl info_pen) rfl ⟨rfl, below_setN hb3 (Nat.le_refl _) _ _⟩
def SNewPost (rows cols lines : Nat) (w : World) (e : Ending) (w' : World) : Prop :=
  ∃ v, e = .returned (.tuple #[.pointer (some ⟨v.S, 0, none⟩), .int .i64 0]) ∧ ScO w.heap.size w' v (newS rows cols lines (sizeT [] cols)) ∧ Below w.heap.size w w'
theorem TbO.weaken {b2 T : Nat} {vw : Value} {ws : List Nat} {st : List Bool} (h : TbO base w T vw ws st) (hb : b2 ≤ base) : TbO b2 w T vw ws st :=
  ⟨h.blk, Nat.le_trans hb h.hb, owns_weaken h.own hb, h.wds, h.le, h.few⟩
set_option maxRecDepth 100000 in
set_option maxHeartbeats 1600000 in
theorem snew_ok (rows cols lines : Nat) (w : World) (hr1 : 1 ≤ rows) (hr2 : rows ≤ 1000) (hc1 : 2 ≤ cols) (hc2 : cols ≤ 1000) (hl : lines ≤ 100000) :
    Calls Tryz.prog 35 #[.int .i64 rows, .int .i64 cols, .int .i64 lines] w (SNewPost rows cols lines w) := by
  have HP := Lib.hid (pnew_ok rows cols lines w hr1 hr2 hc1 hc2 hl)
  have HT := Lib.hid (fun w => tnew_ok cols w hc1 hc2)
  have HF := Lib.hid (fun w => sfresh_any w)
  unfold peL at HF
  have hwr : IntKind.i64.wrap ((rows : Int) - 1) = (rows : Int) - 1 := IntWalk.i64_in _ (by omega)
  go_enter Tryz.func35, Tryz.ntmps35
  go_wp2_with (first
    | (go_at_call 62; refine HP.out.mono ?_; rintro e w1 ⟨q, rfl, hq, hb⟩; have HQ := Lib.hid hq; have HB1 := Lib.hid hb; clear hq hb)
    | (go_at_call 63; refine (HT.out _).mono ?_; rintro e w2 ⟨T, vw, ws, rfl, ht, hb⟩; have HTB := Lib.hid ht; have HB2 := Lib.hid hb; clear ht hb)
    | (go_at_call 64; refine (HF.out _).mono ?_; rintro e w3 ⟨rfl, hb⟩; have HB3 := Lib.hid hb; clear hb))
  go_ret2
  have hba := below_allocs (Below.refl w3.heap.size w3) (.cells (encSc (newS rows cols lines (sizeT [] cols)) q.P T).toArray 128)
  have h1 := HB1.out.size
  have h2 := HB2.out.size
  have h3 := HB3.out.size
  exact ⟨⟨w3.heap.size, q, T, vw, ws⟩, rfl, ⟨hp_new rfl, by show w.heap.size ≤ w3.heap.size; omega, ((HQ.out.below HB2.out).below HB3.out).below hba, (((HTB.out.weaken h1).below HB3.out).below hba)⟩, below_tail (below_tail (below_tail HB1.out HB2.out) HB3.out) hba⟩
end
end Go.Proofs.YtaefcahblmopfaaGreatDoor

namespace Go.Proofs.YtaefcahblmopfaaGreatDoor
open Go.RowKit
/-- A group's head, and the numbers it stands for. -/
structure Gh where
  A : Option Addr
  g : List Int
  cap : Nat
def encZ (n : Int) : List Value := [.int .i64 n]
theorem encZ_len : ∀ n, (encZ n).length = 1 := fun _ => rfl
theorem encZ_one : ∀ n, ∀ v ∈ encZ n, v.oneCell' = true := fun n v hv => by
  obtain rfl := List.mem_singleton.1 hv; rfl
def encGh (h : Gh) : List Value := [.slice h.A h.g.length h.cap]
theorem encGh_len : ∀ h, (encGh h).length = 1 := fun _ => rfl
def gsOf (H : List Gh) : List (List Int) := H.map (·.g)
/-- Groups are there. -/
def GsAt (w : World) (A : Option Addr) (H : List Gh) : Prop := GrAt encGh 1 w A H ∧ ∀ h ∈ H, GrAt encZ 1 w h.A h.g ∧ h.g.length ≤ h.cap
section
variable {w : World} {A : Option Addr} {H : List Gh}
end
end Go.Proofs.YtaefcahblmopfaaGreatDoor

namespace Go.Proofs.YtaefcahblmopfaaGreatDoor
open Go.RowKit
/-- A block of cells of a type. -/
def TyB (w : World) (b : Nat) (ty : TypeId) : Prop := ∃ cur, w.heap[b]? = some (.cells cur ty (0, 0))
theorem TyB.lt {w : World} {b : Nat} {ty : TypeId} (h : TyB w b ty) : b < w.heap.size := by obtain ⟨cur, hc⟩ := h; exact lt_of_heap hc
theorem TyB.mod {X : List Nat} {w w' : World} {b : Nat} {ty : TypeId} (h : TyB w b ty) (hm : Mod X w w') (hX : b ∉ X) : TyB w' b ty := by obtain ⟨cur, hc⟩ := h; exact ⟨cur, (hm.block b (lt_of_heap hc) hX).trans hc⟩
/-- No block of groups, nor of numbers. -/
def NoG (w : World) (b : Nat) : Prop := ¬ TyB w b 241 ∧ ¬ TyB w b 3
/-- Groups in memory of somebody's own: blocks from lo on. -/
def GnAt (w : World) (lo : Nat) (A : Option Addr) (H : List Gh) : Prop :=
  (H ≠ [] → ∃ b off, A = some ⟨b, off, none⟩ ∧ lo ≤ b ∧ TyB w b 241) ∧ GsAt w A H ∧ ∀ h ∈ H, h.g ≠ [] → ∃ b off, h.A = some ⟨b, off, none⟩ ∧ lo ≤ b ∧ TyB w b 3
theorem GnAt.nil (w : World) (lo : Nat) : GnAt w lo none [] := ⟨fun h => absurd rfl h, ⟨fun h => absurd h (by simp), fun h hh => by cases hh⟩, fun h hh => by cases hh⟩
theorem GnAt.modT {X : List Nat} {w w' : World} {lo : Nat} {A : Option Addr} {H : List Gh} (h : GnAt w lo A H) (hm : Mod X w w') (hX : ∀ b ∈ X, b < lo ∨ w.heap.size ≤ b ∨ NoG w b) : GnAt w' lo A H := by
  obtain ⟨h1, ⟨h2, h3⟩, h4⟩ := h
  have out1 : ∀ b, lo ≤ b → TyB w b 241 → b ∉ X := fun b hl ht hx => by
    rcases hX b hx with h | h | h
    · omega
    · have := ht.lt; omega
    · exact h.1 ht
  have out2 : ∀ b, lo ≤ b → TyB w b 3 → b ∉ X := fun b hl ht hx => by
    rcases hX b hx with h | h | h
    · omega
    · have := ht.lt; omega
    · exact h.2 ht
  refine ⟨fun hn => ?_, ⟨?_, fun x hx => ⟨?_, (h3 x hx).2⟩⟩, fun x hx hn => ?_⟩
  · obtain ⟨b, off, e, a, c⟩ := h1 hn
    exact ⟨b, off, e, a, c.mod hm (out1 b a c)⟩
  · by_cases hn : H = []
    · subst hn; intro h; simp at h
    · obtain ⟨b, off, rfl, a, c⟩ := h1 hn
      exact gr_mod h2 hm (out1 b a c)
  · by_cases hn : x.g = []
    · rw [hn]; intro h; simp at h
    · obtain ⟨b, off, e, a, c⟩ := h4 x hx hn
      have := (h3 x hx).1
      rw [e] at this ⊢
      exact gr_mod this hm (out2 b a c)
  · obtain ⟨b, off, e, a, c⟩ := h4 x hx hn
    exact ⟨b, off, e, a, c.mod hm (out2 b a c)⟩
theorem GnAt.mod {X : List Nat} {w w' : World} {lo : Nat} {A : Option Addr} {H : List Gh} (h : GnAt w lo A H) (hm : Mod X w w') (hX : ∀ b ∈ X, b < lo ∨ w.heap.size ≤ b) : GnAt w' lo A H := h.modT hm (fun b hb => (hX b hb).imp id .inl)
theorem GnAt.below {w w' : World} {lo : Nat} {A : Option Addr} {H : List Gh} (h : GnAt w lo A H) (hb : Below w.heap.size w w') : GnAt w' lo A H := h.mod (X := []) (Mod.of_below hb) (fun _ h => by cases h)
theorem GnAt.weaken {w : World} {lo lo2 : Nat} {A : Option Addr} {H : List Gh} (h : GnAt w lo A H) (hl : lo2 ≤ lo) : GnAt w lo2 A H :=
  ⟨fun hn => by obtain ⟨b, off, e, a, c⟩ := h.1 hn; exact ⟨b, off, e, Nat.le_trans hl a, c⟩, h.2.1, fun x hx hn => by obtain ⟨b, off, e, a, c⟩ := h.2.2 x hx hn; exact ⟨b, off, e, Nat.le_trans hl a, c⟩⟩
/-- An event, and where its groups lie. -/
structure Ex where
  e : Ev
  A : Option Addr
  H : List Gh
  ca : Nat
def encEx (x : Ex) : List Value := [.int .i64 x.e.kind, .int .i32 x.e.r, .int .u8 x.e.byte, .int .u8 x.e.pre, .slice x.A x.H.length x.ca, .string (strOfNums x.e.inter), .string (strOfNums x.e.text), .bool x.e.cut]
theorem encEx_len : ∀ x, (encEx x).length = 8 := fun _ => rfl
theorem encEx_one : ∀ x, ∀ v ∈ encEx x, v.oneCell' = true := fun x v hv => by
  simp only [encEx, List.mem_cons, List.not_mem_nil, or_false] at hv
  rcases hv with rfl | rfl | rfl | rfl | rfl | rfl | rfl | rfl <;> rfl
/-- What is true of an event that lies in memory. -/
structure ExOk (w : World) (lo : Nat) (x : Ex) : Prop where
  g : gsOf x.H = x.e.nums
  c : x.H.length ≤ x.ca
  z : x.H.length ≤ 32 ∧ ∀ h ∈ x.H, h.g.length ≤ 8
  n : GnAt w lo x.A x.H
theorem ExOk.mod {X : List Nat} {w w' : World} {lo : Nat} {x : Ex} (h : ExOk w lo x) (hm : Mod X w w') (hX : ∀ b ∈ X, b < lo ∨ w.heap.size ≤ b) : ExOk w' lo x := ⟨h.g, h.c, h.z, h.n.mod hm hX⟩
theorem ExOk.modT {X : List Nat} {w w' : World} {lo : Nat} {x : Ex} (h : ExOk w lo x) (hm : Mod X w w') (hX : ∀ b ∈ X, b < lo ∨ w.heap.size ≤ b ∨ NoG w b) : ExOk w' lo x := ⟨h.g, h.c, h.z, h.n.modT hm hX⟩
theorem ExOk.below {w w' : World} {lo : Nat} {x : Ex} (h : ExOk w lo x) (hb : Below w.heap.size w w') : ExOk w' lo x := ⟨h.g, h.c, h.z, h.n.below hb⟩
theorem ExOk.weaken {w : World} {lo lo2 : Nat} {x : Ex} (h : ExOk w lo x) (hl : lo2 ≤ lo) : ExOk w lo2 x := ⟨h.g, h.c, h.z, h.n.weaken hl⟩
/-- An event without groups. -/
def ex0 (e : Ev) : Ex := ⟨e, none, [], 0⟩
theorem ex0_ok (w : World) (lo : Nat) {e : Ev} (h : e.nums = []) : ExOk w lo (ex0 e) := ⟨h.symm, Nat.le_refl _, ⟨by show 0 ≤ 32; omega, fun h hh => by cases hh⟩, GnAt.nil w lo⟩
/-- A list of events of the call's own. -/
structure ExsO (w : World) (lo : Nat) (u : Value) (X : List Ex) (evs : List Ev) : Prop where
  own : w.ownsRow lo 83 8 u X.length (flat encEx X)
  es : X.map (·.e) = evs
  ok : ∀ x ∈ X, ExOk w lo x
theorem ExsO.nil (w : World) (lo : Nat) : ExsO w lo (.slice none 0 0) [] [] := ⟨World.ownsRow_nil w lo 83 8, rfl, fun _ h => by cases h⟩
theorem ExsO.mod {X : List Nat} {w w' : World} {lo : Nat} {u : Value} {L : List Ex} {evs : List Ev} (h : ExsO w lo u L evs) (hm : Mod X w w') (hX : ∀ b ∈ X, b < lo ∨ w.heap.size ≤ b) : ExsO w' lo u L evs :=
  ⟨owns_mod h.own hm (fun g hg hx => by have := h.own.lt g hg; rcases hX g hx with h | h <;> omega), h.es, fun x hx => (h.ok x hx).mod hm hX⟩
theorem ExsO.below {w w' : World} {lo : Nat} {u : Value} {L : List Ex} {evs : List Ev} (h : ExsO w lo u L evs) (hb : Below w.heap.size w w') : ExsO w' lo u L evs := h.mod (X := []) (Mod.of_below hb) (fun _ h => by cases h)
theorem ExsO.weaken {w : World} {lo lo2 : Nat} {u : Value} {L : List Ex} {evs : List Ev} (h : ExsO w lo u L evs) (hl : lo2 ≤ lo) : ExsO w lo2 u L evs := ⟨owns_weaken h.own hl, h.es, fun x hx => (h.ok x hx).weaken hl⟩
/-- What a parser's method that tells events leaves. -/
def EvPost (base : Nat) (w : World) (v : Zv) (x : Pz × List Ev) (e : Ending) (w' : World) : Prop := ∃ u L, e = .returned u ∧ ExsO w' w.heap.size u L x.2 ∧ PzRes base w v x.1 w'
end Go.Proofs.YtaefcahblmopfaaGreatDoor
