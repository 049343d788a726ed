/- Joined by a tool of this claim out of smaller texts. Conditions: as stated. -/
import Derived.Test.YtjcpdcncfjkejaaGreatSw15
import Derived.Test.YtjcpdcncfjkejaaGreatSw16
import Derived.Test.YtjcpdcncfjkejaaGreatSw17
set_option linter.unusedVariables false
set_option linter.unusedSimpArgs false
namespace Go.Proofs.YtjcpdcncfjkejaaGreat
open Go.RowKit
set_option maxRecDepth 100000 in
set_option maxHeartbeats 1600000 in
theorem rBlank_any (b : Col) (w : World) : Calls Tryz.prog 84 #[.agg #[.int .i64 b.k, .int .i64 b.n]] w (CellPost (blankC b) w) := by
  have HB0 := Lib.hid (below_allocs (below_allocs (Below.refl w.heap.size w) (.cells #[.int .i64 b.k, .int .i64 b.n] 41)) (.cells (encCl (emptyA ⟨0, 0, 0, 0, 0⟩)).toArray 45))
  have HT0 := Lib.hid (there_new (cs := (encCl (emptyA ⟨0, 0, 0, 0, 0⟩)).toArray) (w := (w.alloc (.cells #[.int .i64 b.k, .int .i64 b.n] 41)).alloc (.cells (encCl (emptyA ⟨0, 0, 0, 0, 0⟩)).toArray 45)) (g := w.heap.size + 1) (hp_new (by simp)))
  go_enter Tryz.func84, Tryz.ntmps84
  go_wp2_with (refine wpList_store_mid (op := ⟨none, .store 45 (.tmp 2) (.tmp 5), _, _, _, _⟩) rfl 45 (.tmp 2) (.tmp 5) rfl (w.heap.size + 1) 0 (encCl (blankC b)).toArray rfl rfl HT0.out info_cell (cl_one (blankC b)) ?_)
  exact bodyPost_ret (ret_cell rfl _ _ (w.heap.size + 1) (blankC b) rfl (World.rangeAt_setCells_same _ _ _ _ HT0.out)) rfl ⟨rfl, below_setCells HB0.out (by omega) _ _⟩
end Go.Proofs.YtjcpdcncfjkejaaGreat
namespace Go.Proofs.YtjcpdcncfjkejaaGreat
open Go.RowKit
/-- A call that yields a value, in a plain region. -/
theorem wpList_callG {P : Program} {ops : Array Oper} {rest : List Oper} {o : Oper} {a : Act} {w : World} {Q : Exit → Act → World → Prop} (hg : o.guard = none) (f : FuncId) (args : Array Value) (hrun : (execOp a.eval o).run P w = .ok (.enter f args) w)
    {Post : Ending → World → Prop} (hc : Calls P f args w Post) (v : Value) (hv : ∀ e w', Post e w' → e = .returned v) (h : ∀ w', Post (.returned v) w' → wpList P ops Q rest (a.put o.dst v) w') : wpList P ops Q (o :: rest) a w := by
  refine wpList_plain hg fun K hK => ?_
  unfold Oper.wp
  rw [hrun, Oper.upon_enter]
  refine hc.mono fun e w'' hh => ?_
  obtain rfl := hv e w'' hh
  exact hK _ _ (h _ hh)
set_option maxRecDepth 100000 in
set_option maxHeartbeats 1000000 in
theorem rBlanks_any (n : Nat) (b : Col) (w : World) (hn0 : 0 < n) (hn : n ≤ 1000) :
    Calls Tryz.prog 68 #[.int .i64 n, .agg #[.int .i64 b.k, .int .i64 b.n]] w (WithPost (List.replicate n (blankC b)) w) := by
  obtain ⟨j0, hj, gz0, gz1, gz2⟩ := info_parts info_cellz
  obtain ⟨X, hX⟩ : ∃ X, blankC b = X := ⟨_, rfl⟩
  rw [hX]
  have HBL := Lib.hid (fun w => rBlank_any b w)
  rw [hX] at HBL
  clear hX
  obtain ⟨xr, xm, xh, x1, x2, x3, x4, x5⟩ := X
  have HBL : Hid (∀ w : World, Calls Tryz.prog 84 #[.agg #[.int .i64 b.k, .int .i64 b.n]] w (fun e w' => e = .returned (.agg #[.int .i32 xr, .string xm, .int .i64 xh, .int .i64 x1, .int .i64 x2, .int .i64 x3, .int .i64 x4, .int .i64 x5]) ∧ Below w.heap.size w w')) := HBL
  have HB0 := Lib.hid (below_allocs (Below.refl w.heap.size w) (.cells #[.int .i64 b.k, .int .i64 b.n] 41))
  have HK : Hid (HoldAt (w.alloc (.cells #[.int .i64 b.k, .int .i64 b.n] 41)) w.heap.size 0 (.int .i64 b.k) ∧ HoldAt (w.alloc (.cells #[.int .i64 b.k, .int .i64 b.n] 41)) w.heap.size 1 (.int .i64 b.n)) := Lib.hid ⟨at_ (hp_new rfl) 0 _ rfl, at_ (hp_new rfl) 1 _ rfl⟩
  go_enter Tryz.func68, Tryz.ntmps68
  go_wp2_with fail
  go_loopw [5, 6] (fun s5 s6 wr => ∃ i : Nat, s6 = .int .i64 i ∧ i ≤ n ∧ ClO (w.heap.size + 1) wr s5 (List.replicate i ((⟨xr, xm, xh, x1, x2, x3, x4, x5⟩ : Cl))) ∧ Below (w.heap.size + 1) (w.alloc (.cells #[.int .i64 b.k, .int .i64 b.n] 41)) wr) (fun _ s6 _ => n - (intOf s6).toNat)
  case atStart => exact ⟨0, rfl, Nat.zero_le _, World.ownsRow_nil _ _ _ _, by simpa using Below.refl (w.alloc (.cells #[.int .i64 b.k, .int .i64 b.n] 41)).heap.size _⟩
  case round =>
    obtain ⟨i, rfl, hi, hO, hB⟩ := hrel
    obtain ⟨bx, rfl⟩ : ∃ bx : Value × Unit, u5 = bx.1 := ⟨(u5, ()), rfl⟩
    have HO := Lib.hid hO
    have HB := Lib.hid hB
    have k0 := (hold (W := w.alloc (.cells #[.int .i64 b.k, .int .i64 b.n] 41)) (by simpa using hB) HK.out.1).1
    have k1 := (hold (W := w.alloc (.cells #[.int .i64 b.k, .int .i64 b.n] 41)) (by simpa using hB) HK.out.2).1
    clear hO hB
    by_cases hlt : i < n
    rotate_left
    · obtain rfl : i = n := by omega
      go_wp2
      go_ret
      obtain ⟨g, cap, hv, hc⟩ := ClO.form HO.out (by simpa using hn0)
      exact ⟨g, cap, by rw [← hv]; rfl, owns_weaken hc (by omega), below_tail HB0.out (by simpa using HB.out)⟩
    · have hltI : (i : Int) < (n : Int) := by omega
      have hk : (i : Int) < 1000 := by omega
      have HI := Lib.hid hi
      go_upto_region 5 with fail
      refine wp_region_lit ?_
      refine wpList_valG (bx.1) (by rfl) (by rfl) ?_
      simp only [Act.put, List.setIfInBounds_toArray, List.set_cons_zero, List.set_cons_succ]
      refine wpList_valG (.agg #[.int .i64 b.k, .int .i64 b.n]) (by rfl) (by go_simp) ?_
      simp only [Act.put, List.setIfInBounds_toArray, List.set_cons_zero, List.set_cons_succ]
      refine wpList_callG rfl 84 #[.agg #[.int .i64 b.k, .int .i64 b.n]] (by go_simp) (HBL.out _) (.agg #[.int .i32 xr, .string xm, .int .i64 xh, .int .i64 x1, .int .i64 x2, .int .i64 x3, .int .i64 x4, .int .i64 x5]) (fun e w' h => h.1) ?_
      rintro w3 ⟨-, hb⟩
      have HB3 := Lib.hid hb
      clear hb k0 k1
      have HBX := Lib.hid (below_tail HB3.out (below_allocs (Below.refl w3.heap.size w3) (.cells #[.int .i32 xr, .string xm, .int .i64 xh, .int .i64 x1, .int .i64 x2, .int .i64 x3, .int .i64 x4, .int .i64 x5] 45)))
      have HO3 := Lib.hid (ClO.below HO.out HBX.out)
      simp only [Act.put, List.setIfInBounds_toArray, List.set_cons_zero, List.set_cons_succ]
      refine wpList_actG (.slice (some ⟨w3.heap.size, 0, none⟩) 1 1) (w3.alloc (.cells #[.int .i32 xr, .string xm, .int .i64 xh, .int .i64 x1, .int .i64 x2, .int .i64 x3, .int .i64 x4, .int .i64 x5] 45)) (by rfl) (by go_simp) ?_
      simp only [Act.put, List.setIfInBounds_toArray, List.set_cons_zero, List.set_cons_succ]
      refine wpList_append_g (o := ⟨some 20, _, _, _, _, _⟩) rfl (.tmp 16) (.tmp 19) 37 rfl (w.heap.size + 1) 45 j0 _ 8 72 Tryz.underlying37 hj gz0 gz1 gz2 rfl (by decide) bx.1 _ _ rfl HO3.out ⟨w3.heap.size, 0, none⟩ 1 1 (encCl (⟨xr, xm, xh, x1, x2, x3, x4, x5⟩ : Cl)) rfl rfl (fun j u hj => by rw [add_lit', Nat.zero_add]; exact (at_ (hp_new rfl) j u (by simpa [encCl] using hj)).1) (encCl_one _) (by simp only [maxLen, List.length_replicate]; omega) (by simp only [List.length_replicate]; omega) (by have := HB.out.size; have := HB3.out.size; simp at *; omega) ?_
      intro v' w7 ho hg hv'
      have HO7 : Hid (ClO (w.heap.size + 1) w7 v' (List.replicate (i + 1) (⟨xr, xm, xh, x1, x2, x3, x4, x5⟩ : Cl))) := Lib.hid (by unfold ClO; rw [List.replicate_succ', flat_append, List.length_append]; exact ho)
      have HB7 := Lib.hid ((show Below (w.heap.size + 1) (w.alloc (.cells #[.int .i64 b.k, .int .i64 b.n] 41)) _ from HB.out.trans (HBX.out.mono (by have := HB.out.size; simpa using this))).grown hg (by have := HB.out.size; have := HB3.out.size; simp at *; omega) (fun b hb => (World.ownsRow.lt (show World.ownsRow _ _ _ _ _ _ _ from HO3.out) b hb).1))
      simp only [Act.put, List.setIfInBounds_toArray, List.set_cons_zero, List.set_cons_succ]
      clear ho hg hv'
      go_wp2
      go_roundw
      case rel => exact ⟨i + 1, by go_num, by omega, HO7.out, HB7.out⟩
      case measure => simp [intOf]; omega
end Go.Proofs.YtjcpdcncfjkejaaGreat
namespace Go.Proofs.YtjcpdcncfjkejaaGreat
open Go.RowKit
end Go.Proofs.YtjcpdcncfjkejaaGreat
namespace Go.Proofs.YtjcpdcncfjkejaaGreat
open Go.RowKit
end Go.Proofs.YtjcpdcncfjkejaaGreat
namespace Go.Proofs.YtjcpdcncfjkejaaGreat
open Go.RowKit
end Go.Proofs.YtjcpdcncfjkejaaGreat

namespace Go.Proofs.YtjcpdcncfjkejaaGreat
open Go.RowKit
/-- What stays so: the cursor is on the screen, or at the edge. -/
structure ScI (s : Sc) : Prop where
  y0 : 0 ≤ s.y
  y1 : s.y < s.pg.scr.length
  x0 : 0 ≤ s.x
  x1 : s.x ≤ s.pg.cols
  t0 : 0 ≤ s.top
  tb : s.top ≤ s.bot
  b1 : s.bot < s.pg.scr.length
section
variable {base : Nat} {w : World} {v : Sv} {s : Sc}
def ScPost (base : Nat) (w : World) (v : Sv) (s' : Sc) (e : Ending) (w' : World) : Prop := e = .returned (.tuple #[]) ∧ ScRes base w v s' w'
def ScBool (base : Nat) (w : World) (v : Sv) (r : Sc × Bool) (e : Ending) (w' : World) : Prop := e = .returned (.bool r.2) ∧ ScRes base w v r.1 w'
set_option maxRecDepth 100000 in
set_option maxHeartbeats 1600000 in
theorem sFeed_any (h : ScO base w v s) (hi : ScI s) (ht : s.pg.told.length ≤ 900000) : Calls Tryz.prog 59 #[.pointer (some ⟨v.S, 0, none⟩)] w (ScBool base w v (feedS s)) := by
  have hc2 := h.page.cols2
  have hc3 := h.page.cols1000
  have hr3 : s.pg.scr.length ≤ 1000 := by rw [← h.page.len]; exact h.page.rows1000
  have HI := Lib.hid (sIn_any h)
  have hy0 := hi.y0
  have hy1 := hi.y1
  have htop := hi.t0
  obtain ⟨pg, st, pen, y, x, top, bot, sp, sy, sx, has, last⟩ := s
  obtain ⟨xi, hxi⟩ : ∃ xi, inS ⟨pg, st, pen, y, x, top, bot, sp, sy, sx, has, last⟩ = xi := ⟨_, rfl⟩
  unfold feedS rowsS
  rw [hxi] at HI ⊢
  simp only [] at ht hc2 hc3 hr3 hy0 hy1 htop ⊢
  have HO := Lib.hid h
  have HX := Lib.hid (at_ h.blk 17 (.int .i64 x) rfl)
  clear h hxi hi
  -- behind x is brought in
  have main : ∀ w1, Below w.heap.size w w1 → ScO base (w1.setCell ⟨v.S, 17, none⟩ (.int .i64 xi)) v ⟨pg, st, pen, y, xi, top, bot, sp, sy, sx, has, last⟩ ∧ Mod (scX v) w (w1.setCell ⟨v.S, 17, none⟩ (.int .i64 xi)) := fun w1 hb =>
    ⟨(HO.out.below hb).put 17 _ rfl rfl rfl, (Mod.of_below hb).setCell (a := ⟨v.S, 17, none⟩) (.inl (by simp [scX])) _⟩
  have HM := Lib.hid main
  clear main
  by_cases hyb : y = bot
  · subst hyb
    rw [if_pos rfl]
    go_enter Tryz.func59, Tryz.ntmps59
    go_upto_region 3 with (go_at_call 76; refine HI.out.mono ?_; rintro e w1 ⟨rfl, hb⟩; have HM1 := Lib.hid (HM.out w1 hb); obtain ⟨c17, f17⟩ := hold hb HX.out; clear hb)
    generalize World.setCell _ _ _ = W3 at HM1 ⊢
    clear c17 f17
    obtain ⟨c16, -⟩ := at_ HM1.out.1.blk 16 (.int .i64 y) rfl
    obtain ⟨c19, -⟩ := at_ HM1.out.1.blk 19 (.int .i64 y) rfl
    refine wp_region_u 9 (fun w' => Below W3.heap.size W3 w' ∧ w'.cell? ⟨v.S, 16, none⟩ = some (.int .i64 y) ∧ w'.cell? ⟨v.S, 19, none⟩ = some (.int .i64 y)) (by kernel_rfl) (by kernel_rfl) ?_ ?_
    · exact ⟨(Below.refl _ _).drew, c16, c19⟩
    simp only [List.take_succ_cons, List.take_zero, List.drop_succ_cons, List.drop_zero]
    repeat (
      (first
       | refine seqU_skip (by rfl) ?_
       | (refine seqU_val ?_ (by rfl) ?_ ?_; rotate_left; (focus (intro w' hS; obtain ⟨_, _, _⟩ := hS; go_simp; first | done | with_reducible rfl))))
      simp only [Act.put, List.setIfInBounds_toArray, List.set_cons_zero, List.set_cons_succ])
    refine seqU_nil (fun w' hS => ?_)
    have HB4 := Lib.hid hS.1
    clear hS c16 c19
    rename World => W4
    go_upto_region 4 with fail
    have hO4 := HM1.out.1.below HB4.out
    have HBK : Hid (∀ w', Below W4.heap.size W4 w' → Calls Tryz.prog 35 #[.pointer (some ⟨v.S, 0, none⟩)] w' fun e w2 => e = .returned (.agg #[.int .i64 pen.at_.bk, .int .i64 pen.at_.bn]) ∧ Below w'.heap.size w' w2) := Lib.hid (fun w' hb => sBack_any (hO4.below hb))
    have HUP : Hid (∀ w', Below W4.heap.size W4 w' → Calls Tryz.prog 77 #[.pointer (some ⟨v.q.P, 0, none⟩), .int .i64 top, .int .i64 y, .int .i64 1, .agg #[.int .i64 pen.at_.bk, .int .i64 pen.at_.bn]] w' (PgPost base w' v.q (timesP pg top y 1 (fun t b g => upP g t b ⟨pen.at_.bk, pen.at_.bn⟩)))) :=
      Lib.hid (fun w' hb => pUp_any (hO4.below hb).page top y 1 ⟨pen.at_.bk, pen.at_.bn⟩ ht (by decide) (by decide))
    obtain ⟨c14, -⟩ := at_ hO4.blk 14 (.pointer (some ⟨v.q.P, 0, none⟩)) rfl
    obtain ⟨c18, -⟩ := at_ hO4.blk 18 (.int .i64 top) rfl
    obtain ⟨c19, -⟩ := at_ hO4.blk 19 (.int .i64 y) rfl
    have HO4 := Lib.hid hO4
    clear hO4
    refine wp_region_u 14 (fun w' => Below W4.heap.size W4 w' ∧ w'.cell? ⟨v.S, 14, none⟩ = some (.pointer (some ⟨v.q.P, 0, none⟩)) ∧ w'.cell? ⟨v.S, 18, none⟩ = some (.int .i64 top) ∧ w'.cell? ⟨v.S, 19, none⟩ = some (.int .i64 y)) (by kernel_rfl) (by kernel_rfl) ?_ ?_
    · exact ⟨(Below.refl _ _).drew, c14, c18, c19⟩
    simp only [List.take_succ_cons, List.take_zero, List.drop_succ_cons, List.drop_zero]
    repeat (
      (first
       | refine seqU_skip (by rfl) ?_
       | ((refine seqU_call 35 #[.pointer (some ⟨v.S, 0, none⟩)] (.agg #[.int .i64 pen.at_.bk, .int .i64 pen.at_.bn]) (by rfl) ?_ (fun w' hS => (HBK.out w' hS.1).mono fun e w2 ⟨he, hb⟩ => ⟨he, below_tail hS.1 hb, holda hb hS.2.1, holda hb hS.2.2.1, holda hb hS.2.2.2⟩) ?_; (focus (intro w2; go_simp; done))))
       | (refine seqU_val ?_ (by rfl) ?_ ?_; rotate_left; (focus (intro w' hS; obtain ⟨_, _, _, _⟩ := hS; go_simp; first | done | with_reducible rfl))))
      simp only [Act.put, List.setIfInBounds_toArray, List.set_cons_zero, List.set_cons_succ])
    refine seqU_nil (fun w' hS => ?_)
    have HB5 := Lib.hid hS.1
    clear hS c14 c18 c19
    rename World => W5
    go_wp2_with (go_at_call 77; refine (HUP.out _ HB5.out).mono ?_; rintro e w6 ⟨rfl, hp⟩; have HP6 := Lib.hid hp; clear hp)
    go_ret
    exact ⟨rfl, ScRes.trans ⟨rfl, rfl, rfl, ((HM1.out.2.then_below HB4.out).then_below HB5.out), fun b hb => .inl hb⟩ ((HO4.out.below HB5.out).paged HP6.out)⟩
  · rw [if_neg hyb]
    have hyb2 : (y == bot) = false := by simpa using hyb
    by_cases hyr : y < (pg.scr.length : Int) - 1
    all_goals
      have hwr : IntKind.i64.wrap ((pg.scr.length : Int) - 1) = (pg.scr.length : Int) - 1 := IntWalk.i64_in _ (by omega)
      go_enter Tryz.func59, Tryz.ntmps59
      go_upto_region 3 with (go_at_call 76; refine HI.out.mono ?_; rintro e w1 ⟨rfl, hb⟩; have HM1 := Lib.hid (HM.out w1 hb); obtain ⟨c17, f17⟩ := hold hb HX.out; clear hb)
      generalize World.setCell _ _ _ = W3 at HM1 ⊢
      clear c17 f17
      obtain ⟨c16, -⟩ := at_ HM1.out.1.blk 16 (.int .i64 y) rfl
      obtain ⟨c19, -⟩ := at_ HM1.out.1.blk 19 (.int .i64 bot) rfl
      refine wp_region_u 9 (fun w' => Below W3.heap.size W3 w' ∧ w'.cell? ⟨v.S, 16, none⟩ = some (.int .i64 y) ∧ w'.cell? ⟨v.S, 19, none⟩ = some (.int .i64 bot)) (by kernel_rfl) (by kernel_rfl) ?_ ?_
      · exact ⟨(Below.refl _ _).drew, c16, c19⟩
      simp only [List.take_succ_cons, List.take_zero, List.drop_succ_cons, List.drop_zero]
      repeat (
        (first
         | refine seqU_skip (by rfl) ?_
         | (refine seqU_val ?_ (by rfl) ?_ ?_; rotate_left; (focus (intro w' hS; obtain ⟨_, _, _⟩ := hS; go_simp; first | done | with_reducible rfl))))
        simp only [Act.put, List.setIfInBounds_toArray, List.set_cons_zero, List.set_cons_succ])
      refine seqU_nil (fun w' hS => ?_)
      have HB4 := Lib.hid hS.1
      clear hS c16 c19
      rename World => W4
      go_upto_region 5 with fail
      have hO4 := HM1.out.1.below HB4.out
      have HRW : Hid (∀ w', Below W4.heap.size W4 w' → Calls Tryz.prog 78 #[.pointer (some ⟨v.S, 0, none⟩)] w' fun e w2 => e = .returned (.int .i64 pg.scr.length) ∧ w' = w2) := Lib.hid (fun w' hb => sRows_any (hO4.below hb))
      obtain ⟨c16, -⟩ := at_ hO4.blk 16 (.int .i64 y) rfl
      have HO4 := Lib.hid hO4
      clear hO4
      refine wp_region_u 8 (fun w' => Below W4.heap.size W4 w' ∧ w'.cell? ⟨v.S, 16, none⟩ = some (.int .i64 y)) (by kernel_rfl) (by kernel_rfl) ?_ ?_
      · exact ⟨(Below.refl _ _).drew, c16⟩
      simp only [List.take_succ_cons, List.take_zero, List.drop_succ_cons, List.drop_zero]
      repeat (
        (first
         | refine seqU_skip (by rfl) ?_
         | ((refine seqU_call 78 #[.pointer (some ⟨v.S, 0, none⟩)] (.int .i64 pg.scr.length) (by rfl) ?_ (fun w' hS => (HRW.out w' hS.1).mono fun e w2 ⟨he, hb⟩ => ⟨he, hb ▸ hS⟩) ?_; (focus (intro w2; go_simp; done))))
         | (refine seqU_val ?_ (by rfl) ?_ ?_; rotate_left; (focus (intro w' hS; obtain ⟨_, _⟩ := hS; go_simp; first | done | with_reducible rfl))))
        simp only [Act.put, List.setIfInBounds_toArray, List.set_cons_zero, List.set_cons_succ])
      refine seqU_nil (fun w' hS => ?_)
      have HB5 := Lib.hid hS.1
      clear hS c16
      rename World => W5
      obtain ⟨c16, f16⟩ := at_ (HO4.out.below HB5.out).blk 16 (.int .i64 y) rfl
      have hwy : IntKind.i64.wrap (y + 1) = y + 1 := IntWalk.i64_in _ (by omega)
    · rw [if_pos hyr]
      go_wp2
      go_ret
      exact ⟨rfl, ScRes.trans ⟨rfl, rfl, rfl, ((HM1.out.2.then_below HB4.out).then_below HB5.out), fun b hb => .inl hb⟩ ⟨v, rfl, rfl, rfl, (HO4.out.below HB5.out).put 16 _ rfl rfl rfl, ScO.mod_put 16 _, fun b hb => .inl hb⟩⟩
    · rw [if_neg (by omega)]
      go_wp2
      go_ret
      exact ⟨rfl, ScRes.trans ⟨rfl, rfl, rfl, ((HM1.out.2.then_below HB4.out).then_below HB5.out), fun b hb => .inl hb⟩ (HO4.out.below HB5.out).res⟩
theorem rowP_told (g : Pg) (y : Int) (F : List Cl → List Cl) : (rowP g y F).told = g.told ∧ (rowP g y F).room = g.room ∧ (rowP g y F).hist = g.hist ∧ (rowP g y F).gone = g.gone := by
  unfold rowP
  split <;> exact ⟨rfl, rfl, rfl, rfl⟩
theorem padS_same (s : Sc) : (padS s).pg.scr.length = s.pg.scr.length ∧ (padS s).pg.cols = s.pg.cols ∧ (padS s).pg.told = s.pg.told ∧ (padS s).y = s.y ∧ (padS s).x = s.x ∧ (padS s).top = s.top ∧ (padS s).bot = s.bot := by
  unfold padS
  split
  · exact ⟨(rowP_len _ _).1, (rowP_len _ _).2, (rowP_told _ _ _).1, rfl, rfl, rfl, rfl⟩
  · exact ⟨rfl, rfl, rfl, rfl, rfl, rfl, rfl⟩
theorem ScI.pad (h : ScI s) : ScI (padS s) := by
  obtain ⟨a1, a2, a3, a4, a5, a6, a7⟩ := padS_same s
  refine ⟨?_, ?_, ?_, ?_, ?_, ?_, ?_⟩
  · rw [a4]; exact h.y0
  · rw [a4, a1]; exact h.y1
  · rw [a5]; exact h.x0
  · rw [a5, a2]; exact h.x1
  · rw [a6]; exact h.t0
  · rw [a6, a7]; exact h.tb
  · rw [a7, a1]; exact h.b1
set_option maxRecDepth 100000 in
set_option maxHeartbeats 3200000 in
theorem sRoom_any (h : ScO base w v s) (hi : ScI s) (ht : s.pg.told.length ≤ 900000) (n : Int) (hn1 : 1 ≤ n) (hn2 : n ≤ 2) : Calls Tryz.prog 33 #[.pointer (some ⟨v.S, 0, none⟩), .int .i64 n] w (ScPost base w v (roomS s n)) := by
  have hc2 := h.page.cols2
  have hc3 := h.page.cols1000
  have hx0 := hi.x0
  have hx1 := hi.x1
  have HC : Hid (∀ w', Below w.heap.size w w' → Calls Tryz.prog 57 #[.pointer (some ⟨v.S, 0, none⟩)] w' fun e w2 => e = .returned (.int .i64 s.pg.cols) ∧ w' = w2) := Lib.hid (fun w' hb => sCols_any (h.below hb))
  have hwx : IntKind.i64.wrap (s.x + n) = s.x + n := IntWalk.i64_in _ (by omega)
  have hwc : IntKind.i64.wrap ((s.pg.cols : Int) - n) = (s.pg.cols : Int) - n := IntWalk.i64_in _ (by omega)
  have HO := Lib.hid h
  have HI := Lib.hid hi
  obtain ⟨c17, -⟩ := at_ h.blk 17 (.int .i64 s.x) rfl
  have hroom : roomS s n = if s.x + n ≤ s.pg.cols then s else if s.pen.wrap = false then { s with x := (s.pg.cols : Int) - n } else onS (feedS (padS s)) := rfl
  rw [hroom]
  clear hroom h hi
  by_cases hA : s.x + n ≤ s.pg.cols
  · rw [if_pos hA]
    go_enter Tryz.func33, Tryz.ntmps33
    go_upto_region 0 with fail
    refine wp_region_u 8 (fun w' => Below w.heap.size w w' ∧ w'.cell? ⟨v.S, 17, none⟩ = some (.int .i64 s.x)) (by kernel_rfl) (by kernel_rfl) ?_ ?_
    · exact ⟨(Below.refl _ _).drew, c17⟩
    simp only [List.take_succ_cons, List.take_zero, List.drop_succ_cons, List.drop_zero]
    repeat (
      (first
       | refine seqU_skip (by rfl) ?_
       | ((refine seqU_call 57 #[.pointer (some ⟨v.S, 0, none⟩)] (.int .i64 s.pg.cols) (by rfl) ?_ (fun w' hS => (HC.out w' hS.1).mono fun e w2 ⟨he, hb⟩ => ⟨he, hb ▸ hS⟩) ?_; (focus (intro w2; go_simp; done))))
       | (refine seqU_val ?_ (by rfl) ?_ ?_; rotate_left; (focus (intro w' hS; obtain ⟨_, _⟩ := hS; go_simp; first | done | with_reducible rfl))))
      simp only [Act.put, List.setIfInBounds_toArray, List.set_cons_zero, List.set_cons_succ])
    refine seqU_nil (fun w' hS => ?_)
    go_wp2
    go_end0
    exact ⟨rfl, HO.out.res_below hS.1⟩
  · rw [if_neg hA]
    have hA2 : ¬ s.x + n ≤ (s.pg.cols : Int) := hA
    cases hwrap : s.pen.wrap with
    | false =>
      rw [if_pos rfl]
      go_enter Tryz.func33, Tryz.ntmps33
      go_upto_region 0 with fail
      refine wp_region_u 8 (fun w' => Below w.heap.size w w' ∧ w'.cell? ⟨v.S, 17, none⟩ = some (.int .i64 s.x)) (by kernel_rfl) (by kernel_rfl) ?_ ?_
      · exact ⟨(Below.refl _ _).drew, c17⟩
      simp only [List.take_succ_cons, List.take_zero, List.drop_succ_cons, List.drop_zero]
      repeat (
        (first
         | refine seqU_skip (by rfl) ?_
         | ((refine seqU_call 57 #[.pointer (some ⟨v.S, 0, none⟩)] (.int .i64 s.pg.cols) (by rfl) ?_ (fun w' hS => (HC.out w' hS.1).mono fun e w2 ⟨he, hb⟩ => ⟨he, hb ▸ hS⟩) ?_; (focus (intro w2; go_simp; done))))
         | (refine seqU_val ?_ (by rfl) ?_ ?_; rotate_left; (focus (intro w' hS; obtain ⟨_, _⟩ := hS; go_simp; first | done | with_reducible rfl))))
        simp only [Act.put, List.setIfInBounds_toArray, List.set_cons_zero, List.set_cons_succ])
      refine seqU_nil (fun w' hS => ?_)
      have HB1 := Lib.hid hS.1
      clear hS c17
      rename World => W1
      obtain ⟨c12, -⟩ := at_ (HO.out.below HB1.out).blk 12 (.bool s.pen.wrap) rfl
      rw [hwrap] at c12
      obtain ⟨c17, f17⟩ := at_ (HO.out.below HB1.out).blk 17 (.int .i64 s.x) rfl
      go_wp2_with (go_at_call 57; refine (HC.out _ HB1.out).mono ?_; rintro e w2 ⟨rfl, rfl⟩)
      go_end0
      exact ⟨rfl, ScRes.trans ⟨rfl, rfl, rfl, Mod.of_below HB1.out, fun b hb => .inl hb⟩ ⟨v, rfl, rfl, rfl, (HO.out.below HB1.out).put 17 _ rfl rfl rfl, ScO.mod_put 17 _, fun b hb => .inl hb⟩⟩
    | true =>
      rw [if_neg (by decide)]
      obtain ⟨r, hr⟩ : ∃ r, feedS (padS s) = r := ⟨_, rfl⟩
      rw [hr]
      have HRR := Lib.hid hr
      clear hr
      obtain ⟨s5, on⟩ := r
      by_cases hxc : s.x < s.pg.cols
      all_goals
        go_enter Tryz.func33, Tryz.ntmps33
        go_upto_region 0 with fail
        refine wp_region_u 8 (fun w' => Below w.heap.size w w' ∧ w'.cell? ⟨v.S, 17, none⟩ = some (.int .i64 s.x)) (by kernel_rfl) (by kernel_rfl) ?_ ?_
        · exact ⟨(Below.refl _ _).drew, c17⟩
        simp only [List.take_succ_cons, List.take_zero, List.drop_succ_cons, List.drop_zero]
        repeat (
          (first
           | refine seqU_skip (by rfl) ?_
           | ((refine seqU_call 57 #[.pointer (some ⟨v.S, 0, none⟩)] (.int .i64 s.pg.cols) (by rfl) ?_ (fun w' hS => (HC.out w' hS.1).mono fun e w2 ⟨he, hb⟩ => ⟨he, hb ▸ hS⟩) ?_; (focus (intro w2; go_simp; done))))
           | (refine seqU_val ?_ (by rfl) ?_ ?_; rotate_left; (focus (intro w' hS; obtain ⟨_, _⟩ := hS; go_simp; first | done | with_reducible rfl))))
          simp only [Act.put, List.setIfInBounds_toArray, List.set_cons_zero, List.set_cons_succ])
        refine seqU_nil (fun w' hS => ?_)
        have HB1 := Lib.hid hS.1
        clear hS c17
        rename World => W1
        obtain ⟨c12, -⟩ := at_ (HO.out.below HB1.out).blk 12 (.bool s.pen.wrap) rfl
        rw [hwrap] at c12
        obtain ⟨c17, f17⟩ := at_ (HO.out.below HB1.out).blk 17 (.int .i64 s.x) rfl
        go_upto_region 3 with fail
        clear c12
        refine wp_region_u 6 (fun w' => Below w.heap.size w w' ∧ w'.cell? ⟨v.S, 17, none⟩ = some (.int .i64 s.x)) (by kernel_rfl) (by kernel_rfl) ?_ ?_
        · exact ⟨HB1.out.drew, c17⟩
        simp only [List.take_succ_cons, List.take_zero, List.drop_succ_cons, List.drop_zero]
        repeat (
          (first
           | refine seqU_skip (by rfl) ?_
           | ((refine seqU_call 57 #[.pointer (some ⟨v.S, 0, none⟩)] (.int .i64 s.pg.cols) (by rfl) ?_ (fun w' hS => (HC.out w' hS.1).mono fun e w2 ⟨he, hb⟩ => ⟨he, hb ▸ hS⟩) ?_; (focus (intro w2; go_simp; done))))
           | (refine seqU_val ?_ (by rfl) ?_ ?_; rotate_left; (focus (intro w' hS; obtain ⟨_, _⟩ := hS; go_simp; first | done | with_reducible rfl))))
          simp only [Act.put, List.setIfInBounds_toArray, List.set_cons_zero, List.set_cons_succ])
        refine seqU_nil (fun w' hS => ?_)
        have HB2 := Lib.hid hS.1
        clear hS c17 f17
        rename World => W2
      go_upto_region 4 with fail
      have hO2 := HO.out.below HB2.out
      have HPD : Hid (∀ w', Below W2.heap.size W2 w' → Calls Tryz.prog 58 #[.pointer (some ⟨v.q.P, 0, none⟩), .int .i64 s.y] w' (PgPost base w' v.q (rowP s.pg s.y closeL))) := Lib.hid (fun w' hb => pPad_any (hO2.below hb).page s.y)
      obtain ⟨c14, -⟩ := at_ hO2.blk 14 (.pointer (some ⟨v.q.P, 0, none⟩)) rfl
      obtain ⟨c16, -⟩ := at_ hO2.blk 16 (.int .i64 s.y) rfl
      have HO2 := Lib.hid hO2
      clear hO2
      refine wp_region_u 8 (fun w' => Below W2.heap.size W2 w' ∧ w'.cell? ⟨v.S, 14, none⟩ = some (.pointer (some ⟨v.q.P, 0, none⟩)) ∧ w'.cell? ⟨v.S, 16, none⟩ = some (.int .i64 s.y)) (by kernel_rfl) (by kernel_rfl) ?_ ?_
      · exact ⟨(Below.refl _ _).drew, c14, c16⟩
      simp only [List.take_succ_cons, List.take_zero, List.drop_succ_cons, List.drop_zero]
      repeat (
        (first
         | refine seqU_skip (by rfl) ?_
         | (refine seqU_val ?_ (by rfl) ?_ ?_; rotate_left; (focus (intro w' hS; obtain ⟨_, _, _⟩ := hS; go_simp; first | done | with_reducible rfl))))
        simp only [Act.put, List.setIfInBounds_toArray, List.set_cons_zero, List.set_cons_succ])
      refine seqU_nil (fun w' hS => ?_)
      have HB3 := Lib.hid hS.1
      clear hS c14 c16
      rename World => W3
      go_upto_region 5 with (go_at_call 58; refine (HPD.out _ HB3.out).mono ?_; rintro e w4 ⟨rfl, hp⟩; have HP4 := Lib.hid hp; clear hp)
      have HR : Hid (ScRes base w v (padS s) w4) := Lib.hid (by
        have e : padS s = { s with pg := rowP s.pg s.y closeL } := by unfold padS colsS; rw [if_pos hxc]
        rw [e]
        exact ScRes.trans ⟨rfl, rfl, rfl, (Mod.of_below HB2.out).then_below HB3.out, fun b hb => .inl hb⟩ ((HO2.out.below HB3.out).paged HP4.out))
      clear HB1 HB2 HB3 HP4 HO2 HPD
      rename World => W4
      rotate_left
      have HR : Hid (ScRes base w v (padS s) W2) := Lib.hid (by
        have e : padS s = s := by unfold padS colsS; rw [if_neg (show ¬ s.x < (s.pg.cols : Int) by omega)]
        rw [e]
        exact HO.out.res_below HB2.out)
      clear HB1 HB2
      rename World => W4
      go_upto_region 5 with fail
      all_goals
        obtain ⟨v4, e1, e2, e3, hO4, hm4, hx4⟩ := HR.out
        obtain ⟨p1, -, p3, -⟩ := padS_same s
        have HF := Lib.hid (sFeed_any hO4 HI.out.pad (by rw [p3]; exact ht))
        rw [e1, HRR.out] at HF
        have HE := Lib.hid (show v4.S = v.S ∧ v4.T = v.T ∧ v4.q.P = v.q.P ∧ Mod (scX v) w W4 ∧ ∀ b ∈ scX v4, b ∈ scX v ∨ w.heap.size ≤ b from ⟨e1, e2, e3, hm4, hx4⟩)
        clear hO4 hm4 hx4 e1 e2 e3 HR
        go_upto_region 6 with (go_at_call 59; refine HF.out.mono ?_; rintro e w5 ⟨rfl, hs⟩; have HS5 := Lib.hid (ScRes.trans HE.out hs); clear hs)
        obtain ⟨v5, e1, e2, e3, hO5, hm5, hx5⟩ := HS5.out
        obtain ⟨c17, f17⟩ := at_ hO5.blk 17 (.int .i64 s5.x) rfl
        rw [e1] at c17 f17
        have HO6 := Lib.hid (hO5.put 17 (.int .i64 0) (s' := { s5 with x := 0 }) rfl rfl rfl)
        have HM6 := Lib.hid (hm5.trans (ScO.mod_put (v := v5) (w := w5) 17 (.int .i64 0)) hx5)
        rw [e1] at HO6 HM6
        have HE6 := Lib.hid (show v5.S = v.S ∧ v5.T = v.T ∧ v5.q.P = v.q.P ∧ ∀ b ∈ scX v5, b ∈ scX v ∨ w.heap.size ≤ b from ⟨e1, e2, e3, hx5⟩)
        clear hO5 hm5 hx5 e2 e3 HE HS5
        go_upto_region 7 with fail
        generalize World.setCell _ _ _ = W6 at HO6 HM6 ⊢
        clear c17 f17
        cases on with
        | false =>
          go_wp2
          go_end0
          exact ⟨rfl, v5, HE6.out.1, HE6.out.2.1, HE6.out.2.2.1, HO6.out, HM6.out, HE6.out.2.2.2⟩
        | true =>
          go_upto_region 8 with fail
          have HW : Hid (∀ w', Below W6.heap.size W6 w' → Calls Tryz.prog 60 #[.pointer (some ⟨v5.q.P, 0, none⟩), .int .i64 s5.y] w' (PgPost base w' v5.q (contP s5.pg s5.y true))) := Lib.hid (fun w' hb => pWrap_any (HO6.out.below hb).page s5.y)
          obtain ⟨c14, -⟩ := at_ HO6.out.blk 14 (.pointer (some ⟨v5.q.P, 0, none⟩)) rfl
          obtain ⟨c16, -⟩ := at_ HO6.out.blk 16 (.int .i64 s5.y) rfl
          rw [e1] at c14 c16
          refine wp_region_u 8 (fun w' => Below W6.heap.size W6 w' ∧ w'.cell? ⟨v.S, 14, none⟩ = some (.pointer (some ⟨v5.q.P, 0, none⟩)) ∧ w'.cell? ⟨v.S, 16, none⟩ = some (.int .i64 s5.y)) (by kernel_rfl) (by kernel_rfl) ?_ ?_
          · exact ⟨(Below.refl _ _).drew, c14, c16⟩
          simp only [List.take_succ_cons, List.take_zero, List.drop_succ_cons, List.drop_zero]
          repeat (
            (first
             | refine seqU_skip (by rfl) ?_
             | (refine seqU_val ?_ (by rfl) ?_ ?_; rotate_left; (focus (intro w' hS; obtain ⟨_, _, _⟩ := hS; go_simp; first | done | with_reducible rfl))))
            simp only [Act.put, List.setIfInBounds_toArray, List.set_cons_zero, List.set_cons_succ])
          refine seqU_nil (fun w' hS => ?_)
          have HB7 := Lib.hid hS.1
          clear hS c14 c16
          go_wp2_with (go_at_call 60; refine (HW.out _ HB7.out).mono ?_; rintro e w8 ⟨rfl, hp⟩; have HP8 := Lib.hid hp; clear hp)
          go_end0
          exact ⟨rfl, ScRes.trans ⟨HE6.out.1, HE6.out.2.1, HE6.out.2.2.1, HM6.out.then_below HB7.out, HE6.out.2.2.2⟩ ((HO6.out.below HB7.out).paged HP8.out)⟩
end
end Go.Proofs.YtjcpdcncfjkejaaGreat
