/- Joined by a tool of this claim out of smaller texts. Conditions: as stated. -/
import Derived.Test.YtffdblmdelgkaaaGreatKk12
import Derived.Shelf.SlSorted.Search
import Derived.Ground.SlsoProg
import Derived.Test.YtffdblmdelgkaaaGreatProg
namespace Go.Proofs.YtffdblmdelgkaaaGreat
open Go.RowKit
set_option maxRecDepth 100000 in
set_option maxHeartbeats 6400000 in
theorem does3_two {base : Nat} {w : World} {qp : Pv} {qd : Dv} {g gd : Pg} {rows cols room rows' cols' room' : Nat} (h : Both2 base w qp qd g gd) (hg : PgInv rows cols room g) (hgd : PgInv rows' cols' room' gd) (hrows : rows ≤ 1000) (hrows' : rows' ≤ 1000) (hroom : room ≤ 100000) (hroom' : room' ≤ 100000) (ht : g.told.length ≤ 900000) (ht' : gd.told.length ≤ 900000) (o : Pop) (ho : o.kind = 3) (hok : PopOk o) :
    Calls Tryz.prog 9 #[.pointer (some ⟨qp.P, 0, none⟩), .pointer (some ⟨qd.D, 0, none⟩), .agg #[.int .i64 o.kind, .int .i64 o.x, .int .i64 o.n, .int .i32 o.r, .int .i64 o.at_.fk, .int .i64 o.at_.fn, .int .i64 o.at_.bk, .int .i64 o.at_.bn, .int .i64 o.at_.fl, .int .i64 o.y, .int .i64 o.top, .int .i64 o.bottom]] w (DoesPost2 base w qp qd (stepP g o) (stepP gd o)) := by
  obtain ⟨kind, x, n, r, ⟨fk, fn, bk, bn, fl⟩, y, top, bottom⟩ := o
  simp only at ho
  subst ho
  obtain ⟨W, hW⟩ : ∃ W, (w.alloc (.cells (encPop ⟨3, x, n, r, ⟨fk, fn, bk, bn, fl⟩, y, top, bottom⟩).toArray 38)).alloc (.cells #[.int .i64 bk, .int .i64 bn] 32) = W := ⟨_, rfl⟩
  have hb0 : Below w.heap.size w W := by rw [← hW]; exact below_allocs (below_allocs (Below.refl _ _) _) _
  have HO0 : Hid (OpC W w.heap.size (w.heap.size + 1) ⟨3, x, n, r, ⟨fk, fn, bk, bn, fl⟩, y, top, bottom⟩) := Lib.hid (by rw [← hW]; exact OpC.new _)
  have HB := Lib.hid hb0
  have hB := h.below hb0
  have HB0 := Lib.hid hB
  have hXp : ∀ i, w.heap.size + i ∉ pgX qp := fun i hx => by have := (h.p.lt _ hx).2; omega
  have hr1 := hgd.hrows
  have hr2 := hgd.hroom
  have hr3 := hgd.hhist
  have hL : (dcOf gd).L.length ≤ 900000 := by show (gd.hist ++ gd.scr).length ≤ _; simp; omega
  have hbs : (dcOf gd).base ≤ (dcOf gd).L.length := by show gd.hist.length ≤ (gd.hist ++ gd.scr).length; simp
  have HIN := Lib.hid (rdIn_any hB.d (by omega) hbs y)
  rw [dcOf_in] at HIN
  have HX0 := Lib.hid (And.intro (hXp 0) (hXp 1))
  have HG1 : Hid (stepP g ⟨3, x, n, r, ⟨fk, fn, bk, bn, fl⟩, y, top, bottom⟩ = rowP g y (fun l => insertL l x n ⟨bk, bn⟩)) := Lib.hid (by unfold stepP; rw [if_neg (show ¬ (3 : Int) = 0 by decide)]; rw [if_neg (show ¬ (3 : Int) = 1 by decide)]; rw [if_neg (show ¬ (3 : Int) = 2 by decide)]; rw [if_pos rfl]; first | done | rfl)
  have HG1d : Hid (stepP gd ⟨3, x, n, r, ⟨fk, fn, bk, bn, fl⟩, y, top, bottom⟩ = rowP gd y (fun l => insertL l x n ⟨bk, bn⟩)) := Lib.hid (by unfold stepP; rw [if_neg (show ¬ (3 : Int) = 0 by decide)]; rw [if_neg (show ¬ (3 : Int) = 1 by decide)]; rw [if_neg (show ¬ (3 : Int) = 2 by decide)]; rw [if_pos rfl]; first | done | rfl)
  rw [HG1.out, HG1d.out]
  have HP : Hid (∀ w1, Below W.heap.size W w1 → Calls Tryz.prog 36 #[.pointer (some ⟨qp.P, 0, none⟩), .int .i64 y, .int .i64 x, .int .i64 n, .agg #[.int .i64 bk, .int .i64 bn]] w1 (PgPost base W qp (rowP g y (fun l => insertL l x n ⟨bk, bn⟩)))) := Lib.hid (fun w1 hb => (pInsert_any (hB.p.below hb) y x n ⟨bk, bn⟩).mono (fun e w2 hh => ⟨hh.1, hh.2.pre hb⟩))
  have HD1 := Lib.hid (dcOf_row gd y (fun l => insertL l x n ⟨bk, bn⟩))
  cases hin : inP gd y with
  | false =>
    rw [hin] at HIN
    have HE : Hid (rowP gd y (fun l => insertL l x n ⟨bk, bn⟩) = gd) := Lib.hid (by unfold rowP; rw [hin]; rfl)
    generalize rowP g y (fun l => insertL l x n ⟨bk, bn⟩) = g1 at HP ⊢
    rw [HE.out]
    clear h hB hg hgd HD1
    have HWW := Lib.hid hW
    clear hW hb0 hXp hbs
    go_enter Tryz.func9, Tryz.ntmps9
    go_upto_region 2 with fail
    rw [show (#[.int .i64 3, .int .i64 x, .int .i64 n, .int .i32 r, .int .i64 fk, .int .i64 fn, .int .i64 bk, .int .i64 bn, .int .i64 fl, .int .i64 y, .int .i64 top, .int .i64 bottom] : Array Value) = (encPop ⟨3, x, n, r, ⟨fk, fn, bk, bn, fl⟩, y, top, bottom⟩).toArray from rfl, HWW.out]
    clear HWW
    obtain ⟨c0, c1, c2, c3, c4, c5, c6, c7, c8, c9, c10, c11, k0, k1⟩ := HO0.out
    go_upto_region 3 with (go_at_call 28; (with_reducible refine HIN.out.mono ?_); rintro e w1 ⟨rfl, hb⟩; have HB1 := Lib.hid hb; have HO1 := Lib.hid (HO0.out.below hb); clear hb)
    clear c0 c1 c2 c3 c4 c5 c6 c7 c8 c9 c10 c11 k0 k1
    obtain ⟨c0, c1, c2, c3, c4, c5, c6, c7, c8, c9, c10, c11, k0, k1⟩ := HO1.out
  
    go_wp2_with (go_at_call 36; (with_reducible refine (HP.out _ HB1.out).mono ?_); rintro e w2 ⟨rfl, hs⟩; have HS2 := Lib.hid hs; clear hs c0 c1 c2 c3 c4 c5 c6 c7 c8 c9 c10 c11 k0 k1)
    go_end0
    exact ⟨rfl, (HB0.out.step HS2.out ((HB0.out.mid HS2.out).res)).pre HB.out⟩
  | true =>
    rw [hin] at HIN
    have hin2 : dcIn (dcOf gd) y = true := by rw [dcOf_in]; exact hin
    obtain ⟨k, r0, rfl, hr, -, -⟩ := dcIn_row hB.d hin2
    have HRC : Hid (∀ w2 g1, PgRes base W qp g1 w2 → _) := Lib.hid (fun w2 g1 hs => row_calls (hB.mid (g1 := g1) hs) hin2 hr (by omega))
    generalize rowP g (k : Int) (fun l => insertL l x n ⟨bk, bn⟩) = g1 at HP ⊢
    generalize rowP gd (k : Int) (fun l => insertL l x n ⟨bk, bn⟩) = gd1 at HD1 ⊢
    have HC2 := Lib.hid hg.hcols
    clear h hB hg hgd hin hr hin2
    have HWW := Lib.hid hW
    clear hW hb0 hXp hbs
    go_enter Tryz.func9, Tryz.ntmps9
    go_upto_region 2 with fail
    rw [show (#[.int .i64 3, .int .i64 x, .int .i64 n, .int .i32 r, .int .i64 fk, .int .i64 fn, .int .i64 bk, .int .i64 bn, .int .i64 fl, .int .i64 (k : Int), .int .i64 top, .int .i64 bottom] : Array Value) = (encPop ⟨3, x, n, r, ⟨fk, fn, bk, bn, fl⟩, (k : Int), top, bottom⟩).toArray from rfl, HWW.out]
    clear HWW
    obtain ⟨c0, c1, c2, c3, c4, c5, c6, c7, c8, c9, c10, c11, k0, k1⟩ := HO0.out
    go_upto_region 3 with (go_at_call 28; (with_reducible refine HIN.out.mono ?_); rintro e w1 ⟨rfl, hb⟩; have HB1 := Lib.hid hb; have HO1 := Lib.hid (HO0.out.below hb); clear hb)
    clear c0 c1 c2 c3 c4 c5 c6 c7 c8 c9 c10 c11 k0 k1
    obtain ⟨c0, c1, c2, c3, c4, c5, c6, c7, c8, c9, c10, c11, k0, k1⟩ := HO1.out
  
    go_upto_region 18 with (go_at_call 36; (with_reducible refine (HP.out _ HB1.out).mono ?_); rintro e w2 ⟨rfl, hs⟩; have HS2 := Lib.hid hs; have HO2 := Lib.hid (HO0.out.mod hs.modr HX0.out.1 HX0.out.2); clear hs c0 c1 c2 c3 c4 c5 c6 c7 c8 c9 c10 c11 k0 k1)
    obtain ⟨hof, hrc, hrl, hce⟩ := HRC.out w2 g1 HS2.out
    have HOF := Lib.hid hof
    have HRR := Lib.hid hrc
    have HRL := Lib.hid hrl
    have HCE := Lib.hid (hce (fun l => insertL l x n ⟨bk, bn⟩) (fun l => insertL_len _ _ _ _))
    clear hof hrc hrl hce
    have hO2 := HO2.out
    refine wp_region_n 15 (fun w' => Below w2.heap.size w2 w' ∧ OpC w' w.heap.size (w.heap.size + 1) ⟨3, x, n, r, ⟨fk, fn, bk, bn, fl⟩, k, top, bottom⟩) (by kernel_rfl) (by kernel_rfl) (fun w1 w2 hS hb => ⟨below_tail hS.1 hb, hS.2.below hb⟩) ⟨(Below.refl _ _).drew, (hO2 : OpC w2.drew _ _ _)⟩ ?_
    clear hO2
    refine AtN.take 0 (o := ⟨_, _, _, _, _, _⟩) (v := ?_) (by kernel_rfl) rfl (by simp) (by kernel_rfl) (by kernel_rfl) ?_ ?_; rotate_left
    · first | exact StabN.skip (by rfl) | (refine StabN.val (by rfl) ?_; intro w' hS; obtain ⟨_, _, _, _, _, _, _, _, _, _, _, _, _, _, _⟩ := hS; go_simp; first | done | with_reducible rfl)
    simp only [Act.put, List.setIfInBounds_toArray, List.set_cons_zero, List.set_cons_succ]
    refine AtN.take 1 (o := ⟨_, _, _, _, _, _⟩) (v := ?_) (by kernel_rfl) rfl (by simp) (by kernel_rfl) (by kernel_rfl) ?_ ?_; rotate_left
    · first | exact StabN.skip (by rfl) | (refine StabN.val (by rfl) ?_; intro w' hS; obtain ⟨_, _, _, _, _, _, _, _, _, _, _, _, _, _, _⟩ := hS; go_simp; first | done | with_reducible rfl)
    simp only [Act.put, List.setIfInBounds_toArray, List.set_cons_zero, List.set_cons_succ]
    refine AtN.take 2 (o := ⟨_, _, _, _, _, _⟩) (v := ?_) (by kernel_rfl) rfl (by simp) (by kernel_rfl) (by kernel_rfl) ?_ ?_; rotate_left
    · first | exact StabN.skip (by rfl) | (refine StabN.val (by rfl) ?_; intro w' hS; obtain ⟨_, _, _, _, _, _, _, _, _, _, _, _, _, _, _⟩ := hS; go_simp; first | done | with_reducible rfl)
    simp only [Act.put, List.setIfInBounds_toArray, List.set_cons_zero, List.set_cons_succ]
    refine AtN.take 3 (o := ⟨_, _, _, _, _, _⟩) (v := ?_) (by kernel_rfl) rfl (by simp) (by kernel_rfl) (by kernel_rfl) ?_ ?_; rotate_left
    · first | exact StabN.skip (by rfl) | (refine StabN.val (by rfl) ?_; intro w' hS; obtain ⟨_, _, _, _, _, _, _, _, _, _, _, _, _, _, _⟩ := hS; go_simp; first | done | with_reducible rfl)
    simp only [Act.put, List.setIfInBounds_toArray, List.set_cons_zero, List.set_cons_succ]
    refine AtN.take 4 (o := ⟨_, _, _, _, _, _⟩) (v := ?_) (by kernel_rfl) rfl (by simp) (by kernel_rfl) (by kernel_rfl) ?_ ?_; rotate_left
    · first | exact StabN.skip (by rfl) | (refine StabN.val (by rfl) ?_; intro w' hS; obtain ⟨_, _, _, _, _, _, _, _, _, _, _, _, _, _, _⟩ := hS; go_simp; first | done | with_reducible rfl)
    simp only [Act.put, List.setIfInBounds_toArray, List.set_cons_zero, List.set_cons_succ]
    refine AtN.take 5 (o := ⟨_, _, _, _, _, _⟩) (v := ?_) (by kernel_rfl) rfl (by simp) (by kernel_rfl) (by kernel_rfl) ?_ ?_; rotate_left
    · first | exact StabN.skip (by rfl) | (refine StabN.val (by rfl) ?_; intro w' hS; obtain ⟨_, _, _, _, _, _, _, _, _, _, _, _, _, _, _⟩ := hS; go_simp; first | done | with_reducible rfl)
    simp only [Act.put, List.setIfInBounds_toArray, List.set_cons_zero, List.set_cons_succ]
    refine AtN.take 6 (o := ⟨_, _, _, _, _, _⟩) (v := .slice r0.A r0.cs.length r0.cap) (by kernel_rfl) rfl (by simp) (by kernel_rfl) (by kernel_rfl) (StabN.call1 31 #[.pointer (some ⟨qd.D, 0, none⟩), .int .i64 k] (.slice r0.A r0.cs.length r0.cap) (by rfl) (by intro w'; go_simp; done) (fun w' hS => HOF.out _ hS.1)) ?_
    simp only [Act.put, List.setIfInBounds_toArray, List.set_cons_zero, List.set_cons_succ]
    refine AtN.take 7 (o := ⟨_, _, _, _, _, _⟩) (v := ?_) (by kernel_rfl) rfl (by simp) (by kernel_rfl) (by kernel_rfl) ?_ ?_; rotate_left
    · first | exact StabN.skip (by rfl) | (refine StabN.val (by rfl) ?_; intro w' hS; obtain ⟨_, _, _, _, _, _, _, _, _, _, _, _, _, _, _⟩ := hS; go_simp; first | done | with_reducible rfl)
    simp only [Act.put, List.setIfInBounds_toArray, List.set_cons_zero, List.set_cons_succ]
    refine AtN.take 8 (o := ⟨_, _, _, _, _, _⟩) (v := ?_) (by kernel_rfl) rfl (by simp) (by kernel_rfl) (by kernel_rfl) ?_ ?_; rotate_left
    · first | exact StabN.skip (by rfl) | (refine StabN.val (by rfl) ?_; intro w' hS; obtain ⟨_, _, _, _, _, _, _, _, _, _, _, _, _, _, _⟩ := hS; go_simp; first | done | with_reducible rfl)
    simp only [Act.put, List.setIfInBounds_toArray, List.set_cons_zero, List.set_cons_succ]
    refine AtN.take 9 (o := ⟨_, _, _, _, _, _⟩) (v := ?_) (by kernel_rfl) rfl (by simp) (by kernel_rfl) (by kernel_rfl) ?_ ?_; rotate_left
    · first | exact StabN.skip (by rfl) | (refine StabN.val (by rfl) ?_; intro w' hS; obtain ⟨_, _, _, _, _, _, _, _, _, _, _, _, _, _, _⟩ := hS; go_simp; first | done | with_reducible rfl)
    simp only [Act.put, List.setIfInBounds_toArray, List.set_cons_zero, List.set_cons_succ]
    refine AtN.take 10 (o := ⟨_, _, _, _, _, _⟩) (v := ?_) (by kernel_rfl) rfl (by simp) (by kernel_rfl) (by kernel_rfl) ?_ ?_; rotate_left
    · first | exact StabN.skip (by rfl) | (refine StabN.val (by rfl) ?_; intro w' hS; obtain ⟨_, _, _, _, _, _, _, _, _, _, _, _, _, _, _⟩ := hS; go_simp; first | done | with_reducible rfl)
    simp only [Act.put, List.setIfInBounds_toArray, List.set_cons_zero, List.set_cons_succ]
    refine AtN.take 11 (o := ⟨_, _, _, _, _, _⟩) (v := ?_) (by kernel_rfl) rfl (by simp) (by kernel_rfl) (by kernel_rfl) ?_ ?_; rotate_left
    · first | exact StabN.skip (by rfl) | (refine StabN.val (by rfl) ?_; intro w' hS; obtain ⟨_, _, _, _, _, _, _, _, _, _, _, _, _, _, _⟩ := hS; go_simp; first | done | with_reducible rfl)
    simp only [Act.put, List.setIfInBounds_toArray, List.set_cons_zero, List.set_cons_succ]
    refine AtN.take 12 (o := ⟨_, _, _, _, _, _⟩) (v := ?_) (by kernel_rfl) rfl (by simp) (by kernel_rfl) (by kernel_rfl) ?_ ?_; rotate_left
    · first | exact StabN.skip (by rfl) | (refine StabN.val (by rfl) ?_; intro w' hS; obtain ⟨_, _, _, _, _, _, _, _, _, _, _, _, _, _, _⟩ := hS; go_simp; first | done | with_reducible rfl)
    simp only [Act.put, List.setIfInBounds_toArray, List.set_cons_zero, List.set_cons_succ]
    refine AtN.take 13 (o := ⟨_, _, _, _, _, _⟩) (v := ?_) (by kernel_rfl) rfl (by simp) (by kernel_rfl) (by kernel_rfl) ?_ ?_; rotate_left
    · first | exact StabN.skip (by rfl) | (refine StabN.val (by rfl) ?_; intro w' hS; obtain ⟨_, _, _, _, _, _, _, _, _, _, _, _, _, _, _⟩ := hS; go_simp; first | done | with_reducible rfl)
    simp only [Act.put, List.setIfInBounds_toArray, List.set_cons_zero, List.set_cons_succ]
    refine AtN.one 14 (o := ⟨_, _, _, _, _, _⟩) (fun v => ∃ g cap, v = .slice (some ⟨g, 0, none⟩) r0.cs.length cap) (fun v w' => ∃ g cap, v = .slice (some ⟨g, 0, none⟩) r0.cs.length cap ∧ RcAt w' ⟨some ⟨g, 0, none⟩, (fun l => insertL l x n ⟨bk, bn⟩) r0.cs, cap, r0.cont⟩) (by simp) (by kernel_rfl) rfl (fun v w1 w2 ⟨g, cap, hv, hr⟩ hb => ⟨g, cap, hv, hr.below hb⟩) (StabN.call 37 #[.slice r0.A r0.cs.length r0.cap, .int .i64 x, .int .i64 n, .agg #[.int .i64 bk, .int .i64 bn]] _ _ (by rfl) ?_ (fun w' hS => ?_)) ?_
    · intro w'
      go_simp
    · have hrc := HRR.out w' hS.1
      have h0 : 0 < r0.cs.length := by rw [HRL.out]; have := HB0.out.d.cols2; omega
      refine (rInsert_any r0.A r0.cs r0.cap x n ⟨bk, bn⟩ w' hrc.2.2.1 h0 hrc.1).mono ?_
      rintro e w3 ⟨g1, cap, rfl, hc, hb⟩
      have hlen : (insertL r0.cs x n ⟨bk, bn⟩).length = r0.cs.length := insertL_len _ _ _ _
      rw [hlen]
      exact ⟨_, rfl, ⟨⟨g1, cap, rfl⟩, g1, cap, rfl, .of_own hc (by rw [hlen]; exact hrc.1) (hrc.2.1.insert _ _ _) _⟩, hb⟩
    rintro v ⟨g5, cap, rfl⟩
    simp only [Act.put, List.setIfInBounds_toArray, List.set_cons_zero, List.set_cons_succ]
    refine AtN.done (by kernel_rfl) (fun w' hS => ?_)
    obtain ⟨⟨hb1, -⟩, g1', cap', hv', hrc'⟩ := hS
    simp only [Value.slice.injEq, Option.some.injEq, Addr.mk.injEq, and_true, true_and] at hv'
    obtain ⟨rfl, rfl⟩ := hv'
    have HCE2 := Lib.hid (HCE.out w' g5 cap hb1 hrc')
    rw [HD1.out] at HCE2
    clear hb1 hrc'
    go_wp2_with (go_at_call 29; (with_reducible refine HCE2.out.mono ?_); rintro e w4 ⟨rfl, hs⟩; have HS4 := Lib.hid hs; clear hs)
    go_end0
    exact ⟨rfl, (HB0.out.step HS2.out HS4.out).pre HB.out⟩
set_option maxRecDepth 100000 in
set_option maxHeartbeats 6400000 in
theorem does4_two {base : Nat} {w : World} {qp : Pv} {qd : Dv} {g gd : Pg} {rows cols room rows' cols' room' : Nat} (h : Both2 base w qp qd g gd) (hg : PgInv rows cols room g) (hgd : PgInv rows' cols' room' gd) (hrows : rows ≤ 1000) (hrows' : rows' ≤ 1000) (hroom : room ≤ 100000) (hroom' : room' ≤ 100000) (ht : g.told.length ≤ 900000) (ht' : gd.told.length ≤ 900000) (o : Pop) (ho : o.kind = 4) (hok : PopOk o) :
    Calls Tryz.prog 9 #[.pointer (some ⟨qp.P, 0, none⟩), .pointer (some ⟨qd.D, 0, none⟩), .agg #[.int .i64 o.kind, .int .i64 o.x, .int .i64 o.n, .int .i32 o.r, .int .i64 o.at_.fk, .int .i64 o.at_.fn, .int .i64 o.at_.bk, .int .i64 o.at_.bn, .int .i64 o.at_.fl, .int .i64 o.y, .int .i64 o.top, .int .i64 o.bottom]] w (DoesPost2 base w qp qd (stepP g o) (stepP gd o)) := by
  obtain ⟨kind, x, n, r, ⟨fk, fn, bk, bn, fl⟩, y, top, bottom⟩ := o
  simp only at ho
  subst ho
  obtain ⟨W, hW⟩ : ∃ W, (w.alloc (.cells (encPop ⟨4, x, n, r, ⟨fk, fn, bk, bn, fl⟩, y, top, bottom⟩).toArray 38)).alloc (.cells #[.int .i64 bk, .int .i64 bn] 32) = W := ⟨_, rfl⟩
  have hb0 : Below w.heap.size w W := by rw [← hW]; exact below_allocs (below_allocs (Below.refl _ _) _) _
  have HO0 : Hid (OpC W w.heap.size (w.heap.size + 1) ⟨4, x, n, r, ⟨fk, fn, bk, bn, fl⟩, y, top, bottom⟩) := Lib.hid (by rw [← hW]; exact OpC.new _)
  have HB := Lib.hid hb0
  have hB := h.below hb0
  have HB0 := Lib.hid hB
  have hXp : ∀ i, w.heap.size + i ∉ pgX qp := fun i hx => by have := (h.p.lt _ hx).2; omega
  have hr1 := hgd.hrows
  have hr2 := hgd.hroom
  have hr3 := hgd.hhist
  have hL : (dcOf gd).L.length ≤ 900000 := by show (gd.hist ++ gd.scr).length ≤ _; simp; omega
  have hbs : (dcOf gd).base ≤ (dcOf gd).L.length := by show gd.hist.length ≤ (gd.hist ++ gd.scr).length; simp
  have HIN := Lib.hid (rdIn_any hB.d (by omega) hbs y)
  rw [dcOf_in] at HIN
  have HX0 := Lib.hid (And.intro (hXp 0) (hXp 1))
  have HG1 : Hid (stepP g ⟨4, x, n, r, ⟨fk, fn, bk, bn, fl⟩, y, top, bottom⟩ = rowP g y (fun l => deleteL l x n ⟨bk, bn⟩)) := Lib.hid (by unfold stepP; rw [if_neg (show ¬ (4 : Int) = 0 by decide)]; rw [if_neg (show ¬ (4 : Int) = 1 by decide)]; rw [if_neg (show ¬ (4 : Int) = 2 by decide)]; rw [if_neg (show ¬ (4 : Int) = 3 by decide)]; rw [if_pos rfl]; first | done | rfl)
  have HG1d : Hid (stepP gd ⟨4, x, n, r, ⟨fk, fn, bk, bn, fl⟩, y, top, bottom⟩ = rowP gd y (fun l => deleteL l x n ⟨bk, bn⟩)) := Lib.hid (by unfold stepP; rw [if_neg (show ¬ (4 : Int) = 0 by decide)]; rw [if_neg (show ¬ (4 : Int) = 1 by decide)]; rw [if_neg (show ¬ (4 : Int) = 2 by decide)]; rw [if_neg (show ¬ (4 : Int) = 3 by decide)]; rw [if_pos rfl]; first | done | rfl)
  rw [HG1.out, HG1d.out]
  have HP : Hid (∀ w1, Below W.heap.size W w1 → Calls Tryz.prog 38 #[.pointer (some ⟨qp.P, 0, none⟩), .int .i64 y, .int .i64 x, .int .i64 n, .agg #[.int .i64 bk, .int .i64 bn]] w1 (PgPost base W qp (rowP g y (fun l => deleteL l x n ⟨bk, bn⟩)))) := Lib.hid (fun w1 hb => (pDelete_any (hB.p.below hb) y x n ⟨bk, bn⟩).mono (fun e w2 hh => ⟨hh.1, hh.2.pre hb⟩))
  have HD1 := Lib.hid (dcOf_row gd y (fun l => deleteL l x n ⟨bk, bn⟩))
  cases hin : inP gd y with
  | false =>
    rw [hin] at HIN
    have HE : Hid (rowP gd y (fun l => deleteL l x n ⟨bk, bn⟩) = gd) := Lib.hid (by unfold rowP; rw [hin]; rfl)
    generalize rowP g y (fun l => deleteL l x n ⟨bk, bn⟩) = g1 at HP ⊢
    rw [HE.out]
    clear h hB hg hgd HD1
    have HWW := Lib.hid hW
    clear hW hb0 hXp hbs
    go_enter Tryz.func9, Tryz.ntmps9
    go_upto_region 2 with fail
    rw [show (#[.int .i64 4, .int .i64 x, .int .i64 n, .int .i32 r, .int .i64 fk, .int .i64 fn, .int .i64 bk, .int .i64 bn, .int .i64 fl, .int .i64 y, .int .i64 top, .int .i64 bottom] : Array Value) = (encPop ⟨4, x, n, r, ⟨fk, fn, bk, bn, fl⟩, y, top, bottom⟩).toArray from rfl, HWW.out]
    clear HWW
    obtain ⟨c0, c1, c2, c3, c4, c5, c6, c7, c8, c9, c10, c11, k0, k1⟩ := HO0.out
    go_upto_region 3 with (go_at_call 28; (with_reducible refine HIN.out.mono ?_); rintro e w1 ⟨rfl, hb⟩; have HB1 := Lib.hid hb; have HO1 := Lib.hid (HO0.out.below hb); clear hb)
    clear c0 c1 c2 c3 c4 c5 c6 c7 c8 c9 c10 c11 k0 k1
    obtain ⟨c0, c1, c2, c3, c4, c5, c6, c7, c8, c9, c10, c11, k0, k1⟩ := HO1.out
  
    go_wp2_with (go_at_call 38; (with_reducible refine (HP.out _ HB1.out).mono ?_); rintro e w2 ⟨rfl, hs⟩; have HS2 := Lib.hid hs; clear hs c0 c1 c2 c3 c4 c5 c6 c7 c8 c9 c10 c11 k0 k1)
    go_end0
    exact ⟨rfl, (HB0.out.step HS2.out ((HB0.out.mid HS2.out).res)).pre HB.out⟩
  | true =>
    rw [hin] at HIN
    have hin2 : dcIn (dcOf gd) y = true := by rw [dcOf_in]; exact hin
    obtain ⟨k, r0, rfl, hr, -, -⟩ := dcIn_row hB.d hin2
    have HRC : Hid (∀ w2 g1, PgRes base W qp g1 w2 → _) := Lib.hid (fun w2 g1 hs => row_calls (hB.mid (g1 := g1) hs) hin2 hr (by omega))
    generalize rowP g (k : Int) (fun l => deleteL l x n ⟨bk, bn⟩) = g1 at HP ⊢
    generalize rowP gd (k : Int) (fun l => deleteL l x n ⟨bk, bn⟩) = gd1 at HD1 ⊢
    have HC2 := Lib.hid hg.hcols
    clear h hB hg hgd hin hr hin2
    have HWW := Lib.hid hW
    clear hW hb0 hXp hbs
    go_enter Tryz.func9, Tryz.ntmps9
    go_upto_region 2 with fail
    rw [show (#[.int .i64 4, .int .i64 x, .int .i64 n, .int .i32 r, .int .i64 fk, .int .i64 fn, .int .i64 bk, .int .i64 bn, .int .i64 fl, .int .i64 (k : Int), .int .i64 top, .int .i64 bottom] : Array Value) = (encPop ⟨4, x, n, r, ⟨fk, fn, bk, bn, fl⟩, (k : Int), top, bottom⟩).toArray from rfl, HWW.out]
    clear HWW
    obtain ⟨c0, c1, c2, c3, c4, c5, c6, c7, c8, c9, c10, c11, k0, k1⟩ := HO0.out
    go_upto_region 3 with (go_at_call 28; (with_reducible refine HIN.out.mono ?_); rintro e w1 ⟨rfl, hb⟩; have HB1 := Lib.hid hb; have HO1 := Lib.hid (HO0.out.below hb); clear hb)
    clear c0 c1 c2 c3 c4 c5 c6 c7 c8 c9 c10 c11 k0 k1
    obtain ⟨c0, c1, c2, c3, c4, c5, c6, c7, c8, c9, c10, c11, k0, k1⟩ := HO1.out
  
    go_upto_region 22 with (go_at_call 38; (with_reducible refine (HP.out _ HB1.out).mono ?_); rintro e w2 ⟨rfl, hs⟩; have HS2 := Lib.hid hs; have HO2 := Lib.hid (HO0.out.mod hs.modr HX0.out.1 HX0.out.2); clear hs c0 c1 c2 c3 c4 c5 c6 c7 c8 c9 c10 c11 k0 k1)
    obtain ⟨hof, hrc, hrl, hce⟩ := HRC.out w2 g1 HS2.out
    have HOF := Lib.hid hof
    have HRR := Lib.hid hrc
    have HRL := Lib.hid hrl
    have HCE := Lib.hid (hce (fun l => deleteL l x n ⟨bk, bn⟩) (fun l => deleteL_len _ _ _ _))
    clear hof hrc hrl hce
    have hO2 := HO2.out
    refine wp_region_n 15 (fun w' => Below w2.heap.size w2 w' ∧ OpC w' w.heap.size (w.heap.size + 1) ⟨4, x, n, r, ⟨fk, fn, bk, bn, fl⟩, k, top, bottom⟩) (by kernel_rfl) (by kernel_rfl) (fun w1 w2 hS hb => ⟨below_tail hS.1 hb, hS.2.below hb⟩) ⟨(Below.refl _ _).drew, (hO2 : OpC w2.drew _ _ _)⟩ ?_
    clear hO2
    refine AtN.take 0 (o := ⟨_, _, _, _, _, _⟩) (v := ?_) (by kernel_rfl) rfl (by simp) (by kernel_rfl) (by kernel_rfl) ?_ ?_; rotate_left
    · first | exact StabN.skip (by rfl) | (refine StabN.val (by rfl) ?_; intro w' hS; obtain ⟨_, _, _, _, _, _, _, _, _, _, _, _, _, _, _⟩ := hS; go_simp; first | done | with_reducible rfl)
    simp only [Act.put, List.setIfInBounds_toArray, List.set_cons_zero, List.set_cons_succ]
    refine AtN.take 1 (o := ⟨_, _, _, _, _, _⟩) (v := ?_) (by kernel_rfl) rfl (by simp) (by kernel_rfl) (by kernel_rfl) ?_ ?_; rotate_left
    · first | exact StabN.skip (by rfl) | (refine StabN.val (by rfl) ?_; intro w' hS; obtain ⟨_, _, _, _, _, _, _, _, _, _, _, _, _, _, _⟩ := hS; go_simp; first | done | with_reducible rfl)
    simp only [Act.put, List.setIfInBounds_toArray, List.set_cons_zero, List.set_cons_succ]
    refine AtN.take 2 (o := ⟨_, _, _, _, _, _⟩) (v := ?_) (by kernel_rfl) rfl (by simp) (by kernel_rfl) (by kernel_rfl) ?_ ?_; rotate_left
    · first | exact StabN.skip (by rfl) | (refine StabN.val (by rfl) ?_; intro w' hS; obtain ⟨_, _, _, _, _, _, _, _, _, _, _, _, _, _, _⟩ := hS; go_simp; first | done | with_reducible rfl)
    simp only [Act.put, List.setIfInBounds_toArray, List.set_cons_zero, List.set_cons_succ]
    refine AtN.take 3 (o := ⟨_, _, _, _, _, _⟩) (v := ?_) (by kernel_rfl) rfl (by simp) (by kernel_rfl) (by kernel_rfl) ?_ ?_; rotate_left
    · first | exact StabN.skip (by rfl) | (refine StabN.val (by rfl) ?_; intro w' hS; obtain ⟨_, _, _, _, _, _, _, _, _, _, _, _, _, _, _⟩ := hS; go_simp; first | done | with_reducible rfl)
    simp only [Act.put, List.setIfInBounds_toArray, List.set_cons_zero, List.set_cons_succ]
    refine AtN.take 4 (o := ⟨_, _, _, _, _, _⟩) (v := ?_) (by kernel_rfl) rfl (by simp) (by kernel_rfl) (by kernel_rfl) ?_ ?_; rotate_left
    · first | exact StabN.skip (by rfl) | (refine StabN.val (by rfl) ?_; intro w' hS; obtain ⟨_, _, _, _, _, _, _, _, _, _, _, _, _, _, _⟩ := hS; go_simp; first | done | with_reducible rfl)
    simp only [Act.put, List.setIfInBounds_toArray, List.set_cons_zero, List.set_cons_succ]
    refine AtN.take 5 (o := ⟨_, _, _, _, _, _⟩) (v := ?_) (by kernel_rfl) rfl (by simp) (by kernel_rfl) (by kernel_rfl) ?_ ?_; rotate_left
    · first | exact StabN.skip (by rfl) | (refine StabN.val (by rfl) ?_; intro w' hS; obtain ⟨_, _, _, _, _, _, _, _, _, _, _, _, _, _, _⟩ := hS; go_simp; first | done | with_reducible rfl)
    simp only [Act.put, List.setIfInBounds_toArray, List.set_cons_zero, List.set_cons_succ]
    refine AtN.take 6 (o := ⟨_, _, _, _, _, _⟩) (v := .slice r0.A r0.cs.length r0.cap) (by kernel_rfl) rfl (by simp) (by kernel_rfl) (by kernel_rfl) (StabN.call1 31 #[.pointer (some ⟨qd.D, 0, none⟩), .int .i64 k] (.slice r0.A r0.cs.length r0.cap) (by rfl) (by intro w'; go_simp; done) (fun w' hS => HOF.out _ hS.1)) ?_
    simp only [Act.put, List.setIfInBounds_toArray, List.set_cons_zero, List.set_cons_succ]
    refine AtN.take 7 (o := ⟨_, _, _, _, _, _⟩) (v := ?_) (by kernel_rfl) rfl (by simp) (by kernel_rfl) (by kernel_rfl) ?_ ?_; rotate_left
    · first | exact StabN.skip (by rfl) | (refine StabN.val (by rfl) ?_; intro w' hS; obtain ⟨_, _, _, _, _, _, _, _, _, _, _, _, _, _, _⟩ := hS; go_simp; first | done | with_reducible rfl)
    simp only [Act.put, List.setIfInBounds_toArray, List.set_cons_zero, List.set_cons_succ]
    refine AtN.take 8 (o := ⟨_, _, _, _, _, _⟩) (v := ?_) (by kernel_rfl) rfl (by simp) (by kernel_rfl) (by kernel_rfl) ?_ ?_; rotate_left
    · first | exact StabN.skip (by rfl) | (refine StabN.val (by rfl) ?_; intro w' hS; obtain ⟨_, _, _, _, _, _, _, _, _, _, _, _, _, _, _⟩ := hS; go_simp; first | done | with_reducible rfl)
    simp only [Act.put, List.setIfInBounds_toArray, List.set_cons_zero, List.set_cons_succ]
    refine AtN.take 9 (o := ⟨_, _, _, _, _, _⟩) (v := ?_) (by kernel_rfl) rfl (by simp) (by kernel_rfl) (by kernel_rfl) ?_ ?_; rotate_left
    · first | exact StabN.skip (by rfl) | (refine StabN.val (by rfl) ?_; intro w' hS; obtain ⟨_, _, _, _, _, _, _, _, _, _, _, _, _, _, _⟩ := hS; go_simp; first | done | with_reducible rfl)
    simp only [Act.put, List.setIfInBounds_toArray, List.set_cons_zero, List.set_cons_succ]
    refine AtN.take 10 (o := ⟨_, _, _, _, _, _⟩) (v := ?_) (by kernel_rfl) rfl (by simp) (by kernel_rfl) (by kernel_rfl) ?_ ?_; rotate_left
    · first | exact StabN.skip (by rfl) | (refine StabN.val (by rfl) ?_; intro w' hS; obtain ⟨_, _, _, _, _, _, _, _, _, _, _, _, _, _, _⟩ := hS; go_simp; first | done | with_reducible rfl)
    simp only [Act.put, List.setIfInBounds_toArray, List.set_cons_zero, List.set_cons_succ]
    refine AtN.take 11 (o := ⟨_, _, _, _, _, _⟩) (v := ?_) (by kernel_rfl) rfl (by simp) (by kernel_rfl) (by kernel_rfl) ?_ ?_; rotate_left
    · first | exact StabN.skip (by rfl) | (refine StabN.val (by rfl) ?_; intro w' hS; obtain ⟨_, _, _, _, _, _, _, _, _, _, _, _, _, _, _⟩ := hS; go_simp; first | done | with_reducible rfl)
    simp only [Act.put, List.setIfInBounds_toArray, List.set_cons_zero, List.set_cons_succ]
    refine AtN.take 12 (o := ⟨_, _, _, _, _, _⟩) (v := ?_) (by kernel_rfl) rfl (by simp) (by kernel_rfl) (by kernel_rfl) ?_ ?_; rotate_left
    · first | exact StabN.skip (by rfl) | (refine StabN.val (by rfl) ?_; intro w' hS; obtain ⟨_, _, _, _, _, _, _, _, _, _, _, _, _, _, _⟩ := hS; go_simp; first | done | with_reducible rfl)
    simp only [Act.put, List.setIfInBounds_toArray, List.set_cons_zero, List.set_cons_succ]
    refine AtN.take 13 (o := ⟨_, _, _, _, _, _⟩) (v := ?_) (by kernel_rfl) rfl (by simp) (by kernel_rfl) (by kernel_rfl) ?_ ?_; rotate_left
    · first | exact StabN.skip (by rfl) | (refine StabN.val (by rfl) ?_; intro w' hS; obtain ⟨_, _, _, _, _, _, _, _, _, _, _, _, _, _, _⟩ := hS; go_simp; first | done | with_reducible rfl)
    simp only [Act.put, List.setIfInBounds_toArray, List.set_cons_zero, List.set_cons_succ]
    refine AtN.one 14 (o := ⟨_, _, _, _, _, _⟩) (fun v => ∃ g cap, v = .slice (some ⟨g, 0, none⟩) r0.cs.length cap) (fun v w' => ∃ g cap, v = .slice (some ⟨g, 0, none⟩) r0.cs.length cap ∧ RcAt w' ⟨some ⟨g, 0, none⟩, (fun l => deleteL l x n ⟨bk, bn⟩) r0.cs, cap, r0.cont⟩) (by simp) (by kernel_rfl) rfl (fun v w1 w2 ⟨g, cap, hv, hr⟩ hb => ⟨g, cap, hv, hr.below hb⟩) (StabN.call 39 #[.slice r0.A r0.cs.length r0.cap, .int .i64 x, .int .i64 n, .agg #[.int .i64 bk, .int .i64 bn]] _ _ (by rfl) ?_ (fun w' hS => ?_)) ?_
    · intro w'
      go_simp
    · have hrc := HRR.out w' hS.1
      have h0 : 0 < r0.cs.length := by rw [HRL.out]; have := HB0.out.d.cols2; omega
      refine (rDelete_any r0.A r0.cs r0.cap x n ⟨bk, bn⟩ w' hrc.2.2.1 h0 hrc.1).mono ?_
      rintro e w3 ⟨g1, cap, rfl, hc, hb⟩
      have hlen : (deleteL r0.cs x n ⟨bk, bn⟩).length = r0.cs.length := deleteL_len _ _ _ _
      rw [hlen]
      exact ⟨_, rfl, ⟨⟨g1, cap, rfl⟩, g1, cap, rfl, .of_own hc (by rw [hlen]; exact hrc.1) (hrc.2.1.delete _ _ _) _⟩, hb⟩
    rintro v ⟨g5, cap, rfl⟩
    simp only [Act.put, List.setIfInBounds_toArray, List.set_cons_zero, List.set_cons_succ]
    refine AtN.done (by kernel_rfl) (fun w' hS => ?_)
    obtain ⟨⟨hb1, -⟩, g1', cap', hv', hrc'⟩ := hS
    simp only [Value.slice.injEq, Option.some.injEq, Addr.mk.injEq, and_true, true_and] at hv'
    obtain ⟨rfl, rfl⟩ := hv'
    have HCE2 := Lib.hid (HCE.out w' g5 cap hb1 hrc')
    rw [HD1.out] at HCE2
    clear hb1 hrc'
    go_wp2_with (go_at_call 29; (with_reducible refine HCE2.out.mono ?_); rintro e w4 ⟨rfl, hs⟩; have HS4 := Lib.hid hs; clear hs)
    go_end0
    exact ⟨rfl, (HB0.out.step HS2.out HS4.out).pre HB.out⟩
set_option maxRecDepth 100000 in
set_option maxHeartbeats 6400000 in
theorem does9_two {base : Nat} {w : World} {qp : Pv} {qd : Dv} {g gd : Pg} {rows cols room rows' cols' room' : Nat} (h : Both2 base w qp qd g gd) (hg : PgInv rows cols room g) (hgd : PgInv rows' cols' room' gd) (hrows : rows ≤ 1000) (hrows' : rows' ≤ 1000) (hroom : room ≤ 100000) (hroom' : room' ≤ 100000) (ht : g.told.length ≤ 900000) (ht' : gd.told.length ≤ 900000) (o : Pop) (ho : o.kind = 9) (hok : PopOk o) :
    Calls Tryz.prog 9 #[.pointer (some ⟨qp.P, 0, none⟩), .pointer (some ⟨qd.D, 0, none⟩), .agg #[.int .i64 o.kind, .int .i64 o.x, .int .i64 o.n, .int .i32 o.r, .int .i64 o.at_.fk, .int .i64 o.at_.fn, .int .i64 o.at_.bk, .int .i64 o.at_.bn, .int .i64 o.at_.fl, .int .i64 o.y, .int .i64 o.top, .int .i64 o.bottom]] w (DoesPost2 base w qp qd (stepP g o) (stepP gd o)) := by
  obtain ⟨kind, x, n, r, ⟨fk, fn, bk, bn, fl⟩, y, top, bottom⟩ := o
  simp only at ho
  subst ho
  obtain ⟨W, hW⟩ : ∃ W, (w.alloc (.cells (encPop ⟨9, x, n, r, ⟨fk, fn, bk, bn, fl⟩, y, top, bottom⟩).toArray 38)).alloc (.cells #[.int .i64 bk, .int .i64 bn] 32) = W := ⟨_, rfl⟩
  have hb0 : Below w.heap.size w W := by rw [← hW]; exact below_allocs (below_allocs (Below.refl _ _) _) _
  have HO0 : Hid (OpC W w.heap.size (w.heap.size + 1) ⟨9, x, n, r, ⟨fk, fn, bk, bn, fl⟩, y, top, bottom⟩) := Lib.hid (by rw [← hW]; exact OpC.new _)
  have HB := Lib.hid hb0
  have hB := h.below hb0
  have HB0 := Lib.hid hB
  have hXp : ∀ i, w.heap.size + i ∉ pgX qp := fun i hx => by have := (h.p.lt _ hx).2; omega
  have hr1 := hgd.hrows
  have hr2 := hgd.hroom
  have hr3 := hgd.hhist
  have hL : (dcOf gd).L.length ≤ 900000 := by show (gd.hist ++ gd.scr).length ≤ _; simp; omega
  have hbs : (dcOf gd).base ≤ (dcOf gd).L.length := by show gd.hist.length ≤ (gd.hist ++ gd.scr).length; simp
  have HIN := Lib.hid (rdIn_any hB.d (by omega) hbs y)
  rw [dcOf_in] at HIN
  have HX0 := Lib.hid (And.intro (hXp 0) (hXp 1))
  have HG1 : Hid (stepP g ⟨9, x, n, r, ⟨fk, fn, bk, bn, fl⟩, y, top, bottom⟩ = rowP g y (fun l => closeL l)) := Lib.hid (by unfold stepP; rw [if_neg (show ¬ (9 : Int) = 0 by decide)]; rw [if_neg (show ¬ (9 : Int) = 1 by decide)]; rw [if_neg (show ¬ (9 : Int) = 2 by decide)]; rw [if_neg (show ¬ (9 : Int) = 3 by decide)]; rw [if_neg (show ¬ (9 : Int) = 4 by decide)]; rw [if_neg (show ¬ (9 : Int) = 5 by decide)]; rw [if_neg (show ¬ (9 : Int) = 6 by decide)]; rw [if_neg (show ¬ (9 : Int) = 7 by decide)]; rw [if_neg (show ¬ (9 : Int) = 8 by decide)]; rw [if_pos rfl]; first | done | rfl)
  have HG1d : Hid (stepP gd ⟨9, x, n, r, ⟨fk, fn, bk, bn, fl⟩, y, top, bottom⟩ = rowP gd y (fun l => closeL l)) := Lib.hid (by unfold stepP; rw [if_neg (show ¬ (9 : Int) = 0 by decide)]; rw [if_neg (show ¬ (9 : Int) = 1 by decide)]; rw [if_neg (show ¬ (9 : Int) = 2 by decide)]; rw [if_neg (show ¬ (9 : Int) = 3 by decide)]; rw [if_neg (show ¬ (9 : Int) = 4 by decide)]; rw [if_neg (show ¬ (9 : Int) = 5 by decide)]; rw [if_neg (show ¬ (9 : Int) = 6 by decide)]; rw [if_neg (show ¬ (9 : Int) = 7 by decide)]; rw [if_neg (show ¬ (9 : Int) = 8 by decide)]; rw [if_pos rfl]; first | done | rfl)
  rw [HG1.out, HG1d.out]
  have HP : Hid (∀ w1, Below W.heap.size W w1 → Calls Tryz.prog 45 #[.pointer (some ⟨qp.P, 0, none⟩), .int .i64 y] w1 (PgPost base W qp (rowP g y (fun l => closeL l)))) := Lib.hid (fun w1 hb => (pPad_any (hB.p.below hb) y).mono (fun e w2 hh => ⟨hh.1, hh.2.pre hb⟩))
  have HD1 := Lib.hid (dcOf_row gd y (fun l => closeL l))
  cases hin : inP gd y with
  | false =>
    rw [hin] at HIN
    have HE : Hid (rowP gd y (fun l => closeL l) = gd) := Lib.hid (by unfold rowP; rw [hin]; rfl)
    generalize rowP g y (fun l => closeL l) = g1 at HP ⊢
    rw [HE.out]
    clear h hB hg hgd HD1
    have HWW := Lib.hid hW
    clear hW hb0 hXp hbs
    go_enter Tryz.func9, Tryz.ntmps9
    go_upto_region 2 with fail
    rw [show (#[.int .i64 9, .int .i64 x, .int .i64 n, .int .i32 r, .int .i64 fk, .int .i64 fn, .int .i64 bk, .int .i64 bn, .int .i64 fl, .int .i64 y, .int .i64 top, .int .i64 bottom] : Array Value) = (encPop ⟨9, x, n, r, ⟨fk, fn, bk, bn, fl⟩, y, top, bottom⟩).toArray from rfl, HWW.out]
    clear HWW
    obtain ⟨c0, c1, c2, c3, c4, c5, c6, c7, c8, c9, c10, c11, k0, k1⟩ := HO0.out
    go_upto_region 3 with (go_at_call 28; (with_reducible refine HIN.out.mono ?_); rintro e w1 ⟨rfl, hb⟩; have HB1 := Lib.hid hb; have HO1 := Lib.hid (HO0.out.below hb); clear hb)
    clear c0 c1 c2 c3 c4 c5 c6 c7 c8 c9 c10 c11 k0 k1
    obtain ⟨c0, c1, c2, c3, c4, c5, c6, c7, c8, c9, c10, c11, k0, k1⟩ := HO1.out
  
    go_wp2_with (go_at_call 45; (with_reducible refine (HP.out _ HB1.out).mono ?_); rintro e w2 ⟨rfl, hs⟩; have HS2 := Lib.hid hs; clear hs c0 c1 c2 c3 c4 c5 c6 c7 c8 c9 c10 c11 k0 k1)
    go_end0
    exact ⟨rfl, (HB0.out.step HS2.out ((HB0.out.mid HS2.out).res)).pre HB.out⟩
  | true =>
    rw [hin] at HIN
    have hin2 : dcIn (dcOf gd) y = true := by rw [dcOf_in]; exact hin
    obtain ⟨k, r0, rfl, hr, -, -⟩ := dcIn_row hB.d hin2
    have HRC : Hid (∀ w2 g1, PgRes base W qp g1 w2 → _) := Lib.hid (fun w2 g1 hs => row_calls (hB.mid (g1 := g1) hs) hin2 hr (by omega))
    generalize rowP g (k : Int) (fun l => closeL l) = g1 at HP ⊢
    generalize rowP gd (k : Int) (fun l => closeL l) = gd1 at HD1 ⊢
    have HC2 := Lib.hid hg.hcols
    clear h hB hg hgd hin hr hin2
    have HWW := Lib.hid hW
    clear hW hb0 hXp hbs
    go_enter Tryz.func9, Tryz.ntmps9
    go_upto_region 2 with fail
    rw [show (#[.int .i64 9, .int .i64 x, .int .i64 n, .int .i32 r, .int .i64 fk, .int .i64 fn, .int .i64 bk, .int .i64 bn, .int .i64 fl, .int .i64 (k : Int), .int .i64 top, .int .i64 bottom] : Array Value) = (encPop ⟨9, x, n, r, ⟨fk, fn, bk, bn, fl⟩, (k : Int), top, bottom⟩).toArray from rfl, HWW.out]
    clear HWW
    obtain ⟨c0, c1, c2, c3, c4, c5, c6, c7, c8, c9, c10, c11, k0, k1⟩ := HO0.out
    go_upto_region 3 with (go_at_call 28; (with_reducible refine HIN.out.mono ?_); rintro e w1 ⟨rfl, hb⟩; have HB1 := Lib.hid hb; have HO1 := Lib.hid (HO0.out.below hb); clear hb)
    clear c0 c1 c2 c3 c4 c5 c6 c7 c8 c9 c10 c11 k0 k1
    obtain ⟨c0, c1, c2, c3, c4, c5, c6, c7, c8, c9, c10, c11, k0, k1⟩ := HO1.out
  
    go_upto_region 39 with (go_at_call 45; (with_reducible refine (HP.out _ HB1.out).mono ?_); rintro e w2 ⟨rfl, hs⟩; have HS2 := Lib.hid hs; have HO2 := Lib.hid (HO0.out.mod hs.modr HX0.out.1 HX0.out.2); clear hs c0 c1 c2 c3 c4 c5 c6 c7 c8 c9 c10 c11 k0 k1)
    obtain ⟨hof, hrc, hrl, hce⟩ := HRC.out w2 g1 HS2.out
    have HOF := Lib.hid hof
    have HRR := Lib.hid hrc
    have HRL := Lib.hid hrl
    have HCE := Lib.hid (hce (fun l => closeL l) (fun l => closeL_len _))
    clear hof hrc hrl hce
    have hO2 := HO2.out
    refine wp_region_n 8 (fun w' => Below w2.heap.size w2 w' ∧ OpC w' w.heap.size (w.heap.size + 1) ⟨9, x, n, r, ⟨fk, fn, bk, bn, fl⟩, k, top, bottom⟩) (by kernel_rfl) (by kernel_rfl) (fun w1 w2 hS hb => ⟨below_tail hS.1 hb, hS.2.below hb⟩) ⟨(Below.refl _ _).drew, (hO2 : OpC w2.drew _ _ _)⟩ ?_
    clear hO2
    refine AtN.take 0 (o := ⟨_, _, _, _, _, _⟩) (v := ?_) (by kernel_rfl) rfl (by simp) (by kernel_rfl) (by kernel_rfl) ?_ ?_; rotate_left
    · first | exact StabN.skip (by rfl) | (refine StabN.val (by rfl) ?_; intro w' hS; obtain ⟨_, _, _, _, _, _, _, _, _, _, _, _, _, _, _⟩ := hS; go_simp; first | done | with_reducible rfl)
    simp only [Act.put, List.setIfInBounds_toArray, List.set_cons_zero, List.set_cons_succ]
    refine AtN.take 1 (o := ⟨_, _, _, _, _, _⟩) (v := ?_) (by kernel_rfl) rfl (by simp) (by kernel_rfl) (by kernel_rfl) ?_ ?_; rotate_left
    · first | exact StabN.skip (by rfl) | (refine StabN.val (by rfl) ?_; intro w' hS; obtain ⟨_, _, _, _, _, _, _, _, _, _, _, _, _, _, _⟩ := hS; go_simp; first | done | with_reducible rfl)
    simp only [Act.put, List.setIfInBounds_toArray, List.set_cons_zero, List.set_cons_succ]
    refine AtN.take 2 (o := ⟨_, _, _, _, _, _⟩) (v := ?_) (by kernel_rfl) rfl (by simp) (by kernel_rfl) (by kernel_rfl) ?_ ?_; rotate_left
    · first | exact StabN.skip (by rfl) | (refine StabN.val (by rfl) ?_; intro w' hS; obtain ⟨_, _, _, _, _, _, _, _, _, _, _, _, _, _, _⟩ := hS; go_simp; first | done | with_reducible rfl)
    simp only [Act.put, List.setIfInBounds_toArray, List.set_cons_zero, List.set_cons_succ]
    refine AtN.take 3 (o := ⟨_, _, _, _, _, _⟩) (v := ?_) (by kernel_rfl) rfl (by simp) (by kernel_rfl) (by kernel_rfl) ?_ ?_; rotate_left
    · first | exact StabN.skip (by rfl) | (refine StabN.val (by rfl) ?_; intro w' hS; obtain ⟨_, _, _, _, _, _, _, _, _, _, _, _, _, _, _⟩ := hS; go_simp; first | done | with_reducible rfl)
    simp only [Act.put, List.setIfInBounds_toArray, List.set_cons_zero, List.set_cons_succ]
    refine AtN.take 4 (o := ⟨_, _, _, _, _, _⟩) (v := ?_) (by kernel_rfl) rfl (by simp) (by kernel_rfl) (by kernel_rfl) ?_ ?_; rotate_left
    · first | exact StabN.skip (by rfl) | (refine StabN.val (by rfl) ?_; intro w' hS; obtain ⟨_, _, _, _, _, _, _, _, _, _, _, _, _, _, _⟩ := hS; go_simp; first | done | with_reducible rfl)
    simp only [Act.put, List.setIfInBounds_toArray, List.set_cons_zero, List.set_cons_succ]
    refine AtN.take 5 (o := ⟨_, _, _, _, _, _⟩) (v := ?_) (by kernel_rfl) rfl (by simp) (by kernel_rfl) (by kernel_rfl) ?_ ?_; rotate_left
    · first | exact StabN.skip (by rfl) | (refine StabN.val (by rfl) ?_; intro w' hS; obtain ⟨_, _, _, _, _, _, _, _, _, _, _, _, _, _, _⟩ := hS; go_simp; first | done | with_reducible rfl)
    simp only [Act.put, List.setIfInBounds_toArray, List.set_cons_zero, List.set_cons_succ]
    refine AtN.take 6 (o := ⟨_, _, _, _, _, _⟩) (v := .slice r0.A r0.cs.length r0.cap) (by kernel_rfl) rfl (by simp) (by kernel_rfl) (by kernel_rfl) (StabN.call1 31 #[.pointer (some ⟨qd.D, 0, none⟩), .int .i64 k] (.slice r0.A r0.cs.length r0.cap) (by rfl) (by intro w'; go_simp; done) (fun w' hS => HOF.out _ hS.1)) ?_
    simp only [Act.put, List.setIfInBounds_toArray, List.set_cons_zero, List.set_cons_succ]
    refine AtN.one 7 (o := ⟨_, _, _, _, _, _⟩) (fun v => ∃ g cap, v = .slice (some ⟨g, 0, none⟩) r0.cs.length cap) (fun v w' => ∃ g cap, v = .slice (some ⟨g, 0, none⟩) r0.cs.length cap ∧ RcAt w' ⟨some ⟨g, 0, none⟩, (fun l => closeL l) r0.cs, cap, r0.cont⟩) (by simp) (by kernel_rfl) rfl (fun v w1 w2 ⟨g, cap, hv, hr⟩ hb => ⟨g, cap, hv, hr.below hb⟩) (StabN.call 46 #[.slice r0.A r0.cs.length r0.cap] _ _ (by rfl) ?_ (fun w' hS => ?_)) ?_
    · intro w'
      go_simp
    · have hrc := HRR.out w' hS.1
      have h0 : 0 < r0.cs.length := by rw [HRL.out]; have := HB0.out.d.cols2; omega
      refine (rClose_any r0.A r0.cs r0.cap w' hrc.2.2.1 h0 hrc.1).mono ?_
      rintro e w3 ⟨g1, cap, rfl, hc, hb⟩
      have hlen : (closeL r0.cs).length = r0.cs.length := closeL_len _
      rw [hlen]
      exact ⟨_, rfl, ⟨⟨g1, cap, rfl⟩, g1, cap, rfl, .of_own hc (by rw [hlen]; exact hrc.1) (hrc.2.1.close) _⟩, hb⟩
    rintro v ⟨g5, cap, rfl⟩
    simp only [Act.put, List.setIfInBounds_toArray, List.set_cons_zero, List.set_cons_succ]
    refine AtN.done (by kernel_rfl) (fun w' hS => ?_)
    obtain ⟨⟨hb1, -⟩, g1', cap', hv', hrc'⟩ := hS
    simp only [Value.slice.injEq, Option.some.injEq, Addr.mk.injEq, and_true, true_and] at hv'
    obtain ⟨rfl, rfl⟩ := hv'
    have HCE2 := Lib.hid (HCE.out w' g5 cap hb1 hrc')
    rw [HD1.out] at HCE2
    clear hb1 hrc'
    go_wp2_with (go_at_call 29; (with_reducible refine HCE2.out.mono ?_); rintro e w4 ⟨rfl, hs⟩; have HS4 := Lib.hid hs; clear hs)
    go_end0
    exact ⟨rfl, (HB0.out.step HS2.out HS4.out).pre HB.out⟩
end Go.Proofs.YtffdblmdelgkaaaGreat

namespace Go.Proofs.YtffdblmdelgkaaaGreat
open Go.RowKit
set_option maxRecDepth 100000 in
set_option maxHeartbeats 6400000 in
theorem does6_two {base : Nat} {w : World} {qp : Pv} {qd : Dv} {g gd : Pg} {rows cols room rows' cols' room' : Nat} (h : Both2 base w qp qd g gd) (hg : PgInv rows cols room g) (hgd : PgInv rows' cols' room' gd) (hrow0 : 0 < rows) (hrow0' : 0 < rows') (hrows : rows ≤ 1000) (hrows' : rows' ≤ 1000) (hroom : room ≤ 100000) (hroom' : room' ≤ 100000) (ht : g.told.length ≤ 900000) (ht' : gd.told.length ≤ 900000) (o : Pop) (ho : o.kind = 6) (hok : PopOk o) :
    Calls Tryz.prog 9 #[.pointer (some ⟨qp.P, 0, none⟩), .pointer (some ⟨qd.D, 0, none⟩), .agg #[.int .i64 o.kind, .int .i64 o.x, .int .i64 o.n, .int .i32 o.r, .int .i64 o.at_.fk, .int .i64 o.at_.fn, .int .i64 o.at_.bk, .int .i64 o.at_.bn, .int .i64 o.at_.fl, .int .i64 o.y, .int .i64 o.top, .int .i64 o.bottom]] w (DoesPost2 base w qp qd (stepP g o) (stepP gd o)) := by
  obtain ⟨kind, x, n, r, ⟨fk, fn, bk, bn, fl⟩, y, top, bottom⟩ := o
  simp only at ho
  subst ho
  obtain ⟨W, hW⟩ : ∃ W, (w.alloc (.cells (encPop ⟨6, x, n, r, ⟨fk, fn, bk, bn, fl⟩, y, top, bottom⟩).toArray 38)).alloc (.cells #[.int .i64 bk, .int .i64 bn] 32) = W := ⟨_, rfl⟩
  have hb0 : Below w.heap.size w W := by rw [← hW]; exact below_allocs (below_allocs (Below.refl _ _) _) _
  have HO0 : Hid (OpC W w.heap.size (w.heap.size + 1) ⟨6, x, n, r, ⟨fk, fn, bk, bn, fl⟩, y, top, bottom⟩) := Lib.hid (by rw [← hW]; exact OpC.new _)
  have HB := Lib.hid hb0
  have hB := h.below hb0
  have HB0 := Lib.hid hB
  have hXp : ∀ i, w.heap.size + i ∉ pgX qp := fun i hx => by have := (h.p.lt _ hx).2; omega
  have hr1 := hgd.hrows
  have hr2 := hgd.hroom
  have hr3 := hgd.hhist
  have hL : (dcOf gd).L.length ≤ 900000 := by show (gd.hist ++ gd.scr).length ≤ _; simp; omega
  have hbs : (dcOf gd).base ≤ (dcOf gd).L.length := by show gd.hist.length ≤ (gd.hist ++ gd.scr).length; simp
  have HIN := Lib.hid (rdIn_any hB.d (by omega) hbs y)
  rw [dcOf_in] at HIN
  have HX0 := Lib.hid (And.intro (hXp 0) (hXp 1))
  have HG1 : Hid (stepP g ⟨6, x, n, r, ⟨fk, fn, bk, bn, fl⟩, y, top, bottom⟩ = timesP g top bottom n (fun t b g => upP g t b ⟨bk, bn⟩)) := Lib.hid (by unfold stepP; rw [if_neg (show ¬ (6 : Int) = 0 by decide)]; rw [if_neg (show ¬ (6 : Int) = 1 by decide)]; rw [if_neg (show ¬ (6 : Int) = 2 by decide)]; rw [if_neg (show ¬ (6 : Int) = 3 by decide)]; rw [if_neg (show ¬ (6 : Int) = 4 by decide)]; rw [if_neg (show ¬ (6 : Int) = 5 by decide)]; rw [if_pos rfl]; first | rfl | skip)
  have HG1d : Hid (stepP gd ⟨6, x, n, r, ⟨fk, fn, bk, bn, fl⟩, y, top, bottom⟩ = timesP gd top bottom n (fun t b g => upP g t b ⟨bk, bn⟩)) := Lib.hid (by unfold stepP; rw [if_neg (show ¬ (6 : Int) = 0 by decide)]; rw [if_neg (show ¬ (6 : Int) = 1 by decide)]; rw [if_neg (show ¬ (6 : Int) = 2 by decide)]; rw [if_neg (show ¬ (6 : Int) = 3 by decide)]; rw [if_neg (show ¬ (6 : Int) = 4 by decide)]; rw [if_neg (show ¬ (6 : Int) = 5 by decide)]; rw [if_pos rfl]; first | rfl | skip)
  rw [HG1.out, HG1d.out]
  have hn1 := hok.hn.1
  have hn2 := hok.hn.2
  have hy1 := hok.hy.1
  have HP : Hid (∀ w1, Below W.heap.size W w1 → Calls Tryz.prog 25 #[.pointer (some ⟨qp.P, 0, none⟩), .int .i64 top, .int .i64 bottom, .int .i64 n, .agg #[.int .i64 bk, .int .i64 bn]] w1 (PgPost base W qp (timesP g top bottom n (fun t b g => upP g t b ⟨bk, bn⟩)))) := Lib.hid (fun w1 hb => (pUp_any (hB.p.below hb) top bottom n ⟨bk, bn⟩ ht hn2 hn1).mono (fun e w2 hh => ⟨hh.1, hh.2.pre hb⟩))
  have hbL : 0 < gd.scr.length → (dcOf gd).base < (dcOf gd).L.length := fun h0 => by show gd.hist.length < (gd.hist ++ gd.scr).length; simp; omega
  have hbs2 : (dcOf gd).base ≤ (dcOf gd).L.length := by show gd.hist.length ≤ (gd.hist ++ gd.scr).length; simp
  have hscr : 0 < gd.scr.length := by rw [hr1]; exact hrow0'
  have HD : Hid (∀ w2, PgRes base W qp (timesP g top bottom n (fun t b g => upP g t b ⟨bk, bn⟩)) w2 → Calls Tryz.prog 41 #[.pointer (some ⟨qd.D, 0, none⟩), .int .i64 top, .int .i64 bottom, .int .i64 n, .agg #[.int .i64 bk, .int .i64 bn], .int .i64 0] w2 (DcPost base w2 qd (dcOf (timesP gd top bottom n (fun t b g => upP g t b ⟨bk, bn⟩))))) := Lib.hid (fun w2 hs => by
    have hd := hB.mid hs
    have := rdScroll_any hd hgd hrows' hroom' ht' top bottom n ⟨bk, bn⟩ 0 86 (fun t b g => upP g t b ⟨bk, bn⟩) (.inl ⟨rfl, rfl, rfl⟩)
    exact this)
  generalize timesP g top bottom n (fun t b g => upP g t b ⟨bk, bn⟩) = g1 at HP HD ⊢
  generalize timesP gd top bottom n (fun t b g => upP g t b ⟨bk, bn⟩) = gd1 at HD ⊢
  cases hin : inP gd y
  all_goals
    rw [hin] at HIN
    clear h hB hg hgd hin hbL hscr hbs2
    have HWW := Lib.hid hW
    clear hW hb0 hXp hbs
    go_enter Tryz.func9, Tryz.ntmps9
    go_upto_region 2 with fail
    rw [show (#[.int .i64 6, .int .i64 x, .int .i64 n, .int .i32 r, .int .i64 fk, .int .i64 fn, .int .i64 bk, .int .i64 bn, .int .i64 fl, .int .i64 y, .int .i64 top, .int .i64 bottom] : Array Value) = (encPop ⟨6, x, n, r, ⟨fk, fn, bk, bn, fl⟩, y, top, bottom⟩).toArray from rfl, HWW.out]
    clear HWW
    obtain ⟨c0, c1, c2, c3, c4, c5, c6, c7, c8, c9, c10, c11, k0, k1⟩ := HO0.out
    go_upto_region 3 with (go_at_call 28; (with_reducible refine HIN.out.mono ?_); rintro e w1 ⟨rfl, hb⟩; have HB1 := Lib.hid hb; have HO1 := Lib.hid (HO0.out.below hb); clear hb)
    clear c0 c1 c2 c3 c4 c5 c6 c7 c8 c9 c10 c11 k0 k1
    obtain ⟨c0, c1, c2, c3, c4, c5, c6, c7, c8, c9, c10, c11, k0, k1⟩ := HO1.out
  
    go_upto_region 29 with (go_at_call 25; (with_reducible refine (HP.out _ HB1.out).mono ?_); rintro e w2 ⟨rfl, hs⟩; have HS2 := Lib.hid hs; have HO2 := Lib.hid (HO0.out.mod hs.modr HX0.out.1 HX0.out.2); clear hs c0 c1 c2 c3 c4 c5 c6 c7 c8 c9 c10 c11 k0 k1)
    obtain ⟨c0, c1, c2, c3, c4, c5, c6, c7, c8, c9, c10, c11, k0, k1⟩ := HO2.out
    go_wp2_with (go_at_call 41; (with_reducible refine (HD.out _ HS2.out).mono ?_); rintro e w4 ⟨rfl, hs⟩; have HS4 := Lib.hid hs; clear hs)
    go_end0
    exact ⟨rfl, (HB0.out.step HS2.out HS4.out).pre HB.out⟩
set_option maxRecDepth 100000 in
set_option maxHeartbeats 6400000 in
theorem does7_two {base : Nat} {w : World} {qp : Pv} {qd : Dv} {g gd : Pg} {rows cols room rows' cols' room' : Nat} (h : Both2 base w qp qd g gd) (hg : PgInv rows cols room g) (hgd : PgInv rows' cols' room' gd) (hrow0 : 0 < rows) (hrow0' : 0 < rows') (hrows : rows ≤ 1000) (hrows' : rows' ≤ 1000) (hroom : room ≤ 100000) (hroom' : room' ≤ 100000) (ht : g.told.length ≤ 900000) (ht' : gd.told.length ≤ 900000) (o : Pop) (ho : o.kind = 7) (hok : PopOk o) :
    Calls Tryz.prog 9 #[.pointer (some ⟨qp.P, 0, none⟩), .pointer (some ⟨qd.D, 0, none⟩), .agg #[.int .i64 o.kind, .int .i64 o.x, .int .i64 o.n, .int .i32 o.r, .int .i64 o.at_.fk, .int .i64 o.at_.fn, .int .i64 o.at_.bk, .int .i64 o.at_.bn, .int .i64 o.at_.fl, .int .i64 o.y, .int .i64 o.top, .int .i64 o.bottom]] w (DoesPost2 base w qp qd (stepP g o) (stepP gd o)) := by
  obtain ⟨kind, x, n, r, ⟨fk, fn, bk, bn, fl⟩, y, top, bottom⟩ := o
  simp only at ho
  subst ho
  obtain ⟨W, hW⟩ : ∃ W, (w.alloc (.cells (encPop ⟨7, x, n, r, ⟨fk, fn, bk, bn, fl⟩, y, top, bottom⟩).toArray 38)).alloc (.cells #[.int .i64 bk, .int .i64 bn] 32) = W := ⟨_, rfl⟩
  have hb0 : Below w.heap.size w W := by rw [← hW]; exact below_allocs (below_allocs (Below.refl _ _) _) _
  have HO0 : Hid (OpC W w.heap.size (w.heap.size + 1) ⟨7, x, n, r, ⟨fk, fn, bk, bn, fl⟩, y, top, bottom⟩) := Lib.hid (by rw [← hW]; exact OpC.new _)
  have HB := Lib.hid hb0
  have hB := h.below hb0
  have HB0 := Lib.hid hB
  have hXp : ∀ i, w.heap.size + i ∉ pgX qp := fun i hx => by have := (h.p.lt _ hx).2; omega
  have hr1 := hgd.hrows
  have hr2 := hgd.hroom
  have hr3 := hgd.hhist
  have hL : (dcOf gd).L.length ≤ 900000 := by show (gd.hist ++ gd.scr).length ≤ _; simp; omega
  have hbs : (dcOf gd).base ≤ (dcOf gd).L.length := by show gd.hist.length ≤ (gd.hist ++ gd.scr).length; simp
  have HIN := Lib.hid (rdIn_any hB.d (by omega) hbs y)
  rw [dcOf_in] at HIN
  have HX0 := Lib.hid (And.intro (hXp 0) (hXp 1))
  have HG1 : Hid (stepP g ⟨7, x, n, r, ⟨fk, fn, bk, bn, fl⟩, y, top, bottom⟩ = timesP g top bottom n (fun t b g => downP g t b ⟨bk, bn⟩)) := Lib.hid (by unfold stepP; rw [if_neg (show ¬ (7 : Int) = 0 by decide)]; rw [if_neg (show ¬ (7 : Int) = 1 by decide)]; rw [if_neg (show ¬ (7 : Int) = 2 by decide)]; rw [if_neg (show ¬ (7 : Int) = 3 by decide)]; rw [if_neg (show ¬ (7 : Int) = 4 by decide)]; rw [if_neg (show ¬ (7 : Int) = 5 by decide)]; rw [if_neg (show ¬ (7 : Int) = 6 by decide)]; rw [if_pos rfl]; first | rfl | skip)
  have HG1d : Hid (stepP gd ⟨7, x, n, r, ⟨fk, fn, bk, bn, fl⟩, y, top, bottom⟩ = timesP gd top bottom n (fun t b g => downP g t b ⟨bk, bn⟩)) := Lib.hid (by unfold stepP; rw [if_neg (show ¬ (7 : Int) = 0 by decide)]; rw [if_neg (show ¬ (7 : Int) = 1 by decide)]; rw [if_neg (show ¬ (7 : Int) = 2 by decide)]; rw [if_neg (show ¬ (7 : Int) = 3 by decide)]; rw [if_neg (show ¬ (7 : Int) = 4 by decide)]; rw [if_neg (show ¬ (7 : Int) = 5 by decide)]; rw [if_neg (show ¬ (7 : Int) = 6 by decide)]; rw [if_pos rfl]; first | rfl | skip)
  rw [HG1.out, HG1d.out]
  have hn1 := hok.hn.1
  have hn2 := hok.hn.2
  have hy1 := hok.hy.1
  have HP : Hid (∀ w1, Below W.heap.size W w1 → Calls Tryz.prog 42 #[.pointer (some ⟨qp.P, 0, none⟩), .int .i64 top, .int .i64 bottom, .int .i64 n, .agg #[.int .i64 bk, .int .i64 bn]] w1 (PgPost base W qp (timesP g top bottom n (fun t b g => downP g t b ⟨bk, bn⟩)))) := Lib.hid (fun w1 hb => (pDown_any (hB.p.below hb) top bottom n ⟨bk, bn⟩ ht hn2 hn1).mono (fun e w2 hh => ⟨hh.1, hh.2.pre hb⟩))
  have hbL : 0 < gd.scr.length → (dcOf gd).base < (dcOf gd).L.length := fun h0 => by show gd.hist.length < (gd.hist ++ gd.scr).length; simp; omega
  have hbs2 : (dcOf gd).base ≤ (dcOf gd).L.length := by show gd.hist.length ≤ (gd.hist ++ gd.scr).length; simp
  have hscr : 0 < gd.scr.length := by rw [hr1]; exact hrow0'
  have HD : Hid (∀ w2, PgRes base W qp (timesP g top bottom n (fun t b g => downP g t b ⟨bk, bn⟩)) w2 → Calls Tryz.prog 41 #[.pointer (some ⟨qd.D, 0, none⟩), .int .i64 top, .int .i64 bottom, .int .i64 n, .agg #[.int .i64 bk, .int .i64 bn], .int .i64 1] w2 (DcPost base w2 qd (dcOf (timesP gd top bottom n (fun t b g => downP g t b ⟨bk, bn⟩))))) := Lib.hid (fun w2 hs => by
    have hd := hB.mid hs
    have := rdScroll_any hd hgd hrows' hroom' ht' top bottom n ⟨bk, bn⟩ 1 87 (fun t b g => downP g t b ⟨bk, bn⟩) (.inr (.inl ⟨rfl, rfl, rfl⟩))
    exact this)
  generalize timesP g top bottom n (fun t b g => downP g t b ⟨bk, bn⟩) = g1 at HP HD ⊢
  generalize timesP gd top bottom n (fun t b g => downP g t b ⟨bk, bn⟩) = gd1 at HD ⊢
  cases hin : inP gd y
  all_goals
    rw [hin] at HIN
    clear h hB hg hgd hin hbL hscr hbs2
    have HWW := Lib.hid hW
    clear hW hb0 hXp hbs
    go_enter Tryz.func9, Tryz.ntmps9
    go_upto_region 2 with fail
    rw [show (#[.int .i64 7, .int .i64 x, .int .i64 n, .int .i32 r, .int .i64 fk, .int .i64 fn, .int .i64 bk, .int .i64 bn, .int .i64 fl, .int .i64 y, .int .i64 top, .int .i64 bottom] : Array Value) = (encPop ⟨7, x, n, r, ⟨fk, fn, bk, bn, fl⟩, y, top, bottom⟩).toArray from rfl, HWW.out]
    clear HWW
    obtain ⟨c0, c1, c2, c3, c4, c5, c6, c7, c8, c9, c10, c11, k0, k1⟩ := HO0.out
    go_upto_region 3 with (go_at_call 28; (with_reducible refine HIN.out.mono ?_); rintro e w1 ⟨rfl, hb⟩; have HB1 := Lib.hid hb; have HO1 := Lib.hid (HO0.out.below hb); clear hb)
    clear c0 c1 c2 c3 c4 c5 c6 c7 c8 c9 c10 c11 k0 k1
    obtain ⟨c0, c1, c2, c3, c4, c5, c6, c7, c8, c9, c10, c11, k0, k1⟩ := HO1.out
  
    go_upto_region 32 with (go_at_call 42; (with_reducible refine (HP.out _ HB1.out).mono ?_); rintro e w2 ⟨rfl, hs⟩; have HS2 := Lib.hid hs; have HO2 := Lib.hid (HO0.out.mod hs.modr HX0.out.1 HX0.out.2); clear hs c0 c1 c2 c3 c4 c5 c6 c7 c8 c9 c10 c11 k0 k1)
    obtain ⟨c0, c1, c2, c3, c4, c5, c6, c7, c8, c9, c10, c11, k0, k1⟩ := HO2.out
    go_wp2_with (go_at_call 41; (with_reducible refine (HD.out _ HS2.out).mono ?_); rintro e w4 ⟨rfl, hs⟩; have HS4 := Lib.hid hs; clear hs)
    go_end0
    exact ⟨rfl, (HB0.out.step HS2.out HS4.out).pre HB.out⟩
set_option maxRecDepth 100000 in
set_option maxHeartbeats 6400000 in
theorem does10_two {base : Nat} {w : World} {qp : Pv} {qd : Dv} {g gd : Pg} {rows cols room rows' cols' room' : Nat} (h : Both2 base w qp qd g gd) (hg : PgInv rows cols room g) (hgd : PgInv rows' cols' room' gd) (hrow0 : 0 < rows) (hrow0' : 0 < rows') (hrows : rows ≤ 1000) (hrows' : rows' ≤ 1000) (hroom : room ≤ 100000) (hroom' : room' ≤ 100000) (ht : g.told.length ≤ 900000) (ht' : gd.told.length ≤ 900000) (o : Pop) (ho : o.kind = 10) (hok : PopOk o) :
    Calls Tryz.prog 9 #[.pointer (some ⟨qp.P, 0, none⟩), .pointer (some ⟨qd.D, 0, none⟩), .agg #[.int .i64 o.kind, .int .i64 o.x, .int .i64 o.n, .int .i32 o.r, .int .i64 o.at_.fk, .int .i64 o.at_.fn, .int .i64 o.at_.bk, .int .i64 o.at_.bn, .int .i64 o.at_.fl, .int .i64 o.y, .int .i64 o.top, .int .i64 o.bottom]] w (DoesPost2 base w qp qd (stepP g o) (stepP gd o)) := by
  obtain ⟨kind, x, n, r, ⟨fk, fn, bk, bn, fl⟩, y, top, bottom⟩ := o
  simp only at ho
  subst ho
  obtain ⟨W, hW⟩ : ∃ W, (w.alloc (.cells (encPop ⟨10, x, n, r, ⟨fk, fn, bk, bn, fl⟩, y, top, bottom⟩).toArray 38)).alloc (.cells #[.int .i64 bk, .int .i64 bn] 32) = W := ⟨_, rfl⟩
  have hb0 : Below w.heap.size w W := by rw [← hW]; exact below_allocs (below_allocs (Below.refl _ _) _) _
  have HO0 : Hid (OpC W w.heap.size (w.heap.size + 1) ⟨10, x, n, r, ⟨fk, fn, bk, bn, fl⟩, y, top, bottom⟩) := Lib.hid (by rw [← hW]; exact OpC.new _)
  have HB := Lib.hid hb0
  have hB := h.below hb0
  have HB0 := Lib.hid hB
  have hXp : ∀ i, w.heap.size + i ∉ pgX qp := fun i hx => by have := (h.p.lt _ hx).2; omega
  have hr1 := hgd.hrows
  have hr2 := hgd.hroom
  have hr3 := hgd.hhist
  have hL : (dcOf gd).L.length ≤ 900000 := by show (gd.hist ++ gd.scr).length ≤ _; simp; omega
  have hbs : (dcOf gd).base ≤ (dcOf gd).L.length := by show gd.hist.length ≤ (gd.hist ++ gd.scr).length; simp
  have HIN := Lib.hid (rdIn_any hB.d (by omega) hbs y)
  rw [dcOf_in] at HIN
  have HX0 := Lib.hid (And.intro (hXp 0) (hXp 1))
  have HG1 : Hid (stepP g ⟨10, x, n, r, ⟨fk, fn, bk, bn, fl⟩, y, top, bottom⟩ = timesP g top bottom n (fun t b g => cutP g t b ⟨bk, bn⟩)) := Lib.hid (by unfold stepP; rw [if_neg (show ¬ (10 : Int) = 0 by decide)]; rw [if_neg (show ¬ (10 : Int) = 1 by decide)]; rw [if_neg (show ¬ (10 : Int) = 2 by decide)]; rw [if_neg (show ¬ (10 : Int) = 3 by decide)]; rw [if_neg (show ¬ (10 : Int) = 4 by decide)]; rw [if_neg (show ¬ (10 : Int) = 5 by decide)]; rw [if_neg (show ¬ (10 : Int) = 6 by decide)]; rw [if_neg (show ¬ (10 : Int) = 7 by decide)]; rw [if_neg (show ¬ (10 : Int) = 8 by decide)]; rw [if_neg (show ¬ (10 : Int) = 9 by decide)]; rw [if_pos rfl]; first | rfl | skip)
  have HG1d : Hid (stepP gd ⟨10, x, n, r, ⟨fk, fn, bk, bn, fl⟩, y, top, bottom⟩ = timesP gd top bottom n (fun t b g => cutP g t b ⟨bk, bn⟩)) := Lib.hid (by unfold stepP; rw [if_neg (show ¬ (10 : Int) = 0 by decide)]; rw [if_neg (show ¬ (10 : Int) = 1 by decide)]; rw [if_neg (show ¬ (10 : Int) = 2 by decide)]; rw [if_neg (show ¬ (10 : Int) = 3 by decide)]; rw [if_neg (show ¬ (10 : Int) = 4 by decide)]; rw [if_neg (show ¬ (10 : Int) = 5 by decide)]; rw [if_neg (show ¬ (10 : Int) = 6 by decide)]; rw [if_neg (show ¬ (10 : Int) = 7 by decide)]; rw [if_neg (show ¬ (10 : Int) = 8 by decide)]; rw [if_neg (show ¬ (10 : Int) = 9 by decide)]; rw [if_pos rfl]; first | rfl | skip)
  rw [HG1.out, HG1d.out]
  have hn1 := hok.hn.1
  have hn2 := hok.hn.2
  have hy1 := hok.hy.1
  have HP : Hid (∀ w1, Below W.heap.size W w1 → Calls Tryz.prog 47 #[.pointer (some ⟨qp.P, 0, none⟩), .int .i64 top, .int .i64 bottom, .int .i64 n, .agg #[.int .i64 bk, .int .i64 bn]] w1 (PgPost base W qp (timesP g top bottom n (fun t b g => cutP g t b ⟨bk, bn⟩)))) := Lib.hid (fun w1 hb => (pCut_any (hB.p.below hb) top bottom n ⟨bk, bn⟩ ht hn2 hn1).mono (fun e w2 hh => ⟨hh.1, hh.2.pre hb⟩))
  have hbL : 0 < gd.scr.length → (dcOf gd).base < (dcOf gd).L.length := fun h0 => by show gd.hist.length < (gd.hist ++ gd.scr).length; simp; omega
  have hbs2 : (dcOf gd).base ≤ (dcOf gd).L.length := by show gd.hist.length ≤ (gd.hist ++ gd.scr).length; simp
  have hscr : 0 < gd.scr.length := by rw [hr1]; exact hrow0'
  have HD : Hid (∀ w2, PgRes base W qp (timesP g top bottom n (fun t b g => cutP g t b ⟨bk, bn⟩)) w2 → Calls Tryz.prog 41 #[.pointer (some ⟨qd.D, 0, none⟩), .int .i64 top, .int .i64 bottom, .int .i64 n, .agg #[.int .i64 bk, .int .i64 bn], .int .i64 2] w2 (DcPost base w2 qd (dcOf (timesP gd top bottom n (fun t b g => cutP g t b ⟨bk, bn⟩))))) := Lib.hid (fun w2 hs => by
    have hd := hB.mid hs
    have := rdScroll_any hd hgd hrows' hroom' ht' top bottom n ⟨bk, bn⟩ 2 88 (fun t b g => cutP g t b ⟨bk, bn⟩) (.inr (.inr ⟨rfl, rfl, rfl⟩))
    exact this)
  generalize timesP g top bottom n (fun t b g => cutP g t b ⟨bk, bn⟩) = g1 at HP HD ⊢
  generalize timesP gd top bottom n (fun t b g => cutP g t b ⟨bk, bn⟩) = gd1 at HD ⊢
  cases hin : inP gd y
  all_goals
    rw [hin] at HIN
    clear h hB hg hgd hin hbL hscr hbs2
    have HWW := Lib.hid hW
    clear hW hb0 hXp hbs
    go_enter Tryz.func9, Tryz.ntmps9
    go_upto_region 2 with fail
    rw [show (#[.int .i64 10, .int .i64 x, .int .i64 n, .int .i32 r, .int .i64 fk, .int .i64 fn, .int .i64 bk, .int .i64 bn, .int .i64 fl, .int .i64 y, .int .i64 top, .int .i64 bottom] : Array Value) = (encPop ⟨10, x, n, r, ⟨fk, fn, bk, bn, fl⟩, y, top, bottom⟩).toArray from rfl, HWW.out]
    clear HWW
    obtain ⟨c0, c1, c2, c3, c4, c5, c6, c7, c8, c9, c10, c11, k0, k1⟩ := HO0.out
    go_upto_region 3 with (go_at_call 28; (with_reducible refine HIN.out.mono ?_); rintro e w1 ⟨rfl, hb⟩; have HB1 := Lib.hid hb; have HO1 := Lib.hid (HO0.out.below hb); clear hb)
    clear c0 c1 c2 c3 c4 c5 c6 c7 c8 c9 c10 c11 k0 k1
    obtain ⟨c0, c1, c2, c3, c4, c5, c6, c7, c8, c9, c10, c11, k0, k1⟩ := HO1.out
  
    go_upto_region 42 with (go_at_call 47; (with_reducible refine (HP.out _ HB1.out).mono ?_); rintro e w2 ⟨rfl, hs⟩; have HS2 := Lib.hid hs; have HO2 := Lib.hid (HO0.out.mod hs.modr HX0.out.1 HX0.out.2); clear hs c0 c1 c2 c3 c4 c5 c6 c7 c8 c9 c10 c11 k0 k1)
    obtain ⟨c0, c1, c2, c3, c4, c5, c6, c7, c8, c9, c10, c11, k0, k1⟩ := HO2.out
    go_wp2_with (go_at_call 41; (with_reducible refine (HD.out _ HS2.out).mono ?_); rintro e w4 ⟨rfl, hs⟩; have HS4 := Lib.hid hs; clear hs)
    go_end0
    exact ⟨rfl, (HB0.out.step HS2.out HS4.out).pre HB.out⟩
end Go.Proofs.YtffdblmdelgkaaaGreat
namespace Go.Proofs.YtffdblmdelgkaaaGreat
open Go.RowKit
set_option maxRecDepth 100000 in
set_option maxHeartbeats 6400000 in
theorem does5_two {base : Nat} {w : World} {qp : Pv} {qd : Dv} {g gd : Pg} {rows cols room rows' cols' room' : Nat} (h : Both2 base w qp qd g gd) (hg : PgInv rows cols room g) (hgd : PgInv rows' cols' room' gd) (hrows : rows ≤ 1000) (hrows' : rows' ≤ 1000) (hroom : room ≤ 100000) (hroom' : room' ≤ 100000) (ht : g.told.length ≤ 900000) (ht' : gd.told.length ≤ 900000) (o : Pop) (ho : o.kind = 5) (hok : PopOk o) :
    Calls Tryz.prog 9 #[.pointer (some ⟨qp.P, 0, none⟩), .pointer (some ⟨qd.D, 0, none⟩), .agg #[.int .i64 o.kind, .int .i64 o.x, .int .i64 o.n, .int .i32 o.r, .int .i64 o.at_.fk, .int .i64 o.at_.fn, .int .i64 o.at_.bk, .int .i64 o.at_.bn, .int .i64 o.at_.fl, .int .i64 o.y, .int .i64 o.top, .int .i64 o.bottom]] w (DoesPost2 base w qp qd (stepP g o) (stepP gd o)) := by
  obtain ⟨kind, x, n, r, ⟨fk, fn, bk, bn, fl⟩, y, top, bottom⟩ := o
  simp only at ho
  subst ho
  obtain ⟨W, hW⟩ : ∃ W, (w.alloc (.cells (encPop ⟨5, x, n, r, ⟨fk, fn, bk, bn, fl⟩, y, top, bottom⟩).toArray 38)).alloc (.cells #[.int .i64 bk, .int .i64 bn] 32) = W := ⟨_, rfl⟩
  have hb0 : Below w.heap.size w W := by rw [← hW]; exact below_allocs (below_allocs (Below.refl _ _) _) _
  have HO0 : Hid (OpC W w.heap.size (w.heap.size + 1) ⟨5, x, n, r, ⟨fk, fn, bk, bn, fl⟩, y, top, bottom⟩) := Lib.hid (by rw [← hW]; exact OpC.new _)
  have HB := Lib.hid hb0
  have hB := h.below hb0
  have HB0 := Lib.hid hB
  have hXp : ∀ i, w.heap.size + i ∉ pgX qp := fun i hx => by have := (h.p.lt _ hx).2; omega
  have hr1 := hgd.hrows
  have hr2 := hgd.hroom
  have hr3 := hgd.hhist
  have hL : (dcOf gd).L.length ≤ 900000 := by show (gd.hist ++ gd.scr).length ≤ _; simp; omega
  have hbs : (dcOf gd).base ≤ (dcOf gd).L.length := by show gd.hist.length ≤ (gd.hist ++ gd.scr).length; simp
  have HIN := Lib.hid (rdIn_any hB.d (by omega) hbs y)
  rw [dcOf_in] at HIN
  have HX0 := Lib.hid (And.intro (hXp 0) (hXp 1))
  have HG1 : Hid (stepP g ⟨5, x, n, r, ⟨fk, fn, bk, bn, fl⟩, y, top, bottom⟩ = contP g y true) := Lib.hid (by unfold stepP; rw [if_neg (show ¬ (5 : Int) = 0 by decide)]; rw [if_neg (show ¬ (5 : Int) = 1 by decide)]; rw [if_neg (show ¬ (5 : Int) = 2 by decide)]; rw [if_neg (show ¬ (5 : Int) = 3 by decide)]; rw [if_neg (show ¬ (5 : Int) = 4 by decide)]; rw [if_pos rfl]; first | done | rfl)
  have HG1d : Hid (stepP gd ⟨5, x, n, r, ⟨fk, fn, bk, bn, fl⟩, y, top, bottom⟩ = contP gd y true) := Lib.hid (by unfold stepP; rw [if_neg (show ¬ (5 : Int) = 0 by decide)]; rw [if_neg (show ¬ (5 : Int) = 1 by decide)]; rw [if_neg (show ¬ (5 : Int) = 2 by decide)]; rw [if_neg (show ¬ (5 : Int) = 3 by decide)]; rw [if_neg (show ¬ (5 : Int) = 4 by decide)]; rw [if_pos rfl]; first | done | rfl)
  rw [HG1.out, HG1d.out]
  have HP : Hid (∀ w1, Below W.heap.size W w1 → Calls Tryz.prog 40 #[.pointer (some ⟨qp.P, 0, none⟩), .int .i64 y] w1 (PgPost base W qp (contP g y true))) := Lib.hid (fun w1 hb => (pWrap_any (hB.p.below hb) y).mono (fun e w2 hh => ⟨hh.1, hh.2.pre hb⟩))
  have HD1 := Lib.hid (dcOf_wrap gd y)
  cases hin : inP gd y with
  | false =>
    rw [hin] at HIN
    have HE : Hid (contP gd y true = gd) := Lib.hid (by unfold contP; rw [hin]; rfl)
    generalize contP g y true = g1 at HP ⊢
    rw [HE.out]
    clear h hB hg hgd HD1
    have HWW := Lib.hid hW
    clear hW hb0 hXp hbs
    go_enter Tryz.func9, Tryz.ntmps9
    go_upto_region 2 with fail
    rw [show (#[.int .i64 5, .int .i64 x, .int .i64 n, .int .i32 r, .int .i64 fk, .int .i64 fn, .int .i64 bk, .int .i64 bn, .int .i64 fl, .int .i64 y, .int .i64 top, .int .i64 bottom] : Array Value) = (encPop ⟨5, x, n, r, ⟨fk, fn, bk, bn, fl⟩, y, top, bottom⟩).toArray from rfl, HWW.out]
    clear HWW
    obtain ⟨c0, c1, c2, c3, c4, c5, c6, c7, c8, c9, c10, c11, k0, k1⟩ := HO0.out
    go_upto_region 3 with (go_at_call 28; (with_reducible refine HIN.out.mono ?_); rintro e w1 ⟨rfl, hb⟩; have HB1 := Lib.hid hb; have HO1 := Lib.hid (HO0.out.below hb); clear hb)
    clear c0 c1 c2 c3 c4 c5 c6 c7 c8 c9 c10 c11 k0 k1
    obtain ⟨c0, c1, c2, c3, c4, c5, c6, c7, c8, c9, c10, c11, k0, k1⟩ := HO1.out
  
    go_wp2_with (go_at_call 40; (with_reducible refine (HP.out _ HB1.out).mono ?_); rintro e w2 ⟨rfl, hs⟩; have HS2 := Lib.hid hs; clear hs c0 c1 c2 c3 c4 c5 c6 c7 c8 c9 c10 c11 k0 k1)
    go_end0
    exact ⟨rfl, (HB0.out.step HS2.out ((HB0.out.mid HS2.out).res)).pre HB.out⟩
  | true =>
    rw [hin] at HIN
    have hin2 : dcIn (dcOf gd) y = true := by rw [dcOf_in]; exact hin
    obtain ⟨k, r0, rfl, hr, -, -⟩ := dcIn_row hB.d hin2
    have hdw : dcWrap (dcOf gd) (k : Int) = { dcOf gd with L := (dcOf gd).L.modify ((dcOf gd).base + k) (fun r => { r with cont := true }) } := by unfold dcWrap; rw [hin2, if_pos rfl, Int.toNat_natCast]
    rw [hdw] at HD1
    have hlen := hB.d.len
    have hlt := (List.getElem?_eq_some_iff.1 hr).1
    obtain ⟨gs, cc, hv⟩ := own_form hB.d.own (by omega)
    obtain ⟨kk, hkk⟩ : ∃ kk : Nat, kk = (dcOf gd).base + k := ⟨_, rfl⟩
    obtain ⟨bs, hbs1⟩ : ∃ bs : Nat, bs = (dcOf gd).base := ⟨_, rfl⟩
    have hx0 := hB.d.cells.1
    have hx1 := hB.d.cells.2.1
    rw [hv] at hx0
    rw [← hbs1] at hx1
    have hown := hB.d.own
    rw [hv] at hown
    obtain ⟨-, hy1⟩ := owns_row hown hr
    rw [← hkk] at hy1 HD1
    have hap : ∀ b ∈ dcX qd, b ∉ pgX qp := fun b hb hx => h.ap b hx hb
    have hDp : qd.D ∉ pgX qp := hap _ (by simp [dcX])
    have hgs : gs ∉ pgX qp := hap _ (by simp [dcX, hv, Value.ownBlock])
    have HAP := Lib.hid (And.intro hDp hgs)
    have HCE := Lib.hid (And.intro hx0.1 hx1.1)
    have HY := Lib.hid hy1
    have HST : Hid (∀ w2 w3, PgRes base W qp (contP g k true) w2 → Below w2.heap.size w2 w3 → DcRes base w2 qd (dcOf (contP gd k true)) (w3.setCell ⟨gs, kk * 2 + 1, none⟩ (.bool true))) := Lib.hid (fun w2 w3 hs hb => by
      have hltk : kk < qd.S.length := by rw [hkk]; exact hlt
      have := (((hB.mid hs).below hb).setCont hv hltk true).pre hb
      rw [HD1.out] at this
      exact this)
    generalize contP g (k : Int) true = g1 at HP HST ⊢
    generalize contP gd (k : Int) true = gd1 at HD1 HST ⊢
    have hkI : (bs : Int) + (k : Int) = (kk : Int) := by omega
    have hwk : IntKind.i64.wrap (kk : Int) = (kk : Int) := IntWalk.i64_in _ (by omega)
    have hkl : (kk : Int) < (qd.S.length : Int) := by omega
    clear h hB hg hgd hin hr hin2 hdw hlen hlt hv hkk hbs1 hx0 hx1 hown hy1 hap hDp hgs
    have HWW := Lib.hid hW
    clear hW hb0 hXp hbs
    go_enter Tryz.func9, Tryz.ntmps9
    go_upto_region 2 with fail
    rw [show (#[.int .i64 5, .int .i64 x, .int .i64 n, .int .i32 r, .int .i64 fk, .int .i64 fn, .int .i64 bk, .int .i64 bn, .int .i64 fl, .int .i64 (k : Int), .int .i64 top, .int .i64 bottom] : Array Value) = (encPop ⟨5, x, n, r, ⟨fk, fn, bk, bn, fl⟩, (k : Int), top, bottom⟩).toArray from rfl, HWW.out]
    clear HWW
    obtain ⟨c0, c1, c2, c3, c4, c5, c6, c7, c8, c9, c10, c11, k0, k1⟩ := HO0.out
    go_upto_region 3 with (go_at_call 28; (with_reducible refine HIN.out.mono ?_); rintro e w1 ⟨rfl, hb⟩; have HB1 := Lib.hid hb; have HO1 := Lib.hid (HO0.out.below hb); clear hb)
    clear c0 c1 c2 c3 c4 c5 c6 c7 c8 c9 c10 c11 k0 k1
    obtain ⟨c0, c1, c2, c3, c4, c5, c6, c7, c8, c9, c10, c11, k0, k1⟩ := HO1.out
  
    go_upto_region 26 with (go_at_call 40; (with_reducible refine (HP.out _ HB1.out).mono ?_); rintro e w2 ⟨rfl, hs⟩; have HS2 := Lib.hid hs; have HO2 := Lib.hid (HO0.out.mod hs.modr HX0.out.1 HX0.out.2); have x0 := hs.modr.cell HAP.out.1 HCE.out.1; have x1 := hs.modr.cell HAP.out.1 HCE.out.2; have HY2 := Lib.hid (hs.modr.hold HAP.out.2 HY.out); clear hs c0 c1 c2 c3 c4 c5 c6 c7 c8 c9 c10 c11 k0 k1)
    obtain ⟨c0, c1, c2, c3, c4, c5, c6, c7, c8, c9, c10, c11, k0, k1⟩ := HO2.out
    refine wp_region_u 11 (fun w' => Below w2.heap.size w2 w' ∧ w'.cell? ⟨qd.D, 0, none⟩ = some (.slice (some ⟨gs, 0, none⟩) qd.S.length cc) ∧ w'.cell? ⟨qd.D, 1, none⟩ = some (.int .i64 bs) ∧ w'.cell? ⟨w.heap.size, 9, none⟩ = some (.int .i64 k)) (by kernel_rfl) (by kernel_rfl) ?_ ?_
    · exact ⟨(Below.refl _ _).drew, x0, x1, c9⟩
    simp only [List.take_succ_cons, List.take_zero, List.drop_succ_cons, List.drop_zero]
    repeat (first
      | (refine seqU_skip (by rfl) ?_; simp only [Act.put, List.setIfInBounds_toArray, List.set_cons_zero, List.set_cons_succ])
      | (refine seqU_val ?_ (by rfl) ?_ ?_; rotate_left; · (intro w' hS; obtain ⟨_, _, _, _⟩ := hS; go_simp; first | done | with_reducible rfl)
         simp only [Act.put, List.setIfInBounds_toArray, List.set_cons_zero, List.set_cons_succ]))
    refine seqU_nil (fun w' hS => ?_)
    have HB3 := Lib.hid hS.1
    obtain ⟨y1, y1f⟩ := hold hS.1 HY2.out
    have HFIN := Lib.hid (HST.out w2 w' HS2.out hS.1)
    clear hS x0 x1 c0 c1 c2 c3 c4 c5 c6 c7 c8 c9 c10 c11 k0 k1
    go_wp2
    go_end0
    exact ⟨rfl, (HB0.out.step HS2.out HFIN.out).pre HB.out⟩
set_option maxRecDepth 100000 in
set_option maxHeartbeats 6400000 in
theorem doesN_two {base : Nat} {w : World} {qp : Pv} {qd : Dv} {g gd : Pg} {rows cols room rows' cols' room' : Nat} (h : Both2 base w qp qd g gd) (hg : PgInv rows cols room g) (hgd : PgInv rows' cols' room' gd) (hrows : rows ≤ 1000) (hrows' : rows' ≤ 1000) (hroom : room ≤ 100000) (hroom' : room' ≤ 100000) (ht : g.told.length ≤ 900000) (ht' : gd.told.length ≤ 900000) (o : Pop) (ho : o.kind < 0 ∨ 10 < o.kind) (hok : PopOk o) :
    Calls Tryz.prog 9 #[.pointer (some ⟨qp.P, 0, none⟩), .pointer (some ⟨qd.D, 0, none⟩), .agg #[.int .i64 o.kind, .int .i64 o.x, .int .i64 o.n, .int .i32 o.r, .int .i64 o.at_.fk, .int .i64 o.at_.fn, .int .i64 o.at_.bk, .int .i64 o.at_.bn, .int .i64 o.at_.fl, .int .i64 o.y, .int .i64 o.top, .int .i64 o.bottom]] w (DoesPost2 base w qp qd (stepP g o) (stepP gd o)) := by
  obtain ⟨kind, x, n, r, ⟨fk, fn, bk, bn, fl⟩, y, top, bottom⟩ := o
  simp only at ho
  obtain ⟨W, hW⟩ : ∃ W, (w.alloc (.cells (encPop ⟨kind, x, n, r, ⟨fk, fn, bk, bn, fl⟩, y, top, bottom⟩).toArray 38)).alloc (.cells #[.int .i64 bk, .int .i64 bn] 32) = W := ⟨_, rfl⟩
  have hb0 : Below w.heap.size w W := by rw [← hW]; exact below_allocs (below_allocs (Below.refl _ _) _) _
  have HO0 : Hid (OpC W w.heap.size (w.heap.size + 1) ⟨kind, x, n, r, ⟨fk, fn, bk, bn, fl⟩, y, top, bottom⟩) := Lib.hid (by rw [← hW]; exact OpC.new _)
  have HB := Lib.hid hb0
  have hB := h.below hb0
  have HB0 := Lib.hid hB
  have hXp : ∀ i, w.heap.size + i ∉ pgX qp := fun i hx => by have := (h.p.lt _ hx).2; omega
  have hr1 := hgd.hrows
  have hr2 := hgd.hroom
  have hr3 := hgd.hhist
  have hL : (dcOf gd).L.length ≤ 900000 := by show (gd.hist ++ gd.scr).length ≤ _; simp; omega
  have hbs : (dcOf gd).base ≤ (dcOf gd).L.length := by show gd.hist.length ≤ (gd.hist ++ gd.scr).length; simp
  have HIN := Lib.hid (rdIn_any hB.d (by omega) hbs y)
  rw [dcOf_in] at HIN
  have HX0 := Lib.hid (And.intro (hXp 0) (hXp 1))
  have HG1 : Hid (stepP g ⟨kind, x, n, r, ⟨fk, fn, bk, bn, fl⟩, y, top, bottom⟩ = g) := Lib.hid (by unfold stepP; rw [if_neg (show ¬ kind = 0 by omega)]; rw [if_neg (show ¬ kind = 1 by omega)]; rw [if_neg (show ¬ kind = 2 by omega)]; rw [if_neg (show ¬ kind = 3 by omega)]; rw [if_neg (show ¬ kind = 4 by omega)]; rw [if_neg (show ¬ kind = 5 by omega)]; rw [if_neg (show ¬ kind = 6 by omega)]; rw [if_neg (show ¬ kind = 7 by omega)]; rw [if_neg (show ¬ kind = 8 by omega)]; rw [if_neg (show ¬ kind = 9 by omega)]; rw [if_neg (show ¬ kind = 10 by omega)];  first | done | rfl)
  have HG1d : Hid (stepP gd ⟨kind, x, n, r, ⟨fk, fn, bk, bn, fl⟩, y, top, bottom⟩ = gd) := Lib.hid (by unfold stepP; rw [if_neg (show ¬ kind = 0 by omega)]; rw [if_neg (show ¬ kind = 1 by omega)]; rw [if_neg (show ¬ kind = 2 by omega)]; rw [if_neg (show ¬ kind = 3 by omega)]; rw [if_neg (show ¬ kind = 4 by omega)]; rw [if_neg (show ¬ kind = 5 by omega)]; rw [if_neg (show ¬ kind = 6 by omega)]; rw [if_neg (show ¬ kind = 7 by omega)]; rw [if_neg (show ¬ kind = 8 by omega)]; rw [if_neg (show ¬ kind = 9 by omega)]; rw [if_neg (show ¬ kind = 10 by omega)];  first | done | rfl)
  rw [HG1.out, HG1d.out]
  have hk0 : (kind == 0) = false := beq_eq_false_iff_ne.2 (by omega)
  have hk1 : (kind == 1) = false := beq_eq_false_iff_ne.2 (by omega)
  have hk2 : (kind == 2) = false := beq_eq_false_iff_ne.2 (by omega)
  have hk3 : (kind == 3) = false := beq_eq_false_iff_ne.2 (by omega)
  have hk4 : (kind == 4) = false := beq_eq_false_iff_ne.2 (by omega)
  have hk5 : (kind == 5) = false := beq_eq_false_iff_ne.2 (by omega)
  have hk6 : (kind == 6) = false := beq_eq_false_iff_ne.2 (by omega)
  have hk7 : (kind == 7) = false := beq_eq_false_iff_ne.2 (by omega)
  have hk8 : (kind == 8) = false := beq_eq_false_iff_ne.2 (by omega)
  have hk9 : (kind == 9) = false := beq_eq_false_iff_ne.2 (by omega)
  have hk10 : (kind == 10) = false := beq_eq_false_iff_ne.2 (by omega)
  generalize inP g y = bin at HIN
  clear h hB hg
  cases bin
  all_goals
    have HWW := Lib.hid hW
    clear hW hb0 hXp hbs
    go_enter Tryz.func9, Tryz.ntmps9
    go_upto_region 2 with fail
    rw [show (#[.int .i64 kind, .int .i64 x, .int .i64 n, .int .i32 r, .int .i64 fk, .int .i64 fn, .int .i64 bk, .int .i64 bn, .int .i64 fl, .int .i64 y, .int .i64 top, .int .i64 bottom] : Array Value) = (encPop ⟨kind, x, n, r, ⟨fk, fn, bk, bn, fl⟩, y, top, bottom⟩).toArray from rfl, HWW.out]
    clear HWW
    obtain ⟨c0, c1, c2, c3, c4, c5, c6, c7, c8, c9, c10, c11, k0, k1⟩ := HO0.out
    go_upto_region 3 with (go_at_call 28; (with_reducible refine HIN.out.mono ?_); rintro e w1 ⟨rfl, hb⟩; have HB1 := Lib.hid hb; have HO1 := Lib.hid (HO0.out.below hb); clear hb)
    clear c0 c1 c2 c3 c4 c5 c6 c7 c8 c9 c10 c11 k0 k1
    obtain ⟨c0, c1, c2, c3, c4, c5, c6, c7, c8, c9, c10, c11, k0, k1⟩ := HO1.out
  
    go_wp2
    go_end0
    exact ⟨rfl, (HB0.out.res.post HB1.out).pre HB.out⟩
end Go.Proofs.YtffdblmdelgkaaaGreat
namespace Go.Proofs.YtffdblmdelgkaaaGreat
open Go.RowKit
theorem does_two {base : Nat} {w : World} {qp : Pv} {qd : Dv} {g gd : Pg} {rows cols room rows' cols' room' : Nat} (h : Both2 base w qp qd g gd) (hg : PgInv rows cols room g) (hgd : PgInv rows' cols' room' gd) (hrow0 : 0 < rows) (hrow0' : 0 < rows') (hrows : rows ≤ 1000) (hrows' : rows' ≤ 1000) (hroom : room ≤ 100000) (hroom' : room' ≤ 100000) (ht : g.told.length ≤ 900000) (ht' : gd.told.length ≤ 900000) (o : Pop) (hok : PopOk o) :
    Calls Tryz.prog 9 #[.pointer (some ⟨qp.P, 0, none⟩), .pointer (some ⟨qd.D, 0, none⟩), .agg #[.int .i64 o.kind, .int .i64 o.x, .int .i64 o.n, .int .i32 o.r, .int .i64 o.at_.fk, .int .i64 o.at_.fn, .int .i64 o.at_.bk, .int .i64 o.at_.bn, .int .i64 o.at_.fl, .int .i64 o.y, .int .i64 o.top, .int .i64 o.bottom]] w (DoesPost2 base w qp qd (stepP g o) (stepP gd o)) := by
  by_cases h0 : o.kind = 0
  · exact does0_two h hg hgd hrows hrows' hroom hroom' ht ht' o h0 hok
  by_cases h1 : o.kind = 1
  · exact does1_two h hg hgd hrows hrows' hroom hroom' ht ht' o h1 hok
  by_cases h2 : o.kind = 2
  · exact does2_two h hg hgd hrow0 hrow0' hrows hrows' hroom hroom' ht ht' o h2 hok
  by_cases h3 : o.kind = 3
  · exact does3_two h hg hgd hrows hrows' hroom hroom' ht ht' o h3 hok
  by_cases h4 : o.kind = 4
  · exact does4_two h hg hgd hrows hrows' hroom hroom' ht ht' o h4 hok
  by_cases h5 : o.kind = 5
  · exact does5_two h hg hgd hrows hrows' hroom hroom' ht ht' o h5 hok
  by_cases h6 : o.kind = 6
  · exact does6_two h hg hgd hrow0 hrow0' hrows hrows' hroom hroom' ht ht' o h6 hok
  by_cases h7 : o.kind = 7
  · exact does7_two h hg hgd hrow0 hrow0' hrows hrows' hroom hroom' ht ht' o h7 hok
  by_cases h8 : o.kind = 8
  · exact does8_two h hg hgd hrow0 hrow0' hrows hrows' hroom hroom' ht ht' o h8 hok
  by_cases h9 : o.kind = 9
  · exact does9_two h hg hgd hrows hrows' hroom hroom' ht ht' o h9 hok
  by_cases h10 : o.kind = 10
  · exact does10_two h hg hgd hrow0 hrow0' hrows hrows' hroom hroom' ht ht' o h10 hok
  · exact doesN_two h hg hgd hrows hrows' hroom hroom' ht ht' o (by omega) hok
end Go.Proofs.YtffdblmdelgkaaaGreat

namespace Go.Proofs.YtffdblmdelgkaaaGreat
def zC : Cl := blankC ⟨0, 0⟩
def nPad (c : Cl) : Bool := decide (c.half ≠ 3)
def roSize (r : Ro) : Nat := (r.cs.filter nPad).length
def cntL (l : List Ro) : Nat := (l.map roSize).sum
def flatR (l : List Ro) : List Cl := l.flatMap (fun r => r.cs.filter nPad)
def flowL (rows : List Ro) : List Cl := (mendL (flatR rows)).take (usedL (mendL (flatR rows)))
def unpad (c : Cl) : Cl := if c.half = 3 then emptyC c else c
def plainL (l : List Cl) : List Cl := mendL (l.map unpad)
def takeN (cols : Nat) (l : List Cl) : Nat := if l.length < cols then l.length else if (l.getD (cols - 1) zC).half = 1 then cols - 1 else cols
def rowCs (cols : Nat) (l : List Cl) : List Cl := l.take (takeN cols l) ++ (if takeN cols l + 1 = cols ∧ takeN cols l < l.length then [padC] else List.replicate (cols - takeN cols l) zC)
def splitG (cols : Nat) : Nat → Bool → List Cl → List Ro
  | 0, _, _ => []
  | f + 1, c, l => ⟨rowCs cols l, c⟩ :: (if takeN cols l < l.length then splitG cols f true (l.drop (takeN cols l)) else [])
def splitL (cols : Nat) (l : List Cl) : List Ro := splitG cols (l.length + 1) false (plainL l)
theorem takeN_le (cols : Nat) (l : List Cl) : takeN cols l ≤ l.length := by unfold takeN; split <;> (try split) <;> omega
theorem takeN_cols (cols : Nat) (l : List Cl) : takeN cols l ≤ cols := by unfold takeN; split <;> (try split) <;> omega
theorem takeN_pos {cols : Nat} (hc : 2 ≤ cols) {l : List Cl} (h : 0 < l.length) : 0 < takeN cols l := by unfold takeN; split <;> (try split) <;> omega
theorem rowCs_len {cols : Nat} (hc : 2 ≤ cols) (l : List Cl) : (rowCs cols l).length = cols := by
  unfold rowCs
  have h1 := takeN_le cols l
  have h2 := takeN_cols cols l
  rw [List.length_append, List.length_take]
  split
  · simp only [List.length_cons, List.length_nil]; omega
  · rw [List.length_replicate]; omega
theorem splitG_wide {cols : Nat} (hc : 2 ≤ cols) : ∀ (f : Nat) (c : Bool) (l : List Cl), ∀ r ∈ splitG cols f c l, r.cs.length = cols
  | 0, _, _, r, h => by cases h
  | f + 1, c, l, r, h => by
    rw [splitG] at h
    rcases List.mem_cons.1 h with rfl | h
    · exact rowCs_len hc l
    · split at h
      · exact splitG_wide hc f true _ r h
      · cases h
theorem splitG_len {cols : Nat} (hc : 2 ≤ cols) : ∀ (f : Nat) (c : Bool) (l : List Cl), (splitG cols f c l).length ≤ l.length + 1
  | 0, _, _ => by simp [splitG]
  | f + 1, c, l => by
    rw [splitG, List.length_cons]
    split
    · next h =>
      have := splitG_len hc f true (l.drop (takeN cols l))
      rw [List.length_drop] at this
      have := takeN_pos hc (l := l) (by omega)
      omega
    · simp
/-- Fuel enough. -/
theorem splitG_fuel {cols : Nat} (hc : 2 ≤ cols) : ∀ (f f' : Nat) (c : Bool) (l : List Cl), l.length < f → l.length < f' → splitG cols f c l = splitG cols f' c l
  | 0, _, _, _, h, _ => by omega
  | _ + 1, 0, _, _, _, h => by omega
  | f + 1, f' + 1, c, l, h, h' => by
    rw [splitG, splitG]
    split
    · next hl =>
      have := takeN_pos hc (l := l) (by omega)
      rw [splitG_fuel hc f f' true (l.drop (takeN cols l)) (by rw [List.length_drop]; omega) (by rw [List.length_drop]; omega)]
    · rfl
theorem plainL_len (l : List Cl) : (plainL l).length = l.length := by unfold plainL; rw [mendL_len, List.length_map]
/-- Lines. -/
def groupsL : List Ro → List (List Ro)
  | [] => []
  | r :: l => match groupsL l with
    | [] => [[r]]
    | g :: gs => if (l.head?.map (·.cont)).getD false then (r :: g) :: gs else [r] :: g :: gs
theorem groupsL_nil_iff (l : List Ro) : groupsL l = [] ↔ l = [] := by
  cases l with
  | nil => simp [groupsL]
  | cons r l =>
    rw [groupsL]
    split
    · simp
    · split <;> simp
theorem groupsL_flat : ∀ l : List Ro, (groupsL l).flatten = l
  | [] => rfl
  | r :: l => by
    have ih := groupsL_flat l
    rw [groupsL]
    split
    · next h => rw [(groupsL_nil_iff l).1 h]; rfl
    · next g gs h =>
      rw [h] at ih
      rw [← ih]
      split <;> simp
theorem groupsL_cut (pre : List Ro) (post : List Ro) (hp : ∀ x, post.head? = some x → x.cont = false) : groupsL (pre ++ post) = groupsL pre ++ groupsL post := by
  induction pre with
  | nil => rfl
  | cons r l ih =>
    rw [List.cons_append, groupsL, groupsL, ih]
    cases hl : groupsL l with
    | nil =>
      rw [(groupsL_nil_iff l).1 hl]
      simp only [List.nil_append]
      cases hq : groupsL post with
      | nil => rfl
      | cons g gs =>
        cases post with
        | nil => rw [groupsL] at hq; cases hq
        | cons x post => have := hp x rfl; simp [this]
    | cons g gs =>
      have hne : l ≠ [] := fun h => by rw [h, groupsL] at hl; cases hl
      obtain ⟨x, l', rfl⟩ : ∃ x l', l = x :: l' := by cases l with
        | nil => exact absurd rfl hne
        | cons x l' => exact ⟨x, l', rfl⟩
      simp only [List.cons_append, List.head?_cons, Option.map_some, Option.getD_some]
      by_cases hx : x.cont = true <;> simp [hx]
/-- Where lines lie. -/
def ivs : Nat → List (List Ro) → List (Nat × Nat)
  | _, [] => []
  | a, g :: gs => (a, a + g.length) :: ivs (a + g.length) gs
theorem ivs_append : ∀ (a : Nat) (G H : List (List Ro)), ivs a (G ++ H) = ivs a G ++ ivs (a + G.flatten.length) H
  | a, [], H => by simp [ivs]
  | a, g :: G, H => by
    rw [List.cons_append, ivs, ivs, ivs_append (a + g.length) G H, List.cons_append, List.flatten_cons, List.length_append, Nat.add_assoc]
/-- Offsets and places. -/
def offP (rows : List Ro) (y x : Int) : Nat :=
  if y < 0 ∨ rows = [] then 0
  else if (rows.length : Int) ≤ y then cntL rows
  else cntL (rows.take y.toNat) + min x.toNat (roSize (rows.getD y.toNat ⟨[], false⟩))
def sumsL (rows : List Ro) : List Nat := (List.range rows.length).map (fun k => cntL (rows.take (k + 1)))
def firstGt (rows : List Ro) (off : Nat) : Nat := (List.range rows.length).countP (fun k => decide (cntL (rows.take (k + 1)) ≤ off))
theorem sumsL_len (rows : List Ro) : (sumsL rows).length = rows.length := by simp [sumsL]
theorem sumsL_at {rows : List Ro} {k : Nat} (h : k < rows.length) : (sumsL rows)[k]? = some (cntL (rows.take (k + 1))) := by
  unfold sumsL
  rw [List.getElem?_map, List.getElem?_range h]
  rfl
theorem cntL_append (a b : List Ro) : cntL (a ++ b) = cntL a + cntL b := by simp [cntL]
theorem cntL_take_succ {rows : List Ro} {k : Nat} {r : Ro} (h : rows[k]? = some r) : cntL (rows.take (k + 1)) = cntL (rows.take k) + roSize r := by
  rw [List.take_add_one, h, cntL_append]
  simp [cntL]
theorem cntL_mono (rows : List Ro) {a b : Nat} (h : a ≤ b) : cntL (rows.take a) ≤ cntL (rows.take b) := by
  have e : rows.take b = rows.take a ++ (rows.take b).drop a := by
    conv => lhs; rw [← List.take_append_drop a (rows.take b), List.take_take, Nat.min_eq_left h]
  rw [e, cntL_append]
  omega
theorem countP_mono_spec {p : Nat → Bool} (hp : ∀ a b, a ≤ b → p b = true → p a = true) : ∀ (n k : Nat), k < n → (p k = true ↔ k < (List.range n).countP p)
  | 0, k, h => by omega
  | n + 1, k, h => by
    rw [List.range_succ, List.countP_append, List.countP_singleton]
    have hle := List.countP_le_length (p := p) (l := List.range n)
    rw [List.length_range] at hle
    by_cases hn : p n = true
    · have hall : (List.range n).countP p = n := by
        have := List.countP_eq_length (p := p) (l := List.range n) |>.2 (fun a ha => hp a n (by have := List.mem_range.1 ha; omega) hn)
        rw [this, List.length_range]
      rw [hall, if_pos hn]
      exact ⟨fun _ => h, fun _ => hp k n (by omega) hn⟩
    · rw [if_neg hn, Nat.add_zero]
      by_cases hk : k < n
      · exact countP_mono_spec hp n k hk
      · have : k = n := by omega
        subst this
        exact ⟨fun h => absurd h hn, fun h => by omega⟩
theorem firstGt_spec (rows : List Ro) (off : Nat) {k : Nat} (hk : k < rows.length) : cntL (rows.take (k + 1)) ≤ off ↔ k < firstGt rows off := by
  have := countP_mono_spec (p := fun k => decide (cntL (rows.take (k + 1)) ≤ off)) (fun a b hab h => by
    have := cntL_mono rows (show a + 1 ≤ b + 1 by omega)
    simp only [decide_eq_true_eq] at h ⊢; omega) rows.length k hk
  rw [decide_eq_true_eq] at this
  exact this
def plP (rows : List Ro) (off : Nat) : Nat × Nat :=
  if rows = [] then (0, 0)
  else if firstGt rows off < rows.length then (firstGt rows off, off - cntL (rows.take (firstGt rows off)))
  else (rows.length - 1, min off (cntL rows) - cntL (rows.take (rows.length - 1)))
def madeG (cols : Nat) (g : List Ro) : List Ro := splitL cols (flowL g)
/-- Where a place is then. -/
def placeG (cols : Nat) (x : Int) : List (List Ro) → Nat → Nat → Nat × Nat
  | [], _, out => (out, 0)
  | g :: gs, y, out => if y < g.length then (out + (plP (madeG cols g) (offP g y x)).1, (plP (madeG cols g) (offP g y x)).2) else placeG cols x gs (y - g.length) (out + (madeG cols g).length)
def reflowL (cols : Nat) (rows : List Ro) : List Ro := (groupsL rows).flatMap (madeG cols)
def reflowP (cols : Nat) (rows : List Ro) (p : Int × Int) : Nat × Nat := placeG cols (if p.1 < 0 then 0 else p.2) (groupsL rows) p.1.toNat 0
theorem splitL_wide {cols : Nat} (hc : 2 ≤ cols) (l : List Cl) : ∀ r ∈ splitL cols l, r.cs.length = cols := splitG_wide hc _ _ _
theorem reflowL_wide {cols : Nat} (hc : 2 ≤ cols) (rows : List Ro) : ∀ r ∈ reflowL cols rows, r.cs.length = cols := fun r hr => by
  obtain ⟨g, -, hg⟩ := List.mem_flatMap.1 hr
  exact splitL_wide hc _ r hg
end Go.Proofs.YtffdblmdelgkaaaGreat

namespace Go.Proofs.YtffdblmdelgkaaaGreat
open Go.RowKit
theorem gr_own {α : Type} {enc : α → List Value} {K : Nat} (hl : ∀ x, (enc x).length = K) {w : World} {base : Nat} {e : TypeId} {A : Option Addr} {n c : Nat} {X : List α} (h : w.ownsRow base e K (.slice A n c) X.length (flat enc X)) : GrAt enc K w A X := fun h0 => by
  obtain ⟨g, c', hv⟩ := own_form h h0
  simp only [Value.slice.injEq] at hv
  obtain ⟨rfl, rfl, rfl⟩ := hv
  refine ⟨g, 0, rfl, fun i x hi j v hj => ?_⟩
  rw [Nat.zero_add]
  exact (owns_hold h (i := i * K + j) (by rw [flat_at2 hl X i x j hi (by have := (List.getElem?_eq_some_iff.1 hj).1; rw [hl] at this; exact this)]; exact hj)).1
set_option maxRecDepth 100000 in
set_option maxHeartbeats 3200000 in
theorem usedL_take {l : List Cl} {n : Nat} {c : Cl} (hc : l[n]? = some c) : usedL (l.take (n + 1)) = if c.r = 0 then usedL (l.take n) else n + 1 := by
  have hn : n < l.length := (List.getElem?_eq_some_iff.1 hc).1
  have e : l.take (n + 1) = l.take n ++ [c] := by rw [List.take_add_one, hc]; rfl
  rw [e]
  unfold usedL
  rw [List.reverse_append, List.reverse_singleton, List.singleton_append, List.dropWhile_cons]
  by_cases h : c.r = 0
  · rw [if_pos (by simpa using h), if_pos h]
  · rw [if_neg (by simpa using h), if_neg h]
    simp; omega
theorem usedL_le (l : List Cl) : usedL l ≤ l.length := by
  unfold usedL
  have := (List.dropWhile_sublist (fun c : Cl => decide (c.r = 0)) (l := l.reverse)).length_le
  rwa [List.length_reverse] at this
set_option maxRecDepth 100000 in
set_option maxHeartbeats 3200000 in
theorem cUsed_any (A : Option Addr) (l : List Cl) (ca : Nat) (w : World) (hl : GrAt encCl 8 w A l) (hz : l.length ≤ 100000000) :
    Calls Tryz.prog 104 #[.slice A l.length ca] w (fun e w' => e = .returned (.int .i64 (usedL l)) ∧ Below w.heap.size w w') := by
  have HL := Lib.hid hl
  obtain ⟨m, hm⟩ : ∃ m, m = l.length := ⟨_, rfl⟩
  have HM := Lib.hid hm
  have HZ := Lib.hid hz
  rw [← hm]
  clear hl hz hm
  go_enter Tryz.func104, Tryz.ntmps104
  go_wp2_with fail
  go_loopw [3] (fun s3 wr => ∃ n : Nat, s3 = .int .i64 n ∧ n ≤ m ∧ usedL (l.take n) = usedL l ∧ Below w.heap.size w wr) (fun s3 _ => (intOf s3).toNat)
  case atStart => exact ⟨m, rfl, Nat.le_refl _, by rw [HM.out, List.take_length], Below.refl _ _⟩
  case round =>
    obtain ⟨n, rfl, hn, hu, hb⟩ := hrel
    have HB := Lib.hid hb
    have HU := Lib.hid hu
    by_cases h0 : n = 0
    · subst h0
      clear hu hb
      go_wp2
      go_ret
      exact ⟨by rw [← HU.out]; rfl, HB.out⟩
    · obtain ⟨k, rfl⟩ : ∃ k, n = k + 1 := ⟨n - 1, by omega⟩
      obtain ⟨n1, hn1⟩ : ∃ n1, n1 = k + 1 := ⟨_, rfl⟩
      rw [← hn1] at hn ⊢
      have h0I : 0 < (n1 : Int) := by omega
      have hs : (n1 : Int) - 1 = (k : Int) := by omega
      have hkl : k < l.length := by have := HM.out; omega
      have hkI : (k : Int) < (m : Int) := by omega
      obtain ⟨b, off, c, rfl, hc, hcell⟩ := (HL.out.below hb).at_ hkl
      have hwk : IntKind.i64.wrap (k : Int) = (k : Int) := IntWalk.i64_in _ (by have := HZ.out; omega)
      have hT := usedL_take hc
      have c0 := hcell 0 _ rfl
      simp only [Nat.add_zero] at c0
      rw [← hn1] at hu hT
      have HT := Lib.hid hT
      have HN1 := Lib.hid hn1
      clear hu hb hc hcell hT hn1 h0 hkl
      by_cases hr : c.r = 0
      · have hrb : (c.r == 0) = true := by simp [hr]
        have HR := Lib.hid hr
        clear hr
        go_wp2
        go_roundw
        case rel => exact ⟨k, by go_num, by have := HN1.out; omega, by rw [← HU.out, ← HN1.out, HT.out, if_pos HR.out], HB.out⟩
        case measure => simp [intOf]; have := HN1.out; omega
      · have hrb : (c.r == 0) = false := by simp [hr]
        have HR := Lib.hid hr
        clear hr
        go_wp2
        go_ret
        exact ⟨by rw [← HU.out, ← HN1.out, HT.out, if_neg HR.out]; rfl, HB.out⟩
set_option maxRecDepth 100000 in
set_option maxHeartbeats 3200000 in
theorem rUsed_any (A : Option Addr) (l : List Cl) (ca : Nat) (w : World) (hl : GrAt encCl 8 w A l) (hz : l.length ≤ 100000000) :
    Calls Tryz.prog 61 #[.slice A l.length ca] w (fun e w' => e = .returned (.int .i64 (usedL l)) ∧ Below w.heap.size w w') := by
  have HL := Lib.hid hl
  obtain ⟨m, hm⟩ : ∃ m, m = l.length := ⟨_, rfl⟩
  have HM := Lib.hid hm
  have HZ := Lib.hid hz
  rw [← hm]
  clear hl hz hm
  go_enter Tryz.func61, Tryz.ntmps61
  go_wp2_with fail
  go_loopw [3, 4] (fun s3 s4 wr => ∃ i : Nat, s4 = .int .i64 i ∧ i ≤ m ∧ s3 = .int .i64 (usedL (l.take i)) ∧ Below w.heap.size w wr) (fun _ s4 _ => m - (intOf s4).toNat)
  case atStart => exact ⟨0, rfl, Nat.zero_le _, rfl, Below.refl _ _⟩
  case round =>
    obtain ⟨i, rfl, hi, rfl, hb⟩ := hrel
    have HB := Lib.hid hb
    by_cases hlt : i < m
    rotate_left
    · have hge : ¬ (i : Int) < (m : Int) := by omega
      have hie : i = l.length := by have := HM.out; omega
      have HIE := Lib.hid hie
      clear hb hie
      go_wp2
      go_ret
      exact ⟨by rw [HIE.out, List.take_length]; rfl, HB.out⟩
    · have hltI : (i : Int) < (m : Int) := by omega
      have hil : i < l.length := by have := HM.out; omega
      obtain ⟨b, off, c, rfl, hc, hcell⟩ := (HL.out.below hb).at_ hil
      have HT := Lib.hid (usedL_take hc)
      have c0 := hcell 0 _ rfl
      simp only [Nat.add_zero] at c0
      have hwi : IntKind.i64.wrap ((i : Int) + 1) = (i : Int) + 1 := IntWalk.i64_in _ (by have := HZ.out; have := HM.out; omega)
      clear hb hc hcell hil
      by_cases hr : c.r = 0
      · have hrb : (c.r == 0) = true := by simp [hr]
        have HR := Lib.hid hr
        clear hr
        go_wp2
        go_roundw
        case rel => exact ⟨i + 1, by go_num, by omega, by rw [HT.out, if_pos HR.out], HB.out⟩
        case measure => simp [intOf]; omega
      · have hrb : (c.r == 0) = false := by simp [hr]
        have HR := Lib.hid hr
        clear hr
        go_wp2
        go_roundw
        case rel => exact ⟨i + 1, by go_num, by omega, by rw [HT.out, if_neg HR.out]; go_num, HB.out⟩
        case measure => simp [intOf]; omega
theorem filter_take {l : List Cl} {n : Nat} {c : Cl} (hc : l[n]? = some c) : (l.take (n + 1)).filter nPad = (l.take n).filter nPad ++ (if c.half = 3 then [] else [c]) := by
  rw [List.take_add_one, hc, List.filter_append]
  by_cases h : c.half = 3 <;> simp [nPad, h]
set_option maxRecDepth 100000 in
set_option maxHeartbeats 3200000 in
theorem fsize_any (r : Rh) (w : World) (hl : GrAt encCl 8 w r.A r.cs) (hz : r.cs.length ≤ 100000000) :
    Calls Tryz.prog 134 #[.agg #[.slice r.A r.cs.length r.cap, .bool r.cont]] w (fun e w' => e = .returned (.int .i64 (roSize (roOf r))) ∧ Below w.heap.size w w') := by
  obtain ⟨A, l, ca, cont⟩ := r
  simp only at hl hz
  show Calls _ _ _ _ (fun e w' => e = .returned (.int .i64 (l.filter nPad).length) ∧ _)
  simp only
  have HAB := Lib.hid (below_allocs (Below.refl w.heap.size w) (.cells #[.slice A l.length ca, .bool cont] 50))
  have HL := Lib.hid hl
  have HZ := Lib.hid hz
  obtain ⟨m, hm⟩ : ∃ m, l.length = m := ⟨_, rfl⟩
  rw [hm] at HAB ⊢
  have HM := Lib.hid hm.symm
  clear hl hz hm
  go_enter Tryz.func134, Tryz.ntmps134
  go_wp2_with fail
  go_loopw [3, 9] (fun s3 s9 wr => ∃ i : Nat, s9 = .int .i64 i ∧ i ≤ m ∧ s3 = .int .i64 ((l.take i).filter nPad).length ∧ Below w.heap.size w wr) (fun _ s9 _ => m - (intOf s9).toNat)
  case atStart => exact ⟨0, rfl, Nat.zero_le _, rfl, HAB.out⟩
  case round =>
    obtain ⟨i, rfl, hi, rfl, hb⟩ := hrel
    have HB := Lib.hid hb
    by_cases hlt : i < m
    rotate_left
    · have hge : ¬ (i : Int) < (m : Int) := by omega
      have hie : i = l.length := by have := HM.out; omega
      have HIE := Lib.hid hie
      clear hb hie
      go_wp2
      go_ret
      exact ⟨by rw [HIE.out, List.take_length]; rfl, HB.out⟩
    · have hltI : (i : Int) < (m : Int) := by omega
      have hil : i < l.length := by have := HM.out; omega
      obtain ⟨b, off, c, rfl, hc, hcell⟩ := (HL.out.below hb).at_ hil
      have HT := Lib.hid (filter_take hc)
      have hfl : ((l.take i).filter nPad).length ≤ i := Nat.le_trans (List.length_filter_le _ _) (by rw [List.length_take]; omega)
      have c0 := hcell 0 _ rfl
      have c1 := hcell 1 _ rfl
      have c2 := hcell 2 _ rfl
      have c3 := hcell 3 _ rfl
      have c4 := hcell 4 _ rfl
      have c5 := hcell 5 _ rfl
      have c6 := hcell 6 _ rfl
      have c7 := hcell 7 _ rfl
      simp only [Nat.add_zero] at c0
      obtain ⟨q, hq⟩ : ∃ q, q = ((l.take i).filter nPad).length := ⟨_, rfl⟩
      have HQ := Lib.hid hq
      rw [← hq]
      rw [← hq] at hfl
      have hwi : IntKind.i64.wrap ((i : Int) + 1) = (i : Int) + 1 := IntWalk.i64_in _ (by have := HZ.out; have := HM.out; omega)
      have hwq : IntKind.i64.wrap ((q : Int) + 1) = (q : Int) + 1 := IntWalk.i64_in _ (by have := HZ.out; have := HM.out; omega)
      have HB2 := Lib.hid (below_tail hb (below_allocs (Below.refl wr.heap.size wr) (.cells #[.int .i32 c.r, .string c.more, .int .i64 c.half, .int .i64 c.fk, .int .i64 c.fn, .int .i64 c.bk, .int .i64 c.bn, .int .i64 c.fl] 109)))
      clear hb hc hcell hq hfl hil
      by_cases hr : c.half = 3
      · have hrb : (c.half == 3) = true := by simp [hr]
        have HR := Lib.hid hr
        clear hr
        go_wp2
        go_roundw
        case rel => exact ⟨i + 1, by go_num, by omega, by rw [HT.out, if_pos HR.out, List.append_nil, HQ.out], HB2.out⟩
        case measure => simp [intOf]; omega
      · have hrb : (c.half == 3) = false := by simp [hr]
        have HR := Lib.hid hr
        clear hr
        go_wp2
        go_roundw
        case rel => exact ⟨i + 1, by go_num, by omega, by rw [HT.out, if_neg HR.out, List.length_append, ← HQ.out]; go_num, HB2.out⟩
        case measure => simp [intOf]; omega
set_option maxRecDepth 100000 in
theorem ftake_any (A : Option Addr) (l : List Cl) (ca cols : Nat) (w : World) (hl : GrAt encCl 8 w A l) (hz : l.length ≤ 100000000) (hc : 2 ≤ cols) (hc2 : cols ≤ 1000) :
    Calls Tryz.prog 132 #[.slice A l.length ca, .int .i64 cols] w (fun e w' => e = .returned (.int .i64 (takeN cols l)) ∧ w = w') := by
  unfold takeN
  by_cases h : l.length < cols
  · rw [if_pos h]
    have hI : (l.length : Int) < (cols : Int) := by omega
    clear hl h
    go_enter Tryz.func132, Tryz.ntmps132
    go_wp2
    go_ret
    exact ⟨rfl, rfl⟩
  · rw [if_neg h]
    have hI : ¬ (l.length : Int) < (cols : Int) := by omega
    obtain ⟨k, hk⟩ : ∃ k, k = cols - 1 := ⟨_, rfl⟩
    have hkl : k < l.length := by omega
    obtain ⟨b, off, c, rfl, hcc, hcell⟩ := hl.at_ hkl
    have hgd : l.getD (cols - 1) zC = c := by rw [← hk, List.getD_eq_getElem?_getD, hcc]; rfl
    rw [hgd, ← hk]
    have hs : (cols : Int) - 1 = (k : Int) := by omega
    have hwk : IntKind.i64.wrap (k : Int) = (k : Int) := IntWalk.i64_in _ (by omega)
    have hkI : (k : Int) < (l.length : Int) := by omega
    have c2 := hcell 2 _ rfl
    clear hl hk hcell hcc hgd h hkl
    by_cases hr : c.half = 1
    · rw [if_pos hr]
      have hrb : (c.half == 1) = true := by simp [hr]
      clear hr
      go_enter Tryz.func132, Tryz.ntmps132
      go_wp2
      go_ret
      exact ⟨rfl, rfl⟩
    · rw [if_neg hr]
      have hrb : (c.half == 1) = false := by simp [hr]
      clear hr
      go_enter Tryz.func132, Tryz.ntmps132
      go_wp2
      go_ret
      exact ⟨rfl, rfl⟩
set_option maxRecDepth 100000 in
theorem ffits_any (cols : Nat) (w : World) (hc : 2 ≤ cols) (hc2 : cols ≤ 1000) : Calls Tryz.prog 96 #[.int .i64 cols] w (fun e w' => e = .returned (.bool true) ∧ w = w') := by
  have h1 : 2 ≤ (cols : Int) := by omega
  have h2 : (cols : Int) ≤ 1000 := by omega
  go_enter Tryz.func96, Tryz.ntmps96
  go_wp2
  go_ret
  exact ⟨rfl, rfl⟩
end Go.Proofs.YtffdblmdelgkaaaGreat

namespace Go.Proofs
open Go.Shelf
def Tryz.search_ren : Go.Shelf.Ren := ⟨fun | 16 => 135 | n => n, fun | 3 => 3 | 35 => 77 | 4 => 4 | 38 => 150 | n => n, fun | n => n⟩
theorem Tryz.search : Go.Proofs.SlLaysO.n16 Tryz.prog Tryz.search_ren := {
  mixed := by kernel_rfl
  f16 := Tryz.func135.trans (congrArg some (by kernel_rfl))
  t3 := Tryz.underlying3
  a3 := Tryz.isAgg3
  z3 := Tryz.sizeOf3
  v3 := Tryz.zeroValue3
  t4 := Tryz.underlying4
  a4 := Tryz.isAgg4
  z4 := Tryz.sizeOf4
  v4 := Tryz.zeroValue4
  t35 := Tryz.underlying77
  a35 := Tryz.isAgg77
  z35 := Tryz.sizeOf77
  v35 := Tryz.zeroValue77
  t38 := Tryz.underlying150
  a38 := Tryz.isAgg150
  z38 := Tryz.sizeOf150
  v38 := Tryz.zeroValue150 }
end Go.Proofs
