/- PagePlays: the walk. Conditions: as stated. -/
import Derived.Test.YtffdblmdelgkaaaGreatDsF
namespace Go.Proofs.YtffdblmdelgkaaaGreat
open Go.RowKit

theorem encPop_len : ∀ o, (encPop o).length = 12 := fun _ => rfl
theorem BoRes.below0 {base : Nat} {w w' : World} {qp : Pv} {qd : Dv} {g g' : Pg} (h : Both base w qp qd g) (hr : BoRes base w qp qd g' w') (hb : base ≤ w.heap.size) : Below base w w' := by
  obtain ⟨qp', qd', -, -, -, hm, -⟩ := hr
  exact hm.below (fun b hb => by
    rcases List.mem_append.1 hb with hb | hb
    · exact (h.p.lt b hb).1
    · exact (h.d.lt b hb).1) hb
/-- The state between two operations: both are alike, nothing is told. -/
def PlayS (B rows cols room : Nat) (w0 : World) (P D : Nat) (w : World) : Prop :=
  ∃ g qp qd, PgInv rows cols room g ∧ g.told = [] ∧ qp.P = P ∧ qd.D = D ∧ Both B w qp qd g ∧ Below w0.heap.size w0 w ∧ w0.heap.size ≤ B
set_option maxRecDepth 100000 in
set_option maxHeartbeats 6400000 in
theorem PagePlays_walk (a b c : Int) (ha : 0 ≤ a) (hb : 0 ≤ b) (hc : 0 ≤ c) (A : Option Addr) (l : List Pop) (ca : Nat) (w : World) (hz : l.length ≤ 9223372036854775807) (hl : GrAt encPop 12 w A l) (hok : ∀ o ∈ l, PopOk o) :
    Calls Tryz.prog 3 #[.agg #[.int .u8 a, .int .u8 b, .int .u8 c], .slice A l.length ca] w (TruePost w) := by
  have hb0 := below_allocs (Below.refl w.heap.size w) (.cells #[.int .u8 a, .int .u8 b, .int .u8 c] 23)
  have HB0 := Lib.hid hb0
  have HAW := Lib.hid (fun w => awake13 w)
  have HL := Lib.hid hl
  have HOK := Lib.hid hok
  have HX := Lib.hid (hp_new (W := w) (b := w.heap.size) (o := .cells #[.int .u8 a, .int .u8 b, .int .u8 c] 23) rfl)
  by_cases h40 : 40 < l.length
  · have h40I : (40 : Int) < (l.length : Int) := by omega
    clear hl hb0 hok
    go_enter Tryz.func3, Tryz.ntmps3
    go_wp2_with (go_at_call 7; (with_reducible refine (HAW.out _).mono ?_); rintro e w1 ⟨rfl, hb⟩; have HB1 := Lib.hid (below_tail HB0.out hb); clear hb)
    go_ret
    exact ⟨rfl, HB1.out⟩
  have h40I : ¬ (40 : Int) < (l.length : Int) := by omega
  obtain ⟨rows, hrows⟩ : ∃ rows, rows = 1 + (a % 12).toNat := ⟨_, rfl⟩
  obtain ⟨cols, hcols⟩ : ∃ cols, cols = 2 + (b % 20).toNat := ⟨_, rfl⟩
  obtain ⟨room, hroom⟩ : ∃ room, room = (c % 20).toNat := ⟨_, rfl⟩
  have HMD : Hid (∀ w, Calls Tryz.prog 8 #[.agg #[.int .u8 a, .int .u8 b, .int .u8 c]] w (MadePost rows cols room w)) := Lib.hid (fun w => by rw [hrows, hcols, hroom]; exact made_any a b c w ha hb hc)
  have HRW : Hid (0 < rows ∧ rows ≤ 12 ∧ room ≤ 20) := Lib.hid (by omega)
  clear hl hb0 hok hrows hcols hroom
  go_enter Tryz.func3, Tryz.ntmps3
  go_upto_region 3 with (go_at_call 7; (with_reducible refine (HAW.out _).mono ?_); rintro e w1 ⟨rfl, hb⟩; have HB1 := Lib.hid (below_tail HB0.out hb); have HX1 := Lib.hid ((hb.block _ (lt_of_heap HX.out)).trans HX.out); clear hb)
  have x0 := (at_ HX1.out 0 _ rfl).1
  have x1 := (at_ HX1.out 1 _ rfl).1
  have x2 := (at_ HX1.out 2 _ rfl).1
  go_wp2_with (go_at_call 8; (with_reducible refine (HMD.out _).mono ?_); rintro e w2 ⟨qp0, qd0, rfl, hbo, hb⟩; have HBO := Lib.hid hbo; have HB2 := Lib.hid (below_tail HB1.out hb); have HB12 := Lib.hid hb; clear hbo hb x0 x1 x2)
  obtain ⟨B, hB⟩ : ∃ B, B = w1.heap.size := ⟨_, rfl⟩
  rw [← hB] at HBO
  have HBB : Hid (w.heap.size ≤ B ∧ B ≤ w2.heap.size) := Lib.hid ⟨by rw [hB]; exact HB1.out.size, by rw [hB]; exact HB12.out.size⟩
  clear hB
  go_loopw [7] (fun s7 wr => ∃ i : Nat, s7 = .int .i64 i ∧ i ≤ l.length ∧ PlayS B rows cols room w qp0.P qd0.D wr) (fun s7 _ => l.length - (intOf s7).toNat)
  case atStart => exact ⟨0, rfl, Nat.zero_le _, newP rows cols room, qp0, qd0, newP_inv _ _ _, rfl, rfl, rfl, HBO.out, HB2.out, HBB.out.1⟩
  case round =>
    obtain ⟨i, rfl, hi, g, qp, qd, hg, htold, e1, e2, hBo, hBw, -⟩ := hrel
    have HBW := Lib.hid hBw
    by_cases hlt : i < l.length
    rotate_left
    · have hge : ¬ (i : Int) < (l.length : Int) := by omega
      clear hg htold hBo e1 e2
      go_wp2
      go_ret
      exact ⟨rfl, HBW.out⟩
    · have hltI : (i : Int) < (l.length : Int) := by omega
      obtain ⟨bb, off, o, rfl, ho, hcell⟩ := (HL.out.below hBw).at_ hlt
      have hBsz : B ≤ wr.heap.size := by have := hBo.p.lt qp.P (by simp [pgX]); omega
      have HDO := Lib.hid (does_any hBo hg HRW.out.1 (by have := HRW.out; omega) (by have := HRW.out; omega) (by rw [htold]; simp) o (HOK.out o (List.mem_of_getElem? ho)))
      rw [e1, e2] at HDO
      have HG := Lib.hid (And.intro hg (And.intro htold (And.intro e1 (And.intro e2 (And.intro hBo hBsz)))))
      have c0 := hcell 0 _ rfl
      have c1 := hcell 1 _ rfl
      have c2 := hcell 2 _ rfl
      have c3 := hcell 3 _ rfl
      have c4 := hcell 4 _ rfl
      have c5 := hcell 5 _ rfl
      have c6 := hcell 6 _ rfl
      have c7 := hcell 7 _ rfl
      have c8 := hcell 8 _ rfl
      have c9 := hcell 9 _ rfl
      have c10 := hcell 10 _ rfl
      have c11 := hcell 11 _ rfl
      simp only [Nat.add_zero] at c0
      clear hg htold hBo hBw hcell ho e1 e2
      go_upto_region 10 with (go_at_call 9; (with_reducible refine HDO.out.mono ?_); rintro e w3 ⟨rfl, hs⟩; have HS3 := Lib.hid hs; clear hs c0 c1 c2 c3 c4 c5 c6 c7 c8 c9 c10 c11)
      obtain ⟨hg, htold, e1, e2, hBo, hBsz⟩ := HG.out
      have hB2 : Below B wr w3 := HS3.out.below0 hBo hBsz
      obtain ⟨qp2, qd2, f1, f2, hBo2, -, -⟩ := HS3.out
      have hg2 := hg.step o
      have ht2 : (stepP g o).told.length ≤ 100000 := by have := step_told g o; rw [htold] at this; have := hg.hrows; have := HRW.out; simp at *; omega
      generalize stepP g o = g2 at hBo2 hg2 ht2 HS3
      have f1 : qp2.P = qp0.P := f1.trans e1
      have f2 : qd2.D = qd0.D := f2.trans e2
      obtain ⟨A5, c5, hv5⟩ := row_form hBo2.d.told
      have hv5 : qd2.vt = .slice A5 g2.told.length c5 := hv5
      have y5 := hBo2.d.cells.2.2.2.2.2
      rw [hv5, f2] at y5
      obtain ⟨nt, hnt⟩ : ∃ nt, nt = g2.told.length := ⟨_, rfl⟩
      rw [← hnt] at y5
      have hDp : qd0.D ∉ pgX qp2 := fun hx => hBo2.ap _ hx (by rw [← f2]; simp [dcX])
      have HDP := Lib.hid hDp
      have HSH : Hid (∀ w', Below w3.heap.size w3 w' → Calls Tryz.prog 11 #[.pointer (some ⟨qp0.P, 0, none⟩)] w' (ShiftsPost B w' qp2 g2)) := Lib.hid (fun w' hb => by rw [← f1]; exact pShifts_any (hBo2.p.below hb))
      have HMID : Hid (∀ w' g', PgRes B w3 qp2 g' w' → DcO B w' qd2 (dcOf g2)) := Lib.hid (fun w' g' hs => hBo2.mid hs)
      have HSE : Hid (∀ w' A3 c3, w'.ownsRow B 88 3 (.slice A3 nt c3) g2.told.length (flat encTl g2.told) → PgRes B w3 qp2 { g2 with told := [] } w' → Calls Tryz.prog 10 #[.slice A3 nt c3, .slice A5 nt c5] w' (fun e w'' => e = .returned (.bool true) ∧ Below w'.heap.size w' w'')) := Lib.hid (fun w' A3 c3 ho hs => by
        have hd := (HMID.out w' _ hs).told
        rw [hv5] at hd
        have := Shifts_eq A3 A5 g2.told c3 c5 w' (gr_of_own encTl_len ho) (gr_of_own encTl_len hd) (by omega)
        rw [hnt]
        exact this)
      have HAL : Hid (∀ w', PgRes B w3 qp2 { g2 with told := [] } w' → Calls Tryz.prog 12 #[.pointer (some ⟨qp0.P, 0, none⟩), .pointer (some ⟨qd0.D, 0, none⟩)] w' (fun e w'' => e = .returned (.bool true) ∧ Below w'.heap.size w' w'')) := Lib.hid (fun w' hs => by
        have hd := HMID.out w' _ hs
        obtain ⟨q3, k1, -, hp3, -, -⟩ := hs
        have := alike_any (g := { g2 with told := [] }) (t := g2.told) hp3 hd (by have := hg2.hhist; have := hg2.hrows; have := HRW.out; simp; omega)
        rw [k1, f1, f2] at this
        exact this)
      have HFIN : Hid (∀ w' w'', PgRes B w3 qp2 { g2 with told := [] } w' → Below w'.heap.size w' w'' → PlayS B rows cols room w qp0.P qd0.D (w''.setCell ⟨qd0.D, 5, none⟩ (.slice none 0 0))) := Lib.hid (fun w' w'' hs hb => by
        have hd := (HMID.out w' _ hs).below hb
        have hr := DcRes.pre hb (hd.retold (vt' := .slice none 0 0) (t' := []) (World.ownsRow_nil _ _ _ _) (Mod.refl _ _) (fun b hb => by simp [Value.ownBlock] at hb))
        rw [f2] at hr
        have hbo := hBo2.step hs hr
        have hbl := hbo.below0 hBo2 (Nat.le_trans hBsz hB2.size)
        obtain ⟨qp4, qd4, k1, k2, hBo4, -, -⟩ := hbo
        exact ⟨_, qp4, qd4, hg2.told [], rfl, k1.trans f1, k2.trans f2, hBo4, HBW.out.trans (Below.mono (hB2.trans hbl) HBB.out.1), HBB.out.1⟩)
      have HCELL : Hid (∀ w', PgRes B w3 qp2 { g2 with told := [] } w' → w'.cell? ⟨qd0.D, 5, none⟩ = some (.slice A5 nt c5) ∧ w'.frozen? ⟨qd0.D, 5, none⟩ = false) := Lib.hid (fun w' hs => hs.modr.hold hDp y5)
      have y5c := y5.1
      have HNT := Lib.hid hnt
      clear hg htold e1 e2 hBo hBsz hB2 f1 f2 hBo2 hg2 ht2 hv5 y5 hDp hnt
      refine Go.RL.wp_region_l 11 (fun w' => w'.cell? ⟨qd0.D, 5, none⟩ = some (.slice A5 nt c5)) (fun w' => Below w3.heap.size w3 w') (by kernel_rfl) (by kernel_rfl) y5c ((Below.refl _ _).drew) ?_
      refine Go.RL.AtL.take 0 (o := ⟨_, _, _, _, _, _⟩) (v := ?_) (by kernel_rfl) rfl (by simp) (by kernel_rfl) (by kernel_rfl) ?_ ?_; rotate_left
      · (refine Go.RL.Pure.val (by rfl) ?_; intro w' hI; obtain _ := hI; go_simp; first | done | with_reducible rfl)
      simp only [Act.put, List.setIfInBounds_toArray, List.set_cons_zero, List.set_cons_succ]
      refine Go.RL.AtL.take 2 (o := ⟨_, _, _, _, _, _⟩) (v := ?_) (by kernel_rfl) rfl (by simp) (by kernel_rfl) (by kernel_rfl) ?_ ?_; rotate_left
      · (refine Go.RL.Pure.val (by rfl) ?_; intro w' hI; obtain _ := hI; go_simp; first | done | with_reducible rfl)
      simp only [Act.put, List.setIfInBounds_toArray, List.set_cons_zero, List.set_cons_succ]
      refine Go.RL.AtL.take 3 (o := ⟨_, _, _, _, _, _⟩) (v := ?_) (by kernel_rfl) rfl (by simp) (by kernel_rfl) (by kernel_rfl) ?_ ?_; rotate_left
      · (refine Go.RL.Pure.val (by rfl) ?_; intro w' hI; obtain _ := hI; go_simp; first | done | with_reducible rfl)
      simp only [Act.put, List.setIfInBounds_toArray, List.set_cons_zero, List.set_cons_succ]
      refine Go.RL.AtL.take 4 (o := ⟨_, _, _, _, _, _⟩) (v := ?_) (by kernel_rfl) rfl (by simp) (by kernel_rfl) (by kernel_rfl) ?_ ?_; rotate_left
      · (refine Go.RL.Pure.val (by rfl) ?_; intro w' hI; obtain _ := hI; go_simp; first | done | with_reducible rfl)
      simp only [Act.put, List.setIfInBounds_toArray, List.set_cons_zero, List.set_cons_succ]
      refine Go.RL.AtL.take 5 (o := ⟨_, _, _, _, _, _⟩) (v := ?_) (by kernel_rfl) rfl (by simp) (by kernel_rfl) (by kernel_rfl) ?_ ?_; rotate_left
      · (refine Go.RL.Pure.val (by rfl) ?_; intro w' hI; obtain _ := hI; go_simp; first | done | with_reducible rfl)
      simp only [Act.put, List.setIfInBounds_toArray, List.set_cons_zero, List.set_cons_succ]
      refine Go.RL.AtL.one 1 (o := ⟨_, _, _, _, _, _⟩) (fun v => ∃ A3 c3, v = .slice A3 nt c3) (fun v w' => w'.ownsRow B 88 3 v g2.told.length (flat encTl g2.told) ∧ PgRes B w3 qp2 { g2 with told := [] } w') (by simp) (by kernel_rfl) rfl
        (Go.RL.StabL.call 11 #[.pointer (some ⟨qp0.P, 0, none⟩)] _ _ (by rfl) ?_ (fun w' hI hS => ?_)) ?_
      · intro w'
        go_simp
      · refine (HSH.out w' hS).mono ?_
        rintro e w4 ⟨v, rfl, ho, hs⟩
        obtain ⟨A3, c3, hv3⟩ := row_form ho
        have hs' := hs.pre hS
        exact ⟨v, rfl, ⟨A3, c3, by rw [hv3, HNT.out]⟩, (HCELL.out w4 hs').1, ho, hs'⟩
      rintro v ⟨A3, c3, rfl⟩
      simp only [Act.put, List.setIfInBounds_toArray, List.set_cons_zero, List.set_cons_succ]
      refine Go.RL.AtL.one 6 (o := ⟨_, _, _, _, _, _⟩) (fun v => v = .bool true) (fun v w' => PgRes B w3 qp2 { g2 with told := [] } w') (by simp) (by kernel_rfl) rfl
        (Go.RL.StabL.call 10 #[.slice A3 nt c3, .slice A5 nt c5] _ _ (by rfl) ?_ (fun w' hI hS => ?_)) ?_
      · intro w'
        go_simp
      · refine (HSE.out w' A3 c3 hS.1 hS.2).mono ?_
        rintro e w4 ⟨rfl, hb⟩
        exact ⟨_, rfl, rfl, holda hb hI, hS.2.post hb⟩
      rintro v rfl
      simp only [Act.put, List.setIfInBounds_toArray, List.set_cons_zero, List.set_cons_succ]
      refine Go.RL.AtL.take 7 (o := ⟨_, _, _, _, _, _⟩) (v := ?_) (by kernel_rfl) rfl (by simp) (by kernel_rfl) (by kernel_rfl) ?_ ?_; rotate_left
      · (refine Go.RL.Pure.val (by rfl) ?_; intro w' hI; obtain _ := hI; go_simp; first | done | with_reducible rfl)
      simp only [Act.put, List.setIfInBounds_toArray, List.set_cons_zero, List.set_cons_succ]
      refine Go.RL.AtL.take 8 (o := ⟨_, _, _, _, _, _⟩) (v := ?_) (by kernel_rfl) rfl (by simp) (by kernel_rfl) (by kernel_rfl) ?_ ?_; rotate_left
      · (refine Go.RL.Pure.val (by rfl) ?_; intro w' hI; obtain _ := hI; go_simp; first | done | with_reducible rfl)
      simp only [Act.put, List.setIfInBounds_toArray, List.set_cons_zero, List.set_cons_succ]
      refine Go.RL.AtL.take 9 (o := ⟨_, _, _, _, _, _⟩) (v := ?_) (by kernel_rfl) rfl (by simp) (by kernel_rfl) (by kernel_rfl) ?_ ?_; rotate_left
      · (refine Go.RL.Pure.val (by rfl) ?_; intro w' hI; obtain _ := hI; go_simp; first | done | with_reducible rfl)
      simp only [Act.put, List.setIfInBounds_toArray, List.set_cons_zero, List.set_cons_succ]
      refine Go.RL.AtL.take 10 (o := ⟨_, _, _, _, _, _⟩) (v := ?_) (by kernel_rfl) rfl (by simp) (by kernel_rfl) (by kernel_rfl) ?_ ?_; rotate_left
      · (refine Go.RL.Pure.val (by rfl) ?_; intro w' hI; obtain _ := hI; go_simp; first | done | with_reducible rfl)
      simp only [Act.put, List.setIfInBounds_toArray, List.set_cons_zero, List.set_cons_succ]
      refine Go.RL.AtL.done (by kernel_rfl) (fun w' hI hS => ?_)
      have HS4 := Lib.hid hS
      have HAL4 := Lib.hid (HAL.out w' hS)
      have HC4 := Lib.hid (HCELL.out w' hS)
      have HF4 := Lib.hid (HFIN.out w')
      clear hS hI y5c
      go_upto_region 12 with (go_at_call 12; (with_reducible refine HAL4.out.mono ?_); rintro e w6 ⟨rfl, hb⟩; have HB6 := Lib.hid hb; obtain ⟨z5, z5f⟩ := hold hb HC4.out; clear hb)
      have HPS := Lib.hid (HF4.out w6 HS4.out HB6.out)
      go_wp2
      go_roundw
      case rel => exact ⟨i + 1, by go_num, by omega, HPS.out⟩
      case measure => simp [intOf]; omega
end Go.Proofs.YtffdblmdelgkaaaGreat
