/- PageKeeps, for every input: the call returns true, and its arguments read behind it as they read before. No condition. -/
import Derived.Test.YtffdblmdelgkaaaGreatKk17
namespace Go.Proofs.YtffdblmdelgkaaaGreat
open Go.RowKit
theorem BoRes2.below0 {base : Nat} {w w' : World} {qp : Pv} {qd : Dv} {g gd g' gd' : Pg} (h : Both2 base w qp qd g gd) (hr : BoRes2 base w qp qd g' gd' w') (hb : base ≤ w.heap.size) : Below base w w' := by
  obtain ⟨qp', qd', -, -, -, hm, -⟩ := hr
  exact hm.below (fun b hb => by
    rcases List.mem_append.1 hb with hb | hb
    · exact (h.p.lt b hb).1
    · exact (h.d.lt b hb).1) hb
theorem cntL_le {N : Nat} : ∀ {L : List Ro}, (∀ r ∈ L, r.cs.length ≤ N) → cntL L ≤ L.length * N
  | [], _ => by simp [cntL]
  | r :: L, h => by
    have h1 := cntL_le (L := L) (fun x hx => h x (by simp [hx]))
    have h2 := h r (by simp)
    have h3 : roSize r ≤ r.cs.length := List.length_filter_le _ _
    rw [show r :: L = [r] ++ L from rfl, cntL_append, List.length_append, List.length_singleton, Nat.add_mul, Nat.one_mul]
    have : cntL [r] = roSize r := by simp [cntL]
    omega
/-- The state between two operations: a page and a document, each right by itself. -/
def KeepS (B rows cols room : Nat) (w0 : World) (P D N : Nat) (w : World) : Prop :=
  ∃ gp gd qp qd r c, PgInv r c room gp ∧ (1 ≤ r ∧ r ≤ 40 ∧ 2 ≤ c ∧ c ≤ 60) ∧ PgInv rows cols room gd ∧ gp.told.length ≤ N ∧ gd.told.length ≤ N ∧ qp.P = P ∧ qd.D = D ∧ Both2 B w qp qd gp gd ∧ Below w0.heap.size w0 w ∧ w0.heap.size ≤ B
theorem KeepS.does {B rows cols room : Nat} {w0 : World} {P D N : Nat} {w : World} (h : KeepS B rows cols room w0 P D N w) (hrow0 : 0 < rows) (hrows : rows ≤ 12) (hroom : room ≤ 20) (hN : N ≤ 10000) (o : Pop) (hok : PopOk o) :
    Calls Tryz.prog 9 #[.pointer (some ⟨P, 0, none⟩), .pointer (some ⟨D, 0, none⟩), .agg #[.int .i64 o.kind, .int .i64 o.x, .int .i64 o.n, .int .i32 o.r, .int .i64 o.at_.fk, .int .i64 o.at_.fn, .int .i64 o.at_.bk, .int .i64 o.at_.bn, .int .i64 o.at_.fl, .int .i64 o.y, .int .i64 o.top, .int .i64 o.bottom]] w (fun e w' => e = .returned (.tuple #[]) ∧ KeepS B rows cols room w0 P D (N + 100) w' ∧ Below B w w') := by
  obtain ⟨gp, gd, qp, qd, r, c, hg, hrc, hgd, ht, ht2, e1, e2, hBo, hBw, hw0⟩ := h
  have := does_two hBo hg hgd (by omega) hrow0 (by omega) (by omega) (by omega) (by omega) (by omega) (by omega) o hok
  rw [e1, e2] at this
  refine this.mono ?_
  rintro e w' ⟨rfl, hs⟩
  have hBsz : B ≤ w.heap.size := by have := hBo.p.lt qp.P (by simp [pgX]); omega
  have hB2 : Below B w w' := hs.below0 hBo hBsz
  obtain ⟨qp2, qd2, f1, f2, hBo2, -, -⟩ := hs
  have hst := step_told gp o
  have hst2 := step_told gd o
  have h1 := hg.hrows
  have h2 := hgd.hrows
  exact ⟨rfl, ⟨stepP gp o, stepP gd o, qp2, qd2, r, c, hg.step o, hrc, hgd.step o, by omega, by omega, f1.trans e1, f2.trans e2, hBo2, hBw.trans (Below.mono hB2 hw0), hw0⟩, hB2⟩
theorem KeepS.below {B rows cols room : Nat} {w0 : World} {P D N : Nat} {w w' : World} (h : KeepS B rows cols room w0 P D N w) (hb : Below w.heap.size w w') : KeepS B rows cols room w0 P D N w' := by
  obtain ⟨gp, gd, qp, qd, r, c, hg, hrc, hgd, ht, ht2, e1, e2, hBo, hBw, hw0⟩ := h
  exact ⟨gp, gd, qp, qd, r, c, hg, hrc, hgd, ht, ht2, e1, e2, hBo.below hb, below_tail hBw hb, hw0⟩
theorem KeepS.resize {B rows cols room : Nat} {w0 : World} {P D N : Nat} {w : World} (h : KeepS B rows cols room w0 P D N w) (hroom : room ≤ 20) (hN : 1 ≤ N) (r c : Int) (hr : r ≤ 40) (hc : c ≤ 60) (at1 at2 : Int) :
    Calls Tryz.prog 15 #[.pointer (some ⟨P, 0, none⟩), .int .i64 r, .int .i64 c, .agg #[.int .i64 at1, .int .i64 at2], .slice none 0 0] w (fun e w' => (∃ v, e = .returned v) ∧ KeepS B rows cols room w0 P D N w' ∧ Below B w w') := by
  obtain ⟨gp, gd, qp, qd, r0, c0, hg, hrc, hgd, ht, ht2, e1, e2, hBo, hBw, hw0⟩ := id h
  have hBsz : B ≤ w.heap.size := by have := hBo.p.lt qp.P (by simp [pgX]); omega
  cases hf : fitsB r c with
  | false =>
    have := presize_bad hBo.p r c hf at1 at2 (.slice none 0 0)
    rw [e1] at this
    refine this.mono ?_
    rintro e w' ⟨rfl, hb⟩
    exact ⟨⟨_, rfl⟩, h.below hb, hb.mono hBsz⟩
  | true =>
    unfold fitsB at hf
    simp only [decide_eq_true_eq] at hf
    obtain ⟨rn, rfl⟩ : ∃ rn : Nat, r = rn := ⟨r.toNat, by omega⟩
    obtain ⟨cn, rfl⟩ : ∃ cn : Nat, c = cn := ⟨c.toNat, by omega⟩
    have hlen : (gp.hist ++ gp.scr).length ≤ 60 := by rw [List.length_append, hg.hrows]; have := hg.hhist; omega
    have hcnt : cntL (gp.hist ++ gp.scr) ≤ 3600 := by
      have h1 := cntL_le (N := 60) (L := gp.hist ++ gp.scr) (fun x hx => by rw [hg.wide x hx]; omega)
      omega
    have := presize_any hBo.p hBsz (by rw [hg.hrows]; omega) rn cn (by omega) (by omega) (by omega) (by omega) at1 at2 none [] 0 (fun h => absurd h (by simp)) (by simp) (fun p hp => by cases hp) (by omega) (by omega) (fun x hx => by rw [hg.wide x hx, hg.hcols])
    rw [e1] at this
    refine this.mono ?_
    rintro e w' ⟨A', c', rfl, -, hs⟩
    have hbo : BoRes2 B w qp qd (resizeG gp rn cn (at1, at2) []) gd w' := hBo.step hs (hBo.mid hs).res
    have hB2 : Below B w w' := hbo.below0 hBo hBsz
    obtain ⟨qp2, qd2, f1, f2, hBo2, -, -⟩ := hbo
    have hto : (resizeG gp rn cn (at1, at2) []).told.length ≤ 1 := by
      unfold resizeG tailG
      simp only
      split <;> simp
    exact ⟨⟨_, rfl⟩, ⟨_, gd, qp2, qd2, rn, cn, resize_inv hg rn cn (by omega) _ _, by omega, hgd, by omega, ht2, f1.trans e1, f2.trans e2, hBo2, hBw.trans (Below.mono hB2 hw0), hw0⟩, hB2⟩
set_option maxRecDepth 100000 in
set_option maxHeartbeats 12800000 in
theorem PageKeeps_walk (a b c : Int) (ha : 0 ≤ a) (hb : 0 ≤ b) (hc : 0 ≤ c) (A : Option Addr) (l : List Pop) (ca : Nat) (B2 : Option Addr) (tz : List Sd) (cb : Nat) (w : World) (hz : l.length ≤ 9223372036854775807) (hl : GrAt encPop 12 w A l) (hok : ∀ o ∈ l, PopOk o) (hz2 : tz.length ≤ 9223372036854775807) (hto : GrAt encSd 5 w B2 tz) :
    Calls Tryz.prog 5 #[.agg #[.int .u8 a, .int .u8 b, .int .u8 c], .slice A l.length ca, .slice B2 tz.length cb] w (TruePost w) := by
  have hb0 := below_allocs (Below.refl w.heap.size w) (.cells #[.int .u8 a, .int .u8 b, .int .u8 c] 23)
  have HB0 := Lib.hid hb0
  have HAW := Lib.hid (fun w => awake13 w)
  have HL := Lib.hid hl
  have HOK := Lib.hid hok
  have HTO := Lib.hid hto
  have HX := Lib.hid (hp_new (W := w) (b := w.heap.size) (o := .cells #[.int .u8 a, .int .u8 b, .int .u8 c] 23) rfl)
  by_cases h30 : 30 < l.length
  · have h30I : (30 : Int) < (l.length : Int) := by omega
    clear hl hb0 hok hto
    go_enter Tryz.func5, Tryz.ntmps5
    go_wp2_with (go_at_call 7; (with_reducible refine (HAW.out _).mono ?_); rintro e w1 ⟨rfl, hb⟩; have HB1 := Lib.hid (below_tail HB0.out hb); clear hb)
    go_ret
    exact ⟨rfl, HB1.out⟩
  have h30I : ¬ (30 : Int) < (l.length : Int) := by omega
  by_cases h6 : 6 < tz.length
  · have h6I : (6 : Int) < (tz.length : Int) := by omega
    clear hl hb0 hok hto
    go_enter Tryz.func5, Tryz.ntmps5
    go_wp2_with (go_at_call 7; (with_reducible refine (HAW.out _).mono ?_); rintro e w1 ⟨rfl, hb⟩; have HB1 := Lib.hid (below_tail HB0.out hb); clear hb)
    go_ret
    exact ⟨rfl, HB1.out⟩
  have h6I : ¬ (6 : Int) < (tz.length : Int) := by omega
  obtain ⟨rows, hrows⟩ : ∃ rows, rows = 1 + (a % 12).toNat := ⟨_, rfl⟩
  obtain ⟨cols, hcols⟩ : ∃ cols, cols = 2 + (b % 20).toNat := ⟨_, rfl⟩
  obtain ⟨room, hroom⟩ : ∃ room, room = (c % 20).toNat := ⟨_, rfl⟩
  have HMD : Hid (∀ w, Calls Tryz.prog 8 #[.agg #[.int .u8 a, .int .u8 b, .int .u8 c]] w (MadePost rows cols room w)) := Lib.hid (fun w => by rw [hrows, hcols, hroom]; exact made_any a b c w ha hb hc)
  have HRW : Hid (0 < rows ∧ rows ≤ 12 ∧ room ≤ 20 ∧ 2 ≤ cols ∧ cols ≤ 22) := Lib.hid (by omega)
  have hcr : c % 20 = (room : Int) := by omega
  have HCR := Lib.hid hcr
  clear hl hb0 hok hrows hcols hroom hto hcr
  go_enter Tryz.func5, Tryz.ntmps5
  go_upto_region 3 with (go_at_call 7; (with_reducible refine (HAW.out _).mono ?_); rintro e w1 ⟨rfl, hb⟩; have HB1 := Lib.hid (below_tail HB0.out hb); have HX1 := Lib.hid ((hb.block _ (lt_of_heap HX.out)).trans HX.out); clear hb)
  have x0 := (at_ HX1.out 0 _ rfl).1
  have x1 := (at_ HX1.out 1 _ rfl).1
  have x2 := (at_ HX1.out 2 _ rfl).1
  go_wp2_with (go_at_call 8; (with_reducible refine (HMD.out _).mono ?_); rintro e w2 ⟨qp0, qd0, rfl, hbo, hb⟩; have HBO := Lib.hid hbo; have HB2 := Lib.hid (below_tail HB1.out hb); have HB12 := Lib.hid hb; have HX2 := Lib.hid ((hb.block _ (lt_of_heap HX1.out)).trans HX1.out); clear hbo hb x0 x1 x2)
  obtain ⟨B, hB⟩ : ∃ B, B = w1.heap.size := ⟨_, rfl⟩
  rw [← hB] at HBO
  have HBB : Hid (w.heap.size ≤ B ∧ B ≤ w2.heap.size ∧ w.heap.size < B) := Lib.hid ⟨by rw [hB]; exact HB1.out.size, by rw [hB]; exact HB12.out.size, by rw [hB]; exact lt_of_heap HX1.out⟩
  have HBW2 : Hid (Below B w1 w2) := Lib.hid (by rw [hB]; exact HB12.out)
  clear hB
  go_loopw [9] (fun s9 wr => ∃ i : Nat, s9 = .int .i64 i ∧ i ≤ l.length ∧ KeepS B rows cols room w qp0.P qd0.D (100 * i + 1) wr ∧ wr.heap[w.heap.size]? = some (.cells #[.int .u8 a, .int .u8 b, .int .u8 c] 23 (0, 0))) (fun s9 _ => l.length - (intOf s9).toNat)
  case atStart => exact ⟨0, rfl, Nat.zero_le _, ⟨newP rows cols room, newP rows cols room, qp0, qd0, rows, cols, newP_inv _ _ _, by have := HRW.out; omega, newP_inv _ _ _, Nat.zero_le _, Nat.zero_le _, rfl, rfl, ⟨HBO.out.p, HBO.out.d, HBO.out.ap⟩, HB2.out, HBB.out.1⟩, HX2.out⟩
  case round =>
    obtain ⟨i, rfl, hi, hP, hXr⟩ := hrel
    have HXR := Lib.hid hXr
    by_cases hlt : i < l.length
    rotate_left
    · have hge : ¬ (i : Int) < (l.length : Int) := by omega
      have HBF : Hid (Below w.heap.size w wr) := Lib.hid (by obtain ⟨_, _, _, _, _, _, _, _, _, _, _, _, _, _, h, _⟩ := hP; exact h)
      clear hP hXr
      go_wp2
      go_ret
      exact ⟨rfl, HBF.out⟩
    · have hltI : (i : Int) < (l.length : Int) := by omega
      have hbw : Below w.heap.size w wr := by obtain ⟨_, _, _, _, _, _, _, _, _, _, _, _, _, _, h, _⟩ := hP; exact h
      obtain ⟨bb, off, o, rfl, ho, hcell⟩ := (HL.out.below hbw).at_ hlt
      have HDO := Lib.hid (hP.does HRW.out.1 HRW.out.2.1 HRW.out.2.2.1 (by omega) o (HOK.out o (List.mem_of_getElem? ho)))
      have hBsz : B ≤ wr.heap.size := by obtain ⟨gp, gd, qp, qd, r, cc, _, _, _, _, _, _, _, hBo, _, _⟩ := hP; have := hBo.p.lt qp.P (by simp [pgX]); omega
      have HBS := Lib.hid hBsz
      have c0 := hcell 0 _ rfl
      have c1 := hcell 1 _ rfl
      have c2 := hcell 2 _ rfl
      have c3 := hcell 3 _ rfl
      have c4 := hcell 4 _ rfl
      have c5 := hcell 5 _ rfl
      have c6 := hcell 6 _ rfl
      have c7 := hcell 7 _ rfl
      have c8 := hcell 8 _ rfl
      have c9 := hcell 9 _ rfl
      have c10 := hcell 10 _ rfl
      have c11 := hcell 11 _ rfl
      simp only [Nat.add_zero] at c0
      clear hP hcell ho hbw hXr hBsz
      go_upto_region 10 with (go_at_call 9; (with_reducible refine HDO.out.mono ?_); rintro e w3 ⟨rfl, hs⟩; have HS3 := Lib.hid hs; clear hs c0 c1 c2 c3 c4 c5 c6 c7 c8 c9 c10 c11)
      have hX3 := (HS3.out.2.block _ HBB.out.2.2).trans HXR.out
      have HX3 := Lib.hid hX3
      clear hX3
      by_cases hm : i < tz.length
      rotate_left
      · have hmI : ¬ (i : Int) < (tz.length : Int) := by omega
        go_upto_region 12 with fail
        have HKK := Lib.hid (HS3.out.1)
        have HXK := Lib.hid (HX3.out)
        obtain ⟨gp, gd, qp, qd, r0, cc, hg, hrc, hgd, ht, ht2, e1, e2, hBo, hBw, hw0⟩ := id HKK.out
        obtain ⟨hl, hhl⟩ : ∃ hl, hl = gp.hist.length := ⟨_, rfl⟩
        obtain ⟨sl, hsl⟩ : ∃ sl, sl = gp.scr.length := ⟨_, rfl⟩
        have HALL : Hid (Calls Tryz.prog 16 #[.pointer (some ⟨qp0.P, 0, none⟩)] w3 (AllPost (gp.hist ++ gp.scr) w3)) := Lib.hid (by rw [← e1]; exact pAll_any hBo.p)
        have HBA : Hid (∀ w', Below w3.heap.size w3 w' → Calls Tryz.prog 17 #[.pointer (some ⟨qp0.P, 0, none⟩)] w' fun e w'' => e = .returned (.int .i64 hl) ∧ w' = w'') := Lib.hid (fun w' hb => by rw [hhl, ← e1]; exact pBase_any (hBo.p.below hb))
        have HRO : Hid (∀ w', Below w3.heap.size w3 w' → Calls Tryz.prog 18 #[.pointer (some ⟨qp0.P, 0, none⟩)] w' fun e w'' => e = .returned (.int .i64 sl) ∧ w' = w'') := Lib.hid (fun w' hb => by rw [hsl, ← e1]; exact pRows_any (hBo.p.below hb))
        have HCO : Hid (∀ w', Below w3.heap.size w3 w' → Calls Tryz.prog 19 #[.pointer (some ⟨qp0.P, 0, none⟩)] w' fun e w'' => e = .returned (.int .i64 cc) ∧ w' = w'') := Lib.hid (fun w' hb => by rw [← hg.hcols, ← e1]; exact pCols_any (hBo.p.below hb))
        have HWI := Lib.hid hg.wide
        have hh := hg.hhist
        have hr := hg.hrows
        have HLEN : Hid ((gp.hist ++ gp.scr).length = hl + sl) := Lib.hid (by rw [List.length_append, hhl, hsl])
        have hhl2 : hl ≤ room := by omega
        have hsl2 : sl ≤ 40 := by omega
        have hroom20 := HRW.out.2.2.1
        have hcr : c.tmod 20 = (room : Int) := by rw [Int.tmod_eq_emod_of_nonneg hc]; exact HCR.out
        have hwu : IntKind.u8.wrap (room : Int) = (room : Int) := by rw [IntKind.wrap_u8]; omega
        have hwi8 : IntKind.i64.wrap (room : Int) = (room : Int) := IntWalk.i64_in _ (by omega)
        have hgt : ¬ (room : Int) < (hl : Int) := by omega
        have hgtd : decide ((room : Int) < (hl : Int)) = false := decide_eq_false hgt
        have hgtN : ¬ room < hl := by omega
        have hgtdN : decide (room < hl) = false := decide_eq_false hgtN
        have HBWK := Lib.hid hBw
        clear hg hrc hgd ht ht2 e1 e2 hBo hBw hw0 hhl hsl hh hr
        go_upto_region 13 with (go_at_call 16; (with_reducible refine HALL.out.mono ?_); rintro e w5 ⟨v5, R, rfl, hro, hrm, hb5⟩; have HR5 := Lib.hid hro; have HM5 := Lib.hid hrm; have HB5 := Lib.hid hb5; have HX5 := Lib.hid ((hb5.block _ (lt_of_heap HXK.out)).trans HXK.out); clear hro hrm hb5)
        obtain ⟨A5, c5, rfl⟩ := row_form HR5.out.1
        obtain ⟨n5, hn5⟩ : ∃ n5, R.length = n5 := ⟨_, rfl⟩
        have HN5 := Lib.hid hn5
        have hn5e : hl + sl = n5 := by rw [← hn5, ← HLEN.out, ← HM5.out, List.length_map]
        have hsum : (hl : Int) + (sl : Int) = (n5 : Int) := by omega
        have hwn5 : IntKind.i64.wrap (n5 : Int) = (n5 : Int) := IntWalk.i64_in _ (by omega)
        rw [hn5]
        have x2 := (at_ HX5.out 2 _ rfl).1
        have hn560 : n5 ≤ 60 := by omega
        clear hn5 hn5e
        refine wp_region_u 16 (fun w' => Below w5.heap.size w5 w' ∧ w'.cell? ⟨w.heap.size, 2, none⟩ = some (.int .u8 c)) (by kernel_rfl) (by kernel_rfl) ?_ ?_
        · exact ⟨(Below.refl _ _).drew, x2⟩
        simp only [List.take_succ_cons, List.take_zero, List.drop_succ_cons, List.drop_zero]
        repeat (first
          | (refine seqU_skip (by rfl) ?_; simp only [Act.put, List.setIfInBounds_toArray, List.set_cons_zero, List.set_cons_succ])
          | ((refine seqU_call 17 #[.pointer (some ⟨qp0.P, 0, none⟩)] (.int .i64 hl) (by rfl) ?_ (fun w' hS => (HBA.out w' (below_tail HB5.out hS.1)).mono fun e w2 ⟨he, hw⟩ => ⟨he, hw ▸ hS⟩) ?_; (focus (intro w2; go_simp; done))); simp only [Act.put, List.setIfInBounds_toArray, List.set_cons_zero, List.set_cons_succ])
          | ((refine seqU_call 18 #[.pointer (some ⟨qp0.P, 0, none⟩)] (.int .i64 sl) (by rfl) ?_ (fun w' hS => (HRO.out w' (below_tail HB5.out hS.1)).mono fun e w2 ⟨he, hw⟩ => ⟨he, hw ▸ hS⟩) ?_; (focus (intro w2; go_simp; done))); simp only [Act.put, List.setIfInBounds_toArray, List.set_cons_zero, List.set_cons_succ])
          | (refine seqU_val ?_ (by rfl) ?_ ?_; rotate_left; · (intro w' hS; obtain ⟨_, _⟩ := hS; go_simp; first | done | with_reducible rfl)
             simp only [Act.put, List.setIfInBounds_toArray, List.set_cons_zero, List.set_cons_succ]))
        refine seqU_nil (fun w' hS => ?_)
        have HB6 := Lib.hid (below_tail HB5.out hS.1)
        have HR6 := Lib.hid (HR5.out.below hS.1)
        have HX6 := Lib.hid ((hS.1.block _ (lt_of_heap HX5.out)).trans HX5.out)
        clear hS x2 hcr hwu hwi8 hgt hgtd hgtN hgtdN hsum hwn5
        obtain ⟨w6, hw6⟩ : ∃ w6, w6 = w' := ⟨_, rfl⟩
        subst hw6
        obtain ⟨wq, hwq⟩ : ∃ wq, wq = wr := ⟨_, rfl⟩
        subst hwq
        go_wp2_with fail
        go_loopw [11] (fun s11 wr => ∃ k : Nat, s11 = .int .i64 k ∧ k ≤ n5 ∧ Below w6.heap.size w6 wr) (fun s11 _ => n5 - (intOf s11).toNat)
        case atStart => exact ⟨0, rfl, Nat.zero_le _, Below.refl _ _⟩
        case round =>
          obtain ⟨k, rfl, hk, hb⟩ := hrel
          have HBk := Lib.hid hb
          by_cases hlt2 : k < n5
          rotate_left
          · have hge2 : ¬ (k : Int) < (n5 : Int) := by omega
            have HXF := Lib.hid ((hb.block _ (lt_of_heap HX6.out)).trans HX6.out)
            have HKF := Lib.hid (HKK.out.below (below_tail HB6.out hb))
            clear hb
            go_wp2
            go_roundw
            case rel => exact ⟨i + 1, by go_num, by omega, by rw [show 100 * (i + 1) + 1 = 100 * i + 1 + 100 by omega]; exact HKF.out, HXF.out⟩
            case measure => simp [intOf]; omega
          · have hlt2I : (k : Int) < (n5 : Int) := by omega
            have hkl : k < R.length := by rw [HN5.out]; exact hlt2
            obtain ⟨x, hx⟩ : ∃ x, R[k]? = some x := ⟨_, List.getElem?_eq_getElem hkl⟩
            have hxc : x.cs.length = cc := HWI.out (roOf x) (by rw [← HM5.out]; exact List.mem_map_of_mem (List.mem_of_getElem? hx))
            have hown := (HR6.out.below hb).1
            obtain ⟨gs, cs, hvs⟩ := own_form hown (by omega)
            have hA5 : A5 = some ⟨gs, 0, none⟩ := by simp only [Value.slice.injEq] at hvs; exact hvs.1
            subst hA5
            obtain ⟨⟨r0', -⟩, -⟩ := owns_row hown hx
            rw [hxc] at r0'
            have hwk : IntKind.i64.wrap ((k : Int) + 1) = (k : Int) + 1 := IntWalk.i64_in _ (by omega)
            have HCC := Lib.hid (fun w' hb' => HCO.out w' (below_tail (below_tail HB6.out HBk.out) hb'))
            clear hb hkl hx hxc hown hvs
            go_upto_region 18 with fail
            refine wp_region_u 8 (fun w' => Below wr.heap.size wr w' ∧ w'.cell? ⟨gs, k * 2, none⟩ = some (.slice x.A cc x.cap)) (by kernel_rfl) (by kernel_rfl) ?_ ?_
            · exact ⟨(Below.refl _ _).drew, r0'⟩
            simp only [List.take_succ_cons, List.take_zero, List.drop_succ_cons, List.drop_zero]
            repeat (first
              | (refine seqU_skip (by rfl) ?_; simp only [Act.put, List.setIfInBounds_toArray, List.set_cons_zero, List.set_cons_succ])
              | ((refine seqU_call 19 #[.pointer (some ⟨qp0.P, 0, none⟩)] (.int .i64 cc) (by rfl) ?_ (fun w' hS => (HCC.out w' hS.1).mono fun e w2 ⟨he, hw⟩ => ⟨he, hw ▸ hS⟩) ?_; (focus (intro w2; go_simp; done))); simp only [Act.put, List.setIfInBounds_toArray, List.set_cons_zero, List.set_cons_succ])
              | (refine seqU_val ?_ (by rfl) ?_ ?_; rotate_left; · (intro w' hS; obtain ⟨_, _⟩ := hS; go_simp; first | done | with_reducible rfl)
                 simp only [Act.put, List.setIfInBounds_toArray, List.set_cons_zero, List.set_cons_succ]))
            refine seqU_nil (fun w' hS => ?_)
            have HBk2 := Lib.hid (below_tail HBk.out hS.1)
            clear hS r0'
            go_wp2
            go_roundw
            case rel => exact ⟨k + 1, by go_num, by omega, HBk2.out⟩
            case measure => simp [intOf]; omega
      · have hmI : (i : Int) < (tz.length : Int) := by omega
        obtain ⟨bz, oz, d, rfl, hd, hdc⟩ := (HTO.out.below (by obtain ⟨_, _, _, _, _, _, _, _, _, _, _, _, _, _, h, _⟩ := HS3.out.1; exact h)).at_ hm
        have d0 := hdc 0 _ rfl
        have d1 := hdc 1 _ rfl
        have d2 := hdc 2 _ rfl
        have d3 := hdc 3 _ rfl
        simp only [Nat.add_zero] at d0
        obtain ⟨dr, dc, da1, da2, dA, dpl, dcap⟩ := d
        simp only at d0 d1 d2 d3
        clear hd hdc
        by_cases hr40 : dr ≤ 40
        rotate_left
        · have hr40d : decide (dr ≤ 40) = false := decide_eq_false hr40
          go_upto_region 12 with fail
          clear d0 d1 d2 d3 hr40d
          have HKK := Lib.hid (HS3.out.1)
          have HXK := Lib.hid (HX3.out)
          obtain ⟨gp, gd, qp, qd, r0, cc, hg, hrc, hgd, ht, ht2, e1, e2, hBo, hBw, hw0⟩ := id HKK.out
          obtain ⟨hl, hhl⟩ : ∃ hl, hl = gp.hist.length := ⟨_, rfl⟩
          obtain ⟨sl, hsl⟩ : ∃ sl, sl = gp.scr.length := ⟨_, rfl⟩
          have HALL : Hid (Calls Tryz.prog 16 #[.pointer (some ⟨qp0.P, 0, none⟩)] w3 (AllPost (gp.hist ++ gp.scr) w3)) := Lib.hid (by rw [← e1]; exact pAll_any hBo.p)
          have HBA : Hid (∀ w', Below w3.heap.size w3 w' → Calls Tryz.prog 17 #[.pointer (some ⟨qp0.P, 0, none⟩)] w' fun e w'' => e = .returned (.int .i64 hl) ∧ w' = w'') := Lib.hid (fun w' hb => by rw [hhl, ← e1]; exact pBase_any (hBo.p.below hb))
          have HRO : Hid (∀ w', Below w3.heap.size w3 w' → Calls Tryz.prog 18 #[.pointer (some ⟨qp0.P, 0, none⟩)] w' fun e w'' => e = .returned (.int .i64 sl) ∧ w' = w'') := Lib.hid (fun w' hb => by rw [hsl, ← e1]; exact pRows_any (hBo.p.below hb))
          have HCO : Hid (∀ w', Below w3.heap.size w3 w' → Calls Tryz.prog 19 #[.pointer (some ⟨qp0.P, 0, none⟩)] w' fun e w'' => e = .returned (.int .i64 cc) ∧ w' = w'') := Lib.hid (fun w' hb => by rw [← hg.hcols, ← e1]; exact pCols_any (hBo.p.below hb))
          have HWI := Lib.hid hg.wide
          have hh := hg.hhist
          have hr := hg.hrows
          have HLEN : Hid ((gp.hist ++ gp.scr).length = hl + sl) := Lib.hid (by rw [List.length_append, hhl, hsl])
          have hhl2 : hl ≤ room := by omega
          have hsl2 : sl ≤ 40 := by omega
          have hroom20 := HRW.out.2.2.1
          have hcr : c.tmod 20 = (room : Int) := by rw [Int.tmod_eq_emod_of_nonneg hc]; exact HCR.out
          have hwu : IntKind.u8.wrap (room : Int) = (room : Int) := by rw [IntKind.wrap_u8]; omega
          have hwi8 : IntKind.i64.wrap (room : Int) = (room : Int) := IntWalk.i64_in _ (by omega)
          have hgt : ¬ (room : Int) < (hl : Int) := by omega
          have hgtd : decide ((room : Int) < (hl : Int)) = false := decide_eq_false hgt
          have hgtN : ¬ room < hl := by omega
          have hgtdN : decide (room < hl) = false := decide_eq_false hgtN
          have HBWK := Lib.hid hBw
          clear hg hrc hgd ht ht2 e1 e2 hBo hBw hw0 hhl hsl hh hr
          go_upto_region 13 with (go_at_call 16; (with_reducible refine HALL.out.mono ?_); rintro e w5 ⟨v5, R, rfl, hro, hrm, hb5⟩; have HR5 := Lib.hid hro; have HM5 := Lib.hid hrm; have HB5 := Lib.hid hb5; have HX5 := Lib.hid ((hb5.block _ (lt_of_heap HXK.out)).trans HXK.out); clear hro hrm hb5)
          obtain ⟨A5, c5, rfl⟩ := row_form HR5.out.1
          obtain ⟨n5, hn5⟩ : ∃ n5, R.length = n5 := ⟨_, rfl⟩
          have HN5 := Lib.hid hn5
          have hn5e : hl + sl = n5 := by rw [← hn5, ← HLEN.out, ← HM5.out, List.length_map]
          have hsum : (hl : Int) + (sl : Int) = (n5 : Int) := by omega
          have hwn5 : IntKind.i64.wrap (n5 : Int) = (n5 : Int) := IntWalk.i64_in _ (by omega)
          rw [hn5]
          have x2 := (at_ HX5.out 2 _ rfl).1
          have hn560 : n5 ≤ 60 := by omega
          clear hn5 hn5e
          refine wp_region_u 16 (fun w' => Below w5.heap.size w5 w' ∧ w'.cell? ⟨w.heap.size, 2, none⟩ = some (.int .u8 c)) (by kernel_rfl) (by kernel_rfl) ?_ ?_
          · exact ⟨(Below.refl _ _).drew, x2⟩
          simp only [List.take_succ_cons, List.take_zero, List.drop_succ_cons, List.drop_zero]
          repeat (first
            | (refine seqU_skip (by rfl) ?_; simp only [Act.put, List.setIfInBounds_toArray, List.set_cons_zero, List.set_cons_succ])
            | ((refine seqU_call 17 #[.pointer (some ⟨qp0.P, 0, none⟩)] (.int .i64 hl) (by rfl) ?_ (fun w' hS => (HBA.out w' (below_tail HB5.out hS.1)).mono fun e w2 ⟨he, hw⟩ => ⟨he, hw ▸ hS⟩) ?_; (focus (intro w2; go_simp; done))); simp only [Act.put, List.setIfInBounds_toArray, List.set_cons_zero, List.set_cons_succ])
            | ((refine seqU_call 18 #[.pointer (some ⟨qp0.P, 0, none⟩)] (.int .i64 sl) (by rfl) ?_ (fun w' hS => (HRO.out w' (below_tail HB5.out hS.1)).mono fun e w2 ⟨he, hw⟩ => ⟨he, hw ▸ hS⟩) ?_; (focus (intro w2; go_simp; done))); simp only [Act.put, List.setIfInBounds_toArray, List.set_cons_zero, List.set_cons_succ])
            | (refine seqU_val ?_ (by rfl) ?_ ?_; rotate_left; · (intro w' hS; obtain ⟨_, _⟩ := hS; go_simp; first | done | with_reducible rfl)
               simp only [Act.put, List.setIfInBounds_toArray, List.set_cons_zero, List.set_cons_succ]))
          refine seqU_nil (fun w' hS => ?_)
          have HB6 := Lib.hid (below_tail HB5.out hS.1)
          have HR6 := Lib.hid (HR5.out.below hS.1)
          have HX6 := Lib.hid ((hS.1.block _ (lt_of_heap HX5.out)).trans HX5.out)
          clear hS x2 hcr hwu hwi8 hgt hgtd hgtN hgtdN hsum hwn5
          obtain ⟨w6, hw6⟩ : ∃ w6, w6 = w' := ⟨_, rfl⟩
          subst hw6
          obtain ⟨wq, hwq⟩ : ∃ wq, wq = wr := ⟨_, rfl⟩
          subst hwq
          go_wp2_with fail
          go_loopw [11] (fun s11 wr => ∃ k : Nat, s11 = .int .i64 k ∧ k ≤ n5 ∧ Below w6.heap.size w6 wr) (fun s11 _ => n5 - (intOf s11).toNat)
          case atStart => exact ⟨0, rfl, Nat.zero_le _, Below.refl _ _⟩
          case round =>
            obtain ⟨k, rfl, hk, hb⟩ := hrel
            have HBk := Lib.hid hb
            by_cases hlt2 : k < n5
            rotate_left
            · have hge2 : ¬ (k : Int) < (n5 : Int) := by omega
              have HXF := Lib.hid ((hb.block _ (lt_of_heap HX6.out)).trans HX6.out)
              have HKF := Lib.hid (HKK.out.below (below_tail HB6.out hb))
              clear hb
              go_wp2
              go_roundw
              case rel => exact ⟨i + 1, by go_num, by omega, by rw [show 100 * (i + 1) + 1 = 100 * i + 1 + 100 by omega]; exact HKF.out, HXF.out⟩
              case measure => simp [intOf]; omega
            · have hlt2I : (k : Int) < (n5 : Int) := by omega
              have hkl : k < R.length := by rw [HN5.out]; exact hlt2
              obtain ⟨x, hx⟩ : ∃ x, R[k]? = some x := ⟨_, List.getElem?_eq_getElem hkl⟩
              have hxc : x.cs.length = cc := HWI.out (roOf x) (by rw [← HM5.out]; exact List.mem_map_of_mem (List.mem_of_getElem? hx))
              have hown := (HR6.out.below hb).1
              obtain ⟨gs, cs, hvs⟩ := own_form hown (by omega)
              have hA5 : A5 = some ⟨gs, 0, none⟩ := by simp only [Value.slice.injEq] at hvs; exact hvs.1
              subst hA5
              obtain ⟨⟨r0', -⟩, -⟩ := owns_row hown hx
              rw [hxc] at r0'
              have hwk : IntKind.i64.wrap ((k : Int) + 1) = (k : Int) + 1 := IntWalk.i64_in _ (by omega)
              have HCC := Lib.hid (fun w' hb' => HCO.out w' (below_tail (below_tail HB6.out HBk.out) hb'))
              clear hb hkl hx hxc hown hvs
              go_upto_region 18 with fail
              refine wp_region_u 8 (fun w' => Below wr.heap.size wr w' ∧ w'.cell? ⟨gs, k * 2, none⟩ = some (.slice x.A cc x.cap)) (by kernel_rfl) (by kernel_rfl) ?_ ?_
              · exact ⟨(Below.refl _ _).drew, r0'⟩
              simp only [List.take_succ_cons, List.take_zero, List.drop_succ_cons, List.drop_zero]
              repeat (first
                | (refine seqU_skip (by rfl) ?_; simp only [Act.put, List.setIfInBounds_toArray, List.set_cons_zero, List.set_cons_succ])
                | ((refine seqU_call 19 #[.pointer (some ⟨qp0.P, 0, none⟩)] (.int .i64 cc) (by rfl) ?_ (fun w' hS => (HCC.out w' hS.1).mono fun e w2 ⟨he, hw⟩ => ⟨he, hw ▸ hS⟩) ?_; (focus (intro w2; go_simp; done))); simp only [Act.put, List.setIfInBounds_toArray, List.set_cons_zero, List.set_cons_succ])
                | (refine seqU_val ?_ (by rfl) ?_ ?_; rotate_left; · (intro w' hS; obtain ⟨_, _⟩ := hS; go_simp; first | done | with_reducible rfl)
                   simp only [Act.put, List.setIfInBounds_toArray, List.set_cons_zero, List.set_cons_succ]))
              refine seqU_nil (fun w' hS => ?_)
              have HBk2 := Lib.hid (below_tail HBk.out hS.1)
              clear hS r0'
              go_wp2
              go_roundw
              case rel => exact ⟨k + 1, by go_num, by omega, HBk2.out⟩
              case measure => simp [intOf]; omega
        by_cases hc60 : dc ≤ 60
        rotate_left
        · have hc60d : decide (dc ≤ 60) = false := decide_eq_false hc60
          go_upto_region 12 with fail
          clear d0 d1 d2 d3 hc60d
          have HKK := Lib.hid (HS3.out.1)
          have HXK := Lib.hid (HX3.out)
          obtain ⟨gp, gd, qp, qd, r0, cc, hg, hrc, hgd, ht, ht2, e1, e2, hBo, hBw, hw0⟩ := id HKK.out
          obtain ⟨hl, hhl⟩ : ∃ hl, hl = gp.hist.length := ⟨_, rfl⟩
          obtain ⟨sl, hsl⟩ : ∃ sl, sl = gp.scr.length := ⟨_, rfl⟩
          have HALL : Hid (Calls Tryz.prog 16 #[.pointer (some ⟨qp0.P, 0, none⟩)] w3 (AllPost (gp.hist ++ gp.scr) w3)) := Lib.hid (by rw [← e1]; exact pAll_any hBo.p)
          have HBA : Hid (∀ w', Below w3.heap.size w3 w' → Calls Tryz.prog 17 #[.pointer (some ⟨qp0.P, 0, none⟩)] w' fun e w'' => e = .returned (.int .i64 hl) ∧ w' = w'') := Lib.hid (fun w' hb => by rw [hhl, ← e1]; exact pBase_any (hBo.p.below hb))
          have HRO : Hid (∀ w', Below w3.heap.size w3 w' → Calls Tryz.prog 18 #[.pointer (some ⟨qp0.P, 0, none⟩)] w' fun e w'' => e = .returned (.int .i64 sl) ∧ w' = w'') := Lib.hid (fun w' hb => by rw [hsl, ← e1]; exact pRows_any (hBo.p.below hb))
          have HCO : Hid (∀ w', Below w3.heap.size w3 w' → Calls Tryz.prog 19 #[.pointer (some ⟨qp0.P, 0, none⟩)] w' fun e w'' => e = .returned (.int .i64 cc) ∧ w' = w'') := Lib.hid (fun w' hb => by rw [← hg.hcols, ← e1]; exact pCols_any (hBo.p.below hb))
          have HWI := Lib.hid hg.wide
          have hh := hg.hhist
          have hr := hg.hrows
          have HLEN : Hid ((gp.hist ++ gp.scr).length = hl + sl) := Lib.hid (by rw [List.length_append, hhl, hsl])
          have hhl2 : hl ≤ room := by omega
          have hsl2 : sl ≤ 40 := by omega
          have hroom20 := HRW.out.2.2.1
          have hcr : c.tmod 20 = (room : Int) := by rw [Int.tmod_eq_emod_of_nonneg hc]; exact HCR.out
          have hwu : IntKind.u8.wrap (room : Int) = (room : Int) := by rw [IntKind.wrap_u8]; omega
          have hwi8 : IntKind.i64.wrap (room : Int) = (room : Int) := IntWalk.i64_in _ (by omega)
          have hgt : ¬ (room : Int) < (hl : Int) := by omega
          have hgtd : decide ((room : Int) < (hl : Int)) = false := decide_eq_false hgt
          have hgtN : ¬ room < hl := by omega
          have hgtdN : decide (room < hl) = false := decide_eq_false hgtN
          have HBWK := Lib.hid hBw
          clear hg hrc hgd ht ht2 e1 e2 hBo hBw hw0 hhl hsl hh hr
          go_upto_region 13 with (go_at_call 16; (with_reducible refine HALL.out.mono ?_); rintro e w5 ⟨v5, R, rfl, hro, hrm, hb5⟩; have HR5 := Lib.hid hro; have HM5 := Lib.hid hrm; have HB5 := Lib.hid hb5; have HX5 := Lib.hid ((hb5.block _ (lt_of_heap HXK.out)).trans HXK.out); clear hro hrm hb5)
          obtain ⟨A5, c5, rfl⟩ := row_form HR5.out.1
          obtain ⟨n5, hn5⟩ : ∃ n5, R.length = n5 := ⟨_, rfl⟩
          have HN5 := Lib.hid hn5
          have hn5e : hl + sl = n5 := by rw [← hn5, ← HLEN.out, ← HM5.out, List.length_map]
          have hsum : (hl : Int) + (sl : Int) = (n5 : Int) := by omega
          have hwn5 : IntKind.i64.wrap (n5 : Int) = (n5 : Int) := IntWalk.i64_in _ (by omega)
          rw [hn5]
          have x2 := (at_ HX5.out 2 _ rfl).1
          have hn560 : n5 ≤ 60 := by omega
          clear hn5 hn5e
          refine wp_region_u 16 (fun w' => Below w5.heap.size w5 w' ∧ w'.cell? ⟨w.heap.size, 2, none⟩ = some (.int .u8 c)) (by kernel_rfl) (by kernel_rfl) ?_ ?_
          · exact ⟨(Below.refl _ _).drew, x2⟩
          simp only [List.take_succ_cons, List.take_zero, List.drop_succ_cons, List.drop_zero]
          repeat (first
            | (refine seqU_skip (by rfl) ?_; simp only [Act.put, List.setIfInBounds_toArray, List.set_cons_zero, List.set_cons_succ])
            | ((refine seqU_call 17 #[.pointer (some ⟨qp0.P, 0, none⟩)] (.int .i64 hl) (by rfl) ?_ (fun w' hS => (HBA.out w' (below_tail HB5.out hS.1)).mono fun e w2 ⟨he, hw⟩ => ⟨he, hw ▸ hS⟩) ?_; (focus (intro w2; go_simp; done))); simp only [Act.put, List.setIfInBounds_toArray, List.set_cons_zero, List.set_cons_succ])
            | ((refine seqU_call 18 #[.pointer (some ⟨qp0.P, 0, none⟩)] (.int .i64 sl) (by rfl) ?_ (fun w' hS => (HRO.out w' (below_tail HB5.out hS.1)).mono fun e w2 ⟨he, hw⟩ => ⟨he, hw ▸ hS⟩) ?_; (focus (intro w2; go_simp; done))); simp only [Act.put, List.setIfInBounds_toArray, List.set_cons_zero, List.set_cons_succ])
            | (refine seqU_val ?_ (by rfl) ?_ ?_; rotate_left; · (intro w' hS; obtain ⟨_, _⟩ := hS; go_simp; first | done | with_reducible rfl)
               simp only [Act.put, List.setIfInBounds_toArray, List.set_cons_zero, List.set_cons_succ]))
          refine seqU_nil (fun w' hS => ?_)
          have HB6 := Lib.hid (below_tail HB5.out hS.1)
          have HR6 := Lib.hid (HR5.out.below hS.1)
          have HX6 := Lib.hid ((hS.1.block _ (lt_of_heap HX5.out)).trans HX5.out)
          clear hS x2 hcr hwu hwi8 hgt hgtd hgtN hgtdN hsum hwn5
          obtain ⟨w6, hw6⟩ : ∃ w6, w6 = w' := ⟨_, rfl⟩
          subst hw6
          obtain ⟨wq, hwq⟩ : ∃ wq, wq = wr := ⟨_, rfl⟩
          subst hwq
          go_wp2_with fail
          go_loopw [11] (fun s11 wr => ∃ k : Nat, s11 = .int .i64 k ∧ k ≤ n5 ∧ Below w6.heap.size w6 wr) (fun s11 _ => n5 - (intOf s11).toNat)
          case atStart => exact ⟨0, rfl, Nat.zero_le _, Below.refl _ _⟩
          case round =>
            obtain ⟨k, rfl, hk, hb⟩ := hrel
            have HBk := Lib.hid hb
            by_cases hlt2 : k < n5
            rotate_left
            · have hge2 : ¬ (k : Int) < (n5 : Int) := by omega
              have HXF := Lib.hid ((hb.block _ (lt_of_heap HX6.out)).trans HX6.out)
              have HKF := Lib.hid (HKK.out.below (below_tail HB6.out hb))
              clear hb
              go_wp2
              go_roundw
              case rel => exact ⟨i + 1, by go_num, by omega, by rw [show 100 * (i + 1) + 1 = 100 * i + 1 + 100 by omega]; exact HKF.out, HXF.out⟩
              case measure => simp [intOf]; omega
            · have hlt2I : (k : Int) < (n5 : Int) := by omega
              have hkl : k < R.length := by rw [HN5.out]; exact hlt2
              obtain ⟨x, hx⟩ : ∃ x, R[k]? = some x := ⟨_, List.getElem?_eq_getElem hkl⟩
              have hxc : x.cs.length = cc := HWI.out (roOf x) (by rw [← HM5.out]; exact List.mem_map_of_mem (List.mem_of_getElem? hx))
              have hown := (HR6.out.below hb).1
              obtain ⟨gs, cs, hvs⟩ := own_form hown (by omega)
              have hA5 : A5 = some ⟨gs, 0, none⟩ := by simp only [Value.slice.injEq] at hvs; exact hvs.1
              subst hA5
              obtain ⟨⟨r0', -⟩, -⟩ := owns_row hown hx
              rw [hxc] at r0'
              have hwk : IntKind.i64.wrap ((k : Int) + 1) = (k : Int) + 1 := IntWalk.i64_in _ (by omega)
              have HCC := Lib.hid (fun w' hb' => HCO.out w' (below_tail (below_tail HB6.out HBk.out) hb'))
              clear hb hkl hx hxc hown hvs
              go_upto_region 18 with fail
              refine wp_region_u 8 (fun w' => Below wr.heap.size wr w' ∧ w'.cell? ⟨gs, k * 2, none⟩ = some (.slice x.A cc x.cap)) (by kernel_rfl) (by kernel_rfl) ?_ ?_
              · exact ⟨(Below.refl _ _).drew, r0'⟩
              simp only [List.take_succ_cons, List.take_zero, List.drop_succ_cons, List.drop_zero]
              repeat (first
                | (refine seqU_skip (by rfl) ?_; simp only [Act.put, List.setIfInBounds_toArray, List.set_cons_zero, List.set_cons_succ])
                | ((refine seqU_call 19 #[.pointer (some ⟨qp0.P, 0, none⟩)] (.int .i64 cc) (by rfl) ?_ (fun w' hS => (HCC.out w' hS.1).mono fun e w2 ⟨he, hw⟩ => ⟨he, hw ▸ hS⟩) ?_; (focus (intro w2; go_simp; done))); simp only [Act.put, List.setIfInBounds_toArray, List.set_cons_zero, List.set_cons_succ])
                | (refine seqU_val ?_ (by rfl) ?_ ?_; rotate_left; · (intro w' hS; obtain ⟨_, _⟩ := hS; go_simp; first | done | with_reducible rfl)
                   simp only [Act.put, List.setIfInBounds_toArray, List.set_cons_zero, List.set_cons_succ]))
              refine seqU_nil (fun w' hS => ?_)
              have HBk2 := Lib.hid (below_tail HBk.out hS.1)
              clear hS r0'
              go_wp2
              go_roundw
              case rel => exact ⟨k + 1, by go_num, by omega, HBk2.out⟩
              case measure => simp [intOf]; omega
        have HRZ : Hid (∀ w', Below w3.heap.size w3 w' → Calls Tryz.prog 15 #[.pointer (some ⟨qp0.P, 0, none⟩), .int .i64 dr, .int .i64 dc, .agg #[.int .i64 da1, .int .i64 da2], .slice none 0 0] w' (fun e w'' => (∃ v, e = .returned v) ∧ KeepS B rows cols room w qp0.P qd0.D (100 * i + 1 + 100) w'' ∧ Below B w' w'')) := Lib.hid (fun w' hb' => (HS3.out.1.below hb').resize HRW.out.2.2.1 (by omega) dr dc hr40 hc60 da1 da2)
        go_upto_region 11 with fail
        refine wp_region_u 16 (fun w' => Below w3.heap.size w3 w' ∧ w'.cell? ⟨bz, oz + i * 5, none⟩ = some (.int .i64 dr) ∧ w'.cell? ⟨bz, oz + i * 5 + 1, none⟩ = some (.int .i64 dc) ∧ w'.cell? ⟨bz, oz + i * 5 + 2, none⟩ = some (.int .i64 da1) ∧ w'.cell? ⟨bz, oz + i * 5 + 3, none⟩ = some (.int .i64 da2)) (by kernel_rfl) (by kernel_rfl) ?_ ?_
        · exact ⟨(Below.refl _ _).drew, d0, d1, d2, d3⟩
        simp only [List.take_succ_cons, List.take_zero, List.drop_succ_cons, List.drop_zero]
        repeat (first
          | (refine seqU_skip (by rfl) ?_; simp only [Act.put, List.setIfInBounds_toArray, List.set_cons_zero, List.set_cons_succ])
          | (refine seqU_val ?_ (by rfl) ?_ ?_; rotate_left; · (intro w' hS; obtain ⟨_, _, _, _, _⟩ := hS; go_simp; first | done | with_reducible rfl)
             simp only [Act.put, List.setIfInBounds_toArray, List.set_cons_zero, List.set_cons_succ]))
        refine seqU_nil (fun w' hS => ?_)
        have HS4 := Lib.hid hS.1
        have HRZ4 := Lib.hid (HRZ.out w' hS.1)
        have HX4 := Lib.hid ((hS.1.block _ (lt_of_heap HX3.out)).trans HX3.out)
        clear hS d0 d1 d2 d3
        go_upto_region 12 with (go_at_call 15; (with_reducible refine HRZ4.out.mono ?_); rintro e w4 ⟨⟨v4, rfl⟩, hk4, hb4⟩; have HK4 := Lib.hid hk4; have HX5' := Lib.hid ((hb4.block _ HBB.out.2.2).trans HX4.out); clear hk4 hb4)
        have HKK := Lib.hid (HK4.out)
        have HXK := Lib.hid (HX5'.out)
        obtain ⟨gp, gd, qp, qd, r0, cc, hg, hrc, hgd, ht, ht2, e1, e2, hBo, hBw, hw0⟩ := id HKK.out
        obtain ⟨hl, hhl⟩ : ∃ hl, hl = gp.hist.length := ⟨_, rfl⟩
        obtain ⟨sl, hsl⟩ : ∃ sl, sl = gp.scr.length := ⟨_, rfl⟩
        have HALL : Hid (Calls Tryz.prog 16 #[.pointer (some ⟨qp0.P, 0, none⟩)] w4 (AllPost (gp.hist ++ gp.scr) w4)) := Lib.hid (by rw [← e1]; exact pAll_any hBo.p)
        have HBA : Hid (∀ w', Below w4.heap.size w4 w' → Calls Tryz.prog 17 #[.pointer (some ⟨qp0.P, 0, none⟩)] w' fun e w'' => e = .returned (.int .i64 hl) ∧ w' = w'') := Lib.hid (fun w' hb => by rw [hhl, ← e1]; exact pBase_any (hBo.p.below hb))
        have HRO : Hid (∀ w', Below w4.heap.size w4 w' → Calls Tryz.prog 18 #[.pointer (some ⟨qp0.P, 0, none⟩)] w' fun e w'' => e = .returned (.int .i64 sl) ∧ w' = w'') := Lib.hid (fun w' hb => by rw [hsl, ← e1]; exact pRows_any (hBo.p.below hb))
        have HCO : Hid (∀ w', Below w4.heap.size w4 w' → Calls Tryz.prog 19 #[.pointer (some ⟨qp0.P, 0, none⟩)] w' fun e w'' => e = .returned (.int .i64 cc) ∧ w' = w'') := Lib.hid (fun w' hb => by rw [← hg.hcols, ← e1]; exact pCols_any (hBo.p.below hb))
        have HWI := Lib.hid hg.wide
        have hh := hg.hhist
        have hr := hg.hrows
        have HLEN : Hid ((gp.hist ++ gp.scr).length = hl + sl) := Lib.hid (by rw [List.length_append, hhl, hsl])
        have hhl2 : hl ≤ room := by omega
        have hsl2 : sl ≤ 40 := by omega
        have hroom20 := HRW.out.2.2.1
        have hcr : c.tmod 20 = (room : Int) := by rw [Int.tmod_eq_emod_of_nonneg hc]; exact HCR.out
        have hwu : IntKind.u8.wrap (room : Int) = (room : Int) := by rw [IntKind.wrap_u8]; omega
        have hwi8 : IntKind.i64.wrap (room : Int) = (room : Int) := IntWalk.i64_in _ (by omega)
        have hgt : ¬ (room : Int) < (hl : Int) := by omega
        have hgtd : decide ((room : Int) < (hl : Int)) = false := decide_eq_false hgt
        have hgtN : ¬ room < hl := by omega
        have hgtdN : decide (room < hl) = false := decide_eq_false hgtN
        have HBWK := Lib.hid hBw
        clear hg hrc hgd ht ht2 e1 e2 hBo hBw hw0 hhl hsl hh hr
        go_upto_region 13 with (go_at_call 16; (with_reducible refine HALL.out.mono ?_); rintro e w5 ⟨v5, R, rfl, hro, hrm, hb5⟩; have HR5 := Lib.hid hro; have HM5 := Lib.hid hrm; have HB5 := Lib.hid hb5; have HX5 := Lib.hid ((hb5.block _ (lt_of_heap HXK.out)).trans HXK.out); clear hro hrm hb5)
        obtain ⟨A5, c5, rfl⟩ := row_form HR5.out.1
        obtain ⟨n5, hn5⟩ : ∃ n5, R.length = n5 := ⟨_, rfl⟩
        have HN5 := Lib.hid hn5
        have hn5e : hl + sl = n5 := by rw [← hn5, ← HLEN.out, ← HM5.out, List.length_map]
        have hsum : (hl : Int) + (sl : Int) = (n5 : Int) := by omega
        have hwn5 : IntKind.i64.wrap (n5 : Int) = (n5 : Int) := IntWalk.i64_in _ (by omega)
        rw [hn5]
        have x2 := (at_ HX5.out 2 _ rfl).1
        have hn560 : n5 ≤ 60 := by omega
        clear hn5 hn5e
        refine wp_region_u 16 (fun w' => Below w5.heap.size w5 w' ∧ w'.cell? ⟨w.heap.size, 2, none⟩ = some (.int .u8 c)) (by kernel_rfl) (by kernel_rfl) ?_ ?_
        · exact ⟨(Below.refl _ _).drew, x2⟩
        simp only [List.take_succ_cons, List.take_zero, List.drop_succ_cons, List.drop_zero]
        repeat (first
          | (refine seqU_skip (by rfl) ?_; simp only [Act.put, List.setIfInBounds_toArray, List.set_cons_zero, List.set_cons_succ])
          | ((refine seqU_call 17 #[.pointer (some ⟨qp0.P, 0, none⟩)] (.int .i64 hl) (by rfl) ?_ (fun w' hS => (HBA.out w' (below_tail HB5.out hS.1)).mono fun e w2 ⟨he, hw⟩ => ⟨he, hw ▸ hS⟩) ?_; (focus (intro w2; go_simp; done))); simp only [Act.put, List.setIfInBounds_toArray, List.set_cons_zero, List.set_cons_succ])
          | ((refine seqU_call 18 #[.pointer (some ⟨qp0.P, 0, none⟩)] (.int .i64 sl) (by rfl) ?_ (fun w' hS => (HRO.out w' (below_tail HB5.out hS.1)).mono fun e w2 ⟨he, hw⟩ => ⟨he, hw ▸ hS⟩) ?_; (focus (intro w2; go_simp; done))); simp only [Act.put, List.setIfInBounds_toArray, List.set_cons_zero, List.set_cons_succ])
          | (refine seqU_val ?_ (by rfl) ?_ ?_; rotate_left; · (intro w' hS; obtain ⟨_, _⟩ := hS; go_simp; first | done | with_reducible rfl)
             simp only [Act.put, List.setIfInBounds_toArray, List.set_cons_zero, List.set_cons_succ]))
        refine seqU_nil (fun w' hS => ?_)
        have HB6 := Lib.hid (below_tail HB5.out hS.1)
        have HR6 := Lib.hid (HR5.out.below hS.1)
        have HX6 := Lib.hid ((hS.1.block _ (lt_of_heap HX5.out)).trans HX5.out)
        clear hS x2 hcr hwu hwi8 hgt hgtd hgtN hgtdN hsum hwn5
        obtain ⟨w6, hw6⟩ : ∃ w6, w6 = w' := ⟨_, rfl⟩
        subst hw6
        obtain ⟨wq, hwq⟩ : ∃ wq, wq = wr := ⟨_, rfl⟩
        subst hwq
        go_wp2_with fail
        go_loopw [11] (fun s11 wr => ∃ k : Nat, s11 = .int .i64 k ∧ k ≤ n5 ∧ Below w6.heap.size w6 wr) (fun s11 _ => n5 - (intOf s11).toNat)
        case atStart => exact ⟨0, rfl, Nat.zero_le _, Below.refl _ _⟩
        case round =>
          obtain ⟨k, rfl, hk, hb⟩ := hrel
          have HBk := Lib.hid hb
          by_cases hlt2 : k < n5
          rotate_left
          · have hge2 : ¬ (k : Int) < (n5 : Int) := by omega
            have HXF := Lib.hid ((hb.block _ (lt_of_heap HX6.out)).trans HX6.out)
            have HKF := Lib.hid (HKK.out.below (below_tail HB6.out hb))
            clear hb
            go_wp2
            go_roundw
            case rel => exact ⟨i + 1, by go_num, by omega, by rw [show 100 * (i + 1) + 1 = 100 * i + 1 + 100 by omega]; exact HKF.out, HXF.out⟩
            case measure => simp [intOf]; omega
          · have hlt2I : (k : Int) < (n5 : Int) := by omega
            have hkl : k < R.length := by rw [HN5.out]; exact hlt2
            obtain ⟨x, hx⟩ : ∃ x, R[k]? = some x := ⟨_, List.getElem?_eq_getElem hkl⟩
            have hxc : x.cs.length = cc := HWI.out (roOf x) (by rw [← HM5.out]; exact List.mem_map_of_mem (List.mem_of_getElem? hx))
            have hown := (HR6.out.below hb).1
            obtain ⟨gs, cs, hvs⟩ := own_form hown (by omega)
            have hA5 : A5 = some ⟨gs, 0, none⟩ := by simp only [Value.slice.injEq] at hvs; exact hvs.1
            subst hA5
            obtain ⟨⟨r0', -⟩, -⟩ := owns_row hown hx
            rw [hxc] at r0'
            have hwk : IntKind.i64.wrap ((k : Int) + 1) = (k : Int) + 1 := IntWalk.i64_in _ (by omega)
            have HCC := Lib.hid (fun w' hb' => HCO.out w' (below_tail (below_tail HB6.out HBk.out) hb'))
            clear hb hkl hx hxc hown hvs
            go_upto_region 18 with fail
            refine wp_region_u 8 (fun w' => Below wr.heap.size wr w' ∧ w'.cell? ⟨gs, k * 2, none⟩ = some (.slice x.A cc x.cap)) (by kernel_rfl) (by kernel_rfl) ?_ ?_
            · exact ⟨(Below.refl _ _).drew, r0'⟩
            simp only [List.take_succ_cons, List.take_zero, List.drop_succ_cons, List.drop_zero]
            repeat (first
              | (refine seqU_skip (by rfl) ?_; simp only [Act.put, List.setIfInBounds_toArray, List.set_cons_zero, List.set_cons_succ])
              | ((refine seqU_call 19 #[.pointer (some ⟨qp0.P, 0, none⟩)] (.int .i64 cc) (by rfl) ?_ (fun w' hS => (HCC.out w' hS.1).mono fun e w2 ⟨he, hw⟩ => ⟨he, hw ▸ hS⟩) ?_; (focus (intro w2; go_simp; done))); simp only [Act.put, List.setIfInBounds_toArray, List.set_cons_zero, List.set_cons_succ])
              | (refine seqU_val ?_ (by rfl) ?_ ?_; rotate_left; · (intro w' hS; obtain ⟨_, _⟩ := hS; go_simp; first | done | with_reducible rfl)
                 simp only [Act.put, List.setIfInBounds_toArray, List.set_cons_zero, List.set_cons_succ]))
            refine seqU_nil (fun w' hS => ?_)
            have HBk2 := Lib.hid (below_tail HBk.out hS.1)
            clear hS r0'
            go_wp2
            go_roundw
            case rel => exact ⟨k + 1, by go_num, by omega, HBk2.out⟩
            case measure => simp [intOf]; omega
theorem PageKeeps_in (a b c : Int) (A : Option Addr) (l : List Oq) (ca : Nat) (B2 : Option Addr) (tz : List Sd) (cb : Nat) (w : World) (ha : (Lit.int .u8 a).wf = true) (hb : (Lit.int .u8 b).wf = true) (hc : (Lit.int .u8 c).wf = true) (hz : l.length ≤ 9223372036854775807) (hl : GrAt encOq 12 w A l) (hok : ∀ c ∈ l, okOq c) (hz2 : tz.length ≤ 9223372036854775807) (hto : GrAt encSd 5 w B2 tz) :
    Calls Tryz.prog 5 #[.agg #[.int .u8 a, .int .u8 b, .int .u8 c], .slice A l.length ca, .slice B2 tz.length cb] w (TruePost w) := by
  have := PageKeeps_walk a b c (u8_of_wf ha).1 (u8_of_wf hb).1 (u8_of_wf hc).1 A (l.map toPop) ca B2 tz cb w (by simpa using hz) (gr_pop hl) (pops_ok hok) hz2 hto
  simpa using this
end Go.Proofs.YtffdblmdelgkaaaGreat

namespace Go.Proofs.YtffdblmdelgkaaaGreat
open Go.ChangeShapes Go.WideShapes Go.ChangeAt Go.RowKit Go.Joins
set_option maxRecDepth 100000 in
theorem pageKeeps_lifted (os : Os) (started : os.Started) (H : Type) (enc : TypeId × Value → H) :
    ReturnsInHanded {} Tryz.checked os 5 .any (Rows.pageKeepsSpec.pre6 enc Tryz.prog Tryz.f5 Rows.pageKeepsRow.domain false) (Rows.pageKeepsSpec.post enc Tryz.prog Tryz.f5 false true false false) := by
  refine returnsInHanded_of_change (C := Tryz.checked) own started (by kernel_rfl) Tryz.func5
    (ChangeSpec.witness6 (enc := enc) (C := Tryz.checked) false ⟨#[], #[.agg #[.int .u8 0, .int .u8 0, .int .u8 0], .slice none 0 0, .slice none 0 0], []⟩ 8 (by kernel_rfl) (by kernel_rfl) (by kernel_rfl) (by kernel_rfl)) ?_
  intro W base args ds gs before hval0 hW hcnd _
  have hval : ∀ (j : Nat) t v, Tryz.f5.params[j]? = some t → args[j]? = some v → Value.okWide Tryz.prog W .any base t v := hval0
  have hW' := hW
  obtain ⟨p, q, hA0, hV, rfl, hfz, hnd⟩ := hW
  have hA : DataW.TrodAll enc Tryz.prog W 0 (fun _ => true) true Tryz.f5.params.toList args.toList ds p := hA0
  rw [Tryz.params5] at hA hval
  obtain ⟨v0, v1, v2, d0, d1, d2, p0, p1, p2, rfl, rfl, rfl, h0, h1, h2⟩ := trodAll_three hA
  obtain ⟨rfl, rfl⟩ := trodVars_none hV
  have h0k := h0
  obtain ⟨c0_0, c0_1, c0_2, y0_0, y0_1, y0_2, m0, rfl, -, -, hy0_0, hy0_1, hy0_2⟩ := open_agg3 Tryz.underlying23 (by kernel_rfl) cellsSz (hval 0 23 v0 rfl rfl) h0
  obtain ⟨a, e0_0, -, hw0_0⟩ := DataW.trod_int Tryz.underlying5 hy0_0
  simp only [List.cons.injEq, and_true] at e0_0
  subst e0_0
  obtain ⟨b, e0_1, -, hw0_1⟩ := DataW.trod_int Tryz.underlying5 hy0_1
  simp only [List.cons.injEq, and_true] at e0_1
  subst e0_1
  obtain ⟨c, e0_2, -, hw0_2⟩ := DataW.trod_int Tryz.underlying5 hy0_2
  simp only [List.cons.injEq, and_true] at e0_2
  subst e0_2
  have h1k := h1
  obtain ⟨A, l, ca, rfl, hz, hl, hok, -, -⟩ := open_Oqs (hval 1 24 v1 rfl rfl) h1
  have h2k := h2
  obtain ⟨B, tz, cb, rfl, hz2, hto, -, -, -⟩ := open_Sds (hval 2 55 v2 rfl rfl) h2
  clear hA0 hval0 hA hval hy0_0 hy0_1 hy0_2 h0 h1 h2
  refine (PageKeeps_in a b c A l ca B tz cb W hw0_0 hw0_1 hw0_2 hz hl hok hz2 hto).mono fun e W' ⟨he, hb⟩ => ?_
  subst he
  exact ⟨_, rfl, post_of_below hW' (fun _ _ _ => trodAll_mk1 (shut_bool Tryz.underlying4 true))
    (fun sp hsp => trodAll_mk3 (stays laidOut (by kernel_rfl) (of_decide_eq_true (by kernel_rfl)) h0k hb (fun x hx => hW'.lt x hx) (by simp; try (intros; simp [*])) hsp) (stays laidOut (by kernel_rfl) (of_decide_eq_true (by kernel_rfl)) h1k hb (fun x hx => hW'.lt x hx) (by simp; try (intros; simp [*])) hsp) (stays laidOut (by kernel_rfl) (of_decide_eq_true (by kernel_rfl)) h2k hb (fun x hx => hW'.lt x hx) (by simp; try (intros; simp [*])) hsp))
    (fun _ _ => rfl) (by simp) hb (ok_one (by kernel_rfl) rfl (okWide_bool_mk Tryz.underlying4 true))⟩
theorem pageKeeps_holds : Rows.PageKeepsSaid :=
  OpenClaim.holds_of_wide 5 Tryz.f5 rfl rfl rfl rfl rfl rfl rfl ⟨rfl, rfl, rfl, rfl, rfl⟩ rfl rfl rfl rfl rfl (by kernel_rfl) Tryz.func5 (by kernel_rfl)
    (of_decide_eq_true (by kernel_rfl)) (by unfold Func.isWrapper; first | (rw [if_pos (by decide +kernel)]; kernel_rfl) | (rw [if_neg (by decide +kernel)]; exact ⟨rfl, rfl⟩))
    (fun os started H enc _ => pageKeeps_lifted os started H enc)
#print axioms pageKeeps_holds
end Go.Proofs.YtffdblmdelgkaaaGreat
