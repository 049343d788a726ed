/- PageRows: the walk. Conditions: as stated. -/
import Derived.Test.YtffdblmdelgkaaaGreatLwPp
import Derived.Test.YtffdblmdelgkaaaGreatLwPpi
import Derived.Test.YtffdblmdelgkaaaGreatPqA
namespace Go.Proofs.YtffdblmdelgkaaaGreat
open Go.RowKit

/-- The state between two operations: both are alike; so much is told at most. -/
def PlayN (B rows cols room : Nat) (w0 : World) (P D N : Nat) (w : World) : Prop :=
  ∃ g qp qd, PgInv rows cols room g ∧ g.told.length ≤ N ∧ qp.P = P ∧ qd.D = D ∧ Both B w qp qd g ∧ Below w0.heap.size w0 w ∧ w0.heap.size ≤ B
theorem PlayN.does {B rows cols room : Nat} {w0 : World} {P D N : Nat} {w : World} (h : PlayN B rows cols room w0 P D N w) (hrow0 : 0 < rows) (hrows : rows ≤ 12) (hroom : room ≤ 20) (hN : N ≤ 1000) (o : Pop) (hok : PopOk o) :
    Calls Tryz.prog 9 #[.pointer (some ⟨P, 0, none⟩), .pointer (some ⟨D, 0, none⟩), .agg #[.int .i64 o.kind, .int .i64 o.x, .int .i64 o.n, .int .i32 o.r, .int .i64 o.at_.fk, .int .i64 o.at_.fn, .int .i64 o.at_.bk, .int .i64 o.at_.bn, .int .i64 o.at_.fl, .int .i64 o.y, .int .i64 o.top, .int .i64 o.bottom]] w (fun e w' => e = .returned (.tuple #[]) ∧ PlayN B rows cols room w0 P D (N + 25) w') := by
  obtain ⟨g, qp, qd, hg, ht, e1, e2, hBo, hBw, hw0⟩ := h
  have := does_any hBo hg hrow0 (by omega) (by omega) (by omega) o hok
  rw [e1, e2] at this
  refine this.mono ?_
  rintro e w' ⟨rfl, hs⟩
  have hBsz : B ≤ w.heap.size := by have := hBo.p.lt qp.P (by simp [pgX]); omega
  have hB2 : Below B w w' := hs.below0 hBo hBsz
  obtain ⟨qp2, qd2, f1, f2, hBo2, -, -⟩ := hs
  have hst := step_told g o
  have := hg.hrows
  exact ⟨rfl, stepP g o, qp2, qd2, hg.step o, by omega, f1.trans e1, f2.trans e2, hBo2, hBw.trans (Below.mono hB2 hw0), hw0⟩
theorem row_at {H : List Ro} {i : Nat} (h : i < H.length) : ∃ r, H[i]? = some r := ⟨H[i], List.getElem?_eq_getElem h⟩
theorem pRow_in {base : Nat} {w : World} {q : Pv} {g : Pg} (h : PgO base w q g) (i : Nat) (r : Ro) (hr : (g.hist ++ g.scr)[i]? = some r) : Calls Tryz.prog 13 #[.pointer (some ⟨q.P, 0, none⟩), .int .i64 i] w (GetPost r w) := by
  by_cases hc : i < g.hist.length
  · exact pRow_hist h i r (by rwa [List.getElem?_append_left hc] at hr)
  · rw [List.getElem?_append_right (by omega)] at hr
    exact pRow_scr h i (i - g.hist.length) r (by omega) hr
theorem gr_one {α : Type} {enc : α → List Value} {k : Nat} {w : World} {b off : Nat} {x : α} (h : ∀ j v, (enc x)[j]? = some v → w.cell? ⟨b, off + j, none⟩ = some v) : GrAt enc k w (some ⟨b, off, none⟩) [x] := fun _ => ⟨b, off, rfl, fun i y hy j v hv => by
  match i, hy with
  | 0, hy => simp at hy; subst hy; rw [Nat.zero_mul, Nat.add_zero]; exact h j v hv
  | i + 1, hy => simp at hy⟩
set_option maxRecDepth 100000 in
set_option maxHeartbeats 6400000 in
theorem PageRows_walk (a b c : Int) (ha : 0 ≤ a) (hb : 0 ≤ b) (hc : 0 ≤ c) (A : Option Addr) (l : List Pop) (ca : Nat) (n : Int) (w : World) (hz : l.length ≤ 9223372036854775807) (hl : GrAt encPop 12 w A l) (hok : ∀ o ∈ l, PopOk o) (h64 : -9223372036854775808 ≤ n ∧ n ≤ 9223372036854775807) :
    Calls Tryz.prog 4 #[.agg #[.int .u8 a, .int .u8 b, .int .u8 c], .slice A l.length ca, .int .i64 n] w (TruePost w) := by
  have hb0 := below_allocs (Below.refl w.heap.size w) (.cells #[.int .u8 a, .int .u8 b, .int .u8 c] 23)
  have HB0 := Lib.hid hb0
  have HAW := Lib.hid (fun w => awake13 w)
  have HL := Lib.hid hl
  have HOK := Lib.hid hok
  have H64 := Lib.hid h64
  have HX := Lib.hid (hp_new (W := w) (b := w.heap.size) (o := .cells #[.int .u8 a, .int .u8 b, .int .u8 c] 23) rfl)
  by_cases h40 : 40 < l.length
  · have h40I : (40 : Int) < (l.length : Int) := by omega
    clear hl hb0 hok h64
    go_enter Tryz.func4, Tryz.ntmps4
    go_wp2_with (go_at_call 7; (with_reducible refine (HAW.out _).mono ?_); rintro e w1 ⟨rfl, hb⟩; have HB1 := Lib.hid (below_tail HB0.out hb); clear hb)
    go_ret
    exact ⟨rfl, HB1.out⟩
  have h40I : ¬ (40 : Int) < (l.length : Int) := by omega
  obtain ⟨rows, hrows⟩ : ∃ rows, rows = 1 + (a % 12).toNat := ⟨_, rfl⟩
  obtain ⟨cols, hcols⟩ : ∃ cols, cols = 2 + (b % 20).toNat := ⟨_, rfl⟩
  obtain ⟨room, hroom⟩ : ∃ room, room = (c % 20).toNat := ⟨_, rfl⟩
  have HMD : Hid (∀ w, Calls Tryz.prog 8 #[.agg #[.int .u8 a, .int .u8 b, .int .u8 c]] w (MadePost rows cols room w)) := Lib.hid (fun w => by rw [hrows, hcols, hroom]; exact made_any a b c w ha hb hc)
  have HRW : Hid (0 < rows ∧ rows ≤ 12 ∧ room ≤ 20) := Lib.hid (by omega)
  clear hl hb0 hok hrows hcols hroom h64
  go_enter Tryz.func4, Tryz.ntmps4
  go_upto_region 3 with (go_at_call 7; (with_reducible refine (HAW.out _).mono ?_); rintro e w1 ⟨rfl, hb⟩; have HB1 := Lib.hid (below_tail HB0.out hb); have HX1 := Lib.hid ((hb.block _ (lt_of_heap HX.out)).trans HX.out); clear hb)
  have x0 := (at_ HX1.out 0 _ rfl).1
  have x1 := (at_ HX1.out 1 _ rfl).1
  have x2 := (at_ HX1.out 2 _ rfl).1
  go_wp2_with (go_at_call 8; (with_reducible refine (HMD.out _).mono ?_); rintro e w2 ⟨qp0, qd0, rfl, hbo, hb⟩; have HBO := Lib.hid hbo; have HB2 := Lib.hid (below_tail HB1.out hb); have HB12 := Lib.hid hb; clear hbo hb x0 x1 x2)
  obtain ⟨B, hB⟩ : ∃ B, B = w1.heap.size := ⟨_, rfl⟩
  rw [← hB] at HBO
  have HBB : Hid (w.heap.size ≤ B ∧ B ≤ w2.heap.size) := Lib.hid ⟨by rw [hB]; exact HB1.out.size, by rw [hB]; exact HB12.out.size⟩
  clear hB
  go_loopw [9] (fun s9 wr => ∃ i : Nat, s9 = .int .i64 i ∧ i ≤ l.length ∧ PlayN B rows cols room w qp0.P qd0.D (25 * i) wr) (fun s9 _ => l.length - (intOf s9).toNat)
  case atStart => exact ⟨0, rfl, Nat.zero_le _, newP rows cols room, qp0, qd0, newP_inv _ _ _, Nat.zero_le _, rfl, rfl, HBO.out, HB2.out, HBB.out.1⟩
  case round =>
    obtain ⟨i, rfl, hi, hP⟩ := hrel
    by_cases hlt : i < l.length
    rotate_left
    · have hge : ¬ (i : Int) < (l.length : Int) := by omega
      obtain ⟨g, qp, qd, hg, -, e1, e2, hBo, hBw, -⟩ := hP
      have HBW := Lib.hid hBw
      obtain ⟨Lr, hLr⟩ : ∃ Lr, Lr = g.hist ++ g.scr := ⟨_, rfl⟩
      have hLn : Lr.length ≤ 100 := by rw [hLr, List.length_append]; have := hg.hhist; have := hg.hrows; have := HRW.out; omega
      have hSL : qd.S.length = Lr.length := by rw [hLr]; exact hBo.d.len
      have HIN : Hid (∀ (k : Nat) r w', Below wr.heap.size wr w' → Lr[k]? = some r → Calls Tryz.prog 13 #[.pointer (some ⟨qp0.P, 0, none⟩), .int .i64 k] w' (GetPost r w')) := Lib.hid (fun k r w' hb hr => by rw [← e1]; exact pRow_in (hBo.p.below hb) k r (by rw [← hLr]; exact hr))
      have HOUT : Hid (∀ (z : Int) w', Below wr.heap.size wr w' → (z < 0 ∨ (Lr.length : Int) ≤ z) → -9223372036854775808 ≤ z ∧ z ≤ 9223372036854775807 → Calls Tryz.prog 13 #[.pointer (some ⟨qp0.P, 0, none⟩), .int .i64 z] w' (NonePost w')) := Lib.hid (fun z w' hb hz h64 => by rw [← e1]; exact pRow_out (hBo.p.below hb) z (by rw [← hLr]; exact hz) h64)
      obtain ⟨AS, cS, hvS⟩ := hBo.d.vform
      obtain ⟨⟨y0, -⟩, -⟩ := hBo.d.cells
      rw [hvS, e2, hSL] at y0
      have hmap : qd.S.map roOf = Lr := by rw [hLr]; exact hBo.d.rl
      have HGR : Hid (∀ (k : Nat) r, Lr[k]? = some r → ∃ (x : Rh), qd.S[k]? = some x ∧ roOf x = r ∧ ∃ gs, AS = some ⟨gs, 0, none⟩ ∧ RcAt wr x ∧ wr.cell? ⟨gs, k * 2, none⟩ = some (.slice x.A x.cs.length x.cap) ∧ wr.cell? ⟨gs, k * 2 + 1, none⟩ = some (.bool x.cont)) := Lib.hid (fun k r hr => by
        rw [← hmap, List.getElem?_map] at hr
        obtain ⟨x, hx, rfl⟩ := Option.map_eq_some_iff.1 hr
        have hkl := (List.getElem?_eq_some_iff.1 hx).1
        obtain ⟨gs, cs, hvs⟩ := own_form hBo.d.own (by omega)
        have hownS := hBo.d.own
        rw [hvs] at hownS
        obtain ⟨⟨r0, -⟩, r1, -⟩ := owns_row hownS hx
        have hAS : AS = some ⟨gs, 0, none⟩ := by rw [hvS] at hvs; simp only [Value.slice.injEq] at hvs; exact hvs.1
        exact ⟨x, hx, rfl, gs, hAS, (hBo.d.rows x (List.mem_of_getElem? hx)).1, r0, r1⟩)
      obtain ⟨m, hm⟩ : ∃ m, m = Lr.length := ⟨_, rfl⟩
      rw [← hm] at y0 hLn HOUT
      have HM := Lib.hid hm
      have HY0 := Lib.hid y0
      have HMC : Hid (0 < m → m ≤ cS) := Lib.hid (fun h0 => by
        have := hBo.d.own
        rw [hvS] at this
        rcases this.2 with ⟨e, h0'⟩ | ⟨g', c', cur, e, _, _, hc, _⟩
        · omega
        · simp at e; omega)
      clear hg e1 e2 hBo hBw hLr hSL hvS hmap hm y0
      obtain ⟨w5, hw5⟩ : ∃ w5, w5 = wr := ⟨_, rfl⟩
      subst hw5
      go_wp2_with fail
      go_loopw [10] (fun s10 w2 => ∃ z : Int, s10 = .int .i64 z ∧ -1 ≤ z ∧ z ≤ (m : Int) + 1 ∧ Below w5.heap.size w5 w2) (fun s10 _ => ((m : Int) + 1 - intOf s10).toNat)
      case atStart => exact ⟨-1, rfl, by omega, by omega, Below.refl _ _⟩
      case round =>
        obtain ⟨z, rfl, h1, h2, hb⟩ := hrel
        have HBZ := Lib.hid hb
        have y1 := holda hb HY0.out
        have hwz : IntKind.i64.wrap (z + 1) = z + 1 := IntWalk.i64_in _ (by omega)
        by_cases hle : z ≤ (m : Int)
        rotate_left
        · have H64' := H64.out
          by_cases hn0 : 0 ≤ n ∧ n < (m : Int)
          · obtain ⟨k, rfl⟩ : ∃ k : Nat, n = k := ⟨n.toNat, by omega⟩
            obtain ⟨r, hr⟩ := row_at (H := Lr) (i := k) (by have := HM.out; omega)
            have HC := Lib.hid (HIN.out k r wr hb hr)
            have hk0 : 0 ≤ (k : Int) := by omega
            have hkm : (k : Int) < (m : Int) := hn0.2
            clear hb hr hn0 H64'
            go_upto_region 18 with (go_at_call 13; (with_reducible refine HC.out.mono ?_); rintro e w6 ⟨g1, cap, rfl, -, hb6⟩; have HB6 := Lib.hid (below_tail HBZ.out hb6); have y6 := holda hb6 y1; clear hb6 y1)
            have y7 := holda (below_allocs (Below.refl w6.heap.size w6) (.cells #[.slice (some ⟨g1, 0, none⟩) r.cs.length cap, .bool r.cont] 50)) y6
            have HB7 := Lib.hid (below_tail HB6.out (below_allocs (Below.refl w6.heap.size w6) (.cells #[.slice (some ⟨g1, 0, none⟩) r.cs.length cap, .bool r.cont] 50)))
            go_wp2
            go_ret
            exact ⟨by first | rfl | (simp; omega), below_tail HBW.out HB7.out⟩
          · have HC := Lib.hid (HOUT.out n wr hb (by omega) H64')
            by_cases hk0 : 0 ≤ n
            · have hkm : ¬ n < (m : Int) := by omega
              have hkd : decide (n < (m : Int)) = false := decide_eq_false hkm
              clear hb hn0 H64'
              go_upto_region 18 with (go_at_call 13; (with_reducible refine HC.out.mono ?_); rintro e w6 ⟨rfl, hb6⟩; have HB6 := Lib.hid (below_tail HBZ.out hb6); have y6 := holda hb6 y1; clear hb6 y1)
              have y7 := holda (below_allocs (Below.refl w6.heap.size w6) (.cells #[.slice none 0 0, .bool false] 50)) y6
              have HB7 := Lib.hid (below_tail HB6.out (below_allocs (Below.refl w6.heap.size w6) (.cells #[.slice none 0 0, .bool false] 50)))
              go_wp2
              go_ret
              exact ⟨by first | rfl | (simp; omega), below_tail HBW.out HB7.out⟩
            · clear hb hn0 H64'
              go_upto_region 18 with (go_at_call 13; (with_reducible refine HC.out.mono ?_); rintro e w6 ⟨rfl, hb6⟩; have HB6 := Lib.hid (below_tail HBZ.out hb6); have y6 := holda hb6 y1; clear hb6 y1)
              have y7 := holda (below_allocs (Below.refl w6.heap.size w6) (.cells #[.slice none 0 0, .bool false] 50)) y6
              have HB7 := Lib.hid (below_tail HB6.out (below_allocs (Below.refl w6.heap.size w6) (.cells #[.slice none 0 0, .bool false] 50)))
              go_wp2
              go_ret
              exact ⟨by first | rfl | (simp; omega), below_tail HBW.out HB7.out⟩
        · by_cases hz0 : 0 ≤ z ∧ z < (m : Int)
          · obtain ⟨k, rfl⟩ : ∃ k : Nat, z = k := ⟨z.toNat, by omega⟩
            obtain ⟨r, hr⟩ := row_at (H := Lr) (i := k) (by have := HM.out; omega)
            have HC := Lib.hid (HIN.out k r wr hb hr)
            obtain ⟨x, hx, hxr, gs, hAS, hxc, hx0, hx1⟩ := HGR.out k r hr
            subst hAS
            have hk0 : 0 ≤ (k : Int) := by omega
            have hkm : (k : Int) < (m : Int) := hz0.2
            have hkc : k < cS := by have := HMC.out (by omega); omega
            obtain ⟨k1, hk1⟩ : ∃ k1, k1 = k + 1 := ⟨_, rfl⟩
            have hk1I : (k : Int) + 1 = (k1 : Int) := by omega
            rw [hk1I] at hwz
            have hk1c : k1 ≤ cS := by omega
            have hkk1 : k ≤ k1 := by omega
            have HK1 := Lib.hid hk1
            have HXC := Lib.hid (hxc.below hb)
            have HX0' := Lib.hid (holda hb hx0)
            have HX1' := Lib.hid (holda hb hx1)
            have HXR := Lib.hid hxr
            clear hb hr hz0 hk1 hx hxr hxc hx0 hx1
            go_upto_region 15 with (go_at_call 13; (with_reducible refine HC.out.mono ?_); rintro e w6 ⟨g1, cap, rfl, hrc, hb6⟩; have HRC := Lib.hid hrc; have HB6 := Lib.hid hb6; have y6 := holda hb6 y1; have y7 := holda (below_allocs (Below.refl w6.heap.size w6) (.cells #[.slice (some ⟨g1, 0, none⟩) r.cs.length cap, .bool r.cont] 50)) y6; clear hb6 y1 hrc)
            have hk1s : k1 - k = 1 := by have := HK1.out; omega
            obtain ⟨W7, hW7⟩ : ∃ W7, w6.alloc (.cells #[.slice (some ⟨g1, 0, none⟩) r.cs.length cap, .bool r.cont] 50) = W7 := ⟨_, rfl⟩
            have hb7 : Below w6.heap.size w6 W7 := by rw [← hW7]; exact below_allocs (Below.refl _ _) _
            have HN7 := Lib.hid (show W7.heap[w6.heap.size]? = some (.cells #[.slice (some ⟨g1, 0, none⟩) r.cs.length cap, .bool r.cont] 50 (0, 0)) from by rw [← hW7]; exact hp_new rfl)
            have n0 := (at_ HN7.out 0 _ rfl).1
            have n1 := (at_ HN7.out 1 _ rfl).1
            rw [hW7] at y7 ⊢
            have HRC7 := Lib.hid (HRC.out.below hb7)
            have HB7 := Lib.hid (below_tail HB6.out hb7)
            clear hW7 hb7 y6
            refine wp_region_n 16 (fun w2 => Below W7.heap.size W7 w2 ∧ w2.cell? ⟨w6.heap.size, 0, none⟩ = some (.slice (some ⟨g1, 0, none⟩) r.cs.length cap) ∧ w2.cell? ⟨w6.heap.size, 1, none⟩ = some (.bool r.cont) ∧ w2.cell? ⟨qd0.D, 0, none⟩ = some (.slice (some ⟨gs, 0, none⟩) m cS)) (by kernel_rfl) (by kernel_rfl) (fun w1 w2 hS hb => ⟨below_tail hS.1 hb, holda hb hS.2.1, holda hb hS.2.2.1, holda hb hS.2.2.2⟩) ⟨(Below.refl _ _).drew, n0, n1, y7⟩ ?_
            refine AtN.take 0 (o := ⟨_, _, _, _, _, _⟩) (v := ?_) (by kernel_rfl) rfl (by simp) (by kernel_rfl) (by kernel_rfl) ?_ ?_; rotate_left
            · first | exact StabN.skip (by rfl) | (refine StabN.val (by rfl) ?_; intro w' hS; obtain ⟨_, _, _, _⟩ := hS; go_simp; first | done | with_reducible rfl)
            simp only [Act.put, List.setIfInBounds_toArray, List.set_cons_zero, List.set_cons_succ]
            refine AtN.take 1 (o := ⟨_, _, _, _, _, _⟩) (v := ?_) (by kernel_rfl) rfl (by simp) (by kernel_rfl) (by kernel_rfl) ?_ ?_; rotate_left
            · first | exact StabN.skip (by rfl) | (refine StabN.val (by rfl) ?_; intro w' hS; obtain ⟨_, _, _, _⟩ := hS; go_simp; first | done | with_reducible rfl)
            simp only [Act.put, List.setIfInBounds_toArray, List.set_cons_zero, List.set_cons_succ]
            refine AtN.take 2 (o := ⟨_, _, _, _, _, _⟩) (v := ?_) (by kernel_rfl) rfl (by simp) (by kernel_rfl) (by kernel_rfl) ?_ ?_; rotate_left
            · first | exact StabN.skip (by rfl) | (refine StabN.val (by rfl) ?_; intro w' hS; obtain ⟨_, _, _, _⟩ := hS; go_simp; first | done | with_reducible rfl)
            simp only [Act.put, List.setIfInBounds_toArray, List.set_cons_zero, List.set_cons_succ]
            refine AtN.take 3 (o := ⟨_, _, _, _, _, _⟩) (v := ?_) (by kernel_rfl) rfl (by simp) (by kernel_rfl) (by kernel_rfl) ?_ ?_; rotate_left
            · first | exact StabN.skip (by rfl) | (refine StabN.val (by rfl) ?_; intro w' hS; obtain ⟨_, _, _, _⟩ := hS; go_simp; first | done | with_reducible rfl)
            simp only [Act.put, List.setIfInBounds_toArray, List.set_cons_zero, List.set_cons_succ]
            refine AtN.take 4 (o := ⟨_, _, _, _, _, _⟩) (v := ?_) (by kernel_rfl) rfl (by simp) (by kernel_rfl) (by kernel_rfl) ?_ ?_; rotate_left
            · first | exact StabN.skip (by rfl) | (refine StabN.val (by rfl) ?_; intro w' hS; obtain ⟨_, _, _, _⟩ := hS; go_simp; first | done | with_reducible rfl)
            simp only [Act.put, List.setIfInBounds_toArray, List.set_cons_zero, List.set_cons_succ]
            refine AtN.take 5 (o := ⟨_, _, _, _, _, _⟩) (v := ?_) (by kernel_rfl) rfl (by simp) (by kernel_rfl) (by kernel_rfl) ?_ ?_; rotate_left
            · first | exact StabN.skip (by rfl) | (refine StabN.val (by rfl) ?_; intro w' hS; obtain ⟨_, _, _, _⟩ := hS; go_simp; first | done | with_reducible rfl)
            simp only [Act.put, List.setIfInBounds_toArray, List.set_cons_zero, List.set_cons_succ]
            refine AtN.take 6 (o := ⟨_, _, _, _, _, _⟩) (v := ?_) (by kernel_rfl) rfl (by simp) (by kernel_rfl) (by kernel_rfl) ?_ ?_; rotate_left
            · first | exact StabN.skip (by rfl) | (refine StabN.val (by rfl) ?_; intro w' hS; obtain ⟨_, _, _, _⟩ := hS; go_simp; first | done | with_reducible rfl)
            simp only [Act.put, List.setIfInBounds_toArray, List.set_cons_zero, List.set_cons_succ]
            refine AtN.take 8 (o := ⟨_, _, _, _, _, _⟩) (v := ?_) (by kernel_rfl) rfl (by simp) (by kernel_rfl) (by kernel_rfl) ?_ ?_; rotate_left
            · first | exact StabN.skip (by rfl) | (refine StabN.val (by rfl) ?_; intro w' hS; obtain ⟨_, _, _, _⟩ := hS; go_simp; first | done | with_reducible rfl)
            simp only [Act.put, List.setIfInBounds_toArray, List.set_cons_zero, List.set_cons_succ]
            refine AtN.take 9 (o := ⟨_, _, _, _, _, _⟩) (v := ?_) (by kernel_rfl) rfl (by simp) (by kernel_rfl) (by kernel_rfl) ?_ ?_; rotate_left
            · first | exact StabN.skip (by rfl) | (refine StabN.val (by rfl) ?_; intro w' hS; obtain ⟨_, _, _, _⟩ := hS; go_simp; first | done | with_reducible rfl)
            simp only [Act.put, List.setIfInBounds_toArray, List.set_cons_zero, List.set_cons_succ]
            refine AtN.take 10 (o := ⟨_, _, _, _, _, _⟩) (v := ?_) (by kernel_rfl) rfl (by simp) (by kernel_rfl) (by kernel_rfl) ?_ ?_; rotate_left
            · first | exact StabN.skip (by rfl) | (refine StabN.val (by rfl) ?_; intro w' hS; obtain ⟨_, _, _, _⟩ := hS; go_simp; first | done | with_reducible rfl)
            simp only [Act.put, List.setIfInBounds_toArray, List.set_cons_zero, List.set_cons_succ]
            refine AtN.take 11 (o := ⟨_, _, _, _, _, _⟩) (v := ?_) (by kernel_rfl) rfl (by simp) (by kernel_rfl) (by kernel_rfl) ?_ ?_; rotate_left
            · first | exact StabN.skip (by rfl) | (refine StabN.val (by rfl) ?_; intro w' hS; obtain ⟨_, _, _, _⟩ := hS; go_simp; first | done | with_reducible rfl)
            simp only [Act.put, List.setIfInBounds_toArray, List.set_cons_zero, List.set_cons_succ]
            refine AtN.take 12 (o := ⟨_, _, _, _, _, _⟩) (v := ?_) (by kernel_rfl) rfl (by simp) (by kernel_rfl) (by kernel_rfl) ?_ ?_; rotate_left
            · first | exact StabN.skip (by rfl) | (refine StabN.val (by rfl) ?_; intro w' hS; obtain ⟨_, _, _, _⟩ := hS; go_simp; first | done | with_reducible rfl)
            simp only [Act.put, List.setIfInBounds_toArray, List.set_cons_zero, List.set_cons_succ]
            refine AtN.take 13 (o := ⟨_, _, _, _, _, _⟩) (v := ?_) (by kernel_rfl) rfl (by simp) (by kernel_rfl) (by kernel_rfl) ?_ ?_; rotate_left
            · first | exact StabN.skip (by rfl) | (refine StabN.val (by rfl) ?_; intro w' hS; obtain ⟨_, _, _, _⟩ := hS; go_simp; first | done | with_reducible rfl)
            simp only [Act.put, List.setIfInBounds_toArray, List.set_cons_zero, List.set_cons_succ]
            refine AtN.take 14 (o := ⟨_, _, _, _, _, _⟩) (v := ?_) (by kernel_rfl) rfl (by simp) (by kernel_rfl) (by kernel_rfl) ?_ ?_; rotate_left
            · first | exact StabN.skip (by rfl) | (refine StabN.val (by rfl) ?_; intro w' hS; obtain ⟨_, _, _, _⟩ := hS; go_simp; first | done | with_reducible rfl)
            simp only [Act.put, List.setIfInBounds_toArray, List.set_cons_zero, List.set_cons_succ]
            refine AtN.take 15 (o := ⟨_, _, _, _, _, _⟩) (v := ?_) (by kernel_rfl) rfl (by simp) (by kernel_rfl) (by kernel_rfl) ?_ ?_; rotate_left
            · first | exact StabN.skip (by rfl) | (refine StabN.val (by rfl) ?_; intro w' hS; obtain ⟨_, _, _, _⟩ := hS; go_simp; first | done | with_reducible rfl)
            simp only [Act.put, List.setIfInBounds_toArray, List.set_cons_zero, List.set_cons_succ]
            refine AtN.one 7 (o := ⟨_, _, _, _, _, _⟩) (fun v => ∃ kb, v = .slice (some ⟨kb, 0, none⟩) 1 1) (fun v w' => ∃ kb, v = .slice (some ⟨kb, 0, none⟩) 1 1 ∧ w'.heap[kb]? = some (.cells #[.slice (some ⟨g1, 0, none⟩) r.cs.length cap, .bool r.cont] 50 (0, 0))) (by simp) (by kernel_rfl) rfl (fun v w1 w2 ⟨k, hv, hk⟩ hb => ⟨k, hv, (hb.block k (lt_of_heap hk)).trans hk⟩) (StabN.new _ _ (by rfl) (fun w' hS => ?_)) ?_
            · exact ⟨.slice (some ⟨w'.heap.size, 0, none⟩) 1 1, w'.alloc (.cells #[.slice (some ⟨g1, 0, none⟩) r.cs.length cap, .bool r.cont] 50), by go_simp, ⟨_, rfl⟩, ⟨_, rfl, hp_new rfl⟩, below_allocs (Below.refl _ _) _⟩
            rintro v ⟨kb, rfl⟩
            simp only [Act.put, List.setIfInBounds_toArray, List.set_cons_zero, List.set_cons_succ]
            refine AtN.done (by kernel_rfl) (fun w' hS => ?_)
            obtain ⟨⟨hb8, -⟩, kb', hvk, hkb⟩ := hS
            simp only [Value.slice.injEq, Option.some.injEq, Addr.mk.injEq, and_true, true_and] at hvk
            subst hvk
            have hb8w := below_tail HB7.out hb8
            have HSAME := Lib.hid (SameRows_eq (some ⟨kb, 0, none⟩) (some ⟨gs, k * 2, none⟩) [⟨some ⟨g1, 0, none⟩, r.cs, cap, r.cont⟩] [x] 1 (cS - k) w'
              (gr_one (fun j v hv => by rw [Nat.zero_add]; exact (at_ hkb j v (by simpa [encRh] using hv)).1))
              (gr_one (fun j v hv => by
                match j, hv with
                | 0, hv => simp [encRh] at hv; subst hv; exact holda hb8w HX0'.out
                | 1, hv => simp [encRh] at hv; subst hv; exact holda hb8w HX1'.out))
              (fun z hz => by rw [List.mem_singleton.1 hz]; exact HRC7.out.below hb8)
              (fun z hz => by rw [List.mem_singleton.1 hz]; exact HXC.out.below hb8w)
              (by rw [List.map_singleton, List.map_singleton, HXR.out]; rfl) (by simp))
            simp only [List.length_singleton] at HSAME
            have HB8 := Lib.hid (below_tail HBZ.out hb8w)
            clear hb8 hb8w hkb n0 n1 y7
            go_wp2_with (go_at_call 14; (with_reducible refine HSAME.out.mono ?_); rintro e w9 ⟨rfl, hb9⟩; have HB9 := Lib.hid (below_tail HB8.out hb9); clear hb9)
            go_roundw
            case rel => exact ⟨(k1 : Int), rfl, by omega, by omega, HB9.out⟩
            case measure => simp [intOf]; omega
          · have HC := Lib.hid (HOUT.out z wr hb (by omega) (by omega))
            by_cases hk0 : 0 ≤ z
            · have hkm : ¬ z < (m : Int) := by omega
              have hkd : decide (z < (m : Int)) = false := decide_eq_false hkm
              clear hb hz0
              go_upto_region 15 with (go_at_call 13; (with_reducible refine HC.out.mono ?_); rintro e w6 ⟨rfl, hb6⟩; have HB6 := Lib.hid (below_tail HBZ.out hb6); have y6 := holda hb6 y1; have y7 := holda (below_allocs (Below.refl w6.heap.size w6) (.cells #[.slice none 0 0, .bool false] 50)) y6; clear hb6 y1)
              have n0 := (at_ (hp_new (W := w6) (b := w6.heap.size) (o := .cells #[.slice none 0 0, .bool false] 50) rfl) 0 _ rfl).1
              have HB7 := Lib.hid (below_tail HB6.out (below_allocs (Below.refl w6.heap.size w6) (.cells #[.slice none 0 0, .bool false] 50)))
              generalize World.alloc _ _ = W7 at n0 y7 HB7 ⊢
              refine wp_region_n 16 (fun w2 => Below W7.heap.size W7 w2 ∧ w2.cell? ⟨w6.heap.size, 0, none⟩ = some (.slice none 0 0)) (by kernel_rfl) (by kernel_rfl) (fun w1 w2 hS hb => ⟨below_tail hS.1 hb, holda hb hS.2⟩) ⟨(Below.refl _ _).drew, n0⟩ ?_
              refine AtN.take 0 (o := ⟨_, _, _, _, _, _⟩) (v := ?_) (by kernel_rfl) rfl (by simp) (by kernel_rfl) (by kernel_rfl) ?_ ?_; rotate_left
              · first | (refine StabN.skip ?_; rfl) | (refine StabN.val (by rfl) ?_; intro w' hS; obtain ⟨_, _⟩ := hS; go_simp; first | done | with_reducible rfl)
              simp only [Act.put, List.setIfInBounds_toArray, List.set_cons_zero, List.set_cons_succ]
              refine AtN.take 1 (o := ⟨_, _, _, _, _, _⟩) (v := ?_) (by kernel_rfl) rfl (by simp) (by kernel_rfl) (by kernel_rfl) ?_ ?_; rotate_left
              · first | (refine StabN.skip ?_; rfl) | (refine StabN.val (by rfl) ?_; intro w' hS; obtain ⟨_, _⟩ := hS; go_simp; first | done | with_reducible rfl)
              simp only [Act.put, List.setIfInBounds_toArray, List.set_cons_zero, List.set_cons_succ]
              refine AtN.take 2 (o := ⟨_, _, _, _, _, _⟩) (v := ?_) (by kernel_rfl) rfl (by simp) (by kernel_rfl) (by kernel_rfl) ?_ ?_; rotate_left
              · first | (refine StabN.skip ?_; rfl) | (refine StabN.val (by rfl) ?_; intro w' hS; obtain ⟨_, _⟩ := hS; go_simp; first | done | with_reducible rfl)
              simp only [Act.put, List.setIfInBounds_toArray, List.set_cons_zero, List.set_cons_succ]
              refine AtN.take 3 (o := ⟨_, _, _, _, _, _⟩) (v := ?_) (by kernel_rfl) rfl (by simp) (by kernel_rfl) (by kernel_rfl) ?_ ?_; rotate_left
              · first | (refine StabN.skip ?_; rfl) | (refine StabN.val (by rfl) ?_; intro w' hS; obtain ⟨_, _⟩ := hS; go_simp; first | done | with_reducible rfl)
              simp only [Act.put, List.setIfInBounds_toArray, List.set_cons_zero, List.set_cons_succ]
              refine AtN.take 4 (o := ⟨_, _, _, _, _, _⟩) (v := ?_) (by kernel_rfl) rfl (by simp) (by kernel_rfl) (by kernel_rfl) ?_ ?_; rotate_left
              · first | (refine StabN.skip ?_; rfl) | (refine StabN.val (by rfl) ?_; intro w' hS; obtain ⟨_, _⟩ := hS; go_simp; first | done | with_reducible rfl)
              simp only [Act.put, List.setIfInBounds_toArray, List.set_cons_zero, List.set_cons_succ]
              refine AtN.take 5 (o := ⟨_, _, _, _, _, _⟩) (v := ?_) (by kernel_rfl) rfl (by simp) (by kernel_rfl) (by kernel_rfl) ?_ ?_; rotate_left
              · first | (refine StabN.skip ?_; rfl) | (refine StabN.val (by rfl) ?_; intro w' hS; obtain ⟨_, _⟩ := hS; go_simp; first | done | with_reducible rfl)
              simp only [Act.put, List.setIfInBounds_toArray, List.set_cons_zero, List.set_cons_succ]
              refine AtN.take 6 (o := ⟨_, _, _, _, _, _⟩) (v := ?_) (by kernel_rfl) rfl (by simp) (by kernel_rfl) (by kernel_rfl) ?_ ?_; rotate_left
              · first | (refine StabN.skip ?_; rfl) | (refine StabN.val (by rfl) ?_; intro w' hS; obtain ⟨_, _⟩ := hS; go_simp; first | done | with_reducible rfl)
              simp only [Act.put, List.setIfInBounds_toArray, List.set_cons_zero, List.set_cons_succ]
              refine AtN.take 7 (o := ⟨_, _, _, _, _, _⟩) (v := ?_) (by kernel_rfl) rfl (by simp) (by kernel_rfl) (by kernel_rfl) ?_ ?_; rotate_left
              · first | (refine StabN.skip ?_; rfl) | (refine StabN.val (by rfl) ?_; intro w' hS; obtain ⟨_, _⟩ := hS; go_simp; first | done | with_reducible rfl)
              simp only [Act.put, List.setIfInBounds_toArray, List.set_cons_zero, List.set_cons_succ]
              refine AtN.take 8 (o := ⟨_, _, _, _, _, _⟩) (v := ?_) (by kernel_rfl) rfl (by simp) (by kernel_rfl) (by kernel_rfl) ?_ ?_; rotate_left
              · first | (refine StabN.skip ?_; rfl) | (refine StabN.val (by rfl) ?_; intro w' hS; obtain ⟨_, _⟩ := hS; go_simp; first | done | with_reducible rfl)
              simp only [Act.put, List.setIfInBounds_toArray, List.set_cons_zero, List.set_cons_succ]
              refine AtN.take 9 (o := ⟨_, _, _, _, _, _⟩) (v := ?_) (by kernel_rfl) rfl (by simp) (by kernel_rfl) (by kernel_rfl) ?_ ?_; rotate_left
              · first | (refine StabN.skip ?_; rfl) | (refine StabN.val (by rfl) ?_; intro w' hS; obtain ⟨_, _⟩ := hS; go_simp; first | done | with_reducible rfl)
              simp only [Act.put, List.setIfInBounds_toArray, List.set_cons_zero, List.set_cons_succ]
              refine AtN.take 10 (o := ⟨_, _, _, _, _, _⟩) (v := ?_) (by kernel_rfl) rfl (by simp) (by kernel_rfl) (by kernel_rfl) ?_ ?_; rotate_left
              · first | (refine StabN.skip ?_; rfl) | (refine StabN.val (by rfl) ?_; intro w' hS; obtain ⟨_, _⟩ := hS; go_simp; first | done | with_reducible rfl)
              simp only [Act.put, List.setIfInBounds_toArray, List.set_cons_zero, List.set_cons_succ]
              refine AtN.take 11 (o := ⟨_, _, _, _, _, _⟩) (v := ?_) (by kernel_rfl) rfl (by simp) (by kernel_rfl) (by kernel_rfl) ?_ ?_; rotate_left
              · first | (refine StabN.skip ?_; rfl) | (refine StabN.val (by rfl) ?_; intro w' hS; obtain ⟨_, _⟩ := hS; go_simp; first | done | with_reducible rfl)
              simp only [Act.put, List.setIfInBounds_toArray, List.set_cons_zero, List.set_cons_succ]
              refine AtN.take 12 (o := ⟨_, _, _, _, _, _⟩) (v := ?_) (by kernel_rfl) rfl (by simp) (by kernel_rfl) (by kernel_rfl) ?_ ?_; rotate_left
              · first | (refine StabN.skip ?_; rfl) | (refine StabN.val (by rfl) ?_; intro w' hS; obtain ⟨_, _⟩ := hS; go_simp; first | done | with_reducible rfl)
              simp only [Act.put, List.setIfInBounds_toArray, List.set_cons_zero, List.set_cons_succ]
              refine AtN.take 13 (o := ⟨_, _, _, _, _, _⟩) (v := ?_) (by kernel_rfl) rfl (by simp) (by kernel_rfl) (by kernel_rfl) ?_ ?_; rotate_left
              · first | (refine StabN.skip ?_; rfl) | (refine StabN.val (by rfl) ?_; intro w' hS; obtain ⟨_, _⟩ := hS; go_simp; first | done | with_reducible rfl)
              simp only [Act.put, List.setIfInBounds_toArray, List.set_cons_zero, List.set_cons_succ]
              refine AtN.take 14 (o := ⟨_, _, _, _, _, _⟩) (v := ?_) (by kernel_rfl) rfl (by simp) (by kernel_rfl) (by kernel_rfl) ?_ ?_; rotate_left
              · first | (refine StabN.skip ?_; rfl) | (refine StabN.val (by rfl) ?_; intro w' hS; obtain ⟨_, _⟩ := hS; go_simp; first | done | with_reducible rfl)
              simp only [Act.put, List.setIfInBounds_toArray, List.set_cons_zero, List.set_cons_succ]
              refine AtN.take 15 (o := ⟨_, _, _, _, _, _⟩) (v := ?_) (by kernel_rfl) rfl (by simp) (by kernel_rfl) (by kernel_rfl) ?_ ?_; rotate_left
              · first | (refine StabN.skip ?_; rfl) | (refine StabN.val (by rfl) ?_; intro w' hS; obtain ⟨_, _⟩ := hS; go_simp; first | done | with_reducible rfl)
              simp only [Act.put, List.setIfInBounds_toArray, List.set_cons_zero, List.set_cons_succ]
              refine AtN.done (by kernel_rfl) (fun w' hS => ?_)
              have HB8 := Lib.hid (below_tail HB7.out hS.1)
              have n2 := hS.2
              clear hS n0
              go_wp2
              go_roundw
              case rel => exact ⟨z + 1, rfl, by omega, by omega, HB8.out⟩
              case measure => simp [intOf]; omega
            · clear hb hz0
              go_upto_region 15 with (go_at_call 13; (with_reducible refine HC.out.mono ?_); rintro e w6 ⟨rfl, hb6⟩; have HB6 := Lib.hid (below_tail HBZ.out hb6); have y6 := holda hb6 y1; have y7 := holda (below_allocs (Below.refl w6.heap.size w6) (.cells #[.slice none 0 0, .bool false] 50)) y6; clear hb6 y1)
              have n0 := (at_ (hp_new (W := w6) (b := w6.heap.size) (o := .cells #[.slice none 0 0, .bool false] 50) rfl) 0 _ rfl).1
              have HB7 := Lib.hid (below_tail HB6.out (below_allocs (Below.refl w6.heap.size w6) (.cells #[.slice none 0 0, .bool false] 50)))
              generalize World.alloc _ _ = W7 at n0 y7 HB7 ⊢
              refine wp_region_n 16 (fun w2 => Below W7.heap.size W7 w2 ∧ w2.cell? ⟨w6.heap.size, 0, none⟩ = some (.slice none 0 0)) (by kernel_rfl) (by kernel_rfl) (fun w1 w2 hS hb => ⟨below_tail hS.1 hb, holda hb hS.2⟩) ⟨(Below.refl _ _).drew, n0⟩ ?_
              refine AtN.take 0 (o := ⟨_, _, _, _, _, _⟩) (v := ?_) (by kernel_rfl) rfl (by simp) (by kernel_rfl) (by kernel_rfl) ?_ ?_; rotate_left
              · first | (refine StabN.skip ?_; rfl) | (refine StabN.val (by rfl) ?_; intro w' hS; obtain ⟨_, _⟩ := hS; go_simp; first | done | with_reducible rfl)
              simp only [Act.put, List.setIfInBounds_toArray, List.set_cons_zero, List.set_cons_succ]
              refine AtN.take 1 (o := ⟨_, _, _, _, _, _⟩) (v := ?_) (by kernel_rfl) rfl (by simp) (by kernel_rfl) (by kernel_rfl) ?_ ?_; rotate_left
              · first | (refine StabN.skip ?_; rfl) | (refine StabN.val (by rfl) ?_; intro w' hS; obtain ⟨_, _⟩ := hS; go_simp; first | done | with_reducible rfl)
              simp only [Act.put, List.setIfInBounds_toArray, List.set_cons_zero, List.set_cons_succ]
              refine AtN.take 2 (o := ⟨_, _, _, _, _, _⟩) (v := ?_) (by kernel_rfl) rfl (by simp) (by kernel_rfl) (by kernel_rfl) ?_ ?_; rotate_left
              · first | (refine StabN.skip ?_; rfl) | (refine StabN.val (by rfl) ?_; intro w' hS; obtain ⟨_, _⟩ := hS; go_simp; first | done | with_reducible rfl)
              simp only [Act.put, List.setIfInBounds_toArray, List.set_cons_zero, List.set_cons_succ]
              refine AtN.take 3 (o := ⟨_, _, _, _, _, _⟩) (v := ?_) (by kernel_rfl) rfl (by simp) (by kernel_rfl) (by kernel_rfl) ?_ ?_; rotate_left
              · first | (refine StabN.skip ?_; rfl) | (refine StabN.val (by rfl) ?_; intro w' hS; obtain ⟨_, _⟩ := hS; go_simp; first | done | with_reducible rfl)
              simp only [Act.put, List.setIfInBounds_toArray, List.set_cons_zero, List.set_cons_succ]
              refine AtN.take 4 (o := ⟨_, _, _, _, _, _⟩) (v := ?_) (by kernel_rfl) rfl (by simp) (by kernel_rfl) (by kernel_rfl) ?_ ?_; rotate_left
              · first | (refine StabN.skip ?_; rfl) | (refine StabN.val (by rfl) ?_; intro w' hS; obtain ⟨_, _⟩ := hS; go_simp; first | done | with_reducible rfl)
              simp only [Act.put, List.setIfInBounds_toArray, List.set_cons_zero, List.set_cons_succ]
              refine AtN.take 5 (o := ⟨_, _, _, _, _, _⟩) (v := ?_) (by kernel_rfl) rfl (by simp) (by kernel_rfl) (by kernel_rfl) ?_ ?_; rotate_left
              · first | (refine StabN.skip ?_; rfl) | (refine StabN.val (by rfl) ?_; intro w' hS; obtain ⟨_, _⟩ := hS; go_simp; first | done | with_reducible rfl)
              simp only [Act.put, List.setIfInBounds_toArray, List.set_cons_zero, List.set_cons_succ]
              refine AtN.take 6 (o := ⟨_, _, _, _, _, _⟩) (v := ?_) (by kernel_rfl) rfl (by simp) (by kernel_rfl) (by kernel_rfl) ?_ ?_; rotate_left
              · first | (refine StabN.skip ?_; rfl) | (refine StabN.val (by rfl) ?_; intro w' hS; obtain ⟨_, _⟩ := hS; go_simp; first | done | with_reducible rfl)
              simp only [Act.put, List.setIfInBounds_toArray, List.set_cons_zero, List.set_cons_succ]
              refine AtN.take 7 (o := ⟨_, _, _, _, _, _⟩) (v := ?_) (by kernel_rfl) rfl (by simp) (by kernel_rfl) (by kernel_rfl) ?_ ?_; rotate_left
              · first | (refine StabN.skip ?_; rfl) | (refine StabN.val (by rfl) ?_; intro w' hS; obtain ⟨_, _⟩ := hS; go_simp; first | done | with_reducible rfl)
              simp only [Act.put, List.setIfInBounds_toArray, List.set_cons_zero, List.set_cons_succ]
              refine AtN.take 8 (o := ⟨_, _, _, _, _, _⟩) (v := ?_) (by kernel_rfl) rfl (by simp) (by kernel_rfl) (by kernel_rfl) ?_ ?_; rotate_left
              · first | (refine StabN.skip ?_; rfl) | (refine StabN.val (by rfl) ?_; intro w' hS; obtain ⟨_, _⟩ := hS; go_simp; first | done | with_reducible rfl)
              simp only [Act.put, List.setIfInBounds_toArray, List.set_cons_zero, List.set_cons_succ]
              refine AtN.take 9 (o := ⟨_, _, _, _, _, _⟩) (v := ?_) (by kernel_rfl) rfl (by simp) (by kernel_rfl) (by kernel_rfl) ?_ ?_; rotate_left
              · first | (refine StabN.skip ?_; rfl) | (refine StabN.val (by rfl) ?_; intro w' hS; obtain ⟨_, _⟩ := hS; go_simp; first | done | with_reducible rfl)
              simp only [Act.put, List.setIfInBounds_toArray, List.set_cons_zero, List.set_cons_succ]
              refine AtN.take 10 (o := ⟨_, _, _, _, _, _⟩) (v := ?_) (by kernel_rfl) rfl (by simp) (by kernel_rfl) (by kernel_rfl) ?_ ?_; rotate_left
              · first | (refine StabN.skip ?_; rfl) | (refine StabN.val (by rfl) ?_; intro w' hS; obtain ⟨_, _⟩ := hS; go_simp; first | done | with_reducible rfl)
              simp only [Act.put, List.setIfInBounds_toArray, List.set_cons_zero, List.set_cons_succ]
              refine AtN.take 11 (o := ⟨_, _, _, _, _, _⟩) (v := ?_) (by kernel_rfl) rfl (by simp) (by kernel_rfl) (by kernel_rfl) ?_ ?_; rotate_left
              · first | (refine StabN.skip ?_; rfl) | (refine StabN.val (by rfl) ?_; intro w' hS; obtain ⟨_, _⟩ := hS; go_simp; first | done | with_reducible rfl)
              simp only [Act.put, List.setIfInBounds_toArray, List.set_cons_zero, List.set_cons_succ]
              refine AtN.take 12 (o := ⟨_, _, _, _, _, _⟩) (v := ?_) (by kernel_rfl) rfl (by simp) (by kernel_rfl) (by kernel_rfl) ?_ ?_; rotate_left
              · first | (refine StabN.skip ?_; rfl) | (refine StabN.val (by rfl) ?_; intro w' hS; obtain ⟨_, _⟩ := hS; go_simp; first | done | with_reducible rfl)
              simp only [Act.put, List.setIfInBounds_toArray, List.set_cons_zero, List.set_cons_succ]
              refine AtN.take 13 (o := ⟨_, _, _, _, _, _⟩) (v := ?_) (by kernel_rfl) rfl (by simp) (by kernel_rfl) (by kernel_rfl) ?_ ?_; rotate_left
              · first | (refine StabN.skip ?_; rfl) | (refine StabN.val (by rfl) ?_; intro w' hS; obtain ⟨_, _⟩ := hS; go_simp; first | done | with_reducible rfl)
              simp only [Act.put, List.setIfInBounds_toArray, List.set_cons_zero, List.set_cons_succ]
              refine AtN.take 14 (o := ⟨_, _, _, _, _, _⟩) (v := ?_) (by kernel_rfl) rfl (by simp) (by kernel_rfl) (by kernel_rfl) ?_ ?_; rotate_left
              · first | (refine StabN.skip ?_; rfl) | (refine StabN.val (by rfl) ?_; intro w' hS; obtain ⟨_, _⟩ := hS; go_simp; first | done | with_reducible rfl)
              simp only [Act.put, List.setIfInBounds_toArray, List.set_cons_zero, List.set_cons_succ]
              refine AtN.take 15 (o := ⟨_, _, _, _, _, _⟩) (v := ?_) (by kernel_rfl) rfl (by simp) (by kernel_rfl) (by kernel_rfl) ?_ ?_; rotate_left
              · first | (refine StabN.skip ?_; rfl) | (refine StabN.val (by rfl) ?_; intro w' hS; obtain ⟨_, _⟩ := hS; go_simp; first | done | with_reducible rfl)
              simp only [Act.put, List.setIfInBounds_toArray, List.set_cons_zero, List.set_cons_succ]
              refine AtN.done (by kernel_rfl) (fun w' hS => ?_)
              have HB8 := Lib.hid (below_tail HB7.out hS.1)
              have n2 := hS.2
              clear hS n0
              go_wp2
              go_roundw
              case rel => exact ⟨z + 1, rfl, by omega, by omega, HB8.out⟩
              case measure => simp [intOf]; omega
    · have hltI : (i : Int) < (l.length : Int) := by omega
      obtain ⟨bb, off, o, rfl, ho, hcell⟩ := (HL.out.below (by obtain ⟨_, _, _, _, _, _, _, _, h, _⟩ := hP; exact h)).at_ hlt
      have HDO := Lib.hid (hP.does HRW.out.1 HRW.out.2.1 HRW.out.2.2 (by omega) o (HOK.out o (List.mem_of_getElem? ho)))
      have c0 := hcell 0 _ rfl
      have c1 := hcell 1 _ rfl
      have c2 := hcell 2 _ rfl
      have c3 := hcell 3 _ rfl
      have c4 := hcell 4 _ rfl
      have c5 := hcell 5 _ rfl
      have c6 := hcell 6 _ rfl
      have c7 := hcell 7 _ rfl
      have c8 := hcell 8 _ rfl
      have c9 := hcell 9 _ rfl
      have c10 := hcell 10 _ rfl
      have c11 := hcell 11 _ rfl
      simp only [Nat.add_zero] at c0
      clear hP hcell ho
      go_wp2_with (go_at_call 9; (with_reducible refine HDO.out.mono ?_); rintro e w3 ⟨rfl, hs⟩; have HS3 := Lib.hid hs; clear hs c0 c1 c2 c3 c4 c5 c6 c7 c8 c9 c10 c11)
      go_roundw
      case rel => exact ⟨i + 1, by go_num, by omega, by rw [show 25 * (i + 1) = 25 * i + 25 by omega]; exact HS3.out⟩
      case measure => simp [intOf]; omega
theorem PageRows_in (a b c : Int) (A : Option Addr) (l : List Oq) (ca : Nat) (n : Int) (w : World) (ha : (Lit.int .u8 a).wf = true) (hb : (Lit.int .u8 b).wf = true) (hc : (Lit.int .u8 c).wf = true) (hn : (Lit.int .i64 n).wf = true) (hz : l.length ≤ 9223372036854775807) (hl : GrAt encOq 12 w A l) (hok : ∀ c ∈ l, okOq c) :
    Calls Tryz.prog 4 #[.agg #[.int .u8 a, .int .u8 b, .int .u8 c], .slice A l.length ca, .int .i64 n] w (TruePost w) := by
  have := PageRows_walk a b c (u8_of_wf ha).1 (u8_of_wf hb).1 (u8_of_wf hc).1 A (l.map toPop) ca n w (by simpa using hz) (gr_pop hl) (pops_ok hok) (by have := okI_of_wf hn; unfold okI at this; exact this)
  simpa using this
end Go.Proofs.YtffdblmdelgkaaaGreat
