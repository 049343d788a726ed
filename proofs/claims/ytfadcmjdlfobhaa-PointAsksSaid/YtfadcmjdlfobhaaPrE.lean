/- The document's store of points: Add. Conditions: as stated. -/
import Derived.Test.YtfadcmjdlfobhaaPrB
namespace Go.Proofs.Ytfadcmjdlfobhaa
open Go.RowKit Go.Sort

theorem erase_take {l : List PA} {i e : Nat} {x : PA} (hx : l[i]? = some x) : (l.take (i + 1)).eraseIdx e = if i = e then (l.take i).eraseIdx e else (l.take i).eraseIdx e ++ [x] := by
  have hi := (List.getElem?_eq_some_iff.1 hx).1
  have hlen : (l.take i).length = i := by rw [List.length_take]; omega
  rw [takeA_snoc hx]
  by_cases h : i = e
  · subst h
    rw [if_pos rfl, List.eraseIdx_append_of_length_le (by omega), hlen, Nat.sub_self, List.eraseIdx_of_length_le (l := l.take i) (by omega)]
    simp
  · rw [if_neg h]
    by_cases h2 : e < i
    · rw [List.eraseIdx_append_of_lt_length (by omega)]
    · rw [List.eraseIdx_append_of_length_le (by omega), hlen, List.eraseIdx_of_length_le (l := l.take i) (by omega), List.eraseIdx_of_length_le (by simp; omega)]
def addA (most next : Int) (M : List PA) (p : P2) : List PA := if rightP p then (if ((insP (p, next + 1) M).length : Int) ≤ most then insP (p, next + 1) M else dropMin (insP (p, next + 1) M)) else M
def addN (next : Int) (p : P2) : Int := if rightP p then next + 1 else next
theorem minIx_succ {l : List PA} {i : Nat} {x y : PA} (hx : l[i]? = some x) (hy : l[minIx l i]? = some y) : minIx l (i + 1) = if x.2 < y.2 then i else minIx l i := by
  rw [minIx, hx, hy]
/-- The rows but the eldest, so far. -/
def DrSt (W0 : World) (l : List PA) (v : Value) (wr : World) : Prop := wr.ownsRow W0.heap.size 82 3 v l.length (flat encA l) ∧ Below W0.heap.size W0 wr
theorem DrSt.add {W0 wr w1 : World} {l : List PA} {v v1 : Value} {y : PA} {o : Obj} (h : DrSt W0 l v wr) (hown : w1.ownsRow W0.heap.size 82 3 v1 (l.length + 1) (flat encA l ++ encA y)) (hg : (wr.alloc o).grownBy w1 v.ownBlock) : DrSt W0 (l ++ [y]) v1 w1 := by
  refine ⟨?_, ?_⟩
  · rw [← flat_snoc, List.length_append]; exact hown
  · have hB1 := below_allocs h.2 o
    exact hB1.grown hg hB1.size (fun k hk => (h.1.lt k hk).1)
theorem prPost_trans {w w1 w2 : World} {q : Nat} {G : List Nat} {most next next' : Int} {M M' : List PA} {e : Ending} {G1 : List Nat} (h1 : Mod G w w1) (hG1 : ∀ g ∈ G1, g ∈ G ∨ w.heap.size ≤ g) (_ : PrSt w1 q G1 most next M) (h2 : PrPost w1 q G1 most next' M' e w2) : PrPost w q G most next' M' e w2 := by
  obtain ⟨he, G2, k1, k2, k3⟩ := h2
  refine ⟨he, G2, k1, h1.trans k2 hG1, fun g hg => ?_⟩
  rcases k3 g hg with h | h
  · exact hG1 g h
  · exact .inr (Nat.le_trans h1.size h)
set_option maxRecDepth 100000 in
set_option maxHeartbeats 3200000 in
theorem PrAdd_any (q : Nat) (G : List Nat) (most next : Int) (M : List PA) (r c : Int) (w : World) (h : PrSt w q G most next M) (hz : M.length ≤ 10000) (hn0 : 0 ≤ next) (hn : next ≤ 1000000) (hmo : 1 ≤ most) :
    Calls Try.prog 46 #[.pointer (some ⟨q, 0, none⟩), .agg #[.int .i64 r, .int .i64 c]] w (PrPost w q G most (addN next (r, c)) (addA most next M (r, c))) := by
  have HR := Lib.hid (fun (n : Int) (w : World) => Right10_any n w)
  by_cases hr : (inB r && inB c) = true
  rotate_left
  · have e1 : addA most next M (r, c) = M := by unfold addA rightP; rw [if_neg hr]
    have e2 : addN next (r, c) = next := by unfold addN rightP; rw [if_neg hr]
    rw [e1, e2]
    have HH := Lib.hid h
    have HF : Hid (PrPost w q G most next M (.returned (.tuple #[])) (w.alloc (Obj.cells #[.int .i64 r, .int .i64 c] 30))) := Lib.hid ⟨rfl, G, h.below (below_allocs (Below.refl _ _) _), Mod.of_below (below_allocs (Below.refl _ _) _), fun _ hg => .inl hg⟩
    clear h e1 e2
    cases h1 : inB r with
    | false =>
      rw [h1] at hr
      clear hr
      have HR1 := Lib.hid (HR.out r)
      rw [h1] at HR1
      clear HR h1
      go_enter Try.func46, Try.ntmps46
      go_wp2_with (go_at_call 24; refine (HR1.out _).mono ?_; rintro e w1 ⟨rfl, rfl⟩)
      go_end0
      exact HF.out
    | true =>
      have h2 : inB c = false := by simpa [h1] using hr
      have HR1 := Lib.hid (HR.out r)
      have HR2 := Lib.hid (HR.out c)
      rw [h1] at HR1
      rw [h2] at HR2
      clear HR h1 h2 hr
      go_enter Try.func46, Try.ntmps46
      go_wp2_with (first | (go_at_call 24; refine (HR1.out _).mono ?_; rintro e w1 ⟨rfl, rfl⟩) | (go_at_call 24; refine (HR2.out _).mono ?_; rintro e w1 ⟨rfl, rfl⟩))
      go_end0
      exact HF.out
  have e1 : addA most next M (r, c) = if ((insP ((r, c), next + 1) M).length : Int) ≤ most then insP ((r, c), next + 1) M else dropMin (insP ((r, c), next + 1) M) := by unfold addA rightP; rw [if_pos hr]
  have e2 : addN next (r, c) = next + 1 := by unfold addN rightP; rw [if_pos hr]
  rw [e2]
  generalize hR : addA most next M (r, c) = R at e1 ⊢
  have HRES := Lib.hid e1
  clear e1 e2 hR
  obtain ⟨ha, hb⟩ : inB r = true ∧ inB c = true := by simpa using hr
  have HR1 := Lib.hid (HR.out r)
  have HR2 := Lib.hid (HR.out c)
  rw [ha] at HR1
  rw [hb] at HR2
  clear HR ha hb hr
  have HH := Lib.hid h
  obtain ⟨j0, hj, gz0, gz1, gz2⟩ := info_parts info_pt
  obtain ⟨v, hG, h0, h1, h2, ho⟩ := h
  have hq := lt_of_cell h0
  have hlen := insP_len ((r, c), next + 1) M
  have HW1 : Hid (∀ W1 : World, W1 = (w.setCell ⟨q, 1, none⟩ (.int .i64 (next + 1))).alloc (Obj.cells #[.int .i64 r, .int .i64 c] 30) → PrSt W1 q G most (next + 1) M ∧ Mod G w W1) := Lib.hid (by
    rintro W1 rfl
    have hm : Mod [q] w (w.setCell ⟨q, 1, none⟩ (.int .i64 (next + 1))) := (Mod.refl _ _).setCell (.inl (by simp)) _
    have hb2 : Below (w.setCell ⟨q, 1, none⟩ (.int .i64 (next + 1))).heap.size (w.setCell ⟨q, 1, none⟩ (.int .i64 (next + 1))) ((w.setCell ⟨q, 1, none⟩ (.int .i64 (next + 1))).alloc (Obj.cells #[.int .i64 r, .int .i64 c] 30)) := below_allocs (Below.refl _ _) _
    refine ⟨?_, (hm.then_below hb2).mono (fun g hg => by rw [List.mem_singleton.1 hg, hG]; simp)⟩
    refine PrSt.below ⟨v, hG, (World.cell?_setCell_other _ _ _ _ (fun e => by injection e with e1 e2; omega)).trans h0, set_self h1, ⟨(World.cell?_setCell_other _ _ _ _ (fun e => by injection e with e1 e2; omega)).trans h2.1, by rw [World.frozen?_setCell]; exact h2.2⟩, ownsRow_setCell_below ho (Nat.lt_succ_self q) _⟩ hb2)
  have HNX : Hid (IntKind.i64.wrap (next + 1) = next + 1) := Lib.hid (by simp [IntKind.wrap, IntKind.bits, IntKind.signed]; omega)
  clear hG ho
  go_enter Try.func46, Try.ntmps46
  go_upto_region 3 with (first | (go_at_call 24; refine (HR1.out _).mono ?_; rintro e w1 ⟨rfl, rfl⟩) | (go_at_call 24; refine (HR2.out _).mono ?_; rintro e w1 ⟨rfl, rfl⟩))
  generalize hW : World.alloc _ _ = W1
  obtain ⟨hp1, hm1⟩ := HW1.out W1 hW.symm
  have m0 : W1.cell? ⟨w.heap.size, 0, none⟩ = some (.int .i64 r) := by rw [← hW]; simp [go_sem]
  have m1 : W1.cell? ⟨w.heap.size, 1, none⟩ = some (.int .i64 c) := by rw [← hW]; simp [go_sem]
  have HP1 := Lib.hid hp1
  have HM1 := Lib.hid hm1
  have k1 : W1.cell? ⟨q, 1, none⟩ = some (.int .i64 (next + 1)) := by
    obtain ⟨_, -, -, k1, -⟩ := hp1
    exact k1.1
  have HPut : Hid (∀ w', Below W1.heap.size W1 w' → Calls Try.prog 49 #[.pointer (some ⟨q, 0, none⟩), .agg #[.int .i64 r, .int .i64 c, .int .i64 (next + 1)]] w' (PrPost w' q G most (next + 1) (insP ((r, c), next + 1) M))) := Lib.hid fun w' hb => Prput_any q G most (next + 1) M r c (next + 1) w' (hp1.below hb) (by omega)
  clear hW HW1 hp1 hm1 h0 h1 h2
  generalize insP ((r, c), next + 1) M = M1 at HPut hlen HRES
  refine wp_region_u 7 (fun w' => Below W1.heap.size W1 w' ∧ w'.cell? ⟨w.heap.size, 0, none⟩ = some (.int .i64 r) ∧ w'.cell? ⟨w.heap.size, 1, none⟩ = some (.int .i64 c) ∧ w'.cell? ⟨q, 1, none⟩ = some (.int .i64 (next + 1))) (by kernel_rfl) (by kernel_rfl) ?_ ?_
  · exact ⟨(Below.refl _ _).drew, m0, m1, k1⟩
  simp only [List.take_succ_cons, List.take_zero, List.drop_succ_cons, List.drop_zero]
  repeat (refine seqU_val ?_ (by rfl) ?_ ?_; rotate_left; · (intro w' hS; obtain ⟨_, _⟩ := hS; go_simp; first | done | with_reducible rfl)
          simp only [Act.put, List.setIfInBounds_toArray, List.set_cons_zero, List.set_cons_succ])
  refine seqU_nil (fun w' hS => ?_)
  have hB1 := hS.1
  clear hS m0 m1 k1
  go_wp2_with (go_at_call 49; refine (HPut.out _ hB1).mono ?_; rintro e w2 ⟨rfl, G2, hp2, hm2, hG2⟩; have HP2 := Lib.hid hp2; have HMT : Hid (Mod G w w2) := Lib.hid ((HM1.out.then_below hB1).trans hm2 (fun g hg => .inl hg)); have HGT : Hid (∀ g ∈ G2, g ∈ G ∨ w.heap.size ≤ g) := Lib.hid (fun g hg => by
    rcases hG2 g hg with h | h
    · exact .inl h
    · exact .inr (Nat.le_trans (HM1.out.then_below hB1).size h)); obtain ⟨v2, hG2', l0, l1, l2, ho2⟩ := hp2; obtain ⟨A2, n2, rfl, -, -, -, hgr2⟩ := gr_of_owns encA_len ho2 rfl; have HGR := Lib.hid hgr2; have HO2 := Lib.hid ho2; clear hm2 hG2 hG2' hgr2 ho2 l1)
  by_cases hmost : (M1.length : Int) ≤ most
  · have HRE := Lib.hid (HRES.out.trans (if_pos hmost))
    go_quiet (fail)
    go_wp2
    go_end0
    have hb : Below w2.heap.size w2 _ := below_drewNs (Below.refl w2.heap.size w2) nq
    rw [HRE.out]
    exact ⟨rfl, G2, HP2.out.below hb, HMT.out.then_below hb, HGT.out⟩
  · have HRE := Lib.hid (HRES.out.trans (if_neg hmost))
    have hgt : 2 ≤ M1.length := by omega
    have hL := Lib.hid (show M1.length ≤ 10001 by omega)
    go_quiet (fail)
    go_wp2_with fail
    generalize hW3 : World.drewN _ _ = W3
    have hb3 : Below w2.heap.size w2 W3 := by rw [← hW3]; exact below_drewNs (Below.refl _ _) nq
    have HB3 := Lib.hid hb3
    replace l2 := hold hb3 l2
    have HGR3 := Lib.hid (HGR.out.below hb3)
    clear hW3 hb3 HGR l0
    go_loopw [4, 5] (fun s4 s5 wr => ∃ i : Nat, i ≤ M1.length ∧ s5 = .int .i64 i ∧ s4 = .int .i64 (minIx M1 i : Nat) ∧ Below W3.heap.size W3 wr) (fun _ s5 _ => M1.length - (intOf s5).toNat)
    case atStart => exact ⟨0, Nat.zero_le _, rfl, rfl, Below.refl _ _⟩
    case round =>
      obtain ⟨i, hi, rfl, rfl, hB⟩ := hrel
      have h2' := hold hB l2
      by_cases hlt : i < M1.length
      rotate_left
      · obtain rfl : i = M1.length := by omega
        have hel : Hid (minIx M1 M1.length < M1.length) := Lib.hid (minIx_lt M1 _ (by omega))
        have HDM := Lib.hid (show dropMin M1 = M1.eraseIdx (minIx M1 M1.length) from rfl)
        generalize minIx M1 M1.length = el at hel HDM ⊢
        have HBX := Lib.hid hB
        go_wp2_with fail
        go_loopw [6, 7] (fun s6 s7 wr => ∃ i : Nat, i ≤ M1.length ∧ s7 = .int .i64 i ∧ DrSt W3 ((M1.take i).eraseIdx el) s6 wr) (fun _ s7 _ => M1.length - (intOf s7).toNat)
        case atStart => exact ⟨0, Nat.zero_le _, rfl, by simp; exact World.ownsRow_nil _ _ _ _, HBX.out⟩
        case round =>
          obtain ⟨i, hi, rfl, hst⟩ := hrel
          have hB := hst.2
          have h2' := hold hB l2
          by_cases hlt : i < M1.length
          rotate_left
          · obtain rfl : i = M1.length := by omega
            rw [List.take_length] at hst
            have hl3 : (M1.eraseIdx el).length = M1.length - 1 := List.length_eraseIdx_of_lt hel.out
            obtain ⟨g0, n0, rfl⟩ := Go.Joins.ownsRow_form hst.1 (by omega)
            have HST := Lib.hid hst
            clear hst hl3 hB
            go_wp2
            go_end0
            refine prPost_trans HMT.out HGT.out HP2.out ?_
            rw [HRE.out, HDM.out]
            exact put_end HP2.out HB3.out HST.out.2 HST.out.1 rfl
          · obtain ⟨b, off, y, hA, hy, cy⟩ := (HGR3.out.below hB).at_ hlt
            have HTK := Lib.hid (erase_take (e := el) hy)
            obtain ⟨⟨y1, y2⟩, y3⟩ := y
            subst hA
            have c0 : wr.cell? ⟨b, off + i * 3, none⟩ = some (.int .i64 y1) := cy 0 _ rfl
            have c1 := cy 1 _ rfl
            have c2 := cy 2 _ rfl
            have hll : ((M1.take i).eraseIdx el).length ≤ M1.length := Nat.le_trans (List.length_eraseIdx_le _ _) (by simp; omega)
            generalize (M1.take i).eraseIdx el = l at hst HTK hll
            obtain ⟨A3, c3, hs6⟩ := row_form hst.1
            subst hs6
            have HST := Lib.hid hst
            have hlz := hL.out
            clear cy hy hst
            by_cases hie : i = el
            · have HT2 := Lib.hid (HTK.out.trans (if_pos hie))
              subst hie
              clear HTK
              go_wp2
              go_roundw
              case rel => exact ⟨i + 1, by omega, by go_num, by rw [HT2.out]; exact HST.out⟩
              case measure => simp [intOf]; omega
            · have HT2 := Lib.hid (HTK.out.trans (if_neg hie))
              have hne1 : ((i : Int) != (el : Int)) = true := by simp; omega
              have hne2 : ((i : Int) == (el : Int)) = false := by simp; omega
              clear HTK hie
              go_wp2_with (at_builtin; refine wpList_append_own _ rfl (.tmp 82) (.tmp 90) _ rfl W3.heap.size 82 j0 (.agg #[.int .i64 0, .int .i64 0, .int .i64 0]) 3 24 Try.underlying36 hj gz0 gz1 gz2 rfl (by decide) _ _ _ rfl (HST.out.1.alloc _) ⟨wr.heap.size, 0, none⟩ 1 1 [.int .i64 y1, .int .i64 y2, .int .i64 y3] rfl rfl (cell_three_new _ _ _ _ _) (by simp [Value.oneCell']) (by simp only [maxLen]; omega) (by omega) (by have := hB.size; simp; omega) ?_; intro v1 w1' hown1 hg1 _; have HO1 := Lib.hid hown1; have HG1 := Lib.hid hg1; clear hown1 hg1)
              go_roundw
              case rel => exact ⟨i + 1, by omega, by go_num, by rw [HT2.out]; exact HST.out.add HO1.out HG1.out⟩
              case measure => simp [intOf]; omega
      · obtain ⟨b, off, y, hA, hy, cy⟩ := (HGR3.out.below hB).at_ hlt
        obtain ⟨b', off', z, hA', hz', cz⟩ := (HGR3.out.below hB).at_ (minIx_lt M1 i (by omega))
        have hmi := minIx_lt M1 i (by omega)
        have HMS := Lib.hid (minIx_succ hy hz')
        subst hA
        simp only [Option.some.injEq, Addr.mk.injEq, and_true] at hA'
        obtain ⟨rfl, rfl⟩ := hA'
        have c2 : wr.cell? ⟨b, off + i * 3 + 2, none⟩ = some (.int .i64 y.2) := cy 2 _ rfl
        have d2 : wr.cell? ⟨b, off + minIx M1 i * 3 + 2, none⟩ = some (.int .i64 z.2) := cz 2 _ rfl
        have HB := Lib.hid hB
        clear cy cz hy hz' hB
        generalize minIx M1 i = el at d2 HMS hmi ⊢
        by_cases hc : y.2 < z.2
        · have HM2 := Lib.hid (HMS.out.trans (if_pos hc))
          clear HMS
          go_wp2_with fail
          go_quiet (fail)
          go_wp2
          go_roundw
          case rel => exact ⟨i + 1, by omega, by go_num, by rw [HM2.out], below_drewNs HB.out nq⟩
          case measure => simp [intOf]; omega
        · have HM2 := Lib.hid (HMS.out.trans (if_neg hc))
          clear HMS
          go_wp2_with fail
          go_quiet (fail)
          go_wp2
          go_roundw
          case rel => exact ⟨i + 1, by omega, by go_num, by rw [HM2.out], below_drewNs HB.out nq⟩
          case measure => simp [intOf]; omega
end Go.Proofs.Ytfadcmjdlfobhaa
