/- The document's store of points: put's walk. Conditions: as stated. -/
import Derived.Test.YtfadcmjdlfobhaaPrA
namespace Go.Proofs.Ytfadcmjdlfobhaa
open Go.RowKit Go.Sort

set_option maxRecDepth 100000 in
set_option maxHeartbeats 3200000 in
theorem Prput_any (q : Nat) (G : List Nat) (most next : Int) (M : List PA) (r c a : Int) (w : World) (h : PrSt w q G most next M) (hz : M.length ≤ 100000) :
    Calls Try.prog 49 #[.pointer (some ⟨q, 0, none⟩), .agg #[.int .i64 r, .int .i64 c, .int .i64 a]] w (PrPost w q G most next (insP ((r, c), a) M)) := by
  obtain ⟨j0, hj, gz0, gz1, gz2⟩ := info_parts info_pt
  have HH := Lib.hid h
  obtain ⟨v, hG, h0, h1, h2, ho⟩ := h
  obtain ⟨A, n, rfl, hMn, hAn, -, hgr⟩ := gr_of_owns encA_len ho rfl
  have HGG := Lib.hid hG
  have HO := Lib.hid ho
  clear hG ho h0 h1
  obtain ⟨W0, hW0⟩ : ∃ W0, W0 = w.alloc (Obj.cells #[.int .i64 r, .int .i64 c, .int .i64 a] 82) := ⟨_, rfl⟩
  have HW0 := Lib.hid hW0
  have b0 : W0.cell? ⟨w.heap.size, 0, none⟩ = some (.int .i64 r) := by rw [hW0]; exact (at_ (hp_new rfl) 0 _ rfl).1
  have b1 : W0.cell? ⟨w.heap.size, 1, none⟩ = some (.int .i64 c) := by rw [hW0]; exact (at_ (hp_new rfl) 1 _ rfl).1
  have b2 : W0.cell? ⟨w.heap.size, 2, none⟩ = some (.int .i64 a) := by rw [hW0]; exact (at_ (hp_new rfl) 2 _ rfl).1
  have hbw : Below w.heap.size w W0 := by rw [hW0]; exact below_allocs (Below.refl _ _) _
  have HBW := Lib.hid hbw
  have hw0s : W0.heap.size = w.heap.size + 1 := by rw [hW0]; simp
  replace h2 := hold hbw h2
  have HGR := Lib.hid (hgr.below hbw)
  have hqw := lt_of_cell b0
  clear hgr hbw
  go_enter Try.func49, Try.ntmps49
  go_upto_block 0 with fail
  rw [← HW0.out]
  clear hW0
  go_cut [4, 5] (fun s4 s5 w' => ∃ k : Nat, k ≤ M.length ∧ s5 = .int .i64 k ∧ PutSt W0 M k s4 w' ∧ insP ((r, c), a) M = M.take k ++ ((r, c), a) :: M.drop k)
  case first =>
    go_wp2_with fail
    go_loopw [4, 5] (fun s4 s5 wr => ∃ k : Nat, k ≤ M.length ∧ s5 = .int .i64 k ∧ PutSt W0 M k s4 wr ∧ ∀ i y, i < k → M[i]? = some y → ltP (r, c) y.1 = false) (fun _ i _ => M.length - (intOf i).toNat)
    case atStart => exact ⟨0, Nat.zero_le _, rfl, ⟨World.ownsRow_nil _ _ _ _, Below.refl _ _⟩, fun i y hi => by omega⟩
    case round =>
      obtain ⟨k, hk, rfl, hst, hall⟩ := hrel
      have hB := hst.2
      have HST := Lib.hid hst
      have HALL := Lib.hid hall
      obtain ⟨A3, c3, hs4⟩ := row_form hst.1
      subst hs4
      replace h2 := hold hB h2
      replace b0 := holda hB b0
      replace b1 := holda hB b1
      replace b2 := holda hB b2
      have h2c := h2.1
      clear hst hall
      by_cases hlt : k < M.length
      rotate_left
      · obtain rfl : k = M.length := by omega
        have HBB := Lib.hid hB
        clear hB
        go_wp2_with fail
        go_quiet (fail)
        go_wp2
        go_meet
        refine ⟨M.length, Nat.le_refl _, rfl, HST.out.below (by repeat (first | exact Below.refl _ _ | refine below_drewNs ?_ _ | refine Below.drew ?_)), ?_⟩
        exact insP_at _ M M.length (Nat.le_refl _) (fun i y hi hy => HALL.out i y hi hy) (fun y hy => by simp at hy)
      · obtain ⟨b, off, y, hA, hy, cy⟩ := (HGR.out.below hB).at_ hlt
        have HY := Lib.hid hy
        obtain ⟨⟨y1, y2⟩, y3⟩ := y
        subst hA
        have c0 : wr.cell? ⟨b, off + k * 3, none⟩ = some (.int .i64 y1) := cy 0 _ rfl
        have c1 := cy 1 _ rfl
        have c2 := cy 2 _ rfl
        have HL : Hid (∀ w' : World, Calls Try.prog 27 #[.agg #[.int .i64 r, .int .i64 c], .agg #[.int .i64 y1, .int .i64 y2]] w' fun e w'' => e = .returned (.bool (ltP (r, c) (y1, y2))) ∧ Below w'.heap.size w' w'') := Lib.hid fun w' => RLess_any r c y1 y2 w'
        generalize hlb : ltP (r, c) (y1, y2) = lb at HL
        have HLB := Lib.hid hlb
        clear cy hy hlb
        go_wp2_with fail
        refine wp_region_u 18 (fun w' => Below wr.heap.size wr w' ∧ w'.cell? ⟨q, 2, none⟩ = some (.slice (some ⟨b, off, none⟩) M.length n) ∧ w'.cell? ⟨w.heap.size, 0, none⟩ = some (.int .i64 r) ∧ w'.cell? ⟨w.heap.size, 1, none⟩ = some (.int .i64 c) ∧ w'.cell? ⟨b, off + k * 3, none⟩ = some (.int .i64 y1) ∧ w'.cell? ⟨b, off + k * 3 + 1, none⟩ = some (.int .i64 y2)) (by kernel_rfl) (by kernel_rfl) ?_ ?_
        · exact ⟨(Below.refl _ _).drew, h2c, b0, b1, c0, c1⟩
        simp only [List.take_succ_cons, List.take_zero, List.drop_succ_cons, List.drop_zero]
        repeat (first
          | (refine seqU_skip (by rfl) ?_; simp only [Act.put, List.setIfInBounds_toArray, List.set_cons_zero, List.set_cons_succ])
          | (refine seqU_val ?_ (by rfl) ?_ ?_; rotate_left; · (intro w' hS; obtain ⟨_, _⟩ := hS; go_simp; first | done | with_reducible rfl)
             simp only [Act.put, List.setIfInBounds_toArray, List.set_cons_zero, List.set_cons_succ]))
        refine seqU_nil (fun w' hS => ?_)
        obtain ⟨hB2, h2c', d0, d1, e0, e1⟩ := hS
        replace c2 := holda hB2 c2
        clear c0 c1 b0 b1
        cases lb with
        | true =>
          go_wp2_with (go_at_call 27; refine (HL.out _).mono ?_; rintro e w3 ⟨rfl, hb3⟩)
          go_meet
          refine ⟨k, hk, rfl, HST.out.below (below_tail hB2 hb3), insP_at _ M k hk (fun i y hi hy => HALL.out i y hi hy) (fun z hz => ?_)⟩
          rw [HY.out] at hz
          obtain rfl := Option.some.inj hz
          exact HLB.out
        | false =>
          go_wp2_with (first
            | (go_at_call 27; refine (HL.out _).mono ?_; rintro e w3 ⟨rfl, hb3⟩; replace h2c' := holda hb3 h2c'; replace e0 := holda hb3 e0; replace e1 := holda hb3 e1; replace c2 := holda hb3 c2; have hb4 := below_tail hB2 hb3; have HO3 := Lib.hid (owns_bl HST.out.1 hb4))
            | (at_builtin; refine wpList_append_own _ rfl (.tmp 27) (.tmp 35) _ rfl W0.heap.size 82 j0 (.agg #[.int .i64 0, .int .i64 0, .int .i64 0]) 3 24 Try.underlying36 hj gz0 gz1 gz2 rfl (by decide) _ _ _ rfl (HO3.out.alloc _) ⟨w3.heap.size, 0, none⟩ 1 1 [.int .i64 y1, .int .i64 y2, .int .i64 y3] rfl rfl (cell_three_new _ _ _ _ _) (by simp [Value.oneCell']) (by simp only [maxLen]; omega) (by omega) (by have := (below_tail hB hb4).size; simp; omega) ?_; intro v1 w1 hown1 hg1 _; have HO1 := Lib.hid hown1; have HG1 := Lib.hid hg1; clear hown1 hg1))
          go_roundw
          case rel =>
            refine ⟨k + 1, by omega, by go_num, HST.out.add HY.out hb4 HO1.out HG1.out, fun i z hi hz => ?_⟩
            by_cases hik : i < k
            · exact HALL.out i z hik hz
            · obtain rfl : i = k := by omega
              rw [HY.out] at hz
              obtain rfl := Option.some.inj hz
              exact HLB.out
          case measure => simp [intOf]; omega
  obtain ⟨k, hk, rfl, hst, hins⟩ := hcut
  have hB := hst.2
  have HST := Lib.hid hst
  have HINS := Lib.hid hins
  obtain ⟨A3, c3, hs4⟩ := row_form hst.1
  subst hs4
  have H2 := Lib.hid h2
  replace h2 := hold hB h2
  replace b0 := holda hB b0
  replace b1 := holda hB b1
  replace b2 := holda hB b2
  have hwc := lt_of_cell b0
  clear hst hins
  rcases Nat.lt_or_ge k M.length with hlt | hge
  · obtain ⟨g0, n0, hf0⟩ := Go.Joins.ownsRow_form HO.out (by omega)
    simp only [Value.slice.injEq] at hf0
    obtain ⟨rfl, -, -⟩ := hf0
    have hnk : ¬ n = k := by omega
    have HN : Hid (∀ w1, Below W0.heap.size W0 w1 → ∀ j u, (flat encA (M.drop k))[j]? = some u → w1.cell? ((⟨g0, k * 3, none⟩ : Addr).add j) = some u) := Lib.hid fun w1 hb => by have := (gr_drop (HGR.out.below hb) k).news encA_len; rwa [Nat.zero_add] at this
    have HFL : Hid ((flat encA (M.drop k)).length = (M.length - k) * 3) := Lib.hid (by rw [flat_len encA_len, List.length_drop])
    have HE : Hid (flat encA (M.take k) ++ [.int .i64 r, .int .i64 c, .int .i64 a] ++ flat encA (M.drop k) = flat encA (M.take k ++ ((r, c), a) :: M.drop k)) := Lib.hid (by rw [flat_append, List.append_assoc]; rfl)
    have HD : Hid ((M.take k ++ ((r, c), a) :: M.drop k).length = M.length + 1) := Lib.hid (by simp; omega)
    generalize hD : M.drop k = D at HN HFL HE HINS HD
    clear hD
    go_wp2_with (first
      | (at_builtin; refine wpList_append_own _ rfl (.tmp 39) (.tmp 41) _ rfl W0.heap.size 82 j0 (.agg #[.int .i64 0, .int .i64 0, .int .i64 0]) 3 24 Try.underlying36 hj gz0 gz1 gz2 rfl (by decide) _ _ _ rfl (HST.out.1.alloc _) ⟨wc.heap.size, 0, none⟩ 1 1 [.int .i64 r, .int .i64 c, .int .i64 a] rfl rfl (cell_three_new _ _ _ _ _) (by simp [Value.oneCell']) (by simp only [maxLen]; omega) (by omega) (by have := hB.size; simp; omega) ?_; intro v1 w1 hown1 hg1 _; have hB1 := (below_allocs hB (Obj.cells #[.int .i64 r, .int .i64 c, .int .i64 a] 82)).grown hg1 (below_allocs hB _).size (fun k hk => (HST.out.1.lt k hk).1); obtain ⟨g1, n1, rfl⟩ := Go.Joins.ownsRow_form hown1 (Nat.succ_pos _); have HO1 := Lib.hid hown1; have h2' := hold hB1 H2.out; have HN1 := Lib.hid (HN.out _ hB1); clear hown1 hg1)
      | (at_builtin; refine wpList_append_own _ rfl (.tmp 44) (.tmp 50) _ rfl W0.heap.size 82 j0 (.agg #[.int .i64 0, .int .i64 0, .int .i64 0]) 3 24 Try.underlying36 hj gz0 gz1 gz2 rfl (by decide) _ _ _ rfl HO1.out ⟨g0, k * 3, none⟩ (M.length - k) (n - k) (flat encA D) rfl HFL.out HN1.out (flat_one encA_one D) (by simp only [maxLen]; omega) (by omega) hB1.size ?_; intro v2 w2 hown2 hg2 _; have hB2 := hB1.grown hg2 hB1.size (fun k hk => (HO1.out.lt k hk).1); obtain ⟨g2, n2, rfl⟩ := Go.Joins.ownsRow_form hown2 (by omega); have HO2 := Lib.hid hown2; have h2'' := hold hB2 H2.out; clear hown2 hg2))
    go_end0
    rw [HINS.out]
    exact put_end HH.out HBW.out hB2 (by rw [← HE.out]; exact HO2.out) (by rw [HD.out]; omega)
  · obtain rfl : k = M.length := by omega
    have HE : Hid (flat encA (M.take M.length) ++ [.int .i64 r, .int .i64 c, .int .i64 a] = flat encA (M.take M.length ++ ((r, c), a) :: M.drop M.length)) := Lib.hid (by rw [flat_append, List.drop_length]; rfl)
    have HD2 : Hid ((M.take M.length ++ ((r, c), a) :: M.drop M.length).length = M.length + 1) := Lib.hid (by simp)
    have fin : ∀ (g1 n1 : Nat) (w1 : World), Below W0.heap.size W0 w1 → w1.ownsRow W0.heap.size 82 3 (.slice (some ⟨g1, 0, none⟩) (M.length + 1) n1) (M.length + 1) (flat encA (M.take M.length) ++ [.int .i64 r, .int .i64 c, .int .i64 a]) → PrPost w q G most next (insP ((r, c), a) M) (.returned (.tuple #[])) (w1.setCell ⟨q, 2, none⟩ (.slice (some ⟨g1, 0, none⟩) (M.length + 1) n1)) := fun g1 n1 w1 hB1 ho => by
      rw [HINS.out]
      exact put_end HH.out HBW.out hB1 (by rw [← HE.out]; exact ho) (by rw [HD2.out])
    have FIN := Lib.hid fin
    clear fin hge
    by_cases hcn : n = M.length
    · subst hcn
      go_wp2_with (first
        | (at_builtin; refine wpList_append_own _ rfl (.tmp 39) (.tmp 41) _ rfl W0.heap.size 82 j0 (.agg #[.int .i64 0, .int .i64 0, .int .i64 0]) 3 24 Try.underlying36 hj gz0 gz1 gz2 rfl (by decide) _ _ _ rfl (HST.out.1.alloc _) ⟨wc.heap.size, 0, none⟩ 1 1 [.int .i64 r, .int .i64 c, .int .i64 a] rfl rfl (cell_three_new _ _ _ _ _) (by simp [Value.oneCell']) (by simp only [maxLen]; omega) (by omega) (by have := hB.size; simp; omega) ?_; intro v1 w1 hown1 hg1 _; have hB1 := (below_allocs hB (Obj.cells #[.int .i64 r, .int .i64 c, .int .i64 a] 82)).grown hg1 (below_allocs hB _).size (fun k hk => (HST.out.1.lt k hk).1); obtain ⟨g1, n1, rfl⟩ := Go.Joins.ownsRow_form hown1 (Nat.succ_pos _); have HO1 := Lib.hid hown1; have h2' := hold hB1 H2.out; have HN1 := Lib.hid (And.intro trivial (owns_le HO1.out)); clear hown1 hg1)
        | (at_builtin; refine wpList_append_zero rfl (.tmp 44) (.tmp 50) _ rfl Try.underlying36 hj ⟨g1, 0, none⟩ (M.length + 1) n1 HN1.out.2 _ _ rfl rfl ?_))
      go_end0
      exact FIN.out _ _ _ hB1 HO1.out
    · obtain ⟨b, rfl⟩ : ∃ b, A = some ⟨b, 0, none⟩ := by
        rcases HO.out.2 with ⟨hv, -⟩ | ⟨g, cap, cur, hv, -⟩
        · simp only [Value.slice.injEq] at hv; omega
        · simp only [Value.slice.injEq] at hv; exact ⟨g, hv.1⟩
      go_wp2_with (first
        | (at_builtin; refine wpList_append_own _ rfl (.tmp 39) (.tmp 41) _ rfl W0.heap.size 82 j0 (.agg #[.int .i64 0, .int .i64 0, .int .i64 0]) 3 24 Try.underlying36 hj gz0 gz1 gz2 rfl (by decide) _ _ _ rfl (HST.out.1.alloc _) ⟨wc.heap.size, 0, none⟩ 1 1 [.int .i64 r, .int .i64 c, .int .i64 a] rfl rfl (cell_three_new _ _ _ _ _) (by simp [Value.oneCell']) (by simp only [maxLen]; omega) (by omega) (by have := hB.size; simp; omega) ?_; intro v1 w1 hown1 hg1 _; have hB1 := (below_allocs hB (Obj.cells #[.int .i64 r, .int .i64 c, .int .i64 a] 82)).grown hg1 (below_allocs hB _).size (fun k hk => (HST.out.1.lt k hk).1); obtain ⟨g1, n1, rfl⟩ := Go.Joins.ownsRow_form hown1 (Nat.succ_pos _); have HO1 := Lib.hid hown1; have h2' := hold hB1 H2.out; have HN1 := Lib.hid (And.intro trivial (owns_le HO1.out)); clear hown1 hg1)
        | (at_builtin; refine wpList_append_zero rfl (.tmp 44) (.tmp 50) _ rfl Try.underlying36 hj ⟨g1, 0, none⟩ (M.length + 1) n1 HN1.out.2 _ _ rfl rfl ?_))
      go_end0
      exact FIN.out _ _ _ hB1 HO1.out
end Go.Proofs.Ytfadcmjdlfobhaa
