/- The document's store of points: Shift. Conditions: as stated. -/
import Derived.Test.YtfadcmjdlfobhaaPrB
namespace Go.Proofs.Ytfadcmjdlfobhaa
open Go.RowKit Go.Sort

def goR (k a n : Int) (p : P2) : Bool := rightS k a n && k == 2 && inB p.1 && decide (p.1 < n)
theorem shiftA_take {k a n : Int} {M : List PA} {i : Nat} {y : PA} (hy : M[i]? = some y) : shiftA (goR k a n) (mvP k a n) (M.take (i + 1)) = if goR k a n y.1 then shiftA (goR k a n) (mvP k a n) (M.take i) else insP (mvP k a n y.1, y.2) (shiftA (goR k a n) (mvP k a n) (M.take i)) := by
  rw [takeA_snoc hy, shiftA_snoc]
theorem shiftA_len (go : P2 → Bool) (mv : P2 → P2) (M : List PA) : (shiftA go mv M).length ≤ M.length := by
  have h := (shiftA_foldl go mv M [] List.Pairwise.nil).2.length_eq
  have h2 := List.length_filter_le (fun x : PA => !go x.1) M
  rw [List.nil_append, List.length_map] at h
  unfold shiftA
  omega
/-- What Shift holds at round i. -/
def ShSt (W0 : World) (q : Nat) (most next : Int) (M : List PA) (wr : World) : Prop := ∃ G', PrSt wr q G' most next M ∧ (∀ g ∈ G', g = q ∨ W0.heap.size ≤ g) ∧ Mod [q] W0 wr
theorem ShSt.below {W0 wr w1 : World} {q : Nat} {most next : Int} {M : List PA} (h : ShSt W0 q most next M wr) (hb : Below wr.heap.size wr w1) : ShSt W0 q most next M w1 := by
  obtain ⟨G', h1, h2, h3⟩ := h
  exact ⟨G', h1.below hb, h2, h3.then_below hb⟩
theorem ShSt.put {W0 wr w1 : World} {q : Nat} {G' : List Nat} {most next : Int} {M' : List PA} {e : Ending} (h2 : ∀ g ∈ G', g = q ∨ W0.heap.size ≤ g) (h3 : Mod [q] W0 wr) (hp : PrPost wr q G' most next M' e w1) : ShSt W0 q most next M' w1 := by
  obtain ⟨-, G2, k1, k2, k3⟩ := hp
  refine ⟨G2, k1, fun g hg => ?_, ?_⟩
  · rcases k3 g hg with h | h
    · exact h2 g h
    · exact .inr (Nat.le_trans h3.size h)
  · refine h3.trans k2 (fun g hg => ?_)
    rcases h2 g hg with h | h
    · exact .inl (by rw [h]; simp)
    · exact .inr h
set_option maxRecDepth 100000 in
set_option maxHeartbeats 3200000 in
theorem PrShift_any (q : Nat) (G : List Nat) (most next : Int) (M : List PA) (k a n : Int) (w : World) (h : PrSt w q G most next M) (hz : M.length ≤ 100000) :
    Calls Try.prog 45 #[.pointer (some ⟨q, 0, none⟩), .agg #[.int .i64 k, .int .i64 a, .int .i64 n]] w (PrPost w q G most next (shiftA (goR k a n) (mvP k a n) M)) := by
  have HH := Lib.hid h
  obtain ⟨v, hG, h0, h1, h2, ho⟩ := h
  obtain ⟨A, ca, rfl, -, -, -, hgr⟩ := gr_of_owns encA_len ho rfl
  have hqG : Hid (q ∈ G) := Lib.hid (by rw [hG]; simp)
  have hAG : Hid (∀ g, (Value.slice A M.length ca).ownBlock = some g → q + 1 ≤ g) := Lib.hid (fun g hg => (ho.lt g hg).1)
  clear hG ho
  obtain ⟨W0, hW0⟩ : ∃ W0, W0 = w.alloc (Obj.cells #[.int .i64 k, .int .i64 a, .int .i64 n] 32) := ⟨_, rfl⟩
  have HW0 := Lib.hid hW0
  have b0 : W0.cell? ⟨w.heap.size, 0, none⟩ = some (.int .i64 k) := by rw [hW0]; exact (at_ (hp_new rfl) 0 _ rfl).1
  have b1 : W0.cell? ⟨w.heap.size, 1, none⟩ = some (.int .i64 a) := by rw [hW0]; exact (at_ (hp_new rfl) 1 _ rfl).1
  have b2 : W0.cell? ⟨w.heap.size, 2, none⟩ = some (.int .i64 n) := by rw [hW0]; exact (at_ (hp_new rfl) 2 _ rfl).1
  have hbw : Below w.heap.size w W0 := by rw [hW0]; exact below_allocs (Below.refl _ _) _
  have HBW := Lib.hid hbw
  have hqw := lt_of_cell h0
  have HGR := Lib.hid (hgr.below hbw)
  have hst0 : ShSt W0 q most next [] (W0.setCell ⟨q, 2, none⟩ (.slice none 0 0)) := by
    have k0 := holda hbw h0
    have k1 := hold hbw h1
    have k2 := hold hbw h2
    exact ⟨[q], ⟨.slice none 0 0, rfl, (World.cell?_setCell_other _ _ _ _ (fun e => by injection e with e1 e2; omega)).trans k0, ⟨(World.cell?_setCell_other _ _ _ _ (fun e => by injection e with e1 e2; omega)).trans k1.1, by rw [World.frozen?_setCell]; exact k1.2⟩, set_self k2, World.ownsRow_nil _ _ _ _⟩, fun g hg => .inl (by simpa using hg), (Mod.refl _ _).setCell (.inl (by simp)) _⟩
  have e0 : W0.setCell ⟨q, 2, none⟩ (.slice none 0 0) = (w.setCell ⟨q, 2, none⟩ (.slice none 0 0)).alloc (Obj.cells #[.int .i64 k, .int .i64 a, .int .i64 n] 32) := by rw [hW0, World.setCell_alloc_past _ _ _ _ hqw]
  rw [e0] at hst0
  have HST0 := Lib.hid hst0
  have HSH := Shift10_hid k a n
  clear hgr hbw h0 h1 hst0 hW0 e0
  go_enter Try.func45, Try.ntmps45
  go_wp2_with fail
  go_loopw [5] (fun s5 wr => ∃ i : Nat, i ≤ M.length ∧ s5 = .int .i64 i ∧ ShSt W0 q most next (shiftA (goR k a n) (mvP k a n) (M.take i)) wr) (fun s5 _ => M.length - (intOf s5).toNat)
  case atStart => exact ⟨0, Nat.zero_le _, rfl, HST0.out⟩
  case round =>
    obtain ⟨i, hi, rfl, hst⟩ := hrel
    have HST := Lib.hid hst
    obtain ⟨G', hp, hG', hmd⟩ := hst
    by_cases hlt : i < M.length
    rotate_left
    · obtain rfl : i = M.length := by omega
      clear hp hG' hmd
      go_wp2
      go_end0
      obtain ⟨G', hp, hG', hmd⟩ := HST.out
      rw [List.take_length] at hp
      refine ⟨rfl, G', hp, ?_, fun g hg => ?_⟩
      · exact (Mod.of_below (X := G) HBW.out).trans (hmd.mono (Y := G) (fun g hg => by rw [List.mem_singleton.1 hg]; exact hqG.out)) (fun g hg => .inl hg)
      · rcases hG' g hg with h | h
        · exact .inl (by rw [h]; exact hqG.out)
        · exact .inr (Nat.le_trans HBW.out.size h)
    · obtain ⟨b, off, y, hA, hy, cy⟩ := HGR.out.at_ hlt
      have hbq : b ∉ [q] := by
        have := hAG.out b (by rw [hA]; rfl)
        simp; omega
      have hwq : w.heap.size ∉ [q] := by simp; omega
      have HTK := Lib.hid (shiftA_take (k := k) (a := a) (n := n) hy)
      have hlen := shiftA_len (goR k a n) (mvP k a n) (M.take i)
      rw [List.length_take] at hlen
      obtain ⟨⟨y1, y2⟩, y3⟩ := y
      subst hA
      have c0 : wr.cell? ⟨b, off + i * 3, none⟩ = some (.int .i64 y1) := hmd.cell hbq (cy 0 _ rfl)
      have c1 := hmd.cell hbq (cy 1 _ rfl)
      have c2 := hmd.cell hbq (cy 2 _ rfl)
      replace b0 := hmd.cell hwq b0
      replace b1 := hmd.cell hwq b1
      replace b2 := hmd.cell hwq b2
      have HP : Hid (∀ w1, Below wr.heap.size wr w1 → Calls Try.prog 49 #[.pointer (some ⟨q, 0, none⟩), .agg #[.int .i64 (mv y1 y2 k a n).1, .int .i64 (mv y1 y2 k a n).2, .int .i64 y3]] w1 (fun e w2 => e = .returned (.tuple #[]) ∧ ShSt W0 q most next (insP (mvP k a n (y1, y2), y3) (shiftA (goR k a n) (mvP k a n) (M.take i))) w2)) := Lib.hid fun w1 hb1 =>
        (Prput_any q G' most next _ (mv y1 y2 k a n).1 (mv y1 y2 k a n).2 y3 w1 (hp.below hb1) (by omega)).mono (fun e w2 hpp => ⟨hpp.1, ShSt.put hG' (hmd.then_below hb1) hpp⟩)
      have HMV : Hid (∀ w1 : World, Calls Try.prog 66 #[.agg #[.int .i64 y1, .int .i64 y2], .agg #[.int .i64 k, .int .i64 a, .int .i64 n]] w1 fun e w2 => e = .returned (.agg #[.int .i64 (mv y1 y2 k a n).1, .int .i64 (mv y1 y2 k a n).2]) ∧ Below w1.heap.size w1 w2) := Lib.hid fun w1 => RMove_any y1 y2 k a n w1
      have HRT : Hid (∀ w1 : World, Calls Try.prog 24 #[.int .i64 y1] w1 fun e w2 => e = .returned (.bool (inB y1)) ∧ w1 = w2) := Lib.hid fun w1 => Right10_any y1 w1
      generalize shiftA (goR k a n) (mvP k a n) (M.take i) = S at HST HTK HP
      have hgo : goR k a n (y1, y2) = (rightS k a n && k == 2 && inB y1 && decide (y1 < n)) := rfl
      have HGO := Lib.hid hgo
      clear cy hy hp hG' hmd hgo hlen
      generalize rightS k a n = rs at HSH HGO
      generalize inB y1 = iy at HRT HGO
      have HS : Hid (∀ w' : World, Calls Try.prog 65 #[.agg #[.int .i64 k, .int .i64 a, .int .i64 n]] w' fun e w2 => e = .returned (.bool rs) ∧ Below w'.heap.size w' w2) := Lib.hid fun w' => HSH.out w'
      clear HSH
      rcases (show (rs = false ∧ goR k a n (y1, y2) = false) ∨ (rs = true ∧ (k == 2) = false ∧ goR k a n (y1, y2) = false) ∨ (rs = true ∧ (k == 2) = true ∧ iy = false ∧ goR k a n (y1, y2) = false) ∨ (rs = true ∧ (k == 2) = true ∧ iy = true ∧ decide (y1 < n) = false ∧ goR k a n (y1, y2) = false) ∨ (rs = true ∧ (k == 2) = true ∧ iy = true ∧ decide (y1 < n) = true ∧ goR k a n (y1, y2) = true) by
        rw [HGO.out]
        cases rs <;> cases (k == 2) <;> cases iy <;> cases decide (y1 < n) <;> simp) with ⟨rfl, hg⟩ | ⟨rfl, hk2, hg⟩ | ⟨rfl, hk2, rfl, hg⟩ | ⟨rfl, hk2, rfl, hlt2, hg⟩ | ⟨rfl, hk2, rfl, hlt2, hg⟩
      · have HTK2 := Lib.hid (HTK.out.trans (if_neg (by rw [hg]; simp)))
        clear HTK HGO hg
        go_wp2_with fail
        refine wp_region_u 25 (fun w' => Below wr.heap.size wr w' ∧ w'.cell? ⟨w.heap.size, 0, none⟩ = some (.int .i64 k) ∧ w'.cell? ⟨w.heap.size, 1, none⟩ = some (.int .i64 a) ∧ w'.cell? ⟨w.heap.size, 2, none⟩ = some (.int .i64 n) ∧ w'.cell? ⟨b, off + i * 3, none⟩ = some (.int .i64 y1) ∧ w'.cell? ⟨b, off + i * 3 + 1, none⟩ = some (.int .i64 y2) ∧ w'.cell? ⟨b, off + i * 3 + 2, none⟩ = some (.int .i64 y3)) (by kernel_rfl) (by kernel_rfl) ?_ ?_
        · exact ⟨(Below.refl _ _).drew, b0, b1, b2, c0, c1, c2⟩
        simp only [List.take_succ_cons, List.take_zero, List.drop_succ_cons, List.drop_zero]
        repeat (first
          | (refine seqU_skip (by rfl) ?_; simp only [Act.put, List.setIfInBounds_toArray, List.set_cons_zero, List.set_cons_succ])
          | (refine seqU_val ?_ (by rfl) ?_ ?_; rotate_left; · (intro w' hS; obtain ⟨_, _⟩ := hS; go_simp; first | done | with_reducible rfl)
             simp only [Act.put, List.setIfInBounds_toArray, List.set_cons_zero, List.set_cons_succ])
          | (refine seqU_call 65 #[.agg #[.int .i64 k, .int .i64 a, .int .i64 n]] (.bool false) (by rfl) ?_ (fun w' hS => (HS.out w').mono fun e w2 ⟨he, hb⟩ => ⟨he, ⟨below_tail hS.1 hb, holda hb hS.2.1, holda hb hS.2.2.1, holda hb hS.2.2.2.1, holda hb hS.2.2.2.2.1, holda hb hS.2.2.2.2.2.1, holda hb hS.2.2.2.2.2.2⟩⟩) ?_; · (intro w'; go_simp; done)
             simp only [Act.put, List.setIfInBounds_toArray, List.set_cons_zero, List.set_cons_succ])
          | (refine seqU_call 24 #[.int .i64 y1] (.bool true) (by rfl) ?_ (fun w' hS => (HRT.out w').mono fun e w2 ⟨he, hb⟩ => ⟨he, hb ▸ hS⟩) ?_; · (intro w'; go_simp; done)
             simp only [Act.put, List.setIfInBounds_toArray, List.set_cons_zero, List.set_cons_succ]))
        refine seqU_nil (fun w' hS => ?_)
        clear c0 c1 c2 b0 b1 b2
        obtain ⟨hB2, b0, b1, b2, c0, c1, c2⟩ := hS
        go_wp2_with fail
        refine wp_region_u 14 (fun w2 => Below w'.heap.size w' w2 ∧ w2.cell? ⟨w.heap.size, 0, none⟩ = some (.int .i64 k) ∧ w2.cell? ⟨w.heap.size, 1, none⟩ = some (.int .i64 a) ∧ w2.cell? ⟨w.heap.size, 2, none⟩ = some (.int .i64 n) ∧ w2.cell? ⟨b, off + i * 3, none⟩ = some (.int .i64 y1) ∧ w2.cell? ⟨b, off + i * 3 + 1, none⟩ = some (.int .i64 y2) ∧ w2.cell? ⟨b, off + i * 3 + 2, none⟩ = some (.int .i64 y3)) (by kernel_rfl) (by kernel_rfl) ?_ ?_
        · exact ⟨(Below.refl _ _).drew, b0, b1, b2, c0, c1, c2⟩
        simp only [List.take_succ_cons, List.take_zero, List.drop_succ_cons, List.drop_zero]
        repeat (first
          | (refine seqU_val ?_ (by rfl) ?_ ?_; rotate_left; · (intro w' hS; obtain ⟨_, _⟩ := hS; go_simp; first | done | with_reducible rfl)
             simp only [Act.put, List.setIfInBounds_toArray, List.set_cons_zero, List.set_cons_succ])
          | (refine seqU_call 66 #[.agg #[.int .i64 y1, .int .i64 y2], .agg #[.int .i64 k, .int .i64 a, .int .i64 n]] (.agg #[.int .i64 (mv y1 y2 k a n).1, .int .i64 (mv y1 y2 k a n).2]) (by rfl) ?_ (fun w' hS => (HMV.out w').mono fun e w2 ⟨he, hb⟩ => ⟨he, ⟨below_tail hS.1 hb, holda hb hS.2.1, holda hb hS.2.2.1, holda hb hS.2.2.2.1, holda hb hS.2.2.2.2.1, holda hb hS.2.2.2.2.2.1, holda hb hS.2.2.2.2.2.2⟩⟩) ?_; · (intro w'; go_simp; done)
             simp only [Act.put, List.setIfInBounds_toArray, List.set_cons_zero, List.set_cons_succ]))
        refine seqU_nil (fun w2 hS2 => ?_)
        have hB3 := below_tail hB2 hS2.1
        clear c0 c1 c2 b0 b1 b2 hS2
        go_wp2_with (go_at_call 49; refine (HP.out _ hB3).mono ?_; rintro e w4 ⟨rfl, hst4⟩; have HS4 := Lib.hid hst4; clear hst4)
        go_roundw
        case rel => exact ⟨i + 1, by omega, by go_num, by rw [HTK2.out]; exact HS4.out⟩
        case measure => simp [intOf]; omega
      · have HTK2 := Lib.hid (HTK.out.trans (if_neg (by rw [hg]; simp)))
        clear HTK HGO hg
        go_wp2_with fail
        refine wp_region_u 25 (fun w' => Below wr.heap.size wr w' ∧ w'.cell? ⟨w.heap.size, 0, none⟩ = some (.int .i64 k) ∧ w'.cell? ⟨w.heap.size, 1, none⟩ = some (.int .i64 a) ∧ w'.cell? ⟨w.heap.size, 2, none⟩ = some (.int .i64 n) ∧ w'.cell? ⟨b, off + i * 3, none⟩ = some (.int .i64 y1) ∧ w'.cell? ⟨b, off + i * 3 + 1, none⟩ = some (.int .i64 y2) ∧ w'.cell? ⟨b, off + i * 3 + 2, none⟩ = some (.int .i64 y3)) (by kernel_rfl) (by kernel_rfl) ?_ ?_
        · exact ⟨(Below.refl _ _).drew, b0, b1, b2, c0, c1, c2⟩
        simp only [List.take_succ_cons, List.take_zero, List.drop_succ_cons, List.drop_zero]
        repeat (first
          | (refine seqU_skip (by rfl) ?_; simp only [Act.put, List.setIfInBounds_toArray, List.set_cons_zero, List.set_cons_succ])
          | (refine seqU_val ?_ (by rfl) ?_ ?_; rotate_left; · (intro w' hS; obtain ⟨_, _⟩ := hS; go_simp; first | done | with_reducible rfl)
             simp only [Act.put, List.setIfInBounds_toArray, List.set_cons_zero, List.set_cons_succ])
          | (refine seqU_call 65 #[.agg #[.int .i64 k, .int .i64 a, .int .i64 n]] (.bool true) (by rfl) ?_ (fun w' hS => (HS.out w').mono fun e w2 ⟨he, hb⟩ => ⟨he, ⟨below_tail hS.1 hb, holda hb hS.2.1, holda hb hS.2.2.1, holda hb hS.2.2.2.1, holda hb hS.2.2.2.2.1, holda hb hS.2.2.2.2.2.1, holda hb hS.2.2.2.2.2.2⟩⟩) ?_; · (intro w'; go_simp; done)
             simp only [Act.put, List.setIfInBounds_toArray, List.set_cons_zero, List.set_cons_succ])
          | (refine seqU_call 24 #[.int .i64 y1] (.bool true) (by rfl) ?_ (fun w' hS => (HRT.out w').mono fun e w2 ⟨he, hb⟩ => ⟨he, hb ▸ hS⟩) ?_; · (intro w'; go_simp; done)
             simp only [Act.put, List.setIfInBounds_toArray, List.set_cons_zero, List.set_cons_succ]))
        refine seqU_nil (fun w' hS => ?_)
        clear c0 c1 c2 b0 b1 b2
        obtain ⟨hB2, b0, b1, b2, c0, c1, c2⟩ := hS
        go_wp2_with fail
        refine wp_region_u 14 (fun w2 => Below w'.heap.size w' w2 ∧ w2.cell? ⟨w.heap.size, 0, none⟩ = some (.int .i64 k) ∧ w2.cell? ⟨w.heap.size, 1, none⟩ = some (.int .i64 a) ∧ w2.cell? ⟨w.heap.size, 2, none⟩ = some (.int .i64 n) ∧ w2.cell? ⟨b, off + i * 3, none⟩ = some (.int .i64 y1) ∧ w2.cell? ⟨b, off + i * 3 + 1, none⟩ = some (.int .i64 y2) ∧ w2.cell? ⟨b, off + i * 3 + 2, none⟩ = some (.int .i64 y3)) (by kernel_rfl) (by kernel_rfl) ?_ ?_
        · exact ⟨(Below.refl _ _).drew, b0, b1, b2, c0, c1, c2⟩
        simp only [List.take_succ_cons, List.take_zero, List.drop_succ_cons, List.drop_zero]
        repeat (first
          | (refine seqU_val ?_ (by rfl) ?_ ?_; rotate_left; · (intro w' hS; obtain ⟨_, _⟩ := hS; go_simp; first | done | with_reducible rfl)
             simp only [Act.put, List.setIfInBounds_toArray, List.set_cons_zero, List.set_cons_succ])
          | (refine seqU_call 66 #[.agg #[.int .i64 y1, .int .i64 y2], .agg #[.int .i64 k, .int .i64 a, .int .i64 n]] (.agg #[.int .i64 (mv y1 y2 k a n).1, .int .i64 (mv y1 y2 k a n).2]) (by rfl) ?_ (fun w' hS => (HMV.out w').mono fun e w2 ⟨he, hb⟩ => ⟨he, ⟨below_tail hS.1 hb, holda hb hS.2.1, holda hb hS.2.2.1, holda hb hS.2.2.2.1, holda hb hS.2.2.2.2.1, holda hb hS.2.2.2.2.2.1, holda hb hS.2.2.2.2.2.2⟩⟩) ?_; · (intro w'; go_simp; done)
             simp only [Act.put, List.setIfInBounds_toArray, List.set_cons_zero, List.set_cons_succ]))
        refine seqU_nil (fun w2 hS2 => ?_)
        have hB3 := below_tail hB2 hS2.1
        clear c0 c1 c2 b0 b1 b2 hS2
        go_wp2_with (go_at_call 49; refine (HP.out _ hB3).mono ?_; rintro e w4 ⟨rfl, hst4⟩; have HS4 := Lib.hid hst4; clear hst4)
        go_roundw
        case rel => exact ⟨i + 1, by omega, by go_num, by rw [HTK2.out]; exact HS4.out⟩
        case measure => simp [intOf]; omega
      · have HTK2 := Lib.hid (HTK.out.trans (if_neg (by rw [hg]; simp)))
        clear HTK HGO hg
        go_wp2_with fail
        refine wp_region_u 25 (fun w' => Below wr.heap.size wr w' ∧ w'.cell? ⟨w.heap.size, 0, none⟩ = some (.int .i64 k) ∧ w'.cell? ⟨w.heap.size, 1, none⟩ = some (.int .i64 a) ∧ w'.cell? ⟨w.heap.size, 2, none⟩ = some (.int .i64 n) ∧ w'.cell? ⟨b, off + i * 3, none⟩ = some (.int .i64 y1) ∧ w'.cell? ⟨b, off + i * 3 + 1, none⟩ = some (.int .i64 y2) ∧ w'.cell? ⟨b, off + i * 3 + 2, none⟩ = some (.int .i64 y3)) (by kernel_rfl) (by kernel_rfl) ?_ ?_
        · exact ⟨(Below.refl _ _).drew, b0, b1, b2, c0, c1, c2⟩
        simp only [List.take_succ_cons, List.take_zero, List.drop_succ_cons, List.drop_zero]
        repeat (first
          | (refine seqU_skip (by rfl) ?_; simp only [Act.put, List.setIfInBounds_toArray, List.set_cons_zero, List.set_cons_succ])
          | (refine seqU_val ?_ (by rfl) ?_ ?_; rotate_left; · (intro w' hS; obtain ⟨_, _⟩ := hS; go_simp; first | done | with_reducible rfl)
             simp only [Act.put, List.setIfInBounds_toArray, List.set_cons_zero, List.set_cons_succ])
          | (refine seqU_call 65 #[.agg #[.int .i64 k, .int .i64 a, .int .i64 n]] (.bool true) (by rfl) ?_ (fun w' hS => (HS.out w').mono fun e w2 ⟨he, hb⟩ => ⟨he, ⟨below_tail hS.1 hb, holda hb hS.2.1, holda hb hS.2.2.1, holda hb hS.2.2.2.1, holda hb hS.2.2.2.2.1, holda hb hS.2.2.2.2.2.1, holda hb hS.2.2.2.2.2.2⟩⟩) ?_; · (intro w'; go_simp; done)
             simp only [Act.put, List.setIfInBounds_toArray, List.set_cons_zero, List.set_cons_succ])
          | (refine seqU_call 24 #[.int .i64 y1] (.bool false) (by rfl) ?_ (fun w' hS => (HRT.out w').mono fun e w2 ⟨he, hb⟩ => ⟨he, hb ▸ hS⟩) ?_; · (intro w'; go_simp; done)
             simp only [Act.put, List.setIfInBounds_toArray, List.set_cons_zero, List.set_cons_succ]))
        refine seqU_nil (fun w' hS => ?_)
        clear c0 c1 c2 b0 b1 b2
        obtain ⟨hB2, b0, b1, b2, c0, c1, c2⟩ := hS
        go_wp2_with fail
        refine wp_region_u 14 (fun w2 => Below w'.heap.size w' w2 ∧ w2.cell? ⟨w.heap.size, 0, none⟩ = some (.int .i64 k) ∧ w2.cell? ⟨w.heap.size, 1, none⟩ = some (.int .i64 a) ∧ w2.cell? ⟨w.heap.size, 2, none⟩ = some (.int .i64 n) ∧ w2.cell? ⟨b, off + i * 3, none⟩ = some (.int .i64 y1) ∧ w2.cell? ⟨b, off + i * 3 + 1, none⟩ = some (.int .i64 y2) ∧ w2.cell? ⟨b, off + i * 3 + 2, none⟩ = some (.int .i64 y3)) (by kernel_rfl) (by kernel_rfl) ?_ ?_
        · exact ⟨(Below.refl _ _).drew, b0, b1, b2, c0, c1, c2⟩
        simp only [List.take_succ_cons, List.take_zero, List.drop_succ_cons, List.drop_zero]
        repeat (first
          | (refine seqU_val ?_ (by rfl) ?_ ?_; rotate_left; · (intro w' hS; obtain ⟨_, _⟩ := hS; go_simp; first | done | with_reducible rfl)
             simp only [Act.put, List.setIfInBounds_toArray, List.set_cons_zero, List.set_cons_succ])
          | (refine seqU_call 66 #[.agg #[.int .i64 y1, .int .i64 y2], .agg #[.int .i64 k, .int .i64 a, .int .i64 n]] (.agg #[.int .i64 (mv y1 y2 k a n).1, .int .i64 (mv y1 y2 k a n).2]) (by rfl) ?_ (fun w' hS => (HMV.out w').mono fun e w2 ⟨he, hb⟩ => ⟨he, ⟨below_tail hS.1 hb, holda hb hS.2.1, holda hb hS.2.2.1, holda hb hS.2.2.2.1, holda hb hS.2.2.2.2.1, holda hb hS.2.2.2.2.2.1, holda hb hS.2.2.2.2.2.2⟩⟩) ?_; · (intro w'; go_simp; done)
             simp only [Act.put, List.setIfInBounds_toArray, List.set_cons_zero, List.set_cons_succ]))
        refine seqU_nil (fun w2 hS2 => ?_)
        have hB3 := below_tail hB2 hS2.1
        clear c0 c1 c2 b0 b1 b2 hS2
        go_wp2_with (go_at_call 49; refine (HP.out _ hB3).mono ?_; rintro e w4 ⟨rfl, hst4⟩; have HS4 := Lib.hid hst4; clear hst4)
        go_roundw
        case rel => exact ⟨i + 1, by omega, by go_num, by rw [HTK2.out]; exact HS4.out⟩
        case measure => simp [intOf]; omega
      · have HTK2 := Lib.hid (HTK.out.trans (if_neg (by rw [hg]; simp)))
        clear HTK HGO hg
        go_wp2_with fail
        refine wp_region_u 25 (fun w' => Below wr.heap.size wr w' ∧ w'.cell? ⟨w.heap.size, 0, none⟩ = some (.int .i64 k) ∧ w'.cell? ⟨w.heap.size, 1, none⟩ = some (.int .i64 a) ∧ w'.cell? ⟨w.heap.size, 2, none⟩ = some (.int .i64 n) ∧ w'.cell? ⟨b, off + i * 3, none⟩ = some (.int .i64 y1) ∧ w'.cell? ⟨b, off + i * 3 + 1, none⟩ = some (.int .i64 y2) ∧ w'.cell? ⟨b, off + i * 3 + 2, none⟩ = some (.int .i64 y3)) (by kernel_rfl) (by kernel_rfl) ?_ ?_
        · exact ⟨(Below.refl _ _).drew, b0, b1, b2, c0, c1, c2⟩
        simp only [List.take_succ_cons, List.take_zero, List.drop_succ_cons, List.drop_zero]
        repeat (first
          | (refine seqU_skip (by rfl) ?_; simp only [Act.put, List.setIfInBounds_toArray, List.set_cons_zero, List.set_cons_succ])
          | (refine seqU_val ?_ (by rfl) ?_ ?_; rotate_left; · (intro w' hS; obtain ⟨_, _⟩ := hS; go_simp; first | done | with_reducible rfl)
             simp only [Act.put, List.setIfInBounds_toArray, List.set_cons_zero, List.set_cons_succ])
          | (refine seqU_call 65 #[.agg #[.int .i64 k, .int .i64 a, .int .i64 n]] (.bool true) (by rfl) ?_ (fun w' hS => (HS.out w').mono fun e w2 ⟨he, hb⟩ => ⟨he, ⟨below_tail hS.1 hb, holda hb hS.2.1, holda hb hS.2.2.1, holda hb hS.2.2.2.1, holda hb hS.2.2.2.2.1, holda hb hS.2.2.2.2.2.1, holda hb hS.2.2.2.2.2.2⟩⟩) ?_; · (intro w'; go_simp; done)
             simp only [Act.put, List.setIfInBounds_toArray, List.set_cons_zero, List.set_cons_succ])
          | (refine seqU_call 24 #[.int .i64 y1] (.bool true) (by rfl) ?_ (fun w' hS => (HRT.out w').mono fun e w2 ⟨he, hb⟩ => ⟨he, hb ▸ hS⟩) ?_; · (intro w'; go_simp; done)
             simp only [Act.put, List.setIfInBounds_toArray, List.set_cons_zero, List.set_cons_succ]))
        refine seqU_nil (fun w' hS => ?_)
        clear c0 c1 c2 b0 b1 b2
        obtain ⟨hB2, b0, b1, b2, c0, c1, c2⟩ := hS
        go_wp2_with fail
        refine wp_region_u 14 (fun w2 => Below w'.heap.size w' w2 ∧ w2.cell? ⟨w.heap.size, 0, none⟩ = some (.int .i64 k) ∧ w2.cell? ⟨w.heap.size, 1, none⟩ = some (.int .i64 a) ∧ w2.cell? ⟨w.heap.size, 2, none⟩ = some (.int .i64 n) ∧ w2.cell? ⟨b, off + i * 3, none⟩ = some (.int .i64 y1) ∧ w2.cell? ⟨b, off + i * 3 + 1, none⟩ = some (.int .i64 y2) ∧ w2.cell? ⟨b, off + i * 3 + 2, none⟩ = some (.int .i64 y3)) (by kernel_rfl) (by kernel_rfl) ?_ ?_
        · exact ⟨(Below.refl _ _).drew, b0, b1, b2, c0, c1, c2⟩
        simp only [List.take_succ_cons, List.take_zero, List.drop_succ_cons, List.drop_zero]
        repeat (first
          | (refine seqU_val ?_ (by rfl) ?_ ?_; rotate_left; · (intro w' hS; obtain ⟨_, _⟩ := hS; go_simp; first | done | with_reducible rfl)
             simp only [Act.put, List.setIfInBounds_toArray, List.set_cons_zero, List.set_cons_succ])
          | (refine seqU_call 66 #[.agg #[.int .i64 y1, .int .i64 y2], .agg #[.int .i64 k, .int .i64 a, .int .i64 n]] (.agg #[.int .i64 (mv y1 y2 k a n).1, .int .i64 (mv y1 y2 k a n).2]) (by rfl) ?_ (fun w' hS => (HMV.out w').mono fun e w2 ⟨he, hb⟩ => ⟨he, ⟨below_tail hS.1 hb, holda hb hS.2.1, holda hb hS.2.2.1, holda hb hS.2.2.2.1, holda hb hS.2.2.2.2.1, holda hb hS.2.2.2.2.2.1, holda hb hS.2.2.2.2.2.2⟩⟩) ?_; · (intro w'; go_simp; done)
             simp only [Act.put, List.setIfInBounds_toArray, List.set_cons_zero, List.set_cons_succ]))
        refine seqU_nil (fun w2 hS2 => ?_)
        have hB3 := below_tail hB2 hS2.1
        clear c0 c1 c2 b0 b1 b2 hS2
        go_wp2_with (go_at_call 49; refine (HP.out _ hB3).mono ?_; rintro e w4 ⟨rfl, hst4⟩; have HS4 := Lib.hid hst4; clear hst4)
        go_roundw
        case rel => exact ⟨i + 1, by omega, by go_num, by rw [HTK2.out]; exact HS4.out⟩
        case measure => simp [intOf]; omega
      · have HTK2 := Lib.hid (HTK.out.trans (if_pos hg))
        clear HTK HGO hg
        go_wp2_with fail
        refine wp_region_u 25 (fun w' => Below wr.heap.size wr w' ∧ w'.cell? ⟨w.heap.size, 0, none⟩ = some (.int .i64 k) ∧ w'.cell? ⟨w.heap.size, 1, none⟩ = some (.int .i64 a) ∧ w'.cell? ⟨w.heap.size, 2, none⟩ = some (.int .i64 n) ∧ w'.cell? ⟨b, off + i * 3, none⟩ = some (.int .i64 y1) ∧ w'.cell? ⟨b, off + i * 3 + 1, none⟩ = some (.int .i64 y2) ∧ w'.cell? ⟨b, off + i * 3 + 2, none⟩ = some (.int .i64 y3)) (by kernel_rfl) (by kernel_rfl) ?_ ?_
        · exact ⟨(Below.refl _ _).drew, b0, b1, b2, c0, c1, c2⟩
        simp only [List.take_succ_cons, List.take_zero, List.drop_succ_cons, List.drop_zero]
        repeat (first
          | (refine seqU_skip (by rfl) ?_; simp only [Act.put, List.setIfInBounds_toArray, List.set_cons_zero, List.set_cons_succ])
          | (refine seqU_val ?_ (by rfl) ?_ ?_; rotate_left; · (intro w' hS; obtain ⟨_, _⟩ := hS; go_simp; first | done | with_reducible rfl)
             simp only [Act.put, List.setIfInBounds_toArray, List.set_cons_zero, List.set_cons_succ])
          | (refine seqU_call 65 #[.agg #[.int .i64 k, .int .i64 a, .int .i64 n]] (.bool true) (by rfl) ?_ (fun w' hS => (HS.out w').mono fun e w2 ⟨he, hb⟩ => ⟨he, ⟨below_tail hS.1 hb, holda hb hS.2.1, holda hb hS.2.2.1, holda hb hS.2.2.2.1, holda hb hS.2.2.2.2.1, holda hb hS.2.2.2.2.2.1, holda hb hS.2.2.2.2.2.2⟩⟩) ?_; · (intro w'; go_simp; done)
             simp only [Act.put, List.setIfInBounds_toArray, List.set_cons_zero, List.set_cons_succ])
          | (refine seqU_call 24 #[.int .i64 y1] (.bool true) (by rfl) ?_ (fun w' hS => (HRT.out w').mono fun e w2 ⟨he, hb⟩ => ⟨he, hb ▸ hS⟩) ?_; · (intro w'; go_simp; done)
             simp only [Act.put, List.setIfInBounds_toArray, List.set_cons_zero, List.set_cons_succ]))
        refine seqU_nil (fun w' hS => ?_)
        clear c0 c1 c2 b0 b1 b2
        have hB2 := hS.1
        clear hS
        go_wp2_with fail
        go_roundw
        case rel => exact ⟨i + 1, by omega, by go_num, by rw [HTK2.out]; exact HST.out.below hB2⟩
        case measure => simp [intOf]; omega
end Go.Proofs.Ytfadcmjdlfobhaa
