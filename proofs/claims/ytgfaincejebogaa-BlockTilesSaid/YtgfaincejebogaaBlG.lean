/- The program's blocks: Take, with a newest block. Conditions: as stated. -/
import Derived.Test.YtgfaincejebogaaBlF
namespace Go.Proofs.Ytgfaincejebogaa
open Go.RowKit

theorem ent_set01 (E : Ent) (code : Int) (has : Bool) : ((entCells E).set 0 (.int .i64 code)).set 1 (.bool has) = entCells { E with code := code, has := has } := rfl
theorem ent_set3 (E : Ent) (d : ByteArray) : (entCells E).set 3 (.string d) = entCells { E with dir := d } := rfl
theorem ent_set4 (E : Ent) (d : ByteArray) : (entCells E).set 4 (.string d) = entCells { E with line := d } := rfl
theorem openB_snoc (ids : Int) (dir : ByteArray) (l : List Ent) (E : Ent) (a b : Nat) : openB ⟨ids, dir, l ++ [E]⟩ a b = (decide (a ≤ E.ph) && decide (E.ph ≤ b)) := by
  unfold openB
  rw [getLast_snoc]
theorem atB_snoc (ids : Int) (dir : ByteArray) (l : List Ent) (E : Ent) (p : P2) : atB ⟨ids, dir, l ++ [E]⟩ p = laterP p E.last := by
  unfold atB
  rw [getLast_snoc]
set_option maxRecDepth 100000 in
set_option maxHeartbeats 6400000 in
theorem take_last {p b : Nat} {v : Value} {L : List (Nat × Ent)} {E : Ent} {mo : Nat} {ids : Int} {dir : ByteArray} (x : Sg) (r c : Int) (w : World) (h : BlO w p v (L ++ [(b, E)]) mo ids dir) (hmo : 1 ≤ mo) (hz : L.length ≤ 900) (hi0 : 0 ≤ ids) (hi1 : ids ≤ 1000000) :
    Calls Try.prog 15 #[.pointer (some ⟨p, 0, none⟩), .agg #[.int .i64 x.k, .int .i64 x.code, .bool x.has, .string x.text], .agg #[.int .i64 r, .int .i64 c]] w (BlPost w p v (L ++ [(b, E)]) mo (takeB mo ⟨ids, dir, L.map (·.2) ++ [E]⟩ x (r, c))) := by
  have HR := Lib.hid (fun w => blright_any r c w)
  obtain ⟨W0, hW0⟩ : ∃ W0, W0 = (w.alloc (.cells #[.int .i64 x.k, .int .i64 x.code, .bool x.has, .string x.text] 33)).alloc (.cells #[.int .i64 r, .int .i64 c] 24) := ⟨_, rfl⟩
  have hb0 : Below w.heap.size w W0 := by rw [hW0]; exact below_allocs (below_allocs (Below.refl _ _) _) _
  have ht0 : TkSt W0 w.heap.size x (r, c) := by
    rw [hW0]
    exact ⟨(at_ (hp_old (hp_new rfl)) 0 _ rfl).1, (at_ (hp_old (hp_new rfl)) 1 _ rfl).1, (at_ (hp_old (hp_new rfl)) 2 _ rfl).1, (at_ (hp_old (hp_new rfl)) 3 _ rfl).1, (at_ (hp_new (by simp)) 0 _ rfl).1, (at_ (hp_new (by simp)) 1 _ rfl).1⟩
  have hfz : HoldAt W0 (w.heap.size + 1) 0 (.int .i64 r) ∧ HoldAt W0 (w.heap.size + 1) 1 (.int .i64 c) := by
    rw [hW0]
    exact ⟨at_ (hp_new (by simp)) 0 _ rfl, at_ (hp_new (by simp)) 1 _ rfl⟩
  have hO0 := h.below hb0
  have HW0 := Lib.hid hW0
  have HLT0 := Lib.hid h.lt
  have hbw := (h.ents (b, E) (by simp)).1.lt
  cases hin : (inB r && inB c) with
  | false =>
    rw [takeB_out (p := (r, c)) hin]
    rw [hin] at HR
    have HF : Hid (∀ w1, Below W0.heap.size W0 w1 → BlPost w p v (L ++ [(b, E)]) mo ⟨ids, dir, L.map (·.2) ++ [E]⟩ (.returned (.tuple #[])) w1) := Lib.hid (fun w1 hb => BlPost.same h (below_tail hb0 hb) ⟨rfl, rfl, by simp⟩)
    obtain ⟨q0, q1, q2, q3, q4, q5⟩ := ht0
    clear h hO0 hin hb0 hfz
    go_enter Try.func15, Try.ntmps15
    go_wp2_with (go_at_call 24; rw [← HW0.out]; refine (HR.out _).mono ?_; rintro e w1 ⟨rfl, hb1⟩)
    go_end0
    exact HF.out _ hb1
  | true =>
    rw [hin] at HR
    have HIN := Lib.hid hin
    have hptr : lastPtr (L ++ [(b, E)]) = .pointer (some ⟨b, 0, none⟩) := by unfold lastPtr; simp
    have HNW : Hid (∀ w1, Below W0.heap.size W0 w1 → Calls Try.prog 21 #[.pointer (some ⟨p, 0, none⟩)] w1 fun e w' => e = .returned (.pointer (some ⟨b, 0, none⟩)) ∧ Below w1.heap.size w1 w') := Lib.hid (fun w1 hb => by rw [← hptr]; exact newest_any w1 (hO0.below hb) (by simp; omega))
    have HB0 := Lib.hid hb0
    have HT0 := Lib.hid ht0
    have HO0 := Lib.hid hO0
    have HFZ := Lib.hid hfz
    obtain ⟨q0, q1, q2, q3, q4, q5⟩ := ht0
    have hsz0 : w.heap.size + 1 < W0.heap.size := lt_of_cell q4
    clear h hO0 hin hb0 hptr hfz
    go_enter Try.func15, Try.ntmps15
    go_upto_region 4 with (first
      | (go_at_call 24; rw [← HW0.out]; refine (HR.out _).mono ?_; rintro e w1 ⟨rfl, hb1⟩)
      | (go_at_call 21; refine (HNW.out _ hb1).mono ?_; rintro e w2 ⟨rfl, hb2⟩; have hb12 := below_tail hb1 hb2; clear hb2))
    have HB12 := Lib.hid hb12
    have HO2 := Lib.hid (HO0.out.below hb12)
    obtain ⟨hE2, hok, hpb, hvb⟩ := HO2.out.ents (b, E) (by simp)
    have HE2 := Lib.hid hE2
    have HOK : Hid (EntOk E) := Lib.hid (show EntOk E from hok)
    have hl1 := holda hb12 q4
    have hl2 := holda hb12 q5
    have HLS : Hid (∀ w', Below w2.heap.size w2 w' → Calls Try.prog 22 #[.pointer (some ⟨b, 0, none⟩)] w' fun e w'' => e = .returned (.agg #[.int .i64 E.last.1, .int .i64 E.last.2]) ∧ Below w'.heap.size w' w'') := Lib.hid (fun w' hb => last_any b E w' (hE2.below hb) hok)
    have HLT := Lib.hid (fun w' => later_val (r, c) E.last w')
    simp only at hl1 hl2 HLT hpb
    have HPB := Lib.hid hpb
    generalize hq : laterP (r, c) E.last = q at HLT
    have HQ := Lib.hid hq
    clear hE2 hok q0 q1 q2 q3 q4 q5 hb12 hb1 hq hpb hvb
    refine wp_region_u 4 (fun w' => Below w2.heap.size w2 w' ∧ w'.cell? ⟨w.heap.size + 1, 0, none⟩ = some (.int .i64 r) ∧ w'.cell? ⟨w.heap.size + 1, 1, none⟩ = some (.int .i64 c)) (by kernel_rfl) (by kernel_rfl) ?_ ?_
    · exact ⟨(Below.refl _ _).drew, hl1, hl2⟩
    simp only [List.take_succ_cons, List.take_zero, List.drop_succ_cons, List.drop_zero]
    repeat (first
      | (refine seqU_val ?_ (by rfl) ?_ ?_; rotate_left; · (intro w' hS; obtain ⟨_, _⟩ := hS; go_simp; first | done | with_reducible rfl)
         simp only [Act.put, List.setIfInBounds_toArray, List.set_cons_zero, List.set_cons_succ])
      | (refine seqU_call 22 #[.pointer (some ⟨b, 0, none⟩)] (.agg #[.int .i64 E.last.1, .int .i64 E.last.2]) (by rfl) ?_ (fun w' hS => (HLS.out w' hS.1).mono fun e w2 ⟨he, hb⟩ => ⟨he, ⟨below_tail hS.1 hb, holda hb hS.2.1, holda hb hS.2.2⟩⟩) ?_; · (intro w'; go_simp; done)
         simp only [Act.put, List.setIfInBounds_toArray, List.set_cons_zero, List.set_cons_succ])
      | (refine seqU_call 20 #[.agg #[.int .i64 r, .int .i64 c], .agg #[.int .i64 E.last.1, .int .i64 E.last.2]] (.agg #[.int .i64 q.1, .int .i64 q.2]) (by rfl) ?_ (fun w' hS => (HLT.out w').mono fun e w2 ⟨he, hb⟩ => ⟨he, ⟨below_tail hS.1 hb, holda hb hS.2.1, holda hb hS.2.2⟩⟩) ?_; · (intro w'; go_simp; done)
         simp only [Act.put, List.setIfInBounds_toArray, List.set_cons_zero, List.set_cons_succ]))
    refine seqU_nil (fun w' hS => ?_)
    have hB3 := hS.1
    clear hS hl1 hl2
    obtain ⟨⟨z0, z0f⟩, z1, z1f⟩ : HoldAt w' (w.heap.size + 1) 0 (.int .i64 r) ∧ HoldAt w' (w.heap.size + 1) 1 (.int .i64 c) := ⟨hold hB3 (hold HB12.out HFZ.out.1), hold hB3 (hold HB12.out HFZ.out.2)⟩
    have HT3 := Lib.hid (HT0.out.mod (Mod.of_below (X := []) (below_tail HB12.out hB3)) (by simp) (by simp))
    go_upto_region 5 with fail
    generalize hW3 : World.setCell _ _ _ = W3
    obtain ⟨⟨y0, -⟩, y1, -⟩ := set_two (u' := .int .i64 q.1) (v' := .int .i64 q.2) ⟨z0, z0f⟩ ⟨z1, z1f⟩
    rw [hW3] at y0 y1
    have hm3 : Mod [w.heap.size + 1] w' W3 := by rw [← hW3]; exact ((Mod.refl _ _).setCell (.inl (by simp)) _).setCell (.inl (by simp)) _
    have HBW := Lib.hid (show Below w.heap.size w W3 from (below_tail (below_tail HB0.out HB12.out) hB3).trans (hm3.below (fun g hg => by simp at hg; omega) (below_tail (below_tail HB0.out HB12.out) hB3).size))
    have HT4 : Hid (TkSt W3 w.heap.size x q) := Lib.hid ⟨hm3.cell (by simp) HT3.out.k, hm3.cell (by simp) HT3.out.code, hm3.cell (by simp) HT3.out.has, hm3.cell (by simp) HT3.out.text, y0, y1⟩
    have HFB : Hid (∀ g ∈ foot p v (L ++ [(b, E)]), g ∉ [w.heap.size + 1]) := Lib.hid (fun g hg hx => by have := HLT0.out g hg; rw [List.mem_singleton.1 hx] at this; omega)
    have HO3 := Lib.hid ((HO2.out.below hB3).mod hm3 HFB.out)
    have HE3 := Lib.hid ((HE2.out.below hB3).mod hm3 (by simp; omega))
    obtain ⟨k, code, has, text⟩ := x
    obtain ⟨t0, t1, t2, t3, t4, t5⟩ := HT4.out
    simp only at t0 t1 t2 t3 t4 t5
    clear hW3 z0 z0f z1 z1f y0 y1 hm3 hB3 HT3 HFB HLS HLT
    have HSTART : Hid (∀ phase : Nat, 1 ≤ phase → phase ≤ 4 → Calls Try.prog 25 #[.pointer (some ⟨p, 0, none⟩), .int .i64 phase, .agg #[.int .i64 q.1, .int .i64 q.2]] W3 (BlPost W3 p v (L ++ [(b, E)]) mo (startB mo ⟨ids, dir, L.map (·.2) ++ [E]⟩ phase q))) := Lib.hid (fun phase a1 a2 => by
      have := start_any phase q.1 q.2 W3 HO3.out a1 a2 hmo (by simp; omega) hi0 hi1
      simpa using this)
    have HOP : Hid (∀ (u : Nat) (bo : Bool) (W' : World), EntAt W' b E → decide (E.ph ≤ u) = bo → Calls Try.prog 26 #[.pointer (some ⟨b, 0, none⟩), .int .i64 1, .int .i64 u] W' fun e w' => e = .returned (.bool bo) ∧ W' = w') := Lib.hid (fun u bo W' hE hd => (open_any b E 1 u W' hE HOK.out.four).mono fun e w' ⟨he, hw⟩ => ⟨by
      have := HOK.out.lo
      rw [he, ← hd]
      have h1 : decide ((1 : Int) ≤ (E.ph : Int)) = true := by simp; omega
      have h2 : decide ((E.ph : Int) ≤ (u : Int)) = decide (E.ph ≤ u) := by simp
      rw [h1, h2, Bool.true_and], hw⟩)
    have HRE : Hid (∀ phase : Nat, phase ≤ 4 → Calls Try.prog 27 #[.pointer (some ⟨b, 0, none⟩), .int .i64 phase, .agg #[.int .i64 q.1, .int .i64 q.2]] W3 (ReachPost W3 b (reachE E phase q))) := Lib.hid (fun phase a => reach_any b E phase q.1 q.2 W3 HE3.out HOK.out.four a)
    have HLO := Lib.hid HOK.out.lo
    have hlo : 1 ≤ E.ph := HLO.out
    have HTK := Lib.hid (fun (x : Sg) => takeB_in (mo := mo) (S := ⟨ids, dir, L.map (·.2) ++ [E]⟩) (x := x) (p := (r, c)) HIN.out)
    have HAT := Lib.hid (show atB ⟨ids, dir, L.map (·.2) ++ [E]⟩ (r, c) = q from by rw [atB_snoc]; exact HQ.out)
    have hWs : w.heap.size + 1 < W3.heap.size := lt_of_cell t4
    rcases kind_cases k with rfl | rfl | rfl | rfl | rfl | rfl | ⟨n1, n2, n3, n4, n5, n6⟩
    · have HE := Lib.hid (show takeB mo ⟨ids, dir, L.map (·.2) ++ [E]⟩ ⟨1, code, has, text⟩ (r, c) = startB mo ⟨ids, dir, L.map (·.2) ++ [E]⟩ 1 q from by rw [HTK.out, HAT.out]; simp)
      have HS := Lib.hid (HSTART.out 1 (by decide) (by decide))
      clear hlo
      go_wp2_with (go_at_call 25; refine HS.out.mono ?_; rintro e w3 ⟨rfl, hp3⟩; have HP3 := Lib.hid hp3; clear hp3)
      go_end0
      rw [HE.out]
      exact BlPost.of_below HBW.out ⟨rfl, HP3.out⟩
    · by_cases hop : E.ph ≤ 1
      · have HE := Lib.hid (show takeB mo ⟨ids, dir, L.map (·.2) ++ [E]⟩ ⟨2, code, has, text⟩ (r, c) = ⟨ids, dir, L.map (·.2) ++ [reachE E 2 q]⟩ from by rw [HTK.out, HAT.out]; simp [openB_snoc, setLast_snoc, hop, hlo])
        have HO := Lib.hid (HOP.out 1 true W3 HE3.out (by simpa using hop))
        have HS := Lib.hid (HRE.out 2 (by decide))
        have HOK2 := Lib.hid (reachE_ok (p := q) HOK.out.four (show E.ph ≤ 2 by omega) (by decide) (by decide))
        clear hlo hop
        go_wp2_with (first | (go_at_call 26; refine HO.out.mono ?_; rintro e w4 ⟨rfl, hw4⟩; subst hw4) | (go_at_call 27; refine HS.out.mono ?_; rintro e w3 ⟨rfl, hp3, hm3⟩; have HP3 := Lib.hid hp3; have HM3 := Lib.hid hm3; clear hp3 hm3))
        go_end0
        rw [HE.out]
        exact BlPost.of_below HBW.out (BlPost.ent HO3.out HP3.out HOK2.out HM3.out ⟨rfl, rfl, rfl⟩)
      · have HE := Lib.hid (show takeB mo ⟨ids, dir, L.map (·.2) ++ [E]⟩ ⟨2, code, has, text⟩ (r, c) = startB mo ⟨ids, dir, L.map (·.2) ++ [E]⟩ 2 q from by rw [HTK.out, HAT.out]; simp [openB_snoc, hop])
        have HO := Lib.hid (HOP.out 1 false W3 HE3.out (by simpa using hop))
        have HS := Lib.hid (HSTART.out 2 (by decide) (by decide))
        clear hlo hop
        go_wp2_with (first | (go_at_call 26; refine HO.out.mono ?_; rintro e w4 ⟨rfl, hw4⟩; subst hw4) | (go_at_call 25; refine HS.out.mono ?_; rintro e w3 ⟨rfl, hp3⟩; have HP3 := Lib.hid hp3; clear hp3))
        go_end0
        rw [HE.out]
        exact BlPost.of_below HBW.out ⟨rfl, HP3.out⟩
    · by_cases hop : E.ph ≤ 2
      · have HE := Lib.hid (show takeB mo ⟨ids, dir, L.map (·.2) ++ [E]⟩ ⟨3, code, has, text⟩ (r, c) = ⟨ids, dir, L.map (·.2) ++ [reachE E 3 q]⟩ from by rw [HTK.out, HAT.out]; simp [openB_snoc, setLast_snoc, hop, hlo])
        have HO := Lib.hid (HOP.out 2 true W3 HE3.out (by simpa using hop))
        have HS := Lib.hid (HRE.out 3 (by decide))
        have HOK2 := Lib.hid (reachE_ok (p := q) HOK.out.four (show E.ph ≤ 3 by omega) (by decide) (by decide))
        clear hlo hop
        go_wp2_with (first | (go_at_call 26; refine HO.out.mono ?_; rintro e w4 ⟨rfl, hw4⟩; subst hw4) | (go_at_call 27; refine HS.out.mono ?_; rintro e w3 ⟨rfl, hp3, hm3⟩; have HP3 := Lib.hid hp3; have HM3 := Lib.hid hm3; clear hp3 hm3))
        go_end0
        rw [HE.out]
        exact BlPost.of_below HBW.out (BlPost.ent HO3.out HP3.out HOK2.out HM3.out ⟨rfl, rfl, rfl⟩)
      · have HE := Lib.hid (show takeB mo ⟨ids, dir, L.map (·.2) ++ [E]⟩ ⟨3, code, has, text⟩ (r, c) = startB mo ⟨ids, dir, L.map (·.2) ++ [E]⟩ 3 q from by rw [HTK.out, HAT.out]; simp [openB_snoc, hop])
        have HO := Lib.hid (HOP.out 2 false W3 HE3.out (by simpa using hop))
        have HS := Lib.hid (HSTART.out 3 (by decide) (by decide))
        clear hlo hop
        go_wp2_with (first | (go_at_call 26; refine HO.out.mono ?_; rintro e w4 ⟨rfl, hw4⟩; subst hw4) | (go_at_call 25; refine HS.out.mono ?_; rintro e w3 ⟨rfl, hp3⟩; have HP3 := Lib.hid hp3; clear hp3))
        go_end0
        rw [HE.out]
        exact BlPost.of_below HBW.out ⟨rfl, HP3.out⟩
    · by_cases hop : E.ph ≤ 3
      · have HE := Lib.hid (show takeB mo ⟨ids, dir, L.map (·.2) ++ [E]⟩ ⟨4, code, has, text⟩ (r, c) = ⟨ids, dir, L.map (·.2) ++ [{ reachE E 4 q with code := code, has := has }]⟩ from by rw [HTK.out, HAT.out]; simp [openB_snoc, setLast_snoc, hop, hlo])
        have HO := Lib.hid (HOP.out 3 true W3 HE3.out (by simpa using hop))
        have HS := Lib.hid (HRE.out 4 (by decide))
        have HOK2 := Lib.hid (reachE_ok (p := q) HOK.out.four (show E.ph ≤ 4 by omega) (by decide) (by decide))
        clear hlo hop
        go_upto_region 17 with (first | (go_at_call 26; refine HO.out.mono ?_; rintro e w4 ⟨rfl, hw4⟩; subst hw4) | (go_at_call 27; refine HS.out.mono ?_; rintro e w3 ⟨rfl, hp3, hm3⟩; have HP3 := Lib.hid hp3; have HM3 := Lib.hid hm3; clear hp3 hm3))
        have HTW := Lib.hid (HT4.out.mod HM3.out (by simp; omega) (by simp; omega))
        have s1 := HTW.out.code
        have s2 := HTW.out.has
        have e0 := whole_at HP3.out 0 (.int .i64 (reachE E 4 q).code) rfl
        have e1 := whole_at HP3.out 1 (.bool (reachE E 4 q).has) rfl
        have HE01 := Lib.hid (And.intro e0 e1)
        have hbs := HLT0.out b (mem_foot_last _ _ _ _ _)
        clear e0 e1
        refine Go.RL.wp_region_l 13 (fun w' => w'.cell? ⟨w.heap.size, 1, none⟩ = some (.int .i64 code) ∧ w'.cell? ⟨w.heap.size, 2, none⟩ = some (.bool has)) (fun w' => Below w3.heap.size w3 w') (by kernel_rfl) (by kernel_rfl) ⟨s1, s2⟩ ((Below.refl _ _).drew) ?_
        refine Go.RL.AtL.take 0 (o := ⟨_, _, _, _, _, _⟩) (v := ?_) (by kernel_rfl) rfl (by simp) (by kernel_rfl) (by kernel_rfl) ?_ ?_; rotate_left
        · (refine Go.RL.Pure.val (by rfl) ?_; intro w' hI; obtain ⟨_, _⟩ := hI; go_simp; first | done | with_reducible rfl)
        simp only [Act.put, List.setIfInBounds_toArray, List.set_cons_zero, List.set_cons_succ]
        refine Go.RL.AtL.take 1 (o := ⟨_, _, _, _, _, _⟩) (v := ?_) (by kernel_rfl) rfl (by simp) (by kernel_rfl) (by kernel_rfl) ?_ ?_; rotate_left
        · (refine Go.RL.Pure.val (by rfl) ?_; intro w' hI; obtain ⟨_, _⟩ := hI; go_simp; first | done | with_reducible rfl)
        simp only [Act.put, List.setIfInBounds_toArray, List.set_cons_zero, List.set_cons_succ]
        refine Go.RL.AtL.take 2 (o := ⟨_, _, _, _, _, _⟩) (v := ?_) (by kernel_rfl) rfl (by simp) (by kernel_rfl) (by kernel_rfl) ?_ ?_; rotate_left
        · (refine Go.RL.Pure.val (by rfl) ?_; intro w' hI; obtain ⟨_, _⟩ := hI; go_simp; first | done | with_reducible rfl)
        simp only [Act.put, List.setIfInBounds_toArray, List.set_cons_zero, List.set_cons_succ]
        refine Go.RL.AtL.take 3 (o := ⟨_, _, _, _, _, _⟩) (v := ?_) (by kernel_rfl) rfl (by simp) (by kernel_rfl) (by kernel_rfl) ?_ ?_; rotate_left
        · (refine Go.RL.Pure.val (by rfl) ?_; intro w' hI; obtain ⟨_, _⟩ := hI; go_simp; first | done | with_reducible rfl)
        simp only [Act.put, List.setIfInBounds_toArray, List.set_cons_zero, List.set_cons_succ]
        refine Go.RL.AtL.take 4 (o := ⟨_, _, _, _, _, _⟩) (v := ?_) (by kernel_rfl) rfl (by simp) (by kernel_rfl) (by kernel_rfl) ?_ ?_; rotate_left
        · (refine Go.RL.Pure.val (by rfl) ?_; intro w' hI; obtain ⟨_, _⟩ := hI; go_simp; first | done | with_reducible rfl)
        simp only [Act.put, List.setIfInBounds_toArray, List.set_cons_zero, List.set_cons_succ]
        refine Go.RL.AtL.take 5 (o := ⟨_, _, _, _, _, _⟩) (v := ?_) (by kernel_rfl) rfl (by simp) (by kernel_rfl) (by kernel_rfl) ?_ ?_; rotate_left
        · (refine Go.RL.Pure.val (by rfl) ?_; intro w' hI; obtain ⟨_, _⟩ := hI; go_simp; first | done | with_reducible rfl)
        simp only [Act.put, List.setIfInBounds_toArray, List.set_cons_zero, List.set_cons_succ]
        refine Go.RL.AtL.take 6 (o := ⟨_, _, _, _, _, _⟩) (v := ?_) (by kernel_rfl) rfl (by simp) (by kernel_rfl) (by kernel_rfl) ?_ ?_; rotate_left
        · (refine Go.RL.Pure.val (by rfl) ?_; intro w' hI; obtain ⟨_, _⟩ := hI; go_simp; first | done | with_reducible rfl)
        simp only [Act.put, List.setIfInBounds_toArray, List.set_cons_zero, List.set_cons_succ]
        refine Go.RL.AtL.take 7 (o := ⟨_, _, _, _, _, _⟩) (v := ?_) (by kernel_rfl) rfl (by simp) (by kernel_rfl) (by kernel_rfl) ?_ ?_; rotate_left
        · (refine Go.RL.Pure.val (by rfl) ?_; intro w' hI; obtain ⟨_, _⟩ := hI; go_simp; first | done | with_reducible rfl)
        simp only [Act.put, List.setIfInBounds_toArray, List.set_cons_zero, List.set_cons_succ]
        refine Go.RL.AtL.take 8 (o := ⟨_, _, _, _, _, _⟩) (v := ?_) (by kernel_rfl) rfl (by simp) (by kernel_rfl) (by kernel_rfl) ?_ ?_; rotate_left
        · (refine Go.RL.Pure.val (by rfl) ?_; intro w' hI; obtain ⟨_, _⟩ := hI; go_simp; first | done | with_reducible rfl)
        simp only [Act.put, List.setIfInBounds_toArray, List.set_cons_zero, List.set_cons_succ]
        refine Go.RL.AtL.one 9 (o := ⟨_, _, _, _, _, _⟩) (fun _ => True) (fun _ w' => ∃ wx, Below w3.heap.size w3 wx ∧ w' = wx.setCell ⟨b, 0, none⟩ (.int .i64 code)) (by simp) (by kernel_rfl) rfl (Go.RL.StabL.unit _ _ (by rfl) (fun w' hI hS => ?_)) ?_
        · obtain ⟨k0, k0f⟩ := hold hS HE01.out.1
          obtain ⟨i0, i1⟩ := hI
          refine ⟨w'.setCell ⟨b, 0, none⟩ (.int .i64 code), by go_simp, trivial, ⟨?_, ?_⟩, w', hS, rfl⟩
          · exact (World.cell?_setCell_other _ _ _ _ (fun e => by injection e with e1 e2; omega)).trans i0
          · exact (World.cell?_setCell_other _ _ _ _ (fun e => by injection e with e1 e2; omega)).trans i1
        rintro v9 -
        simp only [Act.put]
        refine Go.RL.AtL.take 10 (o := ⟨_, _, _, _, _, _⟩) (v := ?_) (by kernel_rfl) rfl (by simp) (by kernel_rfl) (by kernel_rfl) ?_ ?_; rotate_left
        · (refine Go.RL.Pure.val (by rfl) ?_; intro w' hI; obtain ⟨_, _⟩ := hI; go_simp; first | done | with_reducible rfl)
        simp only [Act.put, List.setIfInBounds_toArray, List.set_cons_zero, List.set_cons_succ]
        refine Go.RL.AtL.take 11 (o := ⟨_, _, _, _, _, _⟩) (v := ?_) (by kernel_rfl) rfl (by simp) (by kernel_rfl) (by kernel_rfl) ?_ ?_; rotate_left
        · (refine Go.RL.Pure.val (by rfl) ?_; intro w' hI; obtain ⟨_, _⟩ := hI; go_simp; first | done | with_reducible rfl)
        simp only [Act.put, List.setIfInBounds_toArray, List.set_cons_zero, List.set_cons_succ]
        refine Go.RL.AtL.take 12 (o := ⟨_, _, _, _, _, _⟩) (v := ?_) (by kernel_rfl) rfl (by simp) (by kernel_rfl) (by kernel_rfl) ?_ ?_; rotate_left
        · (refine Go.RL.Pure.val (by rfl) ?_; intro w' hI; obtain ⟨_, _⟩ := hI; go_simp; first | done | with_reducible rfl)
        simp only [Act.put, List.setIfInBounds_toArray, List.set_cons_zero, List.set_cons_succ]
        refine Go.RL.AtL.done (by kernel_rfl) (fun w' hI hS => ?_)
        obtain ⟨wx, hbx, rfl⟩ := hS
        obtain ⟨k1, k1f⟩ := hold hbx HE01.out.2
        have HBX := Lib.hid hbx
        have HEN := Lib.hid (whole_set (whole_set (HP3.out.below hbx) 0 (.int .i64 code) rfl) 1 (.bool has) (ent_set01 (reachE E 4 q) code has))
        clear hI s1 s2 hbx
        go_wp2
        go_end0
        rw [HE.out]
        exact BlPost.of_below HBW.out (BlPost.ent HO3.out HEN.out ⟨HOK2.out.four, HOK2.out.lo, HOK2.out.hi⟩ (((HM3.out.then_below HBX.out).setCell (.inl (by simp)) _).setCell (.inl (by simp)) _) ⟨rfl, rfl, rfl⟩)
      · have HE := Lib.hid (show takeB mo ⟨ids, dir, L.map (·.2) ++ [E]⟩ ⟨4, code, has, text⟩ (r, c) = ⟨ids, dir, L.map (·.2) ++ [E]⟩ from by rw [HTK.out, HAT.out]; simp [openB_snoc, hop])
        have HO := Lib.hid (HOP.out 3 false W3 HE3.out (by simpa using hop))
        clear hlo hop
        go_wp2_with (go_at_call 26; refine HO.out.mono ?_; rintro e w4 ⟨rfl, hw4⟩; subst hw4)
        go_end0
        rw [HE.out]
        exact BlPost.of_below HBW.out (BlPost.same HO3.out (Below.refl _ _) ⟨rfl, rfl, by simp⟩)
    · by_cases hop : E.ph ≤ 3
      · have HE := Lib.hid (show takeB mo ⟨ids, dir, L.map (·.2) ++ [E]⟩ ⟨5, code, has, text⟩ (r, c) = ⟨ids, dir, L.map (·.2) ++ [{ E with line := text }]⟩ from by rw [HTK.out, HAT.out]; simp [openB_snoc, setLast_snoc, hop, hlo])
        have HO := Lib.hid (HOP.out 3 true W3 HE3.out (by simpa using hop))
        have HOK2 := Lib.hid (show EntOk { E with line := text } from ⟨HOK.out.four, HOK.out.lo, HOK.out.hi⟩)
        have HEN := Lib.hid (whole_set HE3.out 4 (.string text) (ent_set4 E text))
        obtain ⟨e4, e4f⟩ := whole_at HE3.out 4 (.string E.line) rfl
        clear hlo hop
        go_wp2_with (go_at_call 26; refine HO.out.mono ?_; rintro e w4 ⟨rfl, hw4⟩; subst hw4)
        go_end0
        rw [HE.out]
        exact BlPost.of_below HBW.out (BlPost.ent HO3.out HEN.out HOK2.out ((Mod.refl _ _).setCell (.inl (by simp)) _) ⟨rfl, rfl, rfl⟩)
      · have HE := Lib.hid (show takeB mo ⟨ids, dir, L.map (·.2) ++ [E]⟩ ⟨5, code, has, text⟩ (r, c) = ⟨ids, dir, L.map (·.2) ++ [E]⟩ from by rw [HTK.out, HAT.out]; simp [openB_snoc, hop])
        have HO := Lib.hid (HOP.out 3 false W3 HE3.out (by simpa using hop))
        clear hlo hop
        go_wp2_with (go_at_call 26; refine HO.out.mono ?_; rintro e w4 ⟨rfl, hw4⟩; subst hw4)
        go_end0
        rw [HE.out]
        exact BlPost.of_below HBW.out (BlPost.same HO3.out (Below.refl _ _) ⟨rfl, rfl, by simp⟩)
    · obtain ⟨d0, d0f⟩ := HO3.out.dir
      obtain ⟨k1, k2⟩ := HO3.out.setDir text
      have HK1 := Lib.hid k1
      have HK2 := Lib.hid k2
      have HE5 := Lib.hid (HE3.out.mod k2 (by simp; have := HPB.out; omega))
      obtain ⟨e4, e4f⟩ := whole_at HE5.out 3 (.string E.dir) rfl
      have hpne : p ≠ b := by have := HPB.out; omega
      have HPS := Lib.hid (show p ≠ w.heap.size ∧ p ≠ w.heap.size + 1 from by have := HLT0.out p (by simp [foot]); omega)
      have hps := HPS.out.1
      clear k1 k2
      by_cases hop : E.ph ≤ 2
      · have HE := Lib.hid (show takeB mo ⟨ids, dir, L.map (·.2) ++ [E]⟩ ⟨6, code, has, text⟩ (r, c) = ⟨ids, text, L.map (·.2) ++ [{ E with dir := text }]⟩ from by rw [HTK.out, HAT.out]; simp [openB_snoc, setLast_snoc, hop, hlo])
        have HO := Lib.hid (HOP.out 2 true _ HE5.out (by simpa using hop))
        have HOK2 := Lib.hid (show EntOk { E with dir := text } from ⟨HOK.out.four, HOK.out.lo, HOK.out.hi⟩)
        have HEN := Lib.hid (whole_set HE5.out 3 (.string text) (ent_set3 E text))
        clear hlo hop
        go_wp2_with (go_at_call 26; refine HO.out.mono ?_; rintro e w4 ⟨rfl, hw4⟩; subst hw4)
        go_end0
        rw [HE.out]
        obtain ⟨-, v', L', g1, g2, g3, g4⟩ := BlPost.ent HK1.out HEN.out HOK2.out ((Mod.refl _ _).setCell (.inl (by simp)) _) (S := ⟨ids, text, L.map (·.2) ++ [{ E with dir := text }]⟩) ⟨rfl, rfl, rfl⟩
        refine BlPost.of_below HBW.out ⟨rfl, v', L', g1, g2, (HK2.out.mono (fun g hg => by rw [List.mem_singleton.1 hg]; simp [foot])).trans g3 (fun g hg => .inl hg), fun g hg => ?_⟩
        rcases g4 g hg with h | h
        · exact .inl h
        · exact .inr (Nat.le_trans HK2.out.size h)
      · have HE := Lib.hid (show takeB mo ⟨ids, dir, L.map (·.2) ++ [E]⟩ ⟨6, code, has, text⟩ (r, c) = ⟨ids, text, L.map (·.2) ++ [E]⟩ from by rw [HTK.out, HAT.out]; simp [openB_snoc, hop])
        have HO := Lib.hid (HOP.out 2 false _ HE5.out (by simpa using hop))
        clear hlo hop
        go_wp2_with (go_at_call 26; refine HO.out.mono ?_; rintro e w4 ⟨rfl, hw4⟩; subst hw4)
        go_end0
        rw [HE.out]
        exact BlPost.of_below HBW.out ⟨rfl, v, _, HK1.out, by simp, HK2.out.mono (fun g hg => by rw [List.mem_singleton.1 hg]; simp [foot]), fun g hg => .inl hg⟩
    · have HE := Lib.hid (show takeB mo ⟨ids, dir, L.map (·.2) ++ [E]⟩ ⟨k, code, has, text⟩ (r, c) = ⟨ids, dir, L.map (·.2) ++ [E]⟩ from by rw [HTK.out]; simp at n1 n2 n3 n4 n5 n6; simp [n1, n2, n3, n4, n5, n6])
      clear hlo
      go_wp2_with fail
      go_end0
      rw [HE.out]
      exact BlPost.of_below HBW.out (BlPost.same HO3.out (Below.refl _ _) ⟨rfl, rfl, by simp⟩)
end Go.Proofs.Ytgfaincejebogaa
