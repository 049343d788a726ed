/- The program's blocks: Take. Conditions: as stated. -/
import Derived.Test.YtgfaincejebogaaBlE
namespace Go.Proofs.Ytgfaincejebogaa
open Go.RowKit

theorem takeB_in {mo : Nat} {S : Bs} {x : Sg} {p : P2} (h : (inB p.1 && inB p.2) = true) : takeB mo S x p =
    (if x.k = 1 then startB mo S 1 (atB S p)
    else if x.k = 2 then (if openB S 1 1 then { S with es := setLast S.es fun E => reachE E 2 (atB S p) } else startB mo S 2 (atB S p))
    else if x.k = 3 then (if openB S 1 2 then { S with es := setLast S.es fun E => reachE E 3 (atB S p) } else startB mo S 3 (atB S p))
    else if x.k = 4 then (if openB S 1 3 then { S with es := setLast S.es fun E => { reachE E 4 (atB S p) with code := x.code, has := x.has } } else S)
    else if x.k = 5 then (if openB S 1 3 then { S with es := setLast S.es fun E => { E with line := x.text } } else S)
    else if x.k = 6 then (if openB S 1 2 then { S with dir := x.text, es := setLast S.es fun E => { E with dir := x.text } } else { S with dir := x.text })
    else S) := by
  unfold takeB
  rw [if_pos h]
theorem takeB_out {mo : Nat} {S : Bs} {x : Sg} {p : P2} (h : (inB p.1 && inB p.2) = false) : takeB mo S x p = S := by
  unfold takeB
  rw [if_neg (by rw [h]; simp)]
theorem kind_cases (k : Int) : k = 1 ∨ k = 2 ∨ k = 3 ∨ k = 4 ∨ k = 5 ∨ k = 6 ∨ ((k == 1) = false ∧ (k == 2) = false ∧ (k == 3) = false ∧ (k == 4) = false ∧ (k == 5) = false ∧ (k == 6) = false) := by
  simp only [beq_eq_false_iff_ne]
  omega
set_option maxRecDepth 100000 in
set_option maxHeartbeats 3200000 in
/-- With no block. -/
theorem take_none {p : Nat} {v : Value} {mo : Nat} {ids : Int} {dir : ByteArray} (x : Sg) (r c : Int) (w : World) (h : BlO w p v [] mo ids dir) (hmo : 1 ≤ mo) (hi0 : 0 ≤ ids) (hi1 : ids ≤ 1000000) :
    Calls Try.prog 15 #[.pointer (some ⟨p, 0, none⟩), .agg #[.int .i64 x.k, .int .i64 x.code, .bool x.has, .string x.text], .agg #[.int .i64 r, .int .i64 c]] w (BlPost w p v [] mo (takeB mo ⟨ids, dir, []⟩ x (r, c))) := by
  have HR := Lib.hid (fun w => blright_any r c w)
  obtain ⟨W0, hW0⟩ : ∃ W0, W0 = (w.alloc (.cells #[.int .i64 x.k, .int .i64 x.code, .bool x.has, .string x.text] 33)).alloc (.cells #[.int .i64 r, .int .i64 c] 24) := ⟨_, rfl⟩
  have hb0 : Below w.heap.size w W0 := by rw [hW0]; exact below_allocs (below_allocs (Below.refl _ _) _) _
  have ht0 : TkSt W0 w.heap.size x (r, c) := by
    rw [hW0]
    exact ⟨(at_ (hp_old (hp_new rfl)) 0 _ rfl).1, (at_ (hp_old (hp_new rfl)) 1 _ rfl).1, (at_ (hp_old (hp_new rfl)) 2 _ rfl).1, (at_ (hp_old (hp_new rfl)) 3 _ rfl).1, (at_ (hp_new (by simp)) 0 _ rfl).1, (at_ (hp_new (by simp)) 1 _ rfl).1⟩
  have hO0 := h.below hb0
  have HW0 := Lib.hid hW0
  cases hin : (inB r && inB c) with
  | false =>
    rw [takeB_out (p := (r, c)) hin]
    rw [hin] at HR
    have HF : Hid (∀ w1, Below W0.heap.size W0 w1 → BlPost w p v [] mo ⟨ids, dir, []⟩ (.returned (.tuple #[])) w1) := Lib.hid (fun w1 hb => BlPost.same h (below_tail hb0 hb) ⟨rfl, rfl, rfl⟩)
    obtain ⟨q0, q1, q2, q3, q4, q5⟩ := ht0
    clear h hO0 hin hb0
    go_enter Try.func15, Try.ntmps15
    go_wp2_with (go_at_call 24; rw [← HW0.out]; refine (HR.out _).mono ?_; rintro e w1 ⟨rfl, hb1⟩)
    go_end0
    exact HF.out _ hb1
  | true =>
    rw [hin] at HR
    have HIN := Lib.hid hin
    have HNW : Hid (∀ w1, Below W0.heap.size W0 w1 → Calls Try.prog 21 #[.pointer (some ⟨p, 0, none⟩)] w1 fun e w' => e = .returned (.pointer none) ∧ Below w1.heap.size w1 w') := Lib.hid (fun w1 hb => newest_any w1 (hO0.below hb) (by simp))
    have HB0 := Lib.hid hb0
    have HT0 := Lib.hid ht0
    have HO0 := Lib.hid hO0
    obtain ⟨q0, q1, q2, q3, q4, q5⟩ := ht0
    clear h hO0 hin hb0
    go_enter Try.func15, Try.ntmps15
    go_upto_region 5 with (first
      | (go_at_call 24; rw [← HW0.out]; refine (HR.out _).mono ?_; rintro e w1 ⟨rfl, hb1⟩)
      | (go_at_call 21; refine (HNW.out _ hb1).mono ?_; rintro e w2 ⟨rfl, hb2⟩; have hb12 := below_tail hb1 hb2; clear hb2))
    have HT2 := Lib.hid (HT0.out.mod (Mod.of_below (X := []) hb12) (by simp) (by simp))
    have HO2 := Lib.hid (HO0.out.below hb12)
    have HBW := Lib.hid (below_tail HB0.out hb12)
    obtain ⟨t0, t1, t2, t3, t4, t5⟩ := HT2.out
    obtain ⟨k, code, has, text⟩ := x
    simp only at t0 t1 t2 t3 t4 t5
    clear q0 q1 q2 q3 q4 q5 hb12 hb1
    have HSTART : Hid (∀ phase : Nat, 1 ≤ phase → phase ≤ 4 → Calls Try.prog 25 #[.pointer (some ⟨p, 0, none⟩), .int .i64 phase, .agg #[.int .i64 r, .int .i64 c]] w2 (BlPost w2 p v [] mo (startB mo ⟨ids, dir, []⟩ phase (r, c)))) := Lib.hid (fun phase a1 a2 => start_any phase r c w2 HO2.out a1 a2 hmo (by simp) hi0 hi1)
    rcases kind_cases k with rfl | rfl | rfl | rfl | rfl | rfl | ⟨n1, n2, n3, n4, n5, n6⟩
    · have HE := Lib.hid (show takeB mo ⟨ids, dir, []⟩ ⟨1, code, has, text⟩ (r, c) = startB mo ⟨ids, dir, []⟩ 1 (r, c) from by rw [takeB_in (p := (r, c)) HIN.out]; simp [atB])
      have HS := Lib.hid (HSTART.out 1 (by decide) (by decide))
      go_wp2_with (go_at_call 25; refine HS.out.mono ?_; rintro e w3 ⟨rfl, hp3⟩; have HP3 := Lib.hid hp3; clear hp3)
      go_end0
      rw [HE.out]
      exact BlPost.of_below HBW.out ⟨rfl, HP3.out⟩
    · have HE := Lib.hid (show takeB mo ⟨ids, dir, []⟩ ⟨2, code, has, text⟩ (r, c) = startB mo ⟨ids, dir, []⟩ 2 (r, c) from by rw [takeB_in (p := (r, c)) HIN.out]; simp [atB, openB])
      have HS := Lib.hid (HSTART.out 2 (by decide) (by decide))
      go_wp2_with (first | (go_at_call 26; refine (open_nil _ _ _).mono ?_; rintro e w4 ⟨rfl, hw4⟩; subst hw4) | (go_at_call 25; refine HS.out.mono ?_; rintro e w3 ⟨rfl, hp3⟩; have HP3 := Lib.hid hp3; clear hp3))
      go_end0
      rw [HE.out]
      exact BlPost.of_below HBW.out ⟨rfl, HP3.out⟩
    · have HE := Lib.hid (show takeB mo ⟨ids, dir, []⟩ ⟨3, code, has, text⟩ (r, c) = startB mo ⟨ids, dir, []⟩ 3 (r, c) from by rw [takeB_in (p := (r, c)) HIN.out]; simp [atB, openB])
      have HS := Lib.hid (HSTART.out 3 (by decide) (by decide))
      go_wp2_with (first | (go_at_call 26; refine (open_nil _ _ _).mono ?_; rintro e w4 ⟨rfl, hw4⟩; subst hw4) | (go_at_call 25; refine HS.out.mono ?_; rintro e w3 ⟨rfl, hp3⟩; have HP3 := Lib.hid hp3; clear hp3))
      go_end0
      rw [HE.out]
      exact BlPost.of_below HBW.out ⟨rfl, HP3.out⟩
    · have HE := Lib.hid (show takeB mo ⟨ids, dir, []⟩ ⟨4, code, has, text⟩ (r, c) = ⟨ids, dir, []⟩ from by rw [takeB_in (p := (r, c)) HIN.out]; simp [openB])
      go_wp2_with (go_at_call 26; refine (open_nil _ _ _).mono ?_; rintro e w4 ⟨rfl, hw4⟩; subst hw4)
      go_end0
      rw [HE.out]
      exact BlPost.of_below HBW.out (BlPost.same HO2.out (Below.refl _ _) ⟨rfl, rfl, rfl⟩)
    · have HE := Lib.hid (show takeB mo ⟨ids, dir, []⟩ ⟨5, code, has, text⟩ (r, c) = ⟨ids, dir, []⟩ from by rw [takeB_in (p := (r, c)) HIN.out]; simp [openB])
      go_wp2_with (go_at_call 26; refine (open_nil _ _ _).mono ?_; rintro e w4 ⟨rfl, hw4⟩; subst hw4)
      go_end0
      rw [HE.out]
      exact BlPost.of_below HBW.out (BlPost.same HO2.out (Below.refl _ _) ⟨rfl, rfl, rfl⟩)
    · have HE := Lib.hid (show takeB mo ⟨ids, dir, []⟩ ⟨6, code, has, text⟩ (r, c) = ⟨ids, text, []⟩ from by rw [takeB_in (p := (r, c)) HIN.out]; simp [openB])
      obtain ⟨d0, d0f⟩ := HO2.out.dir
      go_wp2_with (go_at_call 26; refine (open_nil _ _ _).mono ?_; rintro e w4 ⟨rfl, hw4⟩; subst hw4)
      go_end0
      rw [HE.out]
      obtain ⟨k1, k2⟩ := HO2.out.setDir text
      exact BlPost.of_below HBW.out ⟨rfl, v, [], k1, rfl, k2.mono (fun g hg => by rw [List.mem_singleton.1 hg]; simp [foot]), fun g hg => .inl hg⟩
    · have HE := Lib.hid (show takeB mo ⟨ids, dir, []⟩ ⟨k, code, has, text⟩ (r, c) = ⟨ids, dir, []⟩ from by rw [takeB_in (p := (r, c)) HIN.out]; simp at n1 n2 n3 n4 n5 n6; simp [n1, n2, n3, n4, n5, n6])
      go_wp2_with fail
      go_end0
      rw [HE.out]
      exact BlPost.of_below HBW.out (BlPost.same HO2.out (Below.refl _ _) ⟨rfl, rfl, rfl⟩)
end Go.Proofs.Ytgfaincejebogaa
