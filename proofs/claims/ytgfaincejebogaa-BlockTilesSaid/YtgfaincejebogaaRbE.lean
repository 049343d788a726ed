/- The document's blocks: what holds of marks and facts; Take with no marks. Conditions: as stated. -/
import Derived.Test.YtgfaincejebogaaRbD
namespace Go.Proofs.Ytgfaincejebogaa
open Go.RowKit

structure RInv (M : List Mk) (F : List Fc) (ids : Int) : Prop where
  idin : ∀ m ∈ M, ∃ f ∈ F, f.id = m.id
  last : F ≠ [] → ∃ f, F.getLast? = some f ∧ f.id = ids
  phs : ∀ m ∈ M, 1 ≤ m.ph ∧ m.ph ≤ 4
theorem mem_addMk {M : List Mk} {ids k0 : Int} {p : P2} {m : Mk} : ∀ {n : Nat}, m ∈ addMk M ids p k0 n → m ∈ M ∨ (m.id = ids ∧ k0 ≤ m.ph ∧ m.ph < k0 + n)
  | 0, h => .inl h
  | n + 1, h => by
    rw [addMk] at h
    rcases List.mem_append.1 h with h | h
    · rcases mem_addMk h with h | ⟨h1, h2, h3⟩
      · exact .inl h
      · exact .inr ⟨h1, h2, by omega⟩
    · rw [List.mem_singleton.1 h]
      exact .inr ⟨rfl, by simp only; omega, by simp only; omega⟩
theorem RInv.reach {M : List Mk} {F : List Fc} {ids : Int} (h : RInv M F ids) (hF : F ≠ []) (p : P2) (lp n : Nat) (hn : n ≤ 4 - lp) (hl : lp ≤ 4) : RInv (addMk M ids p ((lp : Int) + 1) n) F ids := by
  obtain ⟨f, hf, hi⟩ := h.last hF
  refine ⟨fun m hm => ?_, h.last, fun m hm => ?_⟩
  · rcases mem_addMk hm with hm | ⟨h1, -, -⟩
    · exact h.idin m hm
    · exact ⟨f, List.mem_of_getLast? hf, by rw [h1, hi]⟩
  · rcases mem_addMk hm with hm | ⟨-, h2, h3⟩
    · exact h.phs m hm
    · omega
theorem RInv.start {M M' : List Mk} {F F' : List Fc} {ids : Int} {dir : ByteArray} {mo phase : Nat} {p : P2} (h : RInv M F ids) (hph : phase ≤ 4) (_hmo : 1 ≤ mo) (hl : F.length ≤ mo)
    (hs : (F.length + 1 ≤ mo ∧ M' = addMk M (ids + 1) p 1 phase ∧ F' = F ++ [newF (ids + 1) dir]) ∨ (mo < F.length + 1 ∧ ∃ f F1, F ++ [newF (ids + 1) dir] = f :: F1 ∧ M' = (addMk M (ids + 1) p 1 phase).filter (otherId f.id) ∧ F' = F1)) :
    RInv M' F' (ids + 1) ∧ M'.length ≤ M.length + phase ∧ F'.length ≤ mo := by
  have h0 : RInv (addMk M (ids + 1) p 1 phase) (F ++ [newF (ids + 1) dir]) (ids + 1) := by
    refine ⟨fun m hm => ?_, fun _ => ⟨newF (ids + 1) dir, by simp, rfl⟩, fun m hm => ?_⟩
    · rcases mem_addMk hm with hm | ⟨h1, -, -⟩
      · obtain ⟨f, hf, e⟩ := h.idin m hm
        exact ⟨f, by simp [hf], e⟩
      · exact ⟨newF (ids + 1) dir, by simp, by rw [h1]; rfl⟩
    · rcases mem_addMk hm with hm | ⟨-, h2, h3⟩
      · exact h.phs m hm
      · omega
  rcases hs with ⟨h1, rfl, rfl⟩ | ⟨h1, f, F1, he, rfl, rfl⟩
  · exact ⟨h0, by rw [addMk_len]; exact Nat.le_refl _, by simpa using h1⟩
  · rw [he] at h0
    have hl2 : F'.length = F.length := by have := congrArg List.length he; simp at this; omega
    refine ⟨⟨fun m hm => ?_, fun hne => ?_, fun m hm => h0.phs m (List.mem_filter.1 hm).1⟩, ?_, by omega⟩
    · obtain ⟨hm1, hm2⟩ := List.mem_filter.1 hm
      obtain ⟨g, hg, e⟩ := h0.idin m hm1
      rcases List.mem_cons.1 hg with rfl | hg
      · unfold otherId at hm2
        rw [e] at hm2
        simp at hm2
      · exact ⟨g, hg, e⟩
    · obtain ⟨g, hg, e⟩ := h0.last (by simp)
      refine ⟨g, ?_, e⟩
      match F', hne with
      | a :: l, _ => simpa using hg
    · refine Nat.le_trans (List.length_filter_le _ _) ?_
      rw [addMk_len]; exact Nat.le_refl _
def RkPost (w : World) (q : Nat) (vM vF : Value) (mo N : Nat) (e : Ending) (w' : World) : Prop :=
  ∃ M' F' ids' dir', RbPost w q vM vF M' F' mo ids' dir' e w' ∧ RInv M' F' ids' ∧ M'.length ≤ 4 * N ∧ F'.length ≤ mo ∧ 0 ≤ ids' ∧ ids' ≤ N
theorem RkPost.of_below {w W : World} {q : Nat} {vM vF : Value} {mo N : Nat} {e : Ending} {w' : World} (hb : Below w.heap.size w W) (h : RkPost W q vM vF mo N e w') : RkPost w q vM vF mo N e w' := by
  obtain ⟨M', F', ids', dir', h1, h2⟩ := h
  exact ⟨M', F', ids', dir', RbPost.chain (Mod.of_below hb) (fun g hg => .inl hg) h1, h2⟩
theorem RkPost.start {w : World} {q : Nat} {vM vF : Value} {M : List Mk} {F : List Fc} {mo N : Nat} {ids : Int} {dir : ByteArray} {phase : Nat} {p : P2} {e : Ending} {w' : World} (h : RInv M F ids) (hph : phase ≤ 4) (hmo : 1 ≤ mo) (hl : F.length ≤ mo) (hm : M.length ≤ 4 * N) (hi0 : 0 ≤ ids) (hi : ids ≤ N)
    (hs : StPost w q vM vF M F mo ids dir phase p e w') : RkPost w q vM vF mo (N + 1) e w' := by
  obtain ⟨M', F', h1, h2⟩ := hs
  obtain ⟨k1, k2, k3⟩ := h.start hph hmo hl h2
  exact ⟨M', F', _, _, h1, k1, by omega, k3, by omega, by omega⟩
theorem RkPost.same {w : World} {q : Nat} {vM vF : Value} {M : List Mk} {F : List Fc} {mo N : Nat} {ids : Int} {dir : ByteArray} {w' : World} (ho : RbO w q vM vF M F mo ids dir) (h : RInv M F ids) (hl : F.length ≤ mo) (hm : M.length ≤ 4 * N) (hi0 : 0 ≤ ids) (hi : ids ≤ N) (hb : Below w.heap.size w w') : RkPost w q vM vF mo (N + 1) (.returned (.tuple #[])) w' :=
  ⟨M, F, ids, dir, RbPost.here ho hb, h, by omega, hl, hi0, by omega⟩
theorem RbO.setDir {w : World} {q : Nat} {vM vF : Value} {M : List Mk} {F : List Fc} {most ids : Int} {dir : ByteArray} (h : RbO w q vM vF M F most ids dir) (d : ByteArray) : RbO (w.setCell ⟨q, 4, none⟩ (.string d)) q vM vF M F most ids d ∧ Mod [q] w (w.setCell ⟨q, 4, none⟩ (.string d)) := by
  have other : ∀ i u, i ≠ 4 → HoldAt w q i u → HoldAt (w.setCell ⟨q, 4, none⟩ (.string d)) q i u := fun i u hi hu =>
    ⟨(World.cell?_setCell_other _ _ _ _ (fun e => by injection e with e1 e2; omega)).trans hu.1, by rw [World.frozen?_setCell]; exact hu.2⟩
  exact ⟨⟨(World.cell?_setCell_other _ _ _ _ (fun e => by injection e with e1 e2; omega)).trans h.most, other 1 _ (by decide) h.m, other 2 _ (by decide) h.f, other 3 _ (by decide) h.ids, set_self h.dir, ownsRow_setCell_below h.ownM (Nat.lt_succ_self q) _, ownsRow_setCell_below h.ownF (Nat.lt_succ_self q) _⟩, (Mod.refl _ _).setCell (.inl (by simp)) _⟩
theorem RkPost.ret {w : World} {q : Nat} {vM vF : Value} {mo N : Nat} {e : Ending} {w' : World} (h : RkPost w q vM vF mo N e w') : e = .returned (.tuple #[]) := by
  obtain ⟨_, _, _, _, h1, -⟩ := h
  exact h1.1
set_option maxRecDepth 100000 in
set_option maxHeartbeats 6400000 in
theorem rtake_none {q : Nat} {vM vF : Value} {F : List Fc} {mo N : Nat} {ids : Int} {dir : ByteArray} (x : Sg) (r c : Int) (w : World) (h : RbO w q vM vF [] F mo ids dir) (hi : RInv [] F ids) (hmo : 1 ≤ mo) (hmo2 : mo ≤ 30) (hl : F.length ≤ mo) (hi0 : 0 ≤ ids) (hiN : ids ≤ N) (hN : N ≤ 100) :
    Calls Try.prog 19 #[.pointer (some ⟨q, 0, none⟩), .agg #[.int .i64 x.k, .int .i64 x.code, .bool x.has, .string x.text], .agg #[.int .i64 r, .int .i64 c]] w (RkPost w q vM vF mo (N + 1)) := by
  have HR1 := Lib.hid (fun w => Right10_any r w)
  have HR2 := Lib.hid (fun w => Right10_any c w)
  obtain ⟨W0, hW0⟩ : ∃ W0, W0 = (w.alloc (.cells #[.int .i64 x.k, .int .i64 x.code, .bool x.has, .string x.text] 33)).alloc (.cells #[.int .i64 r, .int .i64 c] 24) := ⟨_, rfl⟩
  have hb0 : Below w.heap.size w W0 := by rw [hW0]; exact below_allocs (below_allocs (Below.refl _ _) _) _
  have ht0 : TkSt W0 w.heap.size x (r, c) := by
    rw [hW0]
    exact ⟨(at_ (hp_old (hp_new rfl)) 0 _ rfl).1, (at_ (hp_old (hp_new rfl)) 1 _ rfl).1, (at_ (hp_old (hp_new rfl)) 2 _ rfl).1, (at_ (hp_old (hp_new rfl)) 3 _ rfl).1, (at_ (hp_new (by simp)) 0 _ rfl).1, (at_ (hp_new (by simp)) 1 _ rfl).1⟩
  have hO0 := h.below hb0
  have HW0 := Lib.hid hW0
  generalize hr1 : inB r = b1 at HR1
  generalize hr2 : inB c = b2 at HR2
  have HSAME : Hid (∀ w1, Below W0.heap.size W0 w1 → RkPost w q vM vF mo (N + 1) (.returned (.tuple #[])) w1) := Lib.hid (fun w1 hb => RkPost.same h hi hl (Nat.zero_le _) hi0 hiN (below_tail hb0 hb))
  have HI := Lib.hid hi
  have HB0 := Lib.hid hb0
  have HO0 := Lib.hid hO0
  have HT0 := Lib.hid ht0
  obtain ⟨q0, q1, q2, q3, q4, q5⟩ := ht0
  obtain ⟨m0, -⟩ := hO0.m
  obtain ⟨A, ca, hv⟩ := row_form hO0.ownM
  have HV := Lib.hid hv
  rw [hv] at m0
  clear h hi hO0 hb0 hr1 hr2 hv
  cases b1 with
  | false =>
    go_enter Try.func19, Try.ntmps19
    go_upto_region 1 with fail
    rw [← HW0.out]
    clear hW0
    go_wp2_with (go_at_call 5; refine (HR1.out _).mono ?_; rintro e w2 ⟨rfl, hw2⟩; subst hw2)
    go_end0
    exact HSAME.out _ (Below.refl _ _)
  | true => cases b2 with
    | false =>
      go_enter Try.func19, Try.ntmps19
      go_upto_region 1 with fail
      rw [← HW0.out]
      clear hW0
      go_wp2_with (first | (go_at_call 5; refine (HR1.out _).mono ?_; rintro e w2 ⟨rfl, hw2⟩; subst hw2) | (go_at_call 5; refine (HR2.out _).mono ?_; rintro e w2 ⟨rfl, hw2⟩; subst hw2))
      go_end0
      exact HSAME.out _ (Below.refl _ _)
    | true =>
      go_enter Try.func19, Try.ntmps19
      go_upto_region 1 with fail
      rw [← HW0.out]
      clear hW0
      go_upto_region 3 with (first | (go_at_call 5; refine (HR1.out _).mono ?_; rintro e w2 ⟨rfl, hw2⟩; subst hw2) | (go_at_call 5; refine (HR2.out _).mono ?_; rintro e w2 ⟨rfl, hw2⟩; subst hw2))
      have e0 : decide ((0 : Int) < 0) = false := by decide
      refine wp_region_u 14 (fun w' => Below W0.heap.size W0 w') (by kernel_rfl) (by kernel_rfl) ?_ ?_
      · exact (Below.refl _ _).drew
      simp only [List.take_succ_cons, List.take_zero, List.drop_succ_cons, List.drop_zero]
      repeat (first
          | (refine seqU_skip (by rfl) ?_; simp only [Act.put, List.setIfInBounds_toArray, List.set_cons_zero, List.set_cons_succ])
          | (refine seqU_val ?_ (by rfl) ?_ ?_; rotate_left; · (intro w' hS; go_simp; first | done | with_reducible rfl)
             simp only [Act.put, List.setIfInBounds_toArray, List.set_cons_zero, List.set_cons_succ]))
      refine seqU_nil (fun w1 hB1 => ?_)
      have HO1 := Lib.hid (HO0.out.below hB1)
      have HT1 := Lib.hid (HT0.out.mod (Mod.of_below (X := []) hB1) (by simp) (by simp))
      have HB1 := Lib.hid hB1
      have HBW1 := Lib.hid (below_tail HB0.out hB1)
      have HPH : Hid (∀ w2, Below w1.heap.size w1 w2 → Calls Try.prog 36 #[.pointer (some ⟨q, 0, none⟩)] w2 fun e w' => e = .returned (.int .i64 0) ∧ Below w2.heap.size w2 w') := Lib.hid (fun w2 hb => by
        have := rphase_any w2 (HO1.out.below hb) (by simp)
        simpa [lastPh] using this)
      clear hB1 q0 q1 q2 q3 q4 q5 m0
      go_upto_region 6 with (go_at_call 36; refine (HPH.out _ (Below.refl _ _)).mono ?_; rintro e w2 ⟨rfl, hb2⟩; have HB2 := Lib.hid hb2; clear hb2)
      have HO2 := Lib.hid (HO1.out.below HB2.out)
      have HT2 := Lib.hid (HT1.out.mod (Mod.of_below (X := []) HB2.out) (by simp) (by simp))
      have HBW2 := Lib.hid (below_tail HBW1.out HB2.out)
      have HPH2 : Hid (Calls Try.prog 36 #[.pointer (some ⟨q, 0, none⟩)] w2 fun e w' => e = .returned (.int .i64 0) ∧ Below w2.heap.size w2 w') := Lib.hid (HPH.out _ HB2.out)
      have HN := Lib.hid hiN
      have HN0 := Lib.hid hi0
      have HLF := Lib.hid hl
      have HMO := Lib.hid hmo
      have HST : Hid (∀ phase : Nat, phase ≤ 4 → Calls Try.prog 37 #[.pointer (some ⟨q, 0, none⟩), .int .i64 phase, .agg #[.int .i64 r, .int .i64 c]] w2 (RkPost w q vM vF mo (N + 1))) := Lib.hid (fun phase ha => (rstart_any phase r c w2 HO2.out (by simp) (by omega) ha hmo hi0 (by omega)).mono fun e w' hp => RkPost.of_below HBW2.out (RkPost.start HI.out ha hmo hl (Nat.zero_le _) hi0 hiN hp))
      have HST2 : Hid (∀ phase : Nat, phase ≤ 4 → ∀ w3, Below w2.heap.size w2 w3 → Calls Try.prog 37 #[.pointer (some ⟨q, 0, none⟩), .int .i64 phase, .agg #[.int .i64 r, .int .i64 c]] w3 (RkPost w q vM vF mo (N + 1))) := Lib.hid (fun phase ha w3 hb => (rstart_any phase r c w3 (HO2.out.below hb) (by simp) (by omega) ha hmo hi0 (by omega)).mono fun e w' hp => RkPost.of_below (below_tail HBW2.out hb) (RkPost.start HI.out ha hmo hl (Nat.zero_le _) hi0 hiN hp))
      have HEND : Hid (∀ w3, Below w2.heap.size w2 w3 → RkPost w q vM vF mo (N + 1) (.returned (.tuple #[])) w3) := Lib.hid (fun w3 hb => RkPost.of_below HBW2.out (RkPost.same HO2.out HI.out hl (Nat.zero_le _) hi0 hiN hb))
      obtain ⟨f2, -⟩ := HO2.out.f
      obtain ⟨B, cb, hvf⟩ := row_form HO2.out.ownF
      have HVF := Lib.hid hvf
      rw [hvf] at f2
      have hwl : IntKind.i64.wrap ((F.length : Int) - 1) = (F.length : Int) - 1 := IntWalk.i64_in _ (by omega)
      have hqw := lt_of_cell f2
      obtain ⟨k, code, has, text⟩ := x
      obtain ⟨t0, t1, t2, t3, t4, t5⟩ := HT2.out
      simp only at t0 t1 t2 t3 t4 t5
      clear hvf
      rcases kind_cases k with rfl | rfl | rfl | rfl | rfl | rfl | ⟨n1, n2, n3, n4, n5, n6⟩
      · have HS := Lib.hid (HST.out 1 (by decide))
        go_wp2_with (go_at_call 37; refine HS.out.mono ?_; intro e w3 hp3; have HP3 := Lib.hid hp3; have hp3e := hp3.ret; subst hp3e; clear hp3)
        go_end0
        exact HP3.out
      · have HS := Lib.hid (HST2.out 2 (by decide))
        go_upto_region 12 with fail
        refine wp_region_u 7 (fun w' => Below w2.heap.size w2 w') (by kernel_rfl) (by kernel_rfl) ?_ ?_
        · exact (Below.refl _ _).drew
        simp only [List.take_succ_cons, List.take_zero, List.drop_succ_cons, List.drop_zero]
        repeat (first
          | (refine seqU_skip (by rfl) ?_; simp only [Act.put, List.setIfInBounds_toArray, List.set_cons_zero, List.set_cons_succ])
          | (refine seqU_val ?_ (by rfl) ?_ ?_; rotate_left; · (intro w' hS; go_simp; first | done | with_reducible rfl)
             simp only [Act.put, List.setIfInBounds_toArray, List.set_cons_zero, List.set_cons_succ]))
        refine seqU_nil (fun w4 hB4 => ?_)
        have HS4 := Lib.hid (HS.out w4 hB4)
        replace t0 := holda hB4 t0
        replace t4 := holda hB4 t4
        replace t5 := holda hB4 t5
        clear hB4
        go_wp2_with (go_at_call 37; refine HS4.out.mono ?_; intro e w3 hp3; have HP3 := Lib.hid hp3; have hp3e := hp3.ret; subst hp3e; clear hp3)
        go_end0
        exact HP3.out
      · have HS := Lib.hid (HST2.out 3 (by decide))
        go_upto_region 12 with fail
        refine wp_region_u 7 (fun w' => Below w2.heap.size w2 w') (by kernel_rfl) (by kernel_rfl) ?_ ?_
        · exact (Below.refl _ _).drew
        simp only [List.take_succ_cons, List.take_zero, List.drop_succ_cons, List.drop_zero]
        repeat (first
          | (refine seqU_skip (by rfl) ?_; simp only [Act.put, List.setIfInBounds_toArray, List.set_cons_zero, List.set_cons_succ])
          | (refine seqU_val ?_ (by rfl) ?_ ?_; rotate_left; · (intro w' hS; go_simp; first | done | with_reducible rfl)
             simp only [Act.put, List.setIfInBounds_toArray, List.set_cons_zero, List.set_cons_succ]))
        refine seqU_nil (fun w4 hB4 => ?_)
        have HS4 := Lib.hid (HS.out w4 hB4)
        replace t0 := holda hB4 t0
        replace t4 := holda hB4 t4
        replace t5 := holda hB4 t5
        clear hB4
        go_wp2_with (go_at_call 37; refine HS4.out.mono ?_; intro e w3 hp3; have HP3 := Lib.hid hp3; have hp3e := hp3.ret; subst hp3e; clear hp3)
        go_end0
        exact HP3.out
      · go_wp2_with fail
        go_end0
        exact HEND.out _ (Below.refl _ _)
      · go_wp2_with fail
        go_end0
        exact HEND.out _ (Below.refl _ _)
      · obtain ⟨d0, d0f⟩ := HO2.out.dir
        obtain ⟨k1, k2⟩ := HO2.out.setDir text
        have HK := Lib.hid k1
        have HK2 := Lib.hid k2
        clear k1 k2
        go_wp2_with fail
        go_end0
        exact RkPost.of_below HBW2.out ⟨[], F, ids, text, ⟨rfl, vM, vF, HK.out, HK2.out.mono (fun g hg => by rw [List.mem_singleton.1 hg]; simp [rfoot]), fun g hg => .inl hg⟩, HI.out, Nat.zero_le _, HLF.out, HN0.out, by have := HN.out; omega⟩
      · go_wp2_with fail
        go_end0
        exact HEND.out _ (Below.refl _ _)
end Go.Proofs.Ytgfaincejebogaa
