/- The document's blocks: Take with marks. Conditions: as stated. -/
import Derived.Test.YtgfaincejebogaaRbE2
import Derived.Deep.CutBlock
import Derived.Deep.DeepCutAuto
namespace Go.Proofs.Ytgfaincejebogaa
open Go.RowKit

theorem mk_last {M : List Mk} (h : M ≠ []) : ∃ k m, M.length = k + 1 ∧ M[k]? = some m ∧ lastPh M = m.ph ∧ m ∈ M := by
  have hl : 0 < M.length := List.length_pos_iff.2 h
  refine ⟨M.length - 1, M[M.length - 1], by omega, List.getElem?_eq_getElem _, ?_, List.getElem_mem _⟩
  unfold lastPh
  rw [List.getLast?_eq_getElem?, List.getElem?_eq_getElem (by omega)]
theorem RInv.setF {M : List Mk} {F : List Fc} {ids : Int} {k : Nat} {f f' : Fc} (h : RInv M F ids) (hk : F[k]? = some f) (he : f'.id = f.id) : RInv M (F.set k f') ids := by
  have hk' := List.getElem?_eq_some_iff.1 hk
  refine ⟨fun m hm => ?_, fun hne => ?_, h.phs⟩
  · obtain ⟨g, hg, e⟩ := h.idin m hm
    obtain ⟨i, hi⟩ := List.getElem?_of_mem hg
    by_cases hik : k = i
    · subst hik
      rw [hk] at hi
      injection hi with hi
      subst hi
      exact ⟨f', List.mem_set hk'.1 f', by rw [he, e]⟩
    · exact ⟨g, List.mem_of_getElem? (i := i) (by rw [List.getElem?_set_ne hik]; exact hi), e⟩
  · obtain ⟨g, hg, e⟩ := h.last (by intro h0; rw [h0] at hk; simp at hk)
    rw [List.getLast?_eq_getElem?] at hg
    rw [List.getLast?_eq_getElem?, List.length_set]
    by_cases hik : k = F.length - 1
    · subst hik
      rw [hk] at hg
      injection hg with hg
      subst hg
      exact ⟨f', by rw [List.getElem?_set_self hk'.1], by rw [he, e]⟩
    · exact ⟨g, by rw [List.getElem?_set_ne hik]; exact hg, e⟩
theorem RkPost.reach {w : World} {q : Nat} {vM vF : Value} {M : List Mk} {F : List Fc} {mo N lp n : Nat} {ids : Int} {dir : ByteArray} {p : P2} {e : Ending} {w' : World} (h : RInv M F ids) (hF : F ≠ []) (hn : n ≤ 4 - lp) (hlp : lp ≤ 4) (hl : F.length ≤ mo) (hm : M.length ≤ 4 * N) (hi0 : 0 ≤ ids) (hi : ids ≤ N)
    (hs : RbPost w q vM vF (addMk M ids p ((lp : Int) + 1) n) F mo ids dir e w') : RkPost w q vM vF mo (N + 1) e w' :=
  ⟨_, _, _, _, hs, h.reach hF p lp n hn hlp, by rw [addMk_len]; omega, hl, hi0, by omega⟩
theorem RkPost.fact {w W : World} {q g n c k j : Nat} {vM vF v : Value} {M : List Mk} {F : List Fc} {mo N : Nat} {ids : Int} {dir : ByteArray} {f f' : Fc} (hb : Below w.heap.size w W) (ho : RbO W q vM (.slice (some ⟨g, 0, none⟩) n c) M F mo ids dir) (hvf : vF = .slice (some ⟨g, 0, none⟩) n c) (hn : n = F.length) (hk : F[k]? = some f) (hj : j < 6) (he : (encFc f).set j v = encFc f') (hid : f'.id = f.id)
    (h : RInv M F ids) (hl : F.length ≤ mo) (hm : M.length ≤ 4 * N) (hi0 : 0 ≤ ids) (hi : ids ≤ N) : RkPost w q vM vF mo (N + 1) (.returned (.tuple #[])) (W.setCell ⟨g, k * 6 + j, none⟩ v) := by
  subst hvf
  obtain ⟨k1, k2⟩ := ho.setFc hn hk hj he
  refine RkPost.of_below hb ⟨M, _, ids, dir, ⟨rfl, vM, _, k1, k2.mono (fun x hx => by rw [List.mem_singleton.1 hx]; simp [rfoot, Value.ownBlock]), fun x hx => .inl hx⟩, h.setF hk hid, by omega, by rw [List.length_set]; exact hl, hi0, by omega⟩
/-- The world that Take's switch begins in, the place moved or not. -/
def RtSt (W0 : World) (s : Nat) (x : Sg) (w' : World) : Prop := ∃ p, Mod [s + 1] W0 w' ∧ TkSt w' s x p
set_option maxRecDepth 100000 in
set_option maxHeartbeats 6400000 in
theorem rtake_last {q : Nat} {vM vF : Value} {M : List Mk} {F : List Fc} {mo N : Nat} {ids : Int} {dir : ByteArray} (x : Sg) (r c : Int) (w : World) (h : RbO w q vM vF M F mo ids dir) (hi : RInv M F ids) (hM : M ≠ []) (hmo : 1 ≤ mo) (hmo2 : mo ≤ 30) (hl : F.length ≤ mo) (hm : M.length ≤ 4 * N) (hi0 : 0 ≤ ids) (hiN : ids ≤ N) (hN : N ≤ 100) (hr1 : inB r = true) (hr2 : inB c = true) :
    Calls Try.prog 19 #[.pointer (some ⟨q, 0, none⟩), .agg #[.int .i64 x.k, .int .i64 x.code, .bool x.has, .string x.text], .agg #[.int .i64 r, .int .i64 c]] w (RkPost w q vM vF mo (N + 1)) := by
  have HR1 := Lib.hid (fun w => Right10_any r w)
  have HR2 := Lib.hid (fun w => Right10_any c w)
  rw [hr1] at HR1
  rw [hr2] at HR2
  obtain ⟨W0, hW0⟩ : ∃ W0, W0 = (w.alloc (.cells #[.int .i64 x.k, .int .i64 x.code, .bool x.has, .string x.text] 33)).alloc (.cells #[.int .i64 r, .int .i64 c] 24) := ⟨_, rfl⟩
  have hb0 : Below w.heap.size w W0 := by rw [hW0]; exact below_allocs (below_allocs (Below.refl _ _) _) _
  have ht0 : TkSt W0 w.heap.size x (r, c) := by
    rw [hW0]
    exact ⟨(at_ (hp_old (hp_new rfl)) 0 _ rfl).1, (at_ (hp_old (hp_new rfl)) 1 _ rfl).1, (at_ (hp_old (hp_new rfl)) 2 _ rfl).1, (at_ (hp_old (hp_new rfl)) 3 _ rfl).1, (at_ (hp_new (by simp)) 0 _ rfl).1, (at_ (hp_new (by simp)) 1 _ rfl).1⟩
  have hz0 : HoldAt W0 (w.heap.size + 1) 0 (.int .i64 r) ∧ HoldAt W0 (w.heap.size + 1) 1 (.int .i64 c) := by
    rw [hW0]
    exact ⟨at_ (hp_new (by simp)) 0 _ rfl, at_ (hp_new (by simp)) 1 _ rfl⟩
  have hO0 := h.below hb0
  have HLT := Lib.hid h.lt
  have HW0 := Lib.hid hW0
  have HI := Lib.hid hi
  have HB0 := Lib.hid hb0
  have HO0 := Lib.hid hO0
  have HT0 := Lib.hid ht0
  have HZ0 := Lib.hid hz0
  obtain ⟨q0, q1, q2, q3, q4, q5⟩ := ht0
  obtain ⟨m0, -⟩ := hO0.m
  obtain ⟨A, ca, hv, -, -, -, hg⟩ := gr_of_owns encMk_len hO0.ownM rfl
  have HV := Lib.hid hv
  rw [hv] at m0
  obtain ⟨k, m, hk, hxk, hph, hmm⟩ := mk_last hM
  obtain ⟨g, off, y, rfl, hy, cy⟩ := hg.at_ (i := k) (by omega)
  rw [hxk] at hy
  injection hy with hy
  subst hy
  have c2 : W0.cell? ⟨g, off + k * 4 + 2, none⟩ = some (.int .i64 m.r) := cy 2 _ rfl
  have c3 : W0.cell? ⟨g, off + k * 4 + 2 + 1, none⟩ = some (.int .i64 m.c) := cy 3 _ rfl
  have HPH := Lib.hid hph
  have HP14 := Lib.hid (hi.phs m hmm)
  have HLS : Hid (∀ w', Calls Try.prog 11 #[.agg #[.int .i64 r, .int .i64 c], .agg #[.int .i64 m.r, .int .i64 m.c]] w' fun e w'' => e = .returned (.bool (lessB r c m.r m.c)) ∧ Below w'.heap.size w' w'') := Lib.hid (fun w' => RLess_any r c m.r m.c w')
  generalize hlb : lessB r c m.r m.c = lb at HLS
  have hn1 : 0 < M.length := by omega
  have hw : IntKind.i64.wrap ((M.length : Int) - 1) = (k : Int) := by rw [IntWalk.i64_in _ (by omega)]; omega
  have hkN : (k : Int) < (M.length : Int) := by omega
  have hkN2 : k < M.length := by omega
  have HK := Lib.hid hk
  clear h hi hO0 hb0 hr1 hr2 hv hg hlb hW0 hz0 cy hxk hph hmm hk
  go_enter Try.func19, Try.ntmps19
  go_upto_region 3 with (first | (go_at_call 5; rw [← HW0.out]; refine (HR1.out _).mono ?_; rintro e w2 ⟨rfl, hw2⟩; subst hw2) | (go_at_call 5; refine (HR2.out _).mono ?_; rintro e w2 ⟨rfl, hw2⟩; subst hw2))
  refine wp_region_u 14 (fun w' => Below W0.heap.size W0 w' ∧ w'.cell? ⟨w.heap.size + 1, 0, none⟩ = some (.int .i64 r) ∧ w'.cell? ⟨w.heap.size + 1, 1, none⟩ = some (.int .i64 c) ∧ w'.cell? ⟨q, 1, none⟩ = some (.slice (some ⟨g, off, none⟩) M.length ca) ∧ w'.cell? ⟨g, off + k * 4 + 2, none⟩ = some (.int .i64 m.r) ∧ w'.cell? ⟨g, off + k * 4 + 2 + 1, none⟩ = some (.int .i64 m.c)) (by kernel_rfl) (by kernel_rfl) ?_ ?_
  · exact ⟨(Below.refl _ _).drew, q4, q5, m0, c2, c3⟩
  simp only [List.take_succ_cons, List.take_zero, List.drop_succ_cons, List.drop_zero]
  repeat (first
      | (refine seqU_val ?_ (by rfl) ?_ ?_; rotate_left; · (intro w' hS; obtain ⟨_, _, _, _, _, _⟩ := hS; go_simp; first | done | with_reducible rfl)
         simp only [Act.put, List.setIfInBounds_toArray, List.set_cons_zero, List.set_cons_succ])
      | (refine seqU_call 11 #[.agg #[.int .i64 r, .int .i64 c], .agg #[.int .i64 m.r, .int .i64 m.c]] (.bool lb) (by rfl) ?_ (fun w' hS => (HLS.out w').mono fun e w2 ⟨he, hb⟩ => ⟨he, ⟨below_tail hS.1 hb, holda hb hS.2.1, holda hb hS.2.2.1, holda hb hS.2.2.2.1, holda hb hS.2.2.2.2.1, holda hb hS.2.2.2.2.2⟩⟩) ?_; · (intro w'; go_simp; done)
         simp only [Act.put, List.setIfInBounds_toArray, List.set_cons_zero, List.set_cons_succ]))
  refine seqU_nil (fun w1 hS => ?_)
  obtain ⟨hB1, -, -, m1, d2, d3⟩ := hS
  have HB1 := Lib.hid hB1
  clear hB1 q0 q1 q2 q3 q4 q5 m0 c2 c3
  obtain ⟨⟨z0, z0f⟩, z1, z1f⟩ : HoldAt w1 (w.heap.size + 1) 0 (.int .i64 r) ∧ HoldAt w1 (w.heap.size + 1) 1 (.int .i64 c) := ⟨hold HB1.out HZ0.out.1, hold HB1.out HZ0.out.2⟩
  go_upto_if 38 with fail
  go_cut [] (fun w' => RtSt W0 w.heap.size x w')
  case first =>
    cases lb with
    | false =>
      go_wp2_with fail
      go_meet
      exact ⟨(r, c), Mod.of_below HB1.out, HT0.out.mod (Mod.of_below (X := []) HB1.out) (by simp) (by simp)⟩
    | true =>
      obtain ⟨⟨y0, -⟩, y1, -⟩ := set_two (u' := .int .i64 m.r) (v' := .int .i64 m.c) ⟨z0, z0f⟩ ⟨z1, z1f⟩
      have hlt := lt_of_cell z0
      have hlg := lt_of_cell d2
      have hlq := lt_of_cell m1
      go_wp2_with fail
      go_meet
      have hm3 : Mod [w.heap.size + 1] W0 ((w1.setCell ⟨w.heap.size + 1, 0, none⟩ (.int .i64 m.r)).setCell ⟨w.heap.size + 1, 1, none⟩ (.int .i64 m.c)) := ((Mod.of_below HB1.out).setCell (.inl (by simp)) _).setCell (.inl (by simp)) _
      exact ⟨(m.r, m.c), hm3, hm3.cell (by simp) HT0.out.k, hm3.cell (by simp) HT0.out.code, hm3.cell (by simp) HT0.out.has, hm3.cell (by simp) HT0.out.text, y0, y1⟩
  case rest =>
    obtain ⟨⟨r', c'⟩, hm1, ht1⟩ := hcut
    have hO1 := HO0.out.mod hm1 (fun g hg hx => by have := HLT.out g hg; rw [List.mem_singleton.1 hx] at this; omega)
    have hbw : Below w.heap.size w wc := HB0.out.trans (hm1.below (fun g hg => by simp at hg; omega) HB0.out.size)
    have HO1 := Lib.hid hO1
    have HBW1 := Lib.hid hbw
    have HT1 := Lib.hid ht1
    have HP1 : Hid (∀ w2, Below wc.heap.size wc w2 → Calls Try.prog 36 #[.pointer (some ⟨q, 0, none⟩)] w2 fun e w' => e = .returned (.int .i64 m.ph) ∧ Below w2.heap.size w2 w') := Lib.hid (fun w2 hb => by
      rw [← HPH.out]
      exact rphase_any w2 (hO1.below hb) (by omega))
    clear hm1 ht1 hO1 hbw
    have hge : 1 ≤ m.ph := HP14.out.1
    generalize hop : decide (m.ph ≤ 3) = op
    go_upto_region 6 with (go_at_call 36; first | (refine (HP1.out _ (Below.refl _ _)).mono ?_; rintro e w2 ⟨rfl, hb2⟩; have HB2 := Lib.hid hb2; clear hb2) | (refine (HP1.out _ HB2.out).mono ?_; rintro e w3 ⟨rfl, hb3⟩; have HB3 := Lib.hid hb3; clear hb3))
    have HO3 := Lib.hid (HO1.out.below (below_tail HB2.out HB3.out))
    have HB13 := Lib.hid (below_tail HB2.out HB3.out)
    have HT3 := Lib.hid (HT1.out.mod (Mod.of_below (X := []) HB13.out) (by simp) (by simp))
    have HBW3 := Lib.hid (below_tail HBW1.out HB13.out)
    have HP3 : Hid (∀ w2, Below w3.heap.size w3 w2 → Calls Try.prog 36 #[.pointer (some ⟨q, 0, none⟩)] w2 fun e w' => e = .returned (.int .i64 m.ph) ∧ Below w2.heap.size w2 w') := Lib.hid (fun w2 hb => HP1.out w2 (below_tail HB13.out hb))
    have HPM : Hid (∃ lp : Nat, m.ph = lp ∧ 1 ≤ lp ∧ lp ≤ 4) := Lib.hid ⟨m.ph.toNat, by have := HP14.out; omega, by have := HP14.out; omega, by have := HP14.out; omega⟩
    have HFN : Hid (F ≠ []) := Lib.hid (fun h0 => by
      obtain ⟨m', hm'⟩ := List.exists_mem_of_ne_nil _ hM
      obtain ⟨f, hf, -⟩ := HI.out.idin m' hm'
      rw [h0] at hf
      cases hf)
    have HN := Lib.hid hiN
    have HN0 := Lib.hid hi0
    have HLF := Lib.hid hl
    have HML := Lib.hid hm
    have HST2 : Hid (∀ phase : Nat, phase ≤ 4 → ∀ w4, Below w3.heap.size w3 w4 → Calls Try.prog 37 #[.pointer (some ⟨q, 0, none⟩), .int .i64 phase, .agg #[.int .i64 r', .int .i64 c']] w4 (RkPost w q vM vF mo (N + 1))) := Lib.hid (fun phase ha w4 hb => (rstart_any phase r' c' w4 (HO3.out.below hb) (by omega) (by omega) ha hmo hi0 (by omega)).mono fun e w' hp => RkPost.of_below (below_tail HBW3.out hb) (RkPost.start HI.out ha hmo hl hm hi0 hiN hp))
    have HRE2 : Hid (∀ phase : Nat, phase ≤ 4 → ∀ w4, Below w3.heap.size w3 w4 → Calls Try.prog 38 #[.pointer (some ⟨q, 0, none⟩), .int .i64 phase, .agg #[.int .i64 r', .int .i64 c']] w4 (RkPost w q vM vF mo (N + 1))) := Lib.hid (fun phase ha w4 hb => by
      obtain ⟨lp, e1, e2, e3⟩ := HPM.out
      exact (rreach_any phase lp r' c' w4 (HO3.out.below hb) (by omega) (by rw [HPH.out, e1]) e3 ha).mono fun e w' hp => RkPost.of_below (below_tail HBW3.out hb) (RkPost.reach HI.out HFN.out (by omega) e3 hl hm hi0 hiN hp))
    have HEND : Hid (∀ w4, Below w3.heap.size w3 w4 → RkPost w q vM vF mo (N + 1) (.returned (.tuple #[])) w4) := Lib.hid (fun w4 hb => RkPost.of_below HBW3.out (RkPost.same HO3.out HI.out hl hm hi0 hiN hb))
    obtain ⟨f2, -⟩ := HO3.out.f
    obtain ⟨gF, cF, hvf⟩ := Go.Joins.ownsRow_form HO3.out.ownF (by have := List.length_pos_iff.2 HFN.out; omega)
    have HVF := Lib.hid hvf
    rw [hvf] at f2
    obtain ⟨j, hj⟩ : ∃ j, F.length = j + 1 := ⟨F.length - 1, by have := List.length_pos_iff.2 HFN.out; omega⟩
    have hwl : IntKind.i64.wrap ((F.length : Int) - 1) = (j : Int) := by rw [IntWalk.i64_in _ (by omega)]; omega
    have hjN : (j : Int) < (F.length : Int) := by omega
    have hjN2 : j < F.length := by omega
    obtain ⟨f, hf⟩ : ∃ f, F[j]? = some f := ⟨F[j], List.getElem?_eq_getElem _⟩
    have HFJ := Lib.hid hf
    have HJ := Lib.hid hj
    obtain ⟨kd, code, has, text⟩ := x
    obtain ⟨t0, t1, t2, t3, t4, t5⟩ := HT3.out
    simp only at t0 t1 t2 t3 t4 t5
    clear hvf hop z0 z0f z1 z1f m1 d2 d3 hge hf hj
    go_upto_region 7 with fail
    rcases kind_cases kd with rfl | rfl | rfl | rfl | rfl | rfl | ⟨n1, n2, n3, n4, n5, n6⟩
    · have HS := Lib.hid (HST2.out 1 (by decide) _ (Below.refl _ _))
      go_wp2_with (go_at_call 37; refine HS.out.mono ?_; intro e w5 hp5; have HP5 := Lib.hid hp5; have hp5e := hp5.ret; subst hp5e; clear hp5)
      go_end0
      exact HP5.out
    · have HSS := Lib.hid (HST2.out 2 (by decide))
      have HSR := Lib.hid (HRE2.out 2 (by decide))
      go_upto_region 12 with fail
      cases op with
      | false =>
        refine wp_region_u 7 (fun w' => Below w3.heap.size w3 w' ∧ w'.cell? ⟨w.heap.size, 0, none⟩ = some (.int .i64 2)) (by kernel_rfl) (by kernel_rfl) ?_ ?_
        · exact ⟨(Below.refl _ _).drew, t0⟩
        simp only [List.take_succ_cons, List.take_zero, List.drop_succ_cons, List.drop_zero]
        repeat (first
          | (refine seqU_skip (by rfl) ?_; simp only [Act.put, List.setIfInBounds_toArray, List.set_cons_zero, List.set_cons_succ])
          | (refine seqU_val ?_ (by rfl) ?_ ?_; rotate_left; · (intro w' hS; obtain ⟨_, _⟩ := hS; go_simp; first | done | with_reducible rfl)
             simp only [Act.put, List.setIfInBounds_toArray, List.set_cons_zero, List.set_cons_succ])
          | (refine seqU_call 36 #[.pointer (some ⟨q, 0, none⟩)] (.int .i64 m.ph) (by rfl) ?_ (fun w' hS => (HP3.out w' hS.1).mono fun e w2 ⟨he, hb⟩ => ⟨he, ⟨below_tail hS.1 hb, holda hb hS.2⟩⟩) ?_; · (intro w'; go_simp; done)
             simp only [Act.put, List.setIfInBounds_toArray, List.set_cons_zero, List.set_cons_succ]))
        refine seqU_nil (fun w4 hS => ?_)
        obtain ⟨hB4, e0⟩ := hS
        have HS := Lib.hid (HSS.out _ hB4)
        replace t4 := holda hB4 t4
        replace t5 := holda hB4 t5
        clear hB4 t0
        go_wp2_with (go_at_call 37; refine HS.out.mono ?_; intro e w5 hp5; have HP5 := Lib.hid hp5; have hp5e := hp5.ret; subst hp5e; clear hp5)
        go_end0
        exact HP5.out
      | true =>
        by_cases hlt : m.ph < 2
        rotate_left
        · refine wp_region_u 7 (fun w' => Below w3.heap.size w3 w' ∧ w'.cell? ⟨w.heap.size, 0, none⟩ = some (.int .i64 2)) (by kernel_rfl) (by kernel_rfl) ?_ ?_
          · exact ⟨(Below.refl _ _).drew, t0⟩
          simp only [List.take_succ_cons, List.take_zero, List.drop_succ_cons, List.drop_zero]
          repeat (first
            | (refine seqU_skip (by rfl) ?_; simp only [Act.put, List.setIfInBounds_toArray, List.set_cons_zero, List.set_cons_succ])
            | (refine seqU_val ?_ (by rfl) ?_ ?_; rotate_left; · (intro w' hS; obtain ⟨_, _⟩ := hS; go_simp; first | done | with_reducible rfl)
               simp only [Act.put, List.setIfInBounds_toArray, List.set_cons_zero, List.set_cons_succ])
            | (refine seqU_call 36 #[.pointer (some ⟨q, 0, none⟩)] (.int .i64 m.ph) (by rfl) ?_ (fun w' hS => (HP3.out w' hS.1).mono fun e w2 ⟨he, hb⟩ => ⟨he, ⟨below_tail hS.1 hb, holda hb hS.2⟩⟩) ?_; · (intro w'; go_simp; done)
               simp only [Act.put, List.setIfInBounds_toArray, List.set_cons_zero, List.set_cons_succ]))
          refine seqU_nil (fun w4 hS => ?_)
          obtain ⟨hB4, e0⟩ := hS
          have HS := Lib.hid (HSS.out _ hB4)
          replace t4 := holda hB4 t4
          replace t5 := holda hB4 t5
          clear hB4 t0
          go_wp2_with (go_at_call 37; refine HS.out.mono ?_; intro e w5 hp5; have HP5 := Lib.hid hp5; have hp5e := hp5.ret; subst hp5e; clear hp5)
          go_end0
          exact HP5.out
        · refine wp_region_u 7 (fun w' => Below w3.heap.size w3 w' ∧ w'.cell? ⟨w.heap.size, 0, none⟩ = some (.int .i64 2)) (by kernel_rfl) (by kernel_rfl) ?_ ?_
          · exact ⟨(Below.refl _ _).drew, t0⟩
          simp only [List.take_succ_cons, List.take_zero, List.drop_succ_cons, List.drop_zero]
          repeat (first
            | (refine seqU_skip (by rfl) ?_; simp only [Act.put, List.setIfInBounds_toArray, List.set_cons_zero, List.set_cons_succ])
            | (refine seqU_val ?_ (by rfl) ?_ ?_; rotate_left; · (intro w' hS; obtain ⟨_, _⟩ := hS; go_simp; first | done | with_reducible rfl)
               simp only [Act.put, List.setIfInBounds_toArray, List.set_cons_zero, List.set_cons_succ])
            | (refine seqU_call 36 #[.pointer (some ⟨q, 0, none⟩)] (.int .i64 m.ph) (by rfl) ?_ (fun w' hS => (HP3.out w' hS.1).mono fun e w2 ⟨he, hb⟩ => ⟨he, ⟨below_tail hS.1 hb, holda hb hS.2⟩⟩) ?_; · (intro w'; go_simp; done)
               simp only [Act.put, List.setIfInBounds_toArray, List.set_cons_zero, List.set_cons_succ]))
          refine seqU_nil (fun w4 hS => ?_)
          obtain ⟨hB4, e0⟩ := hS
          have HS := Lib.hid (HSR.out _ hB4)
          replace t4 := holda hB4 t4
          replace t5 := holda hB4 t5
          replace t0 := e0
          clear hB4 e0
          go_wp2_with (go_at_call 38; refine HS.out.mono ?_; intro e w5 hp5; have HP5 := Lib.hid hp5; have hp5e := hp5.ret; subst hp5e; clear hp5)
          go_end0
          exact HP5.out
    · have HSS := Lib.hid (HST2.out 3 (by decide))
      have HSR := Lib.hid (HRE2.out 3 (by decide))
      go_upto_region 12 with fail
      cases op with
      | false =>
        refine wp_region_u 7 (fun w' => Below w3.heap.size w3 w' ∧ w'.cell? ⟨w.heap.size, 0, none⟩ = some (.int .i64 3)) (by kernel_rfl) (by kernel_rfl) ?_ ?_
        · exact ⟨(Below.refl _ _).drew, t0⟩
        simp only [List.take_succ_cons, List.take_zero, List.drop_succ_cons, List.drop_zero]
        repeat (first
          | (refine seqU_skip (by rfl) ?_; simp only [Act.put, List.setIfInBounds_toArray, List.set_cons_zero, List.set_cons_succ])
          | (refine seqU_val ?_ (by rfl) ?_ ?_; rotate_left; · (intro w' hS; obtain ⟨_, _⟩ := hS; go_simp; first | done | with_reducible rfl)
             simp only [Act.put, List.setIfInBounds_toArray, List.set_cons_zero, List.set_cons_succ])
          | (refine seqU_call 36 #[.pointer (some ⟨q, 0, none⟩)] (.int .i64 m.ph) (by rfl) ?_ (fun w' hS => (HP3.out w' hS.1).mono fun e w2 ⟨he, hb⟩ => ⟨he, ⟨below_tail hS.1 hb, holda hb hS.2⟩⟩) ?_; · (intro w'; go_simp; done)
             simp only [Act.put, List.setIfInBounds_toArray, List.set_cons_zero, List.set_cons_succ]))
        refine seqU_nil (fun w4 hS => ?_)
        obtain ⟨hB4, e0⟩ := hS
        have HS := Lib.hid (HSS.out _ hB4)
        replace t4 := holda hB4 t4
        replace t5 := holda hB4 t5
        clear hB4 t0
        go_wp2_with (go_at_call 37; refine HS.out.mono ?_; intro e w5 hp5; have HP5 := Lib.hid hp5; have hp5e := hp5.ret; subst hp5e; clear hp5)
        go_end0
        exact HP5.out
      | true =>
        by_cases hlt : m.ph < 3
        rotate_left
        · refine wp_region_u 7 (fun w' => Below w3.heap.size w3 w' ∧ w'.cell? ⟨w.heap.size, 0, none⟩ = some (.int .i64 3)) (by kernel_rfl) (by kernel_rfl) ?_ ?_
          · exact ⟨(Below.refl _ _).drew, t0⟩
          simp only [List.take_succ_cons, List.take_zero, List.drop_succ_cons, List.drop_zero]
          repeat (first
            | (refine seqU_skip (by rfl) ?_; simp only [Act.put, List.setIfInBounds_toArray, List.set_cons_zero, List.set_cons_succ])
            | (refine seqU_val ?_ (by rfl) ?_ ?_; rotate_left; · (intro w' hS; obtain ⟨_, _⟩ := hS; go_simp; first | done | with_reducible rfl)
               simp only [Act.put, List.setIfInBounds_toArray, List.set_cons_zero, List.set_cons_succ])
            | (refine seqU_call 36 #[.pointer (some ⟨q, 0, none⟩)] (.int .i64 m.ph) (by rfl) ?_ (fun w' hS => (HP3.out w' hS.1).mono fun e w2 ⟨he, hb⟩ => ⟨he, ⟨below_tail hS.1 hb, holda hb hS.2⟩⟩) ?_; · (intro w'; go_simp; done)
               simp only [Act.put, List.setIfInBounds_toArray, List.set_cons_zero, List.set_cons_succ]))
          refine seqU_nil (fun w4 hS => ?_)
          obtain ⟨hB4, e0⟩ := hS
          have HS := Lib.hid (HSS.out _ hB4)
          replace t4 := holda hB4 t4
          replace t5 := holda hB4 t5
          clear hB4 t0
          go_wp2_with (go_at_call 37; refine HS.out.mono ?_; intro e w5 hp5; have HP5 := Lib.hid hp5; have hp5e := hp5.ret; subst hp5e; clear hp5)
          go_end0
          exact HP5.out
        · refine wp_region_u 7 (fun w' => Below w3.heap.size w3 w' ∧ w'.cell? ⟨w.heap.size, 0, none⟩ = some (.int .i64 3)) (by kernel_rfl) (by kernel_rfl) ?_ ?_
          · exact ⟨(Below.refl _ _).drew, t0⟩
          simp only [List.take_succ_cons, List.take_zero, List.drop_succ_cons, List.drop_zero]
          repeat (first
            | (refine seqU_skip (by rfl) ?_; simp only [Act.put, List.setIfInBounds_toArray, List.set_cons_zero, List.set_cons_succ])
            | (refine seqU_val ?_ (by rfl) ?_ ?_; rotate_left; · (intro w' hS; obtain ⟨_, _⟩ := hS; go_simp; first | done | with_reducible rfl)
               simp only [Act.put, List.setIfInBounds_toArray, List.set_cons_zero, List.set_cons_succ])
            | (refine seqU_call 36 #[.pointer (some ⟨q, 0, none⟩)] (.int .i64 m.ph) (by rfl) ?_ (fun w' hS => (HP3.out w' hS.1).mono fun e w2 ⟨he, hb⟩ => ⟨he, ⟨below_tail hS.1 hb, holda hb hS.2⟩⟩) ?_; · (intro w'; go_simp; done)
               simp only [Act.put, List.setIfInBounds_toArray, List.set_cons_zero, List.set_cons_succ]))
          refine seqU_nil (fun w4 hS => ?_)
          obtain ⟨hB4, e0⟩ := hS
          have HS := Lib.hid (HSR.out _ hB4)
          replace t4 := holda hB4 t4
          replace t5 := holda hB4 t5
          replace t0 := e0
          clear hB4 e0
          go_wp2_with (go_at_call 38; refine HS.out.mono ?_; intro e w5 hp5; have HP5 := Lib.hid hp5; have hp5e := hp5.ret; subst hp5e; clear hp5)
          go_end0
          exact HP5.out
    · cases op with
      | false =>
        go_wp2_with fail
        go_end0
        exact HEND.out _ (Below.refl _ _)
      | true =>
        obtain ⟨lp, e1, e2, e3⟩ := HPM.out
        have HLP := Lib.hid e1
        have HLP4 := Lib.hid e3
        have HS := Lib.hid (rreach_any 4 lp r' c' w3 HO3.out (by omega) (by rw [HPH.out, e1]) e3 (by decide))
        clear e1 e2 e3
        go_upto_region 18 with (go_at_call 38; refine HS.out.mono ?_; rintro e w5 ⟨rfl, vM5, vF5, hO5, hm5, hf5⟩; have HO5 := Lib.hid hO5; have HM5 := Lib.hid hm5; have HF5 := Lib.hid hf5; clear hO5 hm5 hf5)
        have HSF := Lib.hid (show w.heap.size ∉ rfoot q vM vF from fun hx => by have := HLT.out _ hx; omega)
        have t1' := HM5.out.cell HSF.out t1
        have t2' := HM5.out.cell HSF.out t2
        clear t0 t1 t2 t3 t4 t5 f2
        obtain ⟨g5, c5, hv5⟩ := Go.Joins.ownsRow_form HO5.out.ownF (by omega)
        subst hv5
        have f5 := HO5.out.f.1
        obtain ⟨k1, k2⟩ := HO5.out.setFc (j := 1) (v := .int .i64 code) (f' := { f with code := code }) rfl HFJ.out (by decide) rfl
        obtain ⟨g0, g0f⟩ := owns_hold HO5.out.ownF (i := j * 6 + 1) (v := .int .i64 f.code) (by rw [flat_at1 encFc_len F j f 1 HFJ.out (by decide)]; rfl)
        have hgq : q < g5 := (HO5.out.ownF.lt g5 rfl).1
        have hgs : g5 ≠ w.heap.size := fun e => by
          rcases HF5.out g5 (by simp [rfoot, Value.ownBlock]) with h | h
          · exact HSF.out (by rw [← e]; exact h)
          · have := HBW3.out.size
            have := lt_of_cell HT3.out.k
            omega
        have HGS := Lib.hid hgs
        have HGQ := Lib.hid hgq
        clear k1 k2 g0 g0f hgs hgq
        refine Go.RL.wp_region_l 19 (fun w' => w'.cell? ⟨q, 2, none⟩ = some (.slice (some ⟨g5, 0, none⟩) F.length c5) ∧ w'.cell? ⟨w.heap.size, 1, none⟩ = some (.int .i64 code) ∧ w'.cell? ⟨w.heap.size, 2, none⟩ = some (.bool has)) (fun w' => Below w5.heap.size w5 w') (by kernel_rfl) (by kernel_rfl) ⟨f5, t1', t2'⟩ ((Below.refl _ _).drew) ?_
        clear f5 t1' t2'
        refine Go.RL.AtL.take 0 (o := ⟨_, _, _, _, _, _⟩) (v := ?_) (by kernel_rfl) rfl (by simp) (by kernel_rfl) (by kernel_rfl) ?_ ?_; rotate_left
        · (refine Go.RL.Pure.val (by rfl) ?_; intro w' hI; obtain ⟨i1, i2, i3⟩ := hI; go_simp; first | done | with_reducible rfl)
        simp only [Act.put, List.setIfInBounds_toArray, List.set_cons_zero, List.set_cons_succ]
        refine Go.RL.AtL.take 1 (o := ⟨_, _, _, _, _, _⟩) (v := ?_) (by kernel_rfl) rfl (by simp) (by kernel_rfl) (by kernel_rfl) ?_ ?_; rotate_left
        · (refine Go.RL.Pure.val (by rfl) ?_; intro w' hI; obtain ⟨i1, i2, i3⟩ := hI; go_simp; first | done | with_reducible rfl)
        simp only [Act.put, List.setIfInBounds_toArray, List.set_cons_zero, List.set_cons_succ]
        refine Go.RL.AtL.take 2 (o := ⟨_, _, _, _, _, _⟩) (v := ?_) (by kernel_rfl) rfl (by simp) (by kernel_rfl) (by kernel_rfl) ?_ ?_; rotate_left
        · (refine Go.RL.Pure.val (by rfl) ?_; intro w' hI; obtain ⟨i1, i2, i3⟩ := hI; go_simp; first | done | with_reducible rfl)
        simp only [Act.put, List.setIfInBounds_toArray, List.set_cons_zero, List.set_cons_succ]
        refine Go.RL.AtL.take 3 (o := ⟨_, _, _, _, _, _⟩) (v := ?_) (by kernel_rfl) rfl (by simp) (by kernel_rfl) (by kernel_rfl) ?_ ?_; rotate_left
        · (refine Go.RL.Pure.val (by rfl) ?_; intro w' hI; obtain ⟨i1, i2, i3⟩ := hI; go_simp; first | done | with_reducible rfl)
        simp only [Act.put, List.setIfInBounds_toArray, List.set_cons_zero, List.set_cons_succ]
        refine Go.RL.AtL.take 4 (o := ⟨_, _, _, _, _, _⟩) (v := ?_) (by kernel_rfl) rfl (by simp) (by kernel_rfl) (by kernel_rfl) ?_ ?_; rotate_left
        · (refine Go.RL.Pure.val (by rfl) ?_; intro w' hI; obtain ⟨i1, i2, i3⟩ := hI; go_simp; first | done | with_reducible rfl)
        simp only [Act.put, List.setIfInBounds_toArray, List.set_cons_zero, List.set_cons_succ]
        refine Go.RL.AtL.take 5 (o := ⟨_, _, _, _, _, _⟩) (v := ?_) (by kernel_rfl) rfl (by simp) (by kernel_rfl) (by kernel_rfl) ?_ ?_; rotate_left
        · (refine Go.RL.Pure.val (by rfl) ?_; intro w' hI; obtain ⟨i1, i2, i3⟩ := hI; go_simp; first | done | with_reducible rfl)
        simp only [Act.put, List.setIfInBounds_toArray, List.set_cons_zero, List.set_cons_succ]
        refine Go.RL.AtL.take 6 (o := ⟨_, _, _, _, _, _⟩) (v := ?_) (by kernel_rfl) rfl (by simp) (by kernel_rfl) (by kernel_rfl) ?_ ?_; rotate_left
        · (refine Go.RL.Pure.val (by rfl) ?_; intro w' hI; obtain ⟨i1, i2, i3⟩ := hI; go_simp; first | done | with_reducible rfl)
        simp only [Act.put, List.setIfInBounds_toArray, List.set_cons_zero, List.set_cons_succ]
        refine Go.RL.AtL.take 7 (o := ⟨_, _, _, _, _, _⟩) (v := ?_) (by kernel_rfl) rfl (by simp) (by kernel_rfl) (by kernel_rfl) ?_ ?_; rotate_left
        · (refine Go.RL.Pure.val (by rfl) ?_; intro w' hI; obtain ⟨i1, i2, i3⟩ := hI; go_simp; first | done | with_reducible rfl)
        simp only [Act.put, List.setIfInBounds_toArray, List.set_cons_zero, List.set_cons_succ]
        refine Go.RL.AtL.take 8 (o := ⟨_, _, _, _, _, _⟩) (v := ?_) (by kernel_rfl) rfl (by simp) (by kernel_rfl) (by kernel_rfl) ?_ ?_; rotate_left
        · (refine Go.RL.Pure.val (by rfl) ?_; intro w' hI; obtain ⟨i1, i2, i3⟩ := hI; go_simp; first | done | with_reducible rfl)
        simp only [Act.put, List.setIfInBounds_toArray, List.set_cons_zero, List.set_cons_succ]
        refine Go.RL.AtL.take 9 (o := ⟨_, _, _, _, _, _⟩) (v := ?_) (by kernel_rfl) rfl (by simp) (by kernel_rfl) (by kernel_rfl) ?_ ?_; rotate_left
        · (refine Go.RL.Pure.val (by rfl) ?_; intro w' hI; obtain ⟨i1, i2, i3⟩ := hI; go_simp; first | done | with_reducible rfl)
        simp only [Act.put, List.setIfInBounds_toArray, List.set_cons_zero, List.set_cons_succ]
        refine Go.RL.AtL.take 10 (o := ⟨_, _, _, _, _, _⟩) (v := ?_) (by kernel_rfl) rfl (by simp) (by kernel_rfl) (by kernel_rfl) ?_ ?_; rotate_left
        · (refine Go.RL.Pure.val (by rfl) ?_; intro w' hI; obtain ⟨i1, i2, i3⟩ := hI; go_simp; first | done | with_reducible rfl)
        simp only [Act.put, List.setIfInBounds_toArray, List.set_cons_zero, List.set_cons_succ]
        refine Go.RL.AtL.take 11 (o := ⟨_, _, _, _, _, _⟩) (v := ?_) (by kernel_rfl) rfl (by simp) (by kernel_rfl) (by kernel_rfl) ?_ ?_; rotate_left
        · (refine Go.RL.Pure.val (by rfl) ?_; intro w' hI; obtain ⟨i1, i2, i3⟩ := hI; go_simp; first | done | with_reducible rfl)
        simp only [Act.put, List.setIfInBounds_toArray, List.set_cons_zero, List.set_cons_succ]
        refine Go.RL.AtL.take 12 (o := ⟨_, _, _, _, _, _⟩) (v := ?_) (by kernel_rfl) rfl (by simp) (by kernel_rfl) (by kernel_rfl) ?_ ?_; rotate_left
        · (refine Go.RL.Pure.val (by rfl) ?_; intro w' hI; obtain ⟨i1, i2, i3⟩ := hI; go_simp; first | done | with_reducible rfl)
        simp only [Act.put, List.setIfInBounds_toArray, List.set_cons_zero, List.set_cons_succ]
        refine Go.RL.AtL.take 13 (o := ⟨_, _, _, _, _, _⟩) (v := ?_) (by kernel_rfl) rfl (by simp) (by kernel_rfl) (by kernel_rfl) ?_ ?_; rotate_left
        · (refine Go.RL.Pure.val (by rfl) ?_; intro w' hI; obtain ⟨i1, i2, i3⟩ := hI; go_simp; first | done | with_reducible rfl)
        simp only [Act.put, List.setIfInBounds_toArray, List.set_cons_zero, List.set_cons_succ]
        refine Go.RL.AtL.take 14 (o := ⟨_, _, _, _, _, _⟩) (v := ?_) (by kernel_rfl) rfl (by simp) (by kernel_rfl) (by kernel_rfl) ?_ ?_; rotate_left
        · (refine Go.RL.Pure.val (by rfl) ?_; intro w' hI; obtain ⟨i1, i2, i3⟩ := hI; go_simp; first | done | with_reducible rfl)
        simp only [Act.put, List.setIfInBounds_toArray, List.set_cons_zero, List.set_cons_succ]
        refine Go.RL.AtL.take 15 (o := ⟨_, _, _, _, _, _⟩) (v := ?_) (by kernel_rfl) rfl (by simp) (by kernel_rfl) (by kernel_rfl) ?_ ?_; rotate_left
        · (refine Go.RL.Pure.val (by rfl) ?_; intro w' hI; obtain ⟨i1, i2, i3⟩ := hI; go_simp; first | done | with_reducible rfl)
        simp only [Act.put, List.setIfInBounds_toArray, List.set_cons_zero, List.set_cons_succ]
        refine Go.RL.AtL.one 16 (o := ⟨_, _, _, _, _, _⟩) (fun _ => True) (fun _ w' => ∃ wx, Below w5.heap.size w5 wx ∧ w' = wx.setCell ⟨g5, j * 6 + 1, none⟩ (.int .i64 code)) (by simp) (by kernel_rfl) rfl (Go.RL.StabL.unit _ _ (by rfl) (fun w' hI hS => ?_)) ?_
        · obtain ⟨k0, k0f⟩ := owns_hold (HO5.out.below hS).ownF (i := j * 6 + 1) (v := .int .i64 f.code) (by rw [flat_at1 encFc_len F j f 1 HFJ.out (by decide)]; rfl)
          obtain ⟨i1, i2, i3⟩ := hI
          have h1 := HGS.out
          have h2 := HGQ.out
          refine ⟨w'.setCell ⟨g5, j * 6 + 1, none⟩ (.int .i64 code), by go_simp, trivial, ⟨?_, ?_, ?_⟩, w', hS, rfl⟩
          · exact (World.cell?_setCell_other _ _ _ _ (fun e => by injection e with e1 e2; omega)).trans i1
          · exact (World.cell?_setCell_other _ _ _ _ (fun e => by injection e with e1 e2; omega)).trans i2
          · exact (World.cell?_setCell_other _ _ _ _ (fun e => by injection e with e1 e2; omega)).trans i3
        rintro v9 -
        simp only [Act.put]
        refine Go.RL.AtL.take 17 (o := ⟨_, _, _, _, _, _⟩) (v := ?_) (by kernel_rfl) rfl (by simp) (by kernel_rfl) (by kernel_rfl) ?_ ?_; rotate_left
        · (refine Go.RL.Pure.val (by rfl) ?_; intro w' hI; obtain ⟨i1, i2, i3⟩ := hI; go_simp; first | done | with_reducible rfl)
        simp only [Act.put, List.setIfInBounds_toArray, List.set_cons_zero, List.set_cons_succ]
        refine Go.RL.AtL.take 18 (o := ⟨_, _, _, _, _, _⟩) (v := ?_) (by kernel_rfl) rfl (by simp) (by kernel_rfl) (by kernel_rfl) ?_ ?_; rotate_left
        · (refine Go.RL.Pure.val (by rfl) ?_; intro w' hI; obtain ⟨i1, i2, i3⟩ := hI; go_simp; first | done | with_reducible rfl)
        simp only [Act.put, List.setIfInBounds_toArray, List.set_cons_zero, List.set_cons_succ]
        refine Go.RL.AtL.done (by kernel_rfl) (fun w' hI hS => ?_)
        obtain ⟨wx, hbx, rfl⟩ := hS
        obtain ⟨k1, k2⟩ := (HO5.out.below hbx).setFc (j := 1) (v := .int .i64 code) (f' := { f with code := code }) rfl HFJ.out (by decide) rfl
        have HJ2 := Lib.hid (show (F.set j { f with code := code })[j]? = some { f with code := code } from by rw [List.getElem?_set_self hjN2])
        obtain ⟨k3, k4⟩ := k1.setFc (j := 2) (v := .bool has) (f' := { f with code := code, has := has }) (by simp) HJ2.out (by decide) rfl
        have hown1 := k1.ownF
        rw [List.length_set] at hown1
        obtain ⟨g0, g0f⟩ := owns_hold hown1 (i := j * 6 + 2) (v := .bool f.has) (by rw [flat_at1 encFc_len _ j _ 2 HJ2.out (by decide)]; rfl)
        have HK3 := Lib.hid k3
        have HK4 := Lib.hid (((Mod.of_below (X := [g5]) hbx).trans k2 (fun x hx => .inl hx)).trans k4 (fun x hx => .inl hx))
        clear hI hbx k1 k2 k3 k4 hown1
        go_wp2_with fail
        go_end0
        obtain ⟨lp', e1, e2, e3⟩ := HPM.out
        have hl1 := HLP.out
        refine RkPost.of_below HBW3.out ⟨_, _, ids, dir, RbPost.chain HM5.out HF5.out ⟨rfl, vM5, _, HK3.out, HK4.out.mono (fun x hx => by rw [List.mem_singleton.1 hx]; simp [rfoot, Value.ownBlock]), fun x hx => .inl hx⟩, ((HI.out.reach HFN.out (r', c') lp (4 - lp) (Nat.le_refl _) HLP4.out).setF (f' := { f with code := code }) HFJ.out rfl).setF (f' := { f with code := code, has := has }) HJ2.out rfl, ?_, ?_, HN0.out, ?_⟩
        · rw [addMk_len]; have := HML.out; omega
        · rw [List.length_set, List.length_set]; exact HLF.out
        · have := HN.out; omega
    · cases op with
      | false =>
        go_wp2_with fail
        go_end0
        exact HEND.out _ (Below.refl _ _)
      | true =>
        go_upto_region 21 with fail
        refine wp_region_u 9 (fun w' => Below w3.heap.size w3 w' ∧ w'.cell? ⟨q, 2, none⟩ = some (.slice (some ⟨gF, 0, none⟩) F.length cF) ∧ w'.cell? ⟨w.heap.size, 3, none⟩ = some (.string text)) (by kernel_rfl) (by kernel_rfl) ?_ ?_
        · exact ⟨(Below.refl _ _).drew, f2, t3⟩
        simp only [List.take_succ_cons, List.take_zero, List.drop_succ_cons, List.drop_zero]
        repeat (refine seqU_val ?_ (by rfl) ?_ ?_; rotate_left; · (intro w' hS; obtain ⟨_, _, _⟩ := hS; go_simp; first | done | with_reducible rfl)
                simp only [Act.put, List.setIfInBounds_toArray, List.set_cons_zero, List.set_cons_succ])
        refine seqU_nil (fun w4 hS => ?_)
        obtain ⟨hB4, -, -⟩ := hS
        have hO4 := HO3.out.below hB4
        rw [HVF.out] at hO4
        have hown := hO4.ownF
        obtain ⟨k1, k2⟩ := hO4.setFc (j := 5) (v := .string text) (f' := { f with line := text }) rfl HFJ.out (by decide) rfl
        obtain ⟨g0, g0f⟩ := owns_hold hown (i := j * 6 + 5) (v := .string f.line) (by rw [flat_at1 encFc_len F j f 5 HFJ.out (by decide)]; rfl)
        have HK1 := Lib.hid k1
        have HK2 := Lib.hid k2
        have HB4 := Lib.hid (below_tail HBW3.out hB4)
        clear hO4 hown k1 k2 hB4 f2 t3
        go_wp2_with fail
        go_end0
        refine RkPost.of_below HB4.out ⟨M, _, ids, dir, ⟨rfl, vM, _, HK1.out, HK2.out.mono (fun x hx => by rw [List.mem_singleton.1 hx, HVF.out]; simp [rfoot, Value.ownBlock]), fun x hx => .inl (by rw [HVF.out]; exact hx)⟩, HI.out.setF HFJ.out rfl, by have := HML.out; omega, by rw [List.length_set]; exact HLF.out, HN0.out, by have := HN.out; omega⟩
    · obtain ⟨d0, d0f⟩ := HO3.out.dir
      obtain ⟨k1, k2⟩ := HO3.out.setDir text
      have hqw := lt_of_cell d0
      have HSZ := Lib.hid (lt_of_cell t3)
      have HQS := Lib.hid (show w.heap.size ∉ [q] from fun hx => by have := HLT.out q (by simp [rfoot]); rw [List.mem_singleton.1 hx] at this; omega)
      cases op with
      | false =>
        have HK1 := Lib.hid k1
        have HK2 := Lib.hid k2
        clear k1 k2
        go_wp2_with fail
        go_end0
        exact RkPost.of_below HBW3.out ⟨M, F, ids, text, RbPost.chain (HK2.out.mono (fun x hx => by rw [List.mem_singleton.1 hx]; simp [rfoot])) (fun x hx => .inl hx) (RbPost.here HK1.out (Below.refl _ _)), HI.out, by have := HML.out; omega, HLF.out, HN0.out, by have := HN.out; omega⟩
      | true =>
        go_upto_region 24 with fail
        generalize hW4 : World.setCell _ _ _ = W4
        rw [hW4] at k1 k2
        have HK1 := Lib.hid k1
        have HK2 := Lib.hid k2
        have HP4 := Lib.hid (show Calls Try.prog 36 #[.pointer (some ⟨q, 0, none⟩)] W4 fun e w' => e = .returned (.int .i64 m.ph) ∧ Below W4.heap.size W4 w' from by
          rw [← HPH.out]
          exact rphase_any W4 k1 (by omega))
        have f4 := k1.f.1
        rw [HVF.out] at f4
        have e3 := k2.cell HQS.out t3
        clear k1 k2 hW4 d0 d0f f2 t0 t1 t2 t3 t4 t5 hqw
        by_cases hlt : m.ph < 3
        rotate_left
        · go_wp2_with (go_at_call 36; refine HP4.out.mono ?_; rintro e w5 ⟨rfl, hb5⟩; have HB5 := Lib.hid hb5; clear hb5)
          go_end0
          exact RkPost.of_below HBW3.out ⟨M, F, ids, text, RbPost.chain (HK2.out.mono (fun x hx => by rw [List.mem_singleton.1 hx]; simp [rfoot])) (fun x hx => .inl hx) (RbPost.here HK1.out HB5.out), HI.out, by have := HML.out; omega, HLF.out, HN0.out, by have := HN.out; omega⟩
        · go_upto_region 25 with (go_at_call 36; refine HP4.out.mono ?_; rintro e w5 ⟨rfl, hb5⟩; have HB5 := Lib.hid hb5; clear hb5)
          replace f4 := holda HB5.out f4
          replace e3 := holda HB5.out e3
          refine wp_region_u 9 (fun w' => Below w5.heap.size w5 w' ∧ w'.cell? ⟨q, 2, none⟩ = some (.slice (some ⟨gF, 0, none⟩) F.length cF) ∧ w'.cell? ⟨w.heap.size, 3, none⟩ = some (.string text)) (by kernel_rfl) (by kernel_rfl) ?_ ?_
          · exact ⟨(Below.refl _ _).drew, f4, e3⟩
          simp only [List.take_succ_cons, List.take_zero, List.drop_succ_cons, List.drop_zero]
          repeat (refine seqU_val ?_ (by rfl) ?_ ?_; rotate_left; · (intro w' hS; obtain ⟨_, _, _⟩ := hS; go_simp; first | done | with_reducible rfl)
                  simp only [Act.put, List.setIfInBounds_toArray, List.set_cons_zero, List.set_cons_succ])
          refine seqU_nil (fun w6 hS => ?_)
          obtain ⟨hB6, -, -⟩ := hS
          have hO6 := HK1.out.below (below_tail HB5.out hB6)
          rw [HVF.out] at hO6
          have hown := hO6.ownF
          obtain ⟨k1, k2⟩ := hO6.setFc (j := 4) (v := .string text) (f' := { f with dir := text }) rfl HFJ.out (by decide) rfl
          obtain ⟨g0, g0f⟩ := owns_hold hown (i := j * 6 + 4) (v := .string f.dir) (by rw [flat_at1 encFc_len F j f 4 HFJ.out (by decide)]; rfl)
          have HK3 := Lib.hid k1
          have HK4 := Lib.hid k2
          have HB6 := Lib.hid (below_tail HB5.out hB6)
          clear hO6 hown k1 k2 hB6 f4 e3
          go_wp2_with fail
          go_end0
          refine RkPost.of_below HBW3.out ⟨M, _, ids, text, RbPost.chain (HK2.out.mono (fun x hx => by rw [List.mem_singleton.1 hx]; simp [rfoot])) (fun x hx => .inl hx) (RbPost.chain (Mod.of_below HB6.out) (fun x hx => .inl hx) ⟨rfl, vM, _, HK3.out, HK4.out.mono (fun x hx => by rw [List.mem_singleton.1 hx, HVF.out]; simp [rfoot, Value.ownBlock]), fun x hx => .inl (by rw [HVF.out]; exact hx)⟩), HI.out.setF HFJ.out rfl, by have := HML.out; omega, by rw [List.length_set]; exact HLF.out, HN0.out, by have := HN.out; omega⟩
    · go_wp2_with fail
      go_end0
      exact HEND.out _ (Below.refl _ _)
end Go.Proofs.Ytgfaincejebogaa
