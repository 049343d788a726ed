/- Joined by a tool of this claim out of smaller texts. Conditions: as stated. -/
import Derived.Test.YtaefcahblmopfaaGreatDoorTn22
import Derived.ProofKit
import Derived.OpenShut
import Derived.Lib.SmallJoins
import Derived.Below
import Derived.ChangeSame
import Derived.Carry
set_option linter.unusedVariables false
set_option linter.unusedSimpArgs false
namespace Go.Proofs.YtaefcahblmopfaaGreatDoor
open Go.RowKit
section
variable {base : Nat} {w : World} {v : Tv} {t : Tm}
theorem info_cg : (Tryz.prog.info? 96).map (fun i => (i.zero, i.size, i.bytes)) = some (some (.agg (encCg ⟨false, noSg, 0, 0, ⟨0, 0, 0⟩⟩).toArray), 10, 88) := by kernel_rfl
theorem info_pos2 : (Tryz.prog.info? 34).map (·.size) = some 2 := by kernel_rfl
theorem run_atT (s : Sc) (w : World) : (Instr.field 103 (.agg (stL s).toArray) 0).run Tryz.prog w = .ok (.agg #[.int .i64 s.y, .int .i64 s.x]) w := by
  have h := Tryz.underlying103
  have ha := Tryz.isAgg34 w
  have hs := Tryz.sizeOf34 w
  have e : (Instr.field 103 (.agg (stL s).toArray) 0).run Tryz.prog w = .ok (.agg ((stL s).toArray.extract 0 2)) w := by
    simp [Instr.field, part, run_underlying h, asAgg, ha, hs, Result.andThen, go_sem]
  rw [e]
  rfl
set_option maxRecDepth 100000 in
set_option maxHeartbeats 3200000 in
theorem tcommand133 (h : TmO base w v t) (hu : t.use = false) (ht : t.s0.pg.told = []) (hch : t.ch.length ≤ 1000) (hy : 0 ≤ t.s0.y ∧ t.s0.y ≤ 100000) (hz : t.s0.pg.hist.length ≤ 1000000) (k r b p : Int) (A : Option Addr) (n ca : Nat) (s1 : ByteArray) :
    Calls Tryz.prog 76 #[.pointer (some ⟨v.M, 0, none⟩), .agg #[.int .i64 k, .int .i32 r, .int .u8 b, .int .u8 p, .slice A n ca, .string s1, .string ⟨#[49, 51, 51, 59, 65]⟩, .bool false]] w (TmPost base w v { t with ch := t.ch ++ [signC ⟨1, 0, false, ⟨#[]⟩⟩ (t.s0.y + t.s0.pg.hist.length) t.s0.x] }) := by
  obtain ⟨j0, hj, gz0, gz1, gz2⟩ := info_parts info_cg
  obtain ⟨W, hW⟩ : ∃ W, w.alloc (.cells #[.int .i64 k, .int .i32 r, .int .u8 b, .int .u8 p, .slice A n ca, .string s1, .string ⟨#[49, 51, 51, 59, 65]⟩, .bool false] 83) = W := ⟨_, rfl⟩
  have hb0 : Below w.heap.size w W := by rw [← hW]; exact below_allocs (Below.refl _ _) _
  have hn0 : W.heap[w.heap.size]? = some (.cells #[.int .i64 k, .int .i32 r, .int .u8 b, .int .u8 p, .slice A n ca, .string s1, .string ⟨#[49, 51, 51, 59, 65]⟩, .bool false] 83 (0, 0)) := by rw [← hW]; exact hp_new rfl
  have d6 := (at_ hn0 6 _ rfl).1
  have d7 := (at_ hn0 7 _ rfl).1
  have HR := Lib.hid (fun w => read133 w)
  have HU := Lib.hid hu
  have HT := Lib.hid ht
  have HO := Lib.hid h
  have HB0 := Lib.hid hb0
  clear h hb0 hn0 ht hu
  go_enter Tryz.func76, Tryz.ntmps76
  go_upto_region 6 with (go_at_call 143; (with_reducible refine (HR.out _).mono ?_); rintro e w1 ⟨rfl, hb1⟩; have HB1 := Lib.hid (below_tail HB0.out hb1); clear hb1; obtain ⟨-, -, -, ⟨c3, -⟩, -⟩ := (HO.out.below HB1.out).facts; replace c3 : (w1.alloc (.cells #[.int .i64 1, .int .i64 0, .bool false, .string ⟨#[]⟩] 90)).cell? ⟨v.M, 3, none⟩ = some (.int .i64 0) := holda (below_allocs (Below.refl _ _) _) (by (rw [HU.out] at c3; exact c3)))
  obtain ⟨W2, hW2⟩ : ∃ W2, w1.alloc (.cells #[.int .i64 1, .int .i64 0, .bool false, .string ⟨#[]⟩] 90) = W2 := ⟨_, rfl⟩
  have hb2 : Below w.heap.size w W2 := below_tail HB1.out (by rw [← hW2]; exact below_allocs (Below.refl _ _) _)
  have hn2 : W2.heap[w1.heap.size]? = some (.cells #[.int .i64 1, .int .i64 0, .bool false, .string ⟨#[]⟩] 90 (0, 0)) := by rw [← hW2]; exact hp_new rfl
  have hO2 := HO.out.below hb2
  have HD := Lib.hid (tdrain0_any hO2 HT.out)
  have hgs : w.heap.size ≤ w1.heap.size := HB1.out.size
  rw [hW2]
  generalize w1.heap.size = gs at hn2 hgs ⊢
  have hgX : gs ∉ tmX v := fun hx => by have := (HO.out.lt gs hx).2; omega
  have HB2 := Lib.hid hb2
  have HN2 := Lib.hid hn2
  have HGX := Lib.hid hgX
  clear hb2 hn2 hW2 hO2 hgX c3 d6 d7 hW
  have hfd : ∀ w', (Instr.field 103 (.agg #[.int .i64 t.s0.y, .int .i64 t.s0.x, .int .i64 t.s0.pen.at_.fk, .int .i64 t.s0.pen.at_.fn, .int .i64 t.s0.pen.at_.bk, .int .i64 t.s0.pen.at_.bn, .int .i64 t.s0.pen.at_.fl, .int .i64 t.s0.pen.ch.g0, .int .i64 t.s0.pen.ch.g1, .int .i64 t.s0.pen.ch.g2, .int .i64 t.s0.pen.ch.g3, .int .i64 t.s0.pen.ch.use, .int .i64 t.s0.pen.ch.once, .bool t.s0.pen.put, .bool t.s0.pen.wrap, .bool t.s0.pen.home, .int .i64 t.s0.top, .int .i64 t.s0.bot, .bool t.s0.has]) 0).run Tryz.prog w' = .ok (.agg #[.int .i64 t.s0.y, .int .i64 t.s0.x]) w' := fun w' => run_atT t.s0 w'
  go_upto_region 9 with (first
    | (go_at_call 44; (with_reducible refine HD.out.mono ?_); rintro e w3 ⟨rfl, v3, hV, hO3, hM3⟩; have HV := Lib.hid hV; have HO3 := Lib.hid hO3; have HM3 := Lib.hid hM3; obtain ⟨-, c1, -⟩ := hO3.facts; rw [hV.M] at c1; have HN3 := Lib.hid ((hM3.block gs (lt_of_heap HN2.out) HGX.out).trans HN2.out); have HST : Hid (Calls Tryz.prog 47 #[.pointer (some ⟨v3.a.S, 0, none⟩)] w3 fun e w' => e = .returned (.agg #[.int .i64 t.s0.y, .int .i64 t.s0.x, .int .i64 t.s0.pen.at_.fk, .int .i64 t.s0.pen.at_.fn, .int .i64 t.s0.pen.at_.bk, .int .i64 t.s0.pen.at_.bn, .int .i64 t.s0.pen.at_.fl, .int .i64 t.s0.pen.ch.g0, .int .i64 t.s0.pen.ch.g1, .int .i64 t.s0.pen.ch.g2, .int .i64 t.s0.pen.ch.g3, .int .i64 t.s0.pen.ch.use, .int .i64 t.s0.pen.ch.once, .bool t.s0.pen.put, .bool t.s0.pen.wrap, .bool t.s0.pen.home, .int .i64 t.s0.top, .int .i64 t.s0.bot, .bool t.s0.has]) ∧ Below w3.heap.size w3 w') := Lib.hid (sState_any hO3.a); clear hV hO3 hM3)
    | (go_at_call 47; (with_reducible refine HST.out.mono ?_); rintro e w4 ⟨rfl, hb4⟩; have HB4 := Lib.hid hb4; clear hb4))
  obtain ⟨W5, hW5⟩ : ∃ W5, w4.alloc (.cells #[.int .i64 t.s0.y, .int .i64 t.s0.x] 34) = W5 := ⟨_, rfl⟩
  have hb5 : Below w3.heap.size w3 W5 := below_tail HB4.out (by rw [← hW5]; exact below_allocs (Below.refl _ _) _)
  have hp5 : W5.heap[w4.heap.size]? = some (.cells #[.int .i64 t.s0.y, .int .i64 t.s0.x] 34 (0, 0)) := by rw [← hW5]; exact hp_new rfl
  have hpb : w3.heap.size ≤ w4.heap.size := HB4.out.size
  rw [hW5]
  generalize w4.heap.size = pb at hp5 hpb ⊢
  have HB5 := Lib.hid hb5
  have HP5 := Lib.hid hp5
  have HN5 := Lib.hid ((hb5.block gs (lt_of_heap HN3.out)).trans HN3.out)
  have HPG : Hid (∀ w', Below W5.heap.size W5 w' → Calls Tryz.prog 78 #[.pointer (some ⟨v3.a.S, 0, none⟩)] w' fun e w'' => e = .returned (.pointer (some ⟨v3.a.q.P, 0, none⟩)) ∧ w' = w'') := Lib.hid (fun w' hb => sPage_any ((HO3.out.below (below_tail hb5 hb)).a))
  have HBA : Hid (∀ w', Below W5.heap.size W5 w' → Calls Tryz.prog 91 #[.pointer (some ⟨v3.a.q.P, 0, none⟩)] w' fun e w'' => e = .returned (.int .i64 t.s0.pg.hist.length) ∧ w' = w'') := Lib.hid (fun w' hb => pBase_any ((HO3.out.below (below_tail hb5 hb)).a.page))
  generalize hhl : t.s0.pg.hist.length = hl at hz HBA
  have HHL := Lib.hid hhl
  clear hhl
  obtain ⟨p0, -⟩ := at_ hp5 0 (.int .i64 t.s0.y) rfl
  clear hb5 hp5 hW5 c1 hfd
  refine wp_region_u 5 (fun w' => Below W5.heap.size W5 w' ∧ w'.cell? ⟨pb, 0, none⟩ = some (.int .i64 t.s0.y)) (by kernel_rfl) (by kernel_rfl) ?_ ?_
  · exact ⟨(Below.refl _ _).drew, p0⟩
  simp only [List.take_succ_cons, List.take_zero, List.drop_succ_cons, List.drop_zero]
  repeat (
    (first
     | refine seqU_skip (by rfl) ?_
     | ((refine seqU_call 78 #[.pointer (some ⟨v3.a.S, 0, none⟩)] (.pointer (some ⟨v3.a.q.P, 0, none⟩)) (by rfl) ?_ (fun w' hS => (HPG.out w' hS.1).mono fun e w2 ⟨he, hb⟩ => ⟨he, by subst hb; exact hS⟩) ?_; (focus (intro w2; go_simp; done))))
     | ((refine seqU_call 91 #[.pointer (some ⟨v3.a.q.P, 0, none⟩)] (.int .i64 hl) (by rfl) ?_ (fun w' hS => (HBA.out w' hS.1).mono fun e w2 ⟨he, hb⟩ => ⟨he, by subst hb; exact hS⟩) ?_; (focus (intro w2; go_simp; done))))
     | (refine seqU_val ?_ (by rfl) ?_ ?_; rotate_left; (focus (intro w' hS; obtain ⟨_, _⟩ := hS; go_simp; first | done | with_reducible rfl))))
    simp only [Act.put, List.setIfInBounds_toArray, List.set_cons_zero, List.set_cons_succ])
  refine seqU_nil (fun w' hS => ?_)
  obtain ⟨hb6, -⟩ := hS
  have hp6 := (hb6.block pb (lt_of_heap HP5.out)).trans HP5.out
  have HB6 := Lib.hid (below_tail HB5.out hb6)
  have HP6 := Lib.hid hp6
  obtain ⟨p0, p0f⟩ := at_ hp6 0 (.int .i64 t.s0.y) rfl
  have hwr : IntKind.i64.wrap (t.s0.y + hl) = t.s0.y + hl := IntWalk.i64_in _ (by omega)
  clear hb6 hp6
  go_upto_region 10 with fail
  obtain ⟨W7, hW7⟩ : ∃ W7, w'.setCell ⟨pb, 0, none⟩ (.int .i64 (t.s0.y + hl)) = W7 := ⟨_, rfl⟩
  have hb7 : Below w3.heap.size w3 W7 := by rw [← hW7]; exact below_set HB6.out hpb _
  have hp7 : W7.heap[pb]? = some (.cells #[.int .i64 (t.s0.y + hl), .int .i64 t.s0.x] 34 (0, 0)) := by rw [← hW7]; exact whole_set (cs := [.int .i64 t.s0.y, .int .i64 t.s0.x]) HP6.out 0 _ rfl
  rw [hW7]
  have hn7 := (hb7.block gs (lt_of_heap HN3.out)).trans HN3.out
  have hO7 := HO3.out.below hb7
  obtain ⟨A8, c8, hvc⟩ := row_form hO7.ch
  obtain ⟨-, -, -, -, -, -, -, -, ⟨x8, x8f⟩⟩ := hO7.facts
  rw [HV.out.M, hvc] at x8
  rw [HV.out.M] at x8f
  have HB7 := Lib.hid hb7
  have HVC := Lib.hid hvc
  have HGM : Hid (gs ∉ v3.vc.ownBlock.toList ∧ pb ∉ v3.vc.ownBlock.toList ∧ v.M ∉ v3.vc.ownBlock.toList) := by
    refine Lib.hid ⟨fun hx => ?_, fun hx => ?_, fun hx => ?_⟩
    · obtain ⟨cur, hc⟩ := own_block HO3.out.ch (Option.mem_toList.1 hx)
      exact block_ne HN3.out hc (by decide) rfl
    · have := (HO3.out.ch.lt pb (Option.mem_toList.1 hx)).2; omega
    · exact HO3.out.mc (by rw [HV.out.M]; exact Option.mem_toList.1 hx)
  clear hb7 hW7 p0 p0f hwr hO7 hvc
  refine Go.RL.wp_region_l 11 (fun w' => (w'.cell? ⟨v.M, 8, none⟩ = some (.slice A8 t.ch.length c8) ∧ w'.frozen? ⟨v.M, 8, none⟩ = false) ∧ w'.heap[gs]? = some (.cells #[.int .i64 1, .int .i64 0, .bool false, .string ⟨#[]⟩] 90 (0, 0)) ∧ w'.heap[pb]? = some (.cells #[.int .i64 (t.s0.y + hl), .int .i64 t.s0.x] 34 (0, 0))) (fun w' => Below W7.heap.size W7 w') (by kernel_rfl) (by kernel_rfl) ⟨⟨x8, x8f⟩, hn7, hp7⟩ ((Below.refl _ _).drew) ?_
  refine Go.RL.AtL.go 0 ?_
  iterate 5 (refine Go.RL.AtK.take (o := ⟨_, _, _, _, _, _⟩) (v := ?_) (by kernel_rfl) rfl (by simp) (by kernel_rfl) (by kernel_rfl) ?_ ?_; rotate_left; (focus (refine Go.RL.Pure.val (by rfl) ?_; intro w' hI; obtain ⟨⟨_, _⟩, _, _⟩ := hI; go_simp; first | done | with_reducible rfl)); simp only [Act.put, List.setIfInBounds_toArray, List.set_cons_zero, List.set_cons_succ])
  refine Go.RL.AtK.back ?_
  refine Go.RL.AtL.take 5 (o := ⟨_, _, _, _, _, _⟩) (v := .agg #[.int .i64 1, .int .i64 0, .bool false, .string ⟨#[]⟩]) (by kernel_rfl) rfl (by simp) (by kernel_rfl) (by kernel_rfl) (Go.RL.Pure.val (by rfl) (fun w' hI => exec_load 90 (.tmp 4) rfl gs 0 rfl [.int .i64 1, .int .i64 0, .bool false, .string ⟨#[]⟩] _ (range_new hI.2.1) Tryz.underlying90 rfl info_sign)) ?_
  simp only [Act.put, List.setIfInBounds_toArray, List.set_cons_zero, List.set_cons_succ]
  refine Go.RL.AtL.take 6 (o := ⟨_, _, _, _, _, _⟩) (v := .agg #[.int .i64 (t.s0.y + hl), .int .i64 t.s0.x]) (by kernel_rfl) rfl (by simp) (by kernel_rfl) (by kernel_rfl) (Go.RL.Pure.val (by rfl) (fun w' hI => exec_load 34 (.tmp 6) rfl pb 0 rfl [.int .i64 (t.s0.y + hl), .int .i64 t.s0.x] _ (range_new hI.2.2) Tryz.underlying34 rfl info_pos2)) ?_
  simp only [Act.put, List.setIfInBounds_toArray, List.set_cons_zero, List.set_cons_succ]
  refine Go.RL.AtL.go 7 ?_
  iterate 2 (refine Go.RL.AtK.take (o := ⟨_, _, _, _, _, _⟩) (v := ?_) (by kernel_rfl) rfl (by simp) (by kernel_rfl) (by kernel_rfl) ?_ ?_; rotate_left; (focus (refine Go.RL.Pure.val (by rfl) ?_; intro w' hI; obtain ⟨⟨_, _⟩, _, _⟩ := hI; go_simp; first | done | with_reducible rfl)); simp only [Act.put, List.setIfInBounds_toArray, List.set_cons_zero, List.set_cons_succ])
  refine Go.RL.AtK.back ?_
  refine Go.RL.AtL.one 9 (o := ⟨_, _, _, _, _, _⟩) (fun u => ∃ k, u = .slice (some ⟨k, 0, none⟩) 1 1) (fun u w' => ∃ k, u = .slice (some ⟨k, 0, none⟩) 1 1 ∧ Below W7.heap.size W7 w' ∧ w'.heap[k]? = some (.cells #[.bool true, .int .i64 1, .int .i64 0, .bool false, .string ⟨#[]⟩, .int .i64 (t.s0.y + hl), .int .i64 t.s0.x, .int .i64 0, .int .i64 0, .int .i64 0] 96 (0, 0))) (by simp) (by kernel_rfl) rfl (Go.RL.StabL.op _ _ (by rfl) (fun w' hI hS => ?_)) ?_
  · have hb2 := below_allocs (Below.refl w'.heap.size w') (.cells #[.bool true, .int .i64 1, .int .i64 0, .bool false, .string ⟨#[]⟩, .int .i64 (t.s0.y + hl), .int .i64 t.s0.x, .int .i64 0, .int .i64 0, .int .i64 0] 96)
    exact ⟨.slice (some ⟨w'.heap.size, 0, none⟩) 1 1, w'.alloc (.cells #[.bool true, .int .i64 1, .int .i64 0, .bool false, .string ⟨#[]⟩, .int .i64 (t.s0.y + hl), .int .i64 t.s0.x, .int .i64 0, .int .i64 0, .int .i64 0] 96), by go_simp, ⟨_, rfl⟩, ⟨hold hb2 hI.1, (hb2.block gs (lt_of_heap hI.2.1)).trans hI.2.1, (hb2.block pb (lt_of_heap hI.2.2)).trans hI.2.2⟩, _, rfl, below_tail hS hb2, hp_new rfl⟩
  rintro u ⟨kk, rfl⟩
  simp only [Act.put, List.setIfInBounds_toArray, List.set_cons_zero, List.set_cons_succ]
  refine Go.RL.AtL.one 10 (o := ⟨some 59, .call { callee := .builtin .append, args := #[.tmp 53, .tmp 58], argTypes := #[43, 43] }, 43, _, _, none⟩) (fun u => ∃ g' c', u = .slice (some ⟨g', 0, none⟩) (t.ch.length + 1) c') (fun u w' => TmRes base w v { t with ch := t.ch ++ [signC ⟨1, 0, false, ⟨#[]⟩⟩ (t.s0.y + hl) t.s0.x] } (w'.setCell ⟨v.M, 8, none⟩ u)) (by simp) (by kernel_rfl) rfl (Go.RL.StabL.op _ _ (by rfl) (fun w' hI hS => ?_)) ?_
  · obtain ⟨k', hv', hb, hk⟩ := hS
    simp only [Value.slice.injEq, Option.some.injEq, Addr.mk.injEq, and_true, true_and] at hv'
    subst hv'
    have hO9 := HO3.out.below (below_tail HB7.out hb)
    obtain ⟨v', w8, hr8, ho8, hg8, -, hn8⟩ := run_append_own_at (P := Tryz.prog) w' base 43 43 96 j0 _ 10 88 Tryz.underlying43 hj gz0 gz1 gz2 rfl (by decide) v3.vc t.ch.length (flat encCg t.ch) hO9.ch ⟨kk, 0, none⟩ 1 1 (encCg (signC ⟨1, 0, false, ⟨#[]⟩⟩ (t.s0.y + hl) t.s0.x)) rfl (fun j u hj => by
      rw [add_lit', Nat.zero_add]
      exact (at_ hk j u (by simpa [encCg, signC] using hj)).1) (encCg_one _) (by simp only [maxLen]; omega) (by omega) hO9.bw
    obtain ⟨g', c', rfl⟩ := own_form ho8 (by omega)
    have hMg : Mod v3.vc.ownBlock.toList w' w8 := Mod.of_grown hg8 (fun b hb => by simp [hb])
    have hG := (hO9.grow (L := t.ch ++ [signC ⟨1, 0, false, ⟨#[]⟩⟩ (t.s0.y + hl) t.s0.x]) hg8 (by rw [flat_append, List.length_append]; exact ho8) (fun g hg => by
      rcases hn8 with h3 | h3
      · exact .inl (by rw [← h3]; exact hg)
      · rw [h3] at hg; injection hg with hg; exact .inr (by omega))).1
    rw [HV.out.M] at hG
    refine ⟨_, w8, exec_append _ _ _ rfl _ _ _ rfl rfl (by rw [HVC.out] at hr8; exact hr8), ⟨g', c', rfl⟩, ⟨hMg.hold HGM.out.2.2 hI.1, (hMg.block gs (lt_of_heap hI.2.1) HGM.out.1).trans hI.2.1, (hMg.block pb (lt_of_heap hI.2.2) HGM.out.2.1).trans hI.2.2⟩, ?_⟩
    exact TmRes.pre HB2.out (TmRes.trans HV.out HM3.out (TmRes.pre (below_tail HB7.out hb) hG))
  rintro u ⟨g', c', rfl⟩
  simp only [Act.put, List.setIfInBounds_toArray, List.set_cons_zero, List.set_cons_succ]
  refine Go.RL.AtL.done (by kernel_rfl) (fun w' hI hS => ?_)
  obtain ⟨⟨z1, z1f⟩, -⟩ := hI
  have HS := Lib.hid hS
  clear hS x8 x8f hn7 hp7
  go_wp2
  go_end0
  exact ⟨rfl, by rw [HHL.out]; exact HS.out⟩
end
end Go.Proofs.YtaefcahblmopfaaGreatDoor

namespace Go.Proofs.YtaefcahblmopfaaGreatDoor
open Go.RowKit
def placeI (priv : Bool) (n : Int) : Int := if knownM priv n then placeM priv n else -1
theorem placeI_at : ∀ i, i < 18 → placeI (decide (2 ≤ i)) (modesT.getD i 0) = i := by decide
theorem placeI_none (priv : Bool) (n : Int) (h : ∀ j, j < 18 → ¬ (modesT.getD j 0 = n ∧ priv = decide (2 ≤ j))) : placeI priv n = -1 := by
  unfold placeI knownM placeM
  cases priv with
  | true =>
    have e : (modesT.drop 2).findIdx (· == n) = 16 := List.findIdx_eq_length_of_false (xs := modesT.drop 2) (fun x hx => by
      obtain ⟨i, hi, he⟩ := List.getElem_of_mem hx
      have hi2 : i < 16 := hi
      have := h (i + 2) (by omega)
      rw [List.getElem_drop] at he
      have e2 : modesT.getD (i + 2) 0 = x := by
        rw [List.getD_eq_getElem?_getD, List.getElem?_eq_getElem (by show i + 2 < 18; omega), Option.getD_some, ← he]
        congr 1
        omega
      rw [e2] at this
      simp only [decide_eq_true (show 2 ≤ i + 2 by omega), and_true] at this
      simpa using this)
    simp [e]
  | false =>
    have e : (modesT.take 2).findIdx (· == n) = 2 := List.findIdx_eq_length_of_false (xs := modesT.take 2) (fun x hx => by
      have h0 := h 0 (by omega)
      have h1 := h 1 (by omega)
      simp [modesT] at h0 h1 hx
      rcases hx with rfl | rfl
      · simpa using h0
      · simpa using h1)
    simp [e]
theorem info_nums : (Tryz.prog.info? 207).map (·.size) = some 18 := by kernel_rfl
def numsV : Value := .agg #[.int .i64 4, .int .i64 20, .int .i64 1, .int .i64 5, .int .i64 6, .int .i64 7, .int .i64 25, .int .i64 47, .int .i64 66, .int .i64 1000, .int .i64 1002, .int .i64 1003, .int .i64 1004, .int .i64 1006, .int .i64 1047, .int .i64 1048, .int .i64 1049, .int .i64 2004]
set_option maxRecDepth 100000 in
set_option maxHeartbeats 1600000 in
theorem numbers_any (w : World) : Calls Tryz.prog 154 #[] w fun e w' => e = .returned numsV ∧ Below w.heap.size w w' := by
  go_enter Tryz.func154, Tryz.ntmps154
  go_wp2
  exact bodyPost_ret (ret_agg rfl _ _ w.heap.size [.int .i64 4, .int .i64 20, .int .i64 1, .int .i64 5, .int .i64 6, .int .i64 7, .int .i64 25, .int .i64 47, .int .i64 66, .int .i64 1000, .int .i64 1002, .int .i64 1003, .int .i64 1004, .int .i64 1006, .int .i64 1047, .int .i64 1048, .int .i64 1049, .int .i64 2004] rfl (range_new (hp_new rfl)) Tryz.underlying207 rfl info_nums) rfl ⟨rfl, below_allocs (Below.refl _ _) _⟩
def numsL : List Value := [.int .i64 4, .int .i64 20, .int .i64 1, .int .i64 5, .int .i64 6, .int .i64 7, .int .i64 25, .int .i64 47, .int .i64 66, .int .i64 1000, .int .i64 1002, .int .i64 1003, .int .i64 1004, .int .i64 1006, .int .i64 1047, .int .i64 1048, .int .i64 1049, .int .i64 2004]
theorem numsL_at : ∀ i, i < 18 → numsL[i]? = some (.int .i64 (modesT.getD i 0)) := fun i hi => by
  have : numsL = modesT.map (Value.int .i64) := rfl
  rw [this, List.getElem?_map, List.getElem?_eq_getElem (by show i < 18; exact hi), Option.map_some, List.getD_eq_getElem?_getD, List.getElem?_eq_getElem (by show i < 18; exact hi), Option.getD_some]
set_option maxRecDepth 100000 in
set_option maxHeartbeats 1600000 in
theorem place_any (priv : Bool) (n : Int) (w : World) : Calls Tryz.prog 83 #[.bool priv, .int .i64 n] w fun e w' => e = .returned (.int .i64 (placeI priv n)) ∧ Below w.heap.size w w' := by
  obtain ⟨NA, hNA⟩ : ∃ NA, NA = numsL.toArray := ⟨_, rfl⟩
  have HN : Hid (Calls Tryz.prog 154 #[] w fun e w' => e = .returned (.agg NA) ∧ Below w.heap.size w w') := Lib.hid (by rw [hNA]; exact numbers_any w)
  have HIX : Hid (∀ (i : Nat), i < 18 → ∀ w', (Instr.index 207 (.agg NA) (.int .i64 i)).run Tryz.prog w' = .ok (.int .i64 (modesT.getD i 0)) w') := Lib.hid (fun i hi w' => run_index_cell w' _ _ 18 NA _ _ _ Tryz.underlying207 (by omega) (by omega) (Tryz.sizeOf3 _) (Tryz.isAgg3 _) (by rw [hNA]; exact numsL_at i hi))
  clear hNA
  go_enter Tryz.func83, Tryz.ntmps83
  go_wp2_with (go_at_call 154; (with_reducible refine HN.out.mono ?_); rintro e w1 ⟨rfl, hb⟩; have HB := Lib.hid hb; clear hb)
  go_loopw [8] (fun s8 wr => ∃ i : Nat, s8 = .int .i64 i ∧ i ≤ 18 ∧ (∀ j, j < i → ¬ (modesT.getD j 0 = n ∧ priv = decide (2 ≤ j))) ∧ wr = w1) (fun s8 _ => 18 - (intOf s8).toNat)
  case atStart => exact ⟨0, rfl, by omega, fun j hj => absurd hj (by omega), rfl⟩
  case round =>
    obtain ⟨i, rfl, hi, hno, rfl⟩ := hrel
    have HNO := Lib.hid hno
    clear hno
    by_cases hlt : i < 18
    · have hltI : (i : Int) < 18 := by omega
      have hix := HIX.out i hlt
      have HAT := Lib.hid (placeI_at i hlt)
      have HNX : Hid (¬ (modesT.getD i 0 = n ∧ priv = decide (2 ≤ i)) → ∀ j, j < i + 1 → ¬ (modesT.getD j 0 = n ∧ priv = decide (2 ≤ j))) := Lib.hid (fun h j hj => by
        rcases Nat.lt_or_ge j i with h1 | h1
        · exact HNO.out j h1
        · obtain rfl : j = i := by omega
          exact h)
      have hd : decide ((2 : Int) ≤ i) = decide (2 ≤ i) := decide_eq_decide.2 (by omega)
      generalize modesT.getD i 0 = x at hix HAT HNX
      have hw : IntKind.i64.wrap ((i : Int) + 1) = (i : Int) + 1 := IntWalk.i64_in _ (by omega)
      by_cases hx : x = n
      · have hxb : (x == n) = true := by simpa using hx
        by_cases hp : priv = decide (2 ≤ i)
        · have hpb : (priv == decide ((2 : Int) ≤ i)) = true := by rw [hd]; simpa using hp
          have HHX := Lib.hid hx
          have HHP := Lib.hid hp
          clear hx hp hd
          go_wp2
          go_ret
          exact ⟨(congrArg (fun k : Int => Ending.returned (Value.int .i64 k)) (show placeI priv n = i from by rw [HHP.out, ← HHX.out, HAT.out])).symm, HB.out⟩
        · have hpb : (priv == decide ((2 : Int) ≤ i)) = false := by rw [hd]; simpa using hp
          have HHP := Lib.hid hp
          clear hp hx hd
          go_wp2
          exact ⟨⟨i + 1, by go_num, by omega, HNX.out (fun h => HHP.out h.2), trivial⟩, by simp [intOf]; omega⟩
      · have hxb : (x == n) = false := by simpa using hx
        have HHX := Lib.hid hx
        clear hx hd
        go_wp2
        exact ⟨⟨i + 1, by go_num, by omega, HNX.out (fun h => HHX.out h.1), trivial⟩, by simp [intOf]; omega⟩
    · have hltI : ¬ (i : Int) < 18 := by omega
      obtain rfl : i = 18 := by omega
      go_wp2
      go_ret
      exact ⟨congrArg (fun k : Int => Ending.returned (Value.int .i64 k)) (placeI_none priv n HNO.out).symm, HB.out⟩
end Go.Proofs.YtaefcahblmopfaaGreatDoor

namespace Go.Proofs.YtaefcahblmopfaaGreatDoor
open Go.RowKit
theorem info_set : (Tryz.prog.info? 40).map (·.size) = some 1 := by kernel_rfl
theorem or_bit {b : Int} {k : Nat} (hb : 0 ≤ b ∧ b < 4294967296) (hk : k < 18) : bits .or .u32 b (2 ^ k) = ((b.toNat ||| 2 ^ k : Nat) : Int) := by
  obtain ⟨a, rfl⟩ := Int.eq_ofNat_of_zero_le hb.1
  have h1 : 2 ^ k < 4294967296 := Nat.lt_of_lt_of_le (Nat.pow_lt_pow_right (by omega) hk) (by decide)
  have ha : a < 4294967296 := by omega
  have hlt : a ||| 2 ^ k < 4294967296 := Nat.or_lt_two_pow (n := 32) ha h1
  have key : (BitVec.ofInt 32 (a : Int) ||| BitVec.ofInt 32 (2 ^ k : Int)).toNat = a ||| 2 ^ k := by
    rw [show ((2 : Int) ^ k) = ((2 ^ k : Nat) : Int) by simp, BitVec.ofInt_natCast, BitVec.ofInt_natCast, BitVec.toNat_or, BitVec.toNat_ofNat, BitVec.toNat_ofNat, Nat.mod_eq_of_lt (by omega), Nat.mod_eq_of_lt (by omega)]
  have e2 : bits .or .u32 (a : Int) (2 ^ k) = IntKind.u32.wrap (((BitVec.ofInt 32 (a : Int) ||| BitVec.ofInt 32 (2 ^ k : Int)).toNat : Nat) : Int) := rfl
  rw [e2, key]
  have : IntKind.u32.wrap ((a ||| 2 ^ k : Nat) : Int) = ((a ||| 2 ^ k : Nat) : Int) := by
    show ((a ||| 2 ^ k : Nat) : Int) % 4294967296 = _
    omega
  rw [this]
  simp
theorem withM_on {b : Int} {priv : Bool} {n : Int} {k : Nat} (hk : placeI priv n = k) : withM b priv n true = ((b.toNat ||| 2 ^ k : Nat) : Int) := by
  unfold placeI at hk
  split at hk
  · rename_i h
    unfold withM
    rw [if_pos h, if_pos rfl, show placeM priv n = k by omega]
  · omega
set_option maxRecDepth 100000 in
set_option maxHeartbeats 1600000 in
theorem mwith_on (b : Int) (priv : Bool) (n : Int) (k : Nat) (hk : placeI priv n = k) (h5 : k < 18) (hb0 : 0 ≤ b ∧ b < 4294967296) (w : World) : Calls Tryz.prog 41 #[.agg #[.int .u32 b], .bool priv, .int .i64 n, .bool true] w fun e w' => e = .returned (.agg #[.int .u32 (withM b priv n true)]) ∧ Below w.heap.size w w' := by
  have HP := Lib.hid (fun w => place_any priv n w)
  rw [hk] at HP
  have hk0 : ¬ (k : Int) < 0 := by omega
  go_enter Tryz.func41, Tryz.ntmps41
  go_upto_region 5 with (go_at_call 83; (with_reducible refine (HP.out _).mono ?_); rintro e w1 ⟨rfl, hb⟩; have HB := Lib.hid hb; clear hb)
  have hb5 : Below w.heap.size w w1 := below_tail (below_allocs (below_allocs (Below.refl _ _) _) _) HB.out
  have hn5 : w1.heap[w.heap.size]? = some (.cells #[.int .u32 b] 40 (0, 0)) := (HB.out.block _ (by simp; omega)).trans (hp_old (hp_new rfl))
  have hr5 : w1.heap[w.heap.size + 1]? = some (.cells #[.int .u32 0] 40 (0, 0)) := (HB.out.block _ (by simp)).trans (hp_new (by simp))
  have HB5 := Lib.hid hb5
  have HN5 := Lib.hid hn5
  have HR5 := Lib.hid hr5
  obtain ⟨c0, f0⟩ := at_ hn5 0 (.int .u32 b) rfl
  clear hb5 hn5 hr5
  refine wp_region_u 4 (fun w' => Below w1.heap.size w1 w' ∧ w'.cell? ⟨w.heap.size, 0, none⟩ = some (.int .u32 b)) (by kernel_rfl) (by kernel_rfl) ?_ ?_
  · exact ⟨(Below.refl _ _).drew, c0⟩
  simp only [List.take_succ_cons, List.take_zero, List.drop_succ_cons, List.drop_zero]
  repeat (
    (first
     | refine seqU_skip (by rfl) ?_
     | (refine seqU_val ?_ (by rfl) ?_ ?_; rotate_left; (focus (intro w' hS; obtain ⟨_, _⟩ := hS; go_simp; first | done | with_reducible rfl))))
    simp only [Act.put, List.setIfInBounds_toArray, List.set_cons_zero, List.set_cons_succ])
  refine seqU_nil (fun w' hS => ?_)
  obtain ⟨hb6, c0⟩ := hS
  have hn6 := (hb6.block _ (lt_of_heap HN5.out)).trans HN5.out
  have hr6 := (hb6.block _ (lt_of_heap HR5.out)).trans HR5.out
  obtain ⟨-, f0⟩ := at_ hn6 0 (.int .u32 b) rfl
  obtain ⟨r0, rf0⟩ := at_ hr6 0 (.int .u32 0) rfl
  have HB6 := Lib.hid (below_tail HB5.out hb6)
  have HN6 := Lib.hid hn6
  have HR6 := Lib.hid hr6
  have hpw : IntKind.u32.wrap (2 ^ k) = 2 ^ k := by
    have : ∀ k, k < 18 → IntKind.u32.wrap (2 ^ k) = 2 ^ k := by decide
    exact this k h5
  clear hb6 hn6 hr6
  go_wp2
  have hz := whole_set (cs := [.int .u32 0]) (w := w'.setCell ⟨w.heap.size, 0, none⟩ (.int .u32 (bits .or .u32 b (2 ^ k)))) ((((Mod.refl [w.heap.size] w').setCell (a := ⟨w.heap.size, 0, none⟩) (.inl (by simp)) _).block (w.heap.size + 1) (lt_of_heap HR6.out) (by simp)).trans HR6.out) 0 (.int .u32 (bits .or .u32 b (2 ^ k))) rfl
  exact bodyPost_ret (ret_agg rfl _ _ (w.heap.size + 1) [.int .u32 (bits .or .u32 b (2 ^ k))] rfl (range_new hz) Tryz.underlying40 rfl info_set) rfl ⟨by rw [withM_on hk, or_bit hb0 h5], below_set (below_set HB6.out (Nat.le_refl _) _) (by omega) _⟩
set_option maxRecDepth 100000 in
theorem mnew_any (w : World) : Calls Tryz.prog 15 #[] w fun e w' => e = .returned (.agg #[.int .u32 newM]) ∧ Below w.heap.size w w' := by
  have H1 : Hid (∀ w, Calls Tryz.prog 41 #[.agg #[.int .u32 0], .bool true, .int .i64 7, .bool true] w fun e w' => e = .returned (.agg #[.int .u32 32]) ∧ Below w.heap.size w w') := Lib.hid (fun w => by
    have := mwith_on 0 true 7 5 (by decide) (by omega) (by omega) w
    rw [show withM 0 true 7 true = 32 by decide] at this
    exact this)
  have H2 : Hid (∀ w, Calls Tryz.prog 41 #[.agg #[.int .u32 32], .bool true, .int .i64 25, .bool true] w fun e w' => e = .returned (.agg #[.int .u32 96]) ∧ Below w.heap.size w w') := Lib.hid (fun w => by
    have := mwith_on 32 true 25 6 (by decide) (by omega) (by omega) w
    rw [show withM 32 true 25 true = 96 by decide] at this
    exact this)
  rw [show newM = 96 by decide]
  obtain ⟨W, hW⟩ : ∃ W, w.alloc (.cells #[.int .u32 0] 40) = W := ⟨_, rfl⟩
  have HB0 : Hid (Below w.heap.size w W) := Lib.hid (by rw [← hW]; exact below_allocs (Below.refl _ _) _)
  have HN0 : Hid (W.heap[w.heap.size]? = some (.cells #[.int .u32 0] 40 (0, 0))) := Lib.hid (by rw [← hW]; exact hp_new rfl)
  go_enter Tryz.func15, Tryz.ntmps15
  go_wp2_with (first
    | (go_at_call 41; (with_reducible refine (H1.out _).mono ?_); rintro e w1 ⟨rfl, hb⟩; have HB1 := Lib.hid (below_tail HB0.out hb); have HN1 := Lib.hid ((hb.block _ (lt_of_heap HN0.out)).trans HN0.out); clear hb)
    | (go_at_call 41; (with_reducible refine (H2.out _).mono ?_); rintro e w2 ⟨rfl, hb⟩; have HB2 := Lib.hid (below_tail HB1.out hb); have HN2 := Lib.hid ((hb.block _ (lt_of_heap HN1.out)).trans HN1.out); clear hb; obtain ⟨r0, rf0⟩ := at_ HN2.out 0 (.int .u32 0) rfl))
  exact bodyPost_ret (ret_agg rfl _ _ w.heap.size [.int .u32 96] rfl (range_new (whole_set (cs := [.int .u32 0]) HN2.out 0 (.int .u32 96) rfl)) Tryz.underlying40 rfl info_set) rfl ⟨rfl, below_set HB2.out (Nat.le_refl _) _⟩
end Go.Proofs.YtaefcahblmopfaaGreatDoor

namespace Go.Proofs.YtaefcahblmopfaaGreatDoor
open Go.RowKit
def ZNewPost (n : Int) (w : World) (e : Ending) (w' : World) : Prop := ∃ v, e = .returned (.tuple #[.pointer (some ⟨v.P, 0, none⟩), .int .i64 0]) ∧ PzO w.heap.size w' v (newPz n) ∧ Below w.heap.size w w'
set_option maxRecDepth 100000 in
set_option maxHeartbeats 1600000 in
theorem znew_ok (n : Int) (w : World) (h1 : 1 ≤ n) (h2 : n ≤ 65536) : Calls Tryz.prog 36 #[.int .i64 n] w (ZNewPost n w) := by
  have g1 : ¬ n < 1 := by omega
  have g2 : ¬ n > 65536 := by omega
  have g3 : ¬ 65536 < n := by omega
  go_enter Tryz.func36, Tryz.ntmps36
  go_wp2
  go_ret2
  exact ⟨⟨w.heap.size, fun _ => .slice none 0 0⟩, rfl, ⟨hp_new rfl, Nat.le_refl _, fun k hk => by
    match k, hk with
    | 0, _ => exact World.ownsRow_nil _ _ _ _
    | 1, _ => exact World.ownsRow_nil _ _ _ _
    | 2, _ => exact World.ownsRow_nil _ _ _ _, fun i j g _ _ _ h => by cases h⟩, below_allocs (Below.refl _ _) _⟩
set_option maxRecDepth 100000 in
theorem znew_bad (n : Int) (w : World) (h : n < 1 ∨ 65536 < n) : Calls Tryz.prog 36 #[.int .i64 n] w fun e w' => e = .returned (.tuple #[.pointer none, .int .i64 1]) ∧ w = w' := by
  by_cases g1 : n < 1
  · go_enter Tryz.func36, Tryz.ntmps36
    go_wp2
    go_ret2
    exact ⟨rfl, rfl⟩
  · have g2 : 65536 < n := by omega
    go_enter Tryz.func36, Tryz.ntmps36
    go_wp2
    go_ret2
    exact ⟨rfl, rfl⟩
theorem RgO.weakenT {base base' : Nat} {w : World} {R : Nat} {vl : Value} {SL : List Rh} {room first n : Nat} {gone : Int} (h : RgO base w R vl SL room first n gone) (hb : base' ≤ base) : RgO base' w R vl SL room first n gone :=
  ⟨h.blk, owns_weaken h.own hb, Nat.le_trans hb h.hb, h.hroom, h.hn, h.hm, h.hf, h.rows⟩
theorem PgO.weakenT {base base' : Nat} {w : World} {q : Pv} {g : Pg} (h : PgO base w q g) (hb : base' ≤ base) : PgO base' w q g :=
  ⟨h.blk, Nat.le_trans hb h.hb, h.ring.weakenT hb, owns_weaken h.own hb, owns_weaken h.told hb, h.apart, h.scr, h.hist, h.rows, h.cols2, h.cols1000, h.rows1000, h.gone0⟩
theorem ScO.weakenT {base b2 : Nat} {w : World} {v : Sv} {s : Sc} (h : ScO base w v s) (hb : b2 ≤ base) : ScO b2 w v s := ⟨h.blk, Nat.le_trans hb h.hb, h.page.weakenT hb, h.tabs.weaken hb⟩
theorem PzO.weakenT {base b2 : Nat} {w : World} {v : Zv} {p : Pz} (h : PzO base w v p) (hb : b2 ≤ base) : PzO b2 w v p := ⟨h.blk, Nat.le_trans hb h.hb, fun k hk => owns_weaken (h.row k hk) hb, h.nd⟩
def TNewPost (rows cols lines : Nat) (n : Int) (w : World) (e : Ending) (w' : World) : Prop := ∃ v, e = .returned (.tuple #[.pointer (some ⟨v.M, 0, none⟩), .int .i64 0]) ∧ TmO w.heap.size w' v ⟨newPz n, newS rows cols lines (sizeT [] cols), newS rows cols 0 (sizeT [] cols), false, newM, ⟨#[]⟩, [], []⟩ ∧ Below w.heap.size w w'
set_option maxRecDepth 100000 in
set_option maxHeartbeats 3200000 in
theorem tmnew_ok (rows cols lines : Nat) (n : Int) (w : World) (hr1 : 1 ≤ rows) (hr2 : rows ≤ 1000) (hc1 : 2 ≤ cols) (hc2 : cols ≤ 1000) (hl : lines ≤ 100000) (h1 : 1 ≤ n) (h2 : n ≤ 65536) :
    Calls Tryz.prog 7 #[.int .i64 rows, .int .i64 cols, .int .i64 lines, .int .i64 n] w (TNewPost rows cols lines n w) := by
  have HS1 := Lib.hid (fun w => snew_ok rows cols lines w hr1 hr2 hc1 hc2 hl)
  have HS2 : Hid (∀ w, Calls Tryz.prog 35 #[.int .i64 rows, .int .i64 cols, .int .i64 0] w (SNewPost rows cols 0 w)) := Lib.hid (fun w => snew_ok rows cols 0 w hr1 hr2 hc1 hc2 (by omega))
  have HZ := Lib.hid (fun w => znew_ok n w h1 h2)
  have HM := Lib.hid (fun w => mnew_any w)
  go_enter Tryz.func7, Tryz.ntmps7
  go_upto_region 5 with (first
    | (go_at_call 35; (with_reducible refine (HS1.out _).mono ?_); rintro e w1 ⟨v1, rfl, hO, hb⟩; have HO1 := Lib.hid hO; have HB1 := Lib.hid hb; clear hO hb)
    | (go_at_call 36; (with_reducible refine (HZ.out _).mono ?_); rintro e w2 ⟨v2, rfl, hO, hb⟩; have HO2 := Lib.hid hO; have HB2 := Lib.hid hb; clear hO hb))
  go_wp2_with (first
    | (go_at_call 35; (with_reducible refine (HS2.out _).mono ?_); rintro e w3 ⟨v3, rfl, hO, hb⟩; have HO3 := Lib.hid hO; have HB3 := Lib.hid hb; clear hO hb)
    | (go_at_call 15; (with_reducible refine (HM.out _).mono ?_); rintro e w4 ⟨rfl, hb⟩; have HB4 := Lib.hid hb; clear hb))
  go_ret2
  have hb1 : Below w1.heap.size w1 w4 := below_tail (below_tail HB2.out HB3.out) HB4.out
  have hb2 : Below w2.heap.size w2 w4 := below_tail HB3.out HB4.out
  have hbw := below_tail HB1.out hb1
  have hbM := fun (o : Obj) => below_allocs (Below.refl w4.heap.size w4) o
  have z1 : w.heap.size ≤ w1.heap.size := HB1.out.size
  have z2 : w1.heap.size ≤ w2.heap.size := HB2.out.size
  have z4 : w.heap.size ≤ w4.heap.size := hbw.size
  exact ⟨⟨w4.heap.size, v2, v1, v3, .pointer none, .slice none 0 0, .slice none 0 0⟩, rfl, ⟨hp_new rfl, z4, (HO2.out.weakenT z1).below (below_tail hb2 (hbM _)), HO1.out.below (below_tail hb1 (hbM _)), (HO3.out.weakenT (Nat.le_trans z1 z2)).below (below_tail HB4.out (hbM _)), .inl rfl, World.ownsRow_nil _ _ _ _, World.ownsRow_nil _ _ _ _, fun x hx hy => by
    have := (HO1.out.lt x hx).2
    have := (HO3.out.lt x hy).1
    omega, fun x hx => by cases hx⟩, below_tail hbw (hbM _)⟩
end Go.Proofs.YtaefcahblmopfaaGreatDoor

namespace Go.Proofs.YtaefcahblmopfaaGreatDoor
open Go.RowKit
theorem snew_badT (rows cols lines : Int) (w : World) (h : fitsB rows cols = false ∨ lines < 0 ∨ 100000 < lines) :
    Calls Tryz.prog 35 #[.int .i64 rows, .int .i64 cols, .int .i64 lines] w fun e w' => e = .returned (.tuple #[.pointer none, .int .i64 1]) ∧ Below w.heap.size w w' := by
  have HP := Lib.hid (pnew_bad rows cols lines w h)
  go_enter Tryz.func35, Tryz.ntmps35
  go_wp2_with (go_at_call 62; refine HP.out.mono ?_; rintro e w1 ⟨rfl, hb⟩; have HB1 := Lib.hid hb; clear hb)
  go_ret2
  exact ⟨rfl, HB1.out⟩
def NoTerm (w : World) (e : Ending) (w' : World) : Prop := e = .returned (.tuple #[.pointer none, .int .i64 1]) ∧ Below w.heap.size w w'
set_option maxRecDepth 100000 in
set_option maxHeartbeats 1600000 in
theorem tmnew_bad1 (rows cols lines n : Int) (w : World) (h : fitsB rows cols = false ∨ lines < 0 ∨ 100000 < lines) : Calls Tryz.prog 7 #[.int .i64 rows, .int .i64 cols, .int .i64 lines, .int .i64 n] w (NoTerm w) := by
  have HS := Lib.hid (snew_badT rows cols lines w h)
  have HZ : Hid (∀ w, Calls Tryz.prog 36 #[.int .i64 n] w fun e w' => ∃ (x : Value) (k : Int), e = .returned (.tuple #[x, .int .i64 k]) ∧ Below w.heap.size w w') := Lib.hid (fun w => by
    by_cases hn : n < 1 ∨ 65536 < n
    · exact (znew_bad n w hn).mono (fun e w' h => ⟨_, _, h.1, by rw [← h.2]; exact Below.refl _ _⟩)
    · exact (znew_ok n w (by omega) (by omega)).mono (fun e w' ⟨v, he, _, hb⟩ => ⟨_, _, he, hb⟩))
  clear h
  go_enter Tryz.func7, Tryz.ntmps7
  go_wp2_with (first
    | (go_at_call 35; (with_reducible refine HS.out.mono ?_); rintro e w1 ⟨rfl, hb⟩; have HB1 := Lib.hid hb; clear hb)
    | (go_at_call 36; (with_reducible refine (HZ.out _).mono ?_); rintro e w2 ⟨x, kz, rfl, hb⟩; have HB2 := Lib.hid (below_tail HB1.out hb); clear hb))
  go_ret2
  exact ⟨rfl, HB2.out⟩
set_option maxRecDepth 100000 in
set_option maxHeartbeats 1600000 in
theorem tmnew_bad2 (rows cols lines : Nat) (n : Int) (w : World) (hr1 : 1 ≤ rows) (hr2 : rows ≤ 1000) (hc1 : 2 ≤ cols) (hc2 : cols ≤ 1000) (hl : lines ≤ 100000) (h : n < 1 ∨ 65536 < n) : Calls Tryz.prog 7 #[.int .i64 rows, .int .i64 cols, .int .i64 lines, .int .i64 n] w (NoTerm w) := by
  have HS := Lib.hid (snew_ok rows cols lines w hr1 hr2 hc1 hc2 hl)
  have HZ := Lib.hid (fun w => znew_bad n w h)
  clear h
  go_enter Tryz.func7, Tryz.ntmps7
  go_wp2_with (first
    | (go_at_call 35; (with_reducible refine HS.out.mono ?_); rintro e w1 ⟨v1, rfl, -, hb⟩; have HB1 := Lib.hid hb; clear hb)
    | (go_at_call 36; (with_reducible refine (HZ.out _).mono ?_); rintro e w2 ⟨rfl, rfl⟩))
  go_ret2
  exact ⟨rfl, HB1.out⟩
end Go.Proofs.YtaefcahblmopfaaGreatDoor

namespace Go.Proofs.YtaefcahblmopfaaGreatDoor
open Go.RowKit
theorem tnFeed (w : World) (v : Value) : Calls Tryz.prog 9 #[.pointer none, v] w fun e w' => e = .returned (.tuple #[]) ∧ w = w' := by
  go_enter Tryz.func9, Tryz.ntmps9
  go_wp2
  exact bodyPost_ret (results_none rfl _ _ _) rfl ⟨rfl, rfl⟩
theorem tnScreen (w : World) : Calls Tryz.prog 11 #[.pointer none] w fun e w' => e = .returned (.pointer none) ∧ w = w' := by
  go_enter Tryz.func11, Tryz.ntmps11
  go_wp2
  go_ret
  exact ⟨rfl, rfl⟩
theorem tnFirst (w : World) : Calls Tryz.prog 12 #[.pointer none] w fun e w' => e = .returned (.pointer none) ∧ w = w' := by
  go_enter Tryz.func12, Tryz.ntmps12
  go_wp2
  go_ret
  exact ⟨rfl, rfl⟩
theorem tnOther (w : World) : Calls Tryz.prog 13 #[.pointer none] w fun e w' => e = .returned (.bool false) ∧ w = w' := by
  go_enter Tryz.func13, Tryz.ntmps13
  go_wp2
  go_ret
  exact ⟨rfl, rfl⟩
theorem tnTitle (w : World) : Calls Tryz.prog 16 #[.pointer none] w fun e w' => e = .returned (.string ⟨#[]⟩) ∧ w = w' := by
  go_enter Tryz.func16, Tryz.ntmps16
  go_wp2
  go_ret
  exact ⟨rfl, rfl⟩
theorem tnReply (w : World) : Calls Tryz.prog 17 #[.pointer none] w fun e w' => e = .returned (.string ⟨#[]⟩) ∧ w = w' := by
  go_enter Tryz.func17, Tryz.ntmps17
  go_wp2
  go_ret
  exact ⟨rfl, rfl⟩
theorem tnChanges (w : World) : Calls Tryz.prog 18 #[.pointer none] w fun e w' => e = .returned (.slice none 0 0) ∧ w = w' := by
  go_enter Tryz.func18, Tryz.ntmps18
  go_wp2
  go_ret
  exact ⟨rfl, rfl⟩
theorem tnRest (w : World) : Calls Tryz.prog 19 #[.pointer none] w fun e w' => e = .returned (.bool false) ∧ w = w' := by
  go_enter Tryz.func19, Tryz.ntmps19
  go_wp2
  go_ret
  exact ⟨rfl, rfl⟩
theorem tnModes (w : World) : Calls Tryz.prog 14 #[.pointer none] w fun e w' => e = .returned (.agg #[.int .u32 newM]) ∧ Below w.heap.size w w' := by
  have HM := Lib.hid (fun w => mnew_any w)
  generalize newM = m at HM ⊢
  obtain ⟨W, hW⟩ : ∃ W, w.alloc (.cells #[.int .u32 0] 40) = W := ⟨_, rfl⟩
  have HB0 : Hid (Below w.heap.size w W) := Lib.hid (by rw [← hW]; exact below_allocs (Below.refl _ _) _)
  have HN0 : Hid (W.heap[w.heap.size]? = some (.cells #[.int .u32 0] 40 (0, 0))) := Lib.hid (by rw [← hW]; exact hp_new rfl)
  go_enter Tryz.func14, Tryz.ntmps14
  go_wp2_with (go_at_call 15; (with_reducible refine (HM.out _).mono ?_); rintro e w1 ⟨rfl, hb⟩; have HB1 := Lib.hid (below_tail HB0.out hb); have HN1 := Lib.hid ((hb.block _ (lt_of_heap HN0.out)).trans HN0.out); clear hb; obtain ⟨r0, rf0⟩ := at_ HN1.out 0 (.int .u32 0) rfl)
  exact bodyPost_ret (ret_agg rfl _ _ w.heap.size [.int .u32 m] rfl (range_new (whole_set (cs := [.int .u32 0]) HN1.out 0 (.int .u32 m) rfl)) Tryz.underlying40 rfl info_set) rfl ⟨rfl, below_set HB1.out (Nat.le_refl _) _⟩
end Go.Proofs.YtaefcahblmopfaaGreatDoor

namespace Go.Proofs.YtaefcahblmopfaaGreatDoor
open Go.RowKit
instance : DecidableEq Atr := fun a b => by
  cases a; cases b
  simp only [Atr.mk.injEq]
  exact inferInstance
end Go.Proofs.YtaefcahblmopfaaGreatDoor
namespace Go.Proofs.YtaefcahblmopfaaGreatDoor
open Go.RowKit
end Go.Proofs.YtaefcahblmopfaaGreatDoor

namespace Go.Proofs.YtaefcahblmopfaaGreatDoor
open Go.ChangeShapes Go.WideShapes Go.ChangeAt Go.RowKit Go.Joins
theorem own : ownKnob Tryz.prog.godebug = none := by kernel_rfl
theorem laidOut : laidOutB Tryz.prog = true := by kernel_rfl
section
variable {H : Type} {enc : TypeId × Value → H} {P : Program}
/-- The row's last step where the call has made memory and changed none. -/
theorem post_of_below {f : Func} {s : ChangeSpec} {apart fresh handsOn again : Bool} {W W' : World} {args : Array Value} {v : Value} {ds gs : List (DataW H)} {before pa pv : List MemPlace}
    (hW : DataW.Whole enc P f.params.toList s.vars apart W args.toList ds gs before)
    (hres : ∀ (b : Nat) (sp : Nat → Bool) (hd : Bool), DataW.TrodAll enc P W' b sp hd f.resultTypes.toList (v.resultList f.resultTypes.size) (s.fn H (ds ++ gs)).results [])
    (hargs : ∀ sp : Nat → Bool, (∀ p ∈ before, sp p.block = true) → DataW.TrodAll enc P W' 0 sp true f.params.toList args.toList (s.fn H (ds ++ gs)).args pa)
    (hvars : ∀ sp : Nat → Bool, (∀ p ∈ before, sp p.block = true) → DataW.TrodVars enc P W' sp s.vars (s.fn H (ds ++ gs)).vars pv)
    (hps : before = pa ++ pv) (hb : Below W.heap.size W W')
    (hok : ∀ (j : Nat) (t : TypeId) (r : Value), f.resultTypes[j]? = some t → (v.resultList f.resultTypes.size)[j]? = some r → Value.okWide P W' .any 0 t r) :
    s.post enc P f apart fresh handsOn again W args v W' := by
  have hlt : ∀ p ∈ before, p.block < W.heap.size := fun p hp => hW.lt p hp
  have hold : ∀ p ∈ before, (fun b => decide (b < W.heap.size)) p.block = true := fun p hp => by simpa using hlt p hp
  refine ⟨ds, gs, before, [], pa, pv, hW, hres _ _ _, hargs _ hold, hvars _ hold, World.keptBut_mono (fun p hp => ⟨hp, ?_⟩) (hb.frame (· ∈ before)), fun _ => ?_⟩
  · rw [hps, List.mem_append] at hp
    exact Or.inr hp
  · obtain ⟨_, _, _, _, _, hz, hn⟩ := hW
    refine ⟨hok, _, _, ([] ++ pa) ++ pv, ⟨[] ++ pa, pv, trodAll_append (hargs _ (fun _ _ => rfl)) (hres _ _ _), hvars _ (fun _ _ => rfl), rfl, ?_, ?_⟩, ?_⟩
    · intro b off hp
      have hin : MemPlace.cell b off ∈ before := by rw [hps]; simpa using hp
      rw [hb.frozen (hlt _ hin)]
      exact hz b off hin
    · intro ha
      have := hn ha
      rw [hps] at this
      simpa using this
    · intro p hp _
      rw [hps]
      simpa using hp
/-- An argument reads behind the call as it did. -/
theorem stays {t : TypeId} (hl : laidOutB P = true) (hr : P.readableRec t = true) (hrow : t < P.types.size) {W W' : World} {v : Value} {d : DataW H} {ps before : List MemPlace} {sp : Nat → Bool}
    (h : DataW.Trod enc P W 0 (fun _ => true) true t v d ps) (hb : Below W.heap.size W W') (hlt : ∀ x ∈ before, x.block < W.heap.size) (hin : ∀ x ∈ ps, x ∈ before) (hsp : ∀ x ∈ before, sp x.block = true) :
    DataW.Trod enc P W' 0 sp true t v d ps :=
  WideElems.Trod_stays hl hr hrow h (fun x hx => hb.same (hlt x (hin x hx))) (fun x hx => hsp x (hin x hx))
end
end Go.Proofs.YtaefcahblmopfaaGreatDoor
