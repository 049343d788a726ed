/- The document's blocks: Shift. Conditions: as stated. -/
import Derived.Test.YtgfaincejebogaaRbI
namespace Go.Proofs.Ytgfaincejebogaa
open Go.RowKit

theorem RbO.setMk {w : World} {q g n c k j : Nat} {vF v : Value} {M : List Mk} {F : List Fc} {most ids : Int} {dir : ByteArray} {m m' : Mk} (h : RbO w q (.slice (some ⟨g, 0, none⟩) n c) vF M F most ids dir) (hn : n = M.length) (hk : M[k]? = some m) (hj : j < 4) (he : (encMk m).set j v = encMk m') :
    RbO (w.setCell ⟨g, k * 4 + j, none⟩ v) q (.slice (some ⟨g, 0, none⟩) n c) vF (M.set k m') F most ids dir ∧ Mod [g] w (w.setCell ⟨g, k * 4 + j, none⟩ v) := by
  subst hn
  have hm : Mod [g] w (w.setCell ⟨g, k * 4 + j, none⟩ v) := (Mod.refl _ _).setCell (.inl (by simp)) _
  have hg := h.ownM.lt g rfl
  have hq : q ∉ [g] := by simp; omega
  refine ⟨⟨hm.cell hq h.most, hm.hold hq h.m, hm.hold hq h.f, hm.hold hq h.ids, hm.hold hq h.dir, ?_, ownsRow_setCell_other h.ownF (owns_tag h.ownM h.ownF (by decide) g rfl) _⟩, hm⟩
  have h1 := owns_set1 h.ownM (k * 4 + j) v
  rw [flat_set1 encMk_len M k m m' j v hk hj he] at h1
  rw [List.length_set]
  exact h1
theorem RInv.setM {M : List Mk} {F : List Fc} {ids : Int} {k : Nat} {m m' : Mk} (h : RInv M F ids) (hk : M[k]? = some m) (he : m'.id = m.id) (hp : m'.ph = m.ph) : RInv (M.set k m') F ids := by
  have hmem : m ∈ M := List.mem_of_getElem? hk
  refine ⟨fun x hx => ?_, h.last, fun x hx => ?_⟩
  · rcases List.mem_or_eq_of_mem_set hx with hx | rfl
    · exact h.idin x hx
    · obtain ⟨g, hg, e⟩ := h.idin m hmem
      exact ⟨g, hg, by rw [he, e]⟩
  · rcases List.mem_or_eq_of_mem_set hx with hx | rfl
    · exact h.phs x hx
    · have := h.phs m hmem
      rw [hp]; exact this
def mlenOf (w : World) (q : Nat) : Nat := match w.cell? ⟨q, 1, none⟩ with | some (.slice _ n _) => n | _ => 0
def flenOf (w : World) (q : Nat) : Nat := match w.cell? ⟨q, 2, none⟩ with | some (.slice _ n _) => n | _ => 0
set_option maxRecDepth 100000 in
set_option maxHeartbeats 6400000 in
theorem rshift_in {q : Nat} {vM vF : Value} {M : List Mk} {F : List Fc} {mo N : Nat} {ids : Int} {dir : ByteArray} (k a n : Int) (w : World) (h : RbO w q vM vF M F mo ids dir) (hi : RInv M F ids) (hmo2 : mo ≤ 30) (hl : F.length ≤ mo) (hm : M.length ≤ 4 * N) (hi0 : 0 ≤ ids) (hiN : ids ≤ N) (hN : N ≤ 100) (hr : rightS k a n = true) :
    Calls Try.prog 18 #[.pointer (some ⟨q, 0, none⟩), .agg #[.int .i64 k, .int .i64 a, .int .i64 n]] w (RkPost w q vM vF mo (N + 1)) := by
  have HR := Lib.hid (fun w => Shift10_any k a n w)
  rw [hr] at HR
  have hb0 : Below w.heap.size w (w.alloc (.cells #[.int .i64 k, .int .i64 a, .int .i64 n] 35)) := below_allocs (Below.refl _ _) _
  have HB0 := Lib.hid hb0
  have HO := Lib.hid h
  have HI := Lib.hid hi
  have HXF := Lib.hid (show w.heap.size ∉ rfoot q vM vF from fun hx => by have := h.lt _ hx; omega)
  clear h hi hb0 hr
  go_enter Try.func18, Try.ntmps18
  go_upto_block 0 with (go_at_call 32; refine (HR.out _).mono ?_; rintro e w1 ⟨rfl, hb1⟩; have HB1 := Lib.hid hb1; clear hb1)
  have HBX : Hid (∀ X w2, Mod X w1 w2 → w.heap.size ∉ X → w2.cell? ⟨w.heap.size, 0, none⟩ = some (.int .i64 k) ∧ w2.cell? ⟨w.heap.size, 1, none⟩ = some (.int .i64 a) ∧ w2.cell? ⟨w.heap.size, 2, none⟩ = some (.int .i64 n)) := Lib.hid (fun X w2 hm hx => ⟨hm.cell hx (holda HB1.out (at_ (hp_new rfl) 0 _ rfl).1), hm.cell hx (holda HB1.out (at_ (hp_new rfl) 1 _ rfl).1), hm.cell hx (holda HB1.out (at_ (hp_new rfl) 2 _ rfl).1)⟩)
  have HO1 := Lib.hid (HO.out.below (below_tail HB0.out HB1.out))
  go_cut [] (fun w' => RsSt w1 q vM vF M.length F.length mo ids dir w')
  case first =>
    go_wp2_with fail
    go_loopw [] (fun wr => RsSt w1 q vM vF M.length F.length mo ids dir wr) (fun wr => flenOf wr q)
    case atStart => exact ⟨vM, vF, M, F, HO1.out, HI.out, Nat.le_refl _, Nat.le_refl _, Mod.refl _ _, fun g hg => .inl hg⟩
    case round =>
      obtain ⟨vM', vF', M', F', hO, hI, h1, h2, hmd, hft⟩ := hrel
      obtain ⟨x0, x1, x2⟩ := HBX.out _ _ hmd HXF.out
      obtain ⟨A, ca, hv⟩ := row_form hO.ownF
      have f0 := hO.f.1
      rw [hv] at f0
      have HV := Lib.hid hv
      have HOr := Lib.hid hO
      have HEND := Lib.hid (show ∀ w', Below wr.heap.size wr w' → RsSt w1 q vM vF M.length F.length mo ids dir w' from fun w' hb => ⟨vM', vF', M', F', hO.below hb, hI, h1, h2, hmd.then_below hb, hft⟩)
      clear hv hO
      by_cases hk : k = 2
      rotate_left
      · have hk2 : (k == 2) = false := beq_eq_false_iff_ne.2 hk
        clear hk
        go_upto_region 2 with fail
        refine wp_region_u 41 (fun w' => Below wr.heap.size wr w' ∧ w'.cell? ⟨w.heap.size, 0, none⟩ = some (.int .i64 k)) (by kernel_rfl) (by kernel_rfl) ?_ ?_
        · exact ⟨(Below.refl _ _).drew, x0⟩
        simp only [List.take_succ_cons, List.take_zero, List.drop_succ_cons, List.drop_zero]
        repeat (first
          | (refine seqU_skip (by rfl) ?_; simp only [Act.put, List.setIfInBounds_toArray, List.set_cons_zero, List.set_cons_succ])
          | (refine seqU_val ?_ (by rfl) ?_ ?_; rotate_left; · (intro w' hS; obtain ⟨_, _⟩ := hS; go_simp; first | done | with_reducible rfl)
             simp only [Act.put, List.setIfInBounds_toArray, List.set_cons_zero, List.set_cons_succ]))
        refine seqU_nil (fun w' hS => ?_)
        have hB := hS.1
        clear hS x0 x1 x2 f0
        go_wp2
        go_meet
        exact HEND.out _ hB
      · subst hk
        by_cases hlen : 1 < F'.length
        rotate_left
        · have hlI : ¬ (1 : Int) < (F'.length : Int) := by omega
          go_upto_region 2 with fail
          refine wp_region_u 41 (fun w' => Below wr.heap.size wr w' ∧ w'.cell? ⟨w.heap.size, 0, none⟩ = some (.int .i64 2) ∧ w'.cell? ⟨q, 2, none⟩ = some (.slice A F'.length ca)) (by kernel_rfl) (by kernel_rfl) ?_ ?_
          · exact ⟨(Below.refl _ _).drew, x0, f0⟩
          simp only [List.take_succ_cons, List.take_zero, List.drop_succ_cons, List.drop_zero]
          repeat (first
            | (refine seqU_skip (by rfl) ?_; simp only [Act.put, List.setIfInBounds_toArray, List.set_cons_zero, List.set_cons_succ])
            | (refine seqU_val ?_ (by rfl) ?_ ?_; rotate_left; · (intro w' hS; obtain ⟨_, _, _⟩ := hS; go_simp; first | done | with_reducible rfl)
               simp only [Act.put, List.setIfInBounds_toArray, List.set_cons_zero, List.set_cons_succ]))
          refine seqU_nil (fun w' hS => ?_)
          have hB := hS.1
          clear hS x0 x1 x2 f0
          go_wp2
          go_meet
          exact HEND.out _ hB
        · obtain ⟨f, g, l, rfl⟩ : ∃ f g l, F' = f :: g :: l := by
            match F', hlen with
            | f :: g :: l, _ => exact ⟨f, g, l, rfl⟩
          obtain ⟨gF, cF, hvf⟩ := Go.Joins.ownsRow_form HOr.out.ownF (by simp)
          rw [HV.out] at hvf
          simp only [Value.slice.injEq, true_and] at hvf
          obtain ⟨rfl, rfl⟩ := hvf
          have hown := HOr.out.ownF
          rw [HV.out] at hown
          have i0 := (owns_hold hown (i := 0) (v := .int .u64 f.id) rfl).1
          have i6 := (owns_hold hown (i := 6) (v := .int .u64 g.id) rfl).1
          have hlI : (1 : Int) < ((f :: g :: l).length : Int) := by omega
          have HST : Hid (∀ (id : Int) (w' : World), Below wr.heap.size wr w' → Calls Try.prog 33 #[.pointer (some ⟨q, 0, none⟩), .int .u64 id] w' fun e w'' => e = .returned (.agg #[.int .i64 (stOf id M').1, .int .i64 (stOf id M').2]) ∧ Below w'.heap.size w' w'') := Lib.hid (fun id w' hb => rstarts_any id w' (HOr.out.below hb) (by omega))
          have HSF := Lib.hid (fun w' hb => HST.out f.id w' hb)
          have HSG := Lib.hid (fun w' hb => HST.out g.id w' hb)
          have HLE := Lib.hid (fun w' => RLess_any n 0 (stOf g.id M').1 (stOf g.id M').2 w')
          unfold posV at HLE
          generalize stOf f.id M' = pf at HSF
          generalize stOf g.id M' = pg at HSG HLE
          obtain ⟨NF, hNF⟩ : ∃ NF, NF = (f :: g :: l).length := ⟨_, rfl⟩
          have hN1 : 1 < NF := by rw [hNF]; simp
          have hN2 : (1 : Int) < (NF : Int) := by omega
          have hN0 : 0 < NF := by omega
          have HNF := Lib.hid hNF
          rw [← hNF] at f0
          generalize lessB n 0 pg.1 pg.2 = b2 at HLE
          have HF0 := Lib.hid f0
          have hfd : ∀ w' : World, (Instr.field 24 (.agg #[.int .i64 pf.1, .int .i64 pf.2]) 0).run Try.prog w' = .ok (.int .i64 pf.1) w' := fun _ => by kernel_rfl
          have hbd : ∀ w' : World, (Instr.build 24 #[(0, .int .i64 n)]).run Try.prog w' = .ok (.agg #[.int .i64 n, .int .i64 0]) w' := fun _ => by kernel_rfl
          clear hown hlen hlI hNF HST x1
          by_cases hd : pf.1 < n
          rotate_left
          · have hd1 : decide (pf.1 < n) = false := by simpa using hd
            go_upto_region 2 with fail
            refine wp_region_u 41 (fun w' => Below wr.heap.size wr w' ∧ w'.cell? ⟨w.heap.size, 0, none⟩ = some (.int .i64 2) ∧ w'.cell? ⟨w.heap.size, 2, none⟩ = some (.int .i64 n) ∧ w'.cell? ⟨q, 2, none⟩ = some (.slice (some ⟨gF, 0, none⟩) NF ca) ∧ w'.cell? ⟨gF, 0, none⟩ = some (.int .u64 f.id) ∧ w'.cell? ⟨gF, 6, none⟩ = some (.int .u64 g.id)) (by kernel_rfl) (by kernel_rfl) ?_ ?_
            · exact ⟨(Below.refl _ _).drew, x0, x2, f0, i0, i6⟩
            simp only [List.take_succ_cons, List.take_zero, List.drop_succ_cons, List.drop_zero]
            repeat (first
              | (refine seqU_skip (by rfl) ?_; simp only [Act.put, List.setIfInBounds_toArray, List.set_cons_zero, List.set_cons_succ])
              | (refine seqU_val ?_ (by rfl) ?_ ?_; rotate_left; · (intro w' hS; obtain ⟨_, _, _, _, _, _⟩ := hS; go_simp; first | done | with_reducible rfl)
                 simp only [Act.put, List.setIfInBounds_toArray, List.set_cons_zero, List.set_cons_succ])
              | (refine seqU_call 33 #[.pointer (some ⟨q, 0, none⟩), .int .u64 f.id] (.agg #[.int .i64 pf.1, .int .i64 pf.2]) (by rfl) ?_ (fun w' hS => (HSF.out w' hS.1).mono fun e w2 ⟨he, hb⟩ => ⟨he, ⟨below_tail hS.1 hb, holda hb hS.2.1, holda hb hS.2.2.1, holda hb hS.2.2.2.1, holda hb hS.2.2.2.2.1, holda hb hS.2.2.2.2.2⟩⟩) ?_; · (intro w'; go_simp; done)
                 simp only [Act.put, List.setIfInBounds_toArray, List.set_cons_zero, List.set_cons_succ])
              | (refine seqU_call 33 #[.pointer (some ⟨q, 0, none⟩), .int .u64 g.id] (.agg #[.int .i64 pg.1, .int .i64 pg.2]) (by rfl) ?_ (fun w' hS => (HSG.out w' hS.1).mono fun e w2 ⟨he, hb⟩ => ⟨he, ⟨below_tail hS.1 hb, holda hb hS.2.1, holda hb hS.2.2.1, holda hb hS.2.2.2.1, holda hb hS.2.2.2.2.1, holda hb hS.2.2.2.2.2⟩⟩) ?_; · (intro w'; go_simp; done)
                 simp only [Act.put, List.setIfInBounds_toArray, List.set_cons_zero, List.set_cons_succ])
              | (refine seqU_call 11 #[.agg #[.int .i64 n, .int .i64 0], .agg #[.int .i64 pg.1, .int .i64 pg.2]] (.bool b2) (by rfl) ?_ (fun w' hS => (HLE.out w').mono fun e w2 ⟨he, hb⟩ => ⟨he, ⟨below_tail hS.1 hb, holda hb hS.2.1, holda hb hS.2.2.1, holda hb hS.2.2.2.1, holda hb hS.2.2.2.2.1, holda hb hS.2.2.2.2.2⟩⟩) ?_; · (intro w'; go_simp; done)
                 simp only [Act.put, List.setIfInBounds_toArray, List.set_cons_zero, List.set_cons_succ]))
            refine seqU_nil (fun w' hS => ?_)
            have hB := hS.1
            clear hS x0 x2 f0 i0 i6
            go_wp2
            go_meet
            exact HEND.out _ hB
          · have hd1 : decide (pf.1 < n) = true := by simpa using hd
            cases b2 with
            | true =>
              go_upto_region 2 with fail
              refine wp_region_u 41 (fun w' => Below wr.heap.size wr w' ∧ w'.cell? ⟨w.heap.size, 0, none⟩ = some (.int .i64 2) ∧ w'.cell? ⟨w.heap.size, 2, none⟩ = some (.int .i64 n) ∧ w'.cell? ⟨q, 2, none⟩ = some (.slice (some ⟨gF, 0, none⟩) NF ca) ∧ w'.cell? ⟨gF, 0, none⟩ = some (.int .u64 f.id) ∧ w'.cell? ⟨gF, 6, none⟩ = some (.int .u64 g.id)) (by kernel_rfl) (by kernel_rfl) ?_ ?_
              · exact ⟨(Below.refl _ _).drew, x0, x2, f0, i0, i6⟩
              simp only [List.take_succ_cons, List.take_zero, List.drop_succ_cons, List.drop_zero]
              repeat (first
                | (refine seqU_skip (by rfl) ?_; simp only [Act.put, List.setIfInBounds_toArray, List.set_cons_zero, List.set_cons_succ])
                | (refine seqU_val ?_ (by rfl) ?_ ?_; rotate_left; · (intro w' hS; obtain ⟨_, _, _, _, _, _⟩ := hS; go_simp; first | done | with_reducible rfl)
                   simp only [Act.put, List.setIfInBounds_toArray, List.set_cons_zero, List.set_cons_succ])
                | (refine seqU_call 33 #[.pointer (some ⟨q, 0, none⟩), .int .u64 f.id] (.agg #[.int .i64 pf.1, .int .i64 pf.2]) (by rfl) ?_ (fun w' hS => (HSF.out w' hS.1).mono fun e w2 ⟨he, hb⟩ => ⟨he, ⟨below_tail hS.1 hb, holda hb hS.2.1, holda hb hS.2.2.1, holda hb hS.2.2.2.1, holda hb hS.2.2.2.2.1, holda hb hS.2.2.2.2.2⟩⟩) ?_; · (intro w'; go_simp; done)
                   simp only [Act.put, List.setIfInBounds_toArray, List.set_cons_zero, List.set_cons_succ])
                | (refine seqU_call 33 #[.pointer (some ⟨q, 0, none⟩), .int .u64 g.id] (.agg #[.int .i64 pg.1, .int .i64 pg.2]) (by rfl) ?_ (fun w' hS => (HSG.out w' hS.1).mono fun e w2 ⟨he, hb⟩ => ⟨he, ⟨below_tail hS.1 hb, holda hb hS.2.1, holda hb hS.2.2.1, holda hb hS.2.2.2.1, holda hb hS.2.2.2.2.1, holda hb hS.2.2.2.2.2⟩⟩) ?_; · (intro w'; go_simp; done)
                   simp only [Act.put, List.setIfInBounds_toArray, List.set_cons_zero, List.set_cons_succ])
                | (refine seqU_call 11 #[.agg #[.int .i64 n, .int .i64 0], .agg #[.int .i64 pg.1, .int .i64 pg.2]] (.bool true) (by rfl) ?_ (fun w' hS => (HLE.out w').mono fun e w2 ⟨he, hb⟩ => ⟨he, ⟨below_tail hS.1 hb, holda hb hS.2.1, holda hb hS.2.2.1, holda hb hS.2.2.2.1, holda hb hS.2.2.2.2.1, holda hb hS.2.2.2.2.2⟩⟩) ?_; · (intro w'; go_simp; done)
                   simp only [Act.put, List.setIfInBounds_toArray, List.set_cons_zero, List.set_cons_succ]))
              refine seqU_nil (fun w' hS => ?_)
              have hB := hS.1
              clear hS x0 x2 f0 i0 i6
              go_wp2
              go_meet
              exact HEND.out _ hB
            | false =>
              go_upto_region 2 with fail
              refine wp_region_u 41 (fun w' => Below wr.heap.size wr w' ∧ w'.cell? ⟨w.heap.size, 0, none⟩ = some (.int .i64 2) ∧ w'.cell? ⟨w.heap.size, 2, none⟩ = some (.int .i64 n) ∧ w'.cell? ⟨q, 2, none⟩ = some (.slice (some ⟨gF, 0, none⟩) NF ca) ∧ w'.cell? ⟨gF, 0, none⟩ = some (.int .u64 f.id) ∧ w'.cell? ⟨gF, 6, none⟩ = some (.int .u64 g.id)) (by kernel_rfl) (by kernel_rfl) ?_ ?_
              · exact ⟨(Below.refl _ _).drew, x0, x2, f0, i0, i6⟩
              simp only [List.take_succ_cons, List.take_zero, List.drop_succ_cons, List.drop_zero]
              repeat (first
                | (refine seqU_skip (by rfl) ?_; simp only [Act.put, List.setIfInBounds_toArray, List.set_cons_zero, List.set_cons_succ])
                | (refine seqU_val ?_ (by rfl) ?_ ?_; rotate_left; · (intro w' hS; obtain ⟨_, _, _, _, _, _⟩ := hS; go_simp; first | done | with_reducible rfl)
                   simp only [Act.put, List.setIfInBounds_toArray, List.set_cons_zero, List.set_cons_succ])
                | (refine seqU_call 33 #[.pointer (some ⟨q, 0, none⟩), .int .u64 f.id] (.agg #[.int .i64 pf.1, .int .i64 pf.2]) (by rfl) ?_ (fun w' hS => (HSF.out w' hS.1).mono fun e w2 ⟨he, hb⟩ => ⟨he, ⟨below_tail hS.1 hb, holda hb hS.2.1, holda hb hS.2.2.1, holda hb hS.2.2.2.1, holda hb hS.2.2.2.2.1, holda hb hS.2.2.2.2.2⟩⟩) ?_; · (intro w'; go_simp; done)
                   simp only [Act.put, List.setIfInBounds_toArray, List.set_cons_zero, List.set_cons_succ])
                | (refine seqU_call 33 #[.pointer (some ⟨q, 0, none⟩), .int .u64 g.id] (.agg #[.int .i64 pg.1, .int .i64 pg.2]) (by rfl) ?_ (fun w' hS => (HSG.out w' hS.1).mono fun e w2 ⟨he, hb⟩ => ⟨he, ⟨below_tail hS.1 hb, holda hb hS.2.1, holda hb hS.2.2.1, holda hb hS.2.2.2.1, holda hb hS.2.2.2.2.1, holda hb hS.2.2.2.2.2⟩⟩) ?_; · (intro w'; go_simp; done)
                   simp only [Act.put, List.setIfInBounds_toArray, List.set_cons_zero, List.set_cons_succ])
                | (refine seqU_call 11 #[.agg #[.int .i64 n, .int .i64 0], .agg #[.int .i64 pg.1, .int .i64 pg.2]] (.bool false) (by rfl) ?_ (fun w' hS => (HLE.out w').mono fun e w2 ⟨he, hb⟩ => ⟨he, ⟨below_tail hS.1 hb, holda hb hS.2.1, holda hb hS.2.2.1, holda hb hS.2.2.2.1, holda hb hS.2.2.2.2.1, holda hb hS.2.2.2.2.2⟩⟩) ?_; · (intro w'; go_simp; done)
                   simp only [Act.put, List.setIfInBounds_toArray, List.set_cons_zero, List.set_cons_succ]))
              refine seqU_nil (fun w' hS => ?_)
              have hB := hS.1
              clear hS x0 x2 f0 i0 i6
              have HDP := Lib.hid (rdrop_any w' (HOr.out.below hB) (by simp) (by omega) (by have := HNF.out; simp only [List.length_cons] at this h2 ⊢; omega))
              have HI' := Lib.hid hI
              have HMD := Lib.hid (hmd.then_below hB)
              have HFT := Lib.hid hft
              have HSZ := Lib.hid hB.size
              have HFL := Lib.hid (show flenOf wr q = NF from by unfold flenOf; rw [HF0.out])
              clear hI hmd hft
              go_wp2_with (go_at_call 34; refine HDP.out.mono ?_; rintro e w5 ⟨rfl, vM5, vF5, hO5, hm5, hf5⟩; have HO5 := Lib.hid hO5; have HM5 := Lib.hid hm5; have HF5 := Lib.hid hf5; clear hO5 hm5 hf5)
              go_roundw
              case rel =>
                refine ⟨vM5, vF5, _, _, HO5.out, HI'.out.drop (by simp), ?_, ?_, HMD.out.trans HM5.out HFT.out, fun x hx => ?_⟩
                · exact Nat.le_trans (List.length_filter_le _ _) h1
                · have := HNF.out; simp only [List.length_cons] at this h2 ⊢; omega
                · rcases HF5.out x hx with h | h
                  · exact HFT.out x h
                  · exact .inr (Nat.le_trans HMD.out.size h)
              case measure =>
                rw [HFL.out, HNF.out]
                have := HO5.out.f.1
                obtain ⟨A5, c5, e5⟩ := row_form HO5.out.ownF
                unfold flenOf
                rw [this, e5]
                simp
  case rest =>
    go_upto_block 2 with fail
    go_cut [] (fun w' => RsSt w1 q vM vF M.length F.length mo ids dir w')
    case first =>
      have HCUT := Lib.hid hcut
      clear hcut
      go_wp2_with fail
      go_loopw [4] (fun s4 wr => ∃ i : Nat, s4 = .int .i64 i ∧ RsSt w1 q vM vF M.length F.length mo ids dir wr) (fun s4 wr => flenOf wr q - (intOf s4).toNat)
      case atStart => exact ⟨0, rfl, HCUT.out⟩
      case round =>
        obtain ⟨i, rfl, vM', vF', M', F', hO, hI, h1, h2, hmd, hft⟩ := hrel
        obtain ⟨x0, x1, x2⟩ := HBX.out _ _ hmd HXF.out
        obtain ⟨A, ca, hv⟩ := row_form hO.ownF
        have f0 := hO.f.1
        rw [hv] at f0
        have HV := Lib.hid hv
        have HOr := Lib.hid hO
        have HI' := Lib.hid hI
        have HMD := Lib.hid hmd
        have HFT := Lib.hid hft
        have HEND := Lib.hid (show ∀ w', Below wr.heap.size wr w' → RsSt w1 q vM vF M.length F.length mo ids dir w' from fun w' hb => ⟨vM', vF', M', F', hO.below hb, hI, h1, h2, hmd.then_below hb, hft⟩)
        clear hv hO hmd hI hft
        by_cases hlt : i < F'.length
        rotate_left
        · have hge : ¬ (i : Int) < (F'.length : Int) := by omega
          go_wp2
          go_meet
          exact HEND.out _ (Below.refl _ _)
        · have hltI : (i : Int) < (F'.length : Int) := by omega
          by_cases hk : k = 2
          rotate_left
          · have hk2 : (k == 2) = false := beq_eq_false_iff_ne.2 hk
            clear hk
            go_wp2
            go_meet
            exact HEND.out _ (Below.refl _ _)
          · subst hk
            obtain ⟨f, hf⟩ : ∃ f, F'[i]? = some f := ⟨F'[i], List.getElem?_eq_getElem hlt⟩
            have hne : F' ≠ [] := fun e => by subst e; simp at hlt
            obtain ⟨gF, cF, hvf⟩ := Go.Joins.ownsRow_form HOr.out.ownF (by omega)
            rw [HV.out] at hvf
            simp only [Value.slice.injEq, true_and] at hvf
            obtain ⟨rfl, rfl⟩ := hvf
            have hvF := HV.out
            subst hvF
            have hown := HOr.out.ownF
            have i0 := (owns_hold hown (i := i * 6 + 0) (v := .int .u64 f.id) (by rw [flat_at1 encFc_len F' i f 0 hf (by decide)]; rfl)).1
            rw [Nat.add_zero] at i0
            have HST := Lib.hid (fun w' hb => rstarts_any (w := w') f.id (HOr.out.below (show Below wr.heap.size wr w' from hb)) (by omega))
            have hfd : ∀ w' : World, (Instr.field 24 (.agg #[.int .i64 (stOf f.id M').1, .int .i64 (stOf f.id M').2]) 0).run Try.prog w' = .ok (.int .i64 (stOf f.id M').1) w' := fun _ => by kernel_rfl
            generalize stOf f.id M' = pf at HST hfd
            have HF := Lib.hid hf
            have hg6 := lt_of_cell i0
            have HI3 := Lib.hid (owns_hold hown (i := i * 6 + 3) (v := .bool f.cut) (by rw [flat_at1 encFc_len F' i f 3 hf (by decide)]; rfl))
            have hNb : F'.length ≤ 30 := by omega
            obtain ⟨NF, hNF⟩ : ∃ NF, NF = F'.length := ⟨_, rfl⟩
            have HNF := Lib.hid hNF
            rw [← hNF] at f0 hlt hltI HV HOr hNb
            have HFL : Hid (∀ w', Below wr.heap.size wr w' → flenOf w' q = NF) := Lib.hid (fun w' hb => by unfold flenOf; rw [(HOr.out.below hb).f.1])
            have HLE1 := Lib.hid (And.intro h1 h2)
            clear hown hf hne x1 hNF h1 h2
            by_cases hd : pf.1 < n
            rotate_left
            · have hd1 : decide (pf.1 < n) = false := by simpa using hd
              go_upto_region 7 with fail
              refine wp_region_u 13 (fun w' => Below wr.heap.size wr w' ∧ w'.cell? ⟨w.heap.size, 0, none⟩ = some (.int .i64 2) ∧ w'.cell? ⟨w.heap.size, 2, none⟩ = some (.int .i64 n) ∧ w'.cell? ⟨q, 2, none⟩ = some (.slice (some ⟨gF, 0, none⟩) NF ca) ∧ w'.cell? ⟨gF, i * 6, none⟩ = some (.int .u64 f.id)) (by kernel_rfl) (by kernel_rfl) ?_ ?_
              · exact ⟨(Below.refl _ _).drew, x0, x2, f0, i0⟩
              simp only [List.take_succ_cons, List.take_zero, List.drop_succ_cons, List.drop_zero]
              repeat (first
                | (refine seqU_skip (by rfl) ?_; simp only [Act.put, List.setIfInBounds_toArray, List.set_cons_zero, List.set_cons_succ])
                | (refine seqU_val ?_ (by rfl) ?_ ?_; rotate_left; · (intro w' hS; obtain ⟨_, _, _, _, _⟩ := hS; go_simp; first | done | with_reducible rfl)
                   simp only [Act.put, List.setIfInBounds_toArray, List.set_cons_zero, List.set_cons_succ])
                | (refine seqU_call 33 #[.pointer (some ⟨q, 0, none⟩), .int .u64 f.id] (.agg #[.int .i64 pf.1, .int .i64 pf.2]) (by rfl) ?_ (fun w' hS => (HST.out w' hS.1).mono fun e w2 ⟨he, hb⟩ => ⟨he, ⟨below_tail hS.1 hb, holda hb hS.2.1, holda hb hS.2.2.1, holda hb hS.2.2.2.1, holda hb hS.2.2.2.2⟩⟩) ?_; · (intro w'; go_simp; done)
                   simp only [Act.put, List.setIfInBounds_toArray, List.set_cons_zero, List.set_cons_succ]))
              refine seqU_nil (fun w' hS => ?_)
              have hB := hS.1
              have HB := Lib.hid hB
              clear hS x0 x2 f0 i0 hB
              go_wp2
              go_roundw
              case rel => exact ⟨i + 1, by go_num, HEND.out _ HB.out⟩
              case measure =>
                rw [HFL.out _ HB.out, HFL.out _ (Below.refl _ _)]
                simp [intOf]; omega
            · have hd1 : decide (pf.1 < n) = true := by simpa using hd
              go_upto_region 7 with fail
              refine wp_region_u 13 (fun w' => Below wr.heap.size wr w' ∧ w'.cell? ⟨w.heap.size, 0, none⟩ = some (.int .i64 2) ∧ w'.cell? ⟨w.heap.size, 2, none⟩ = some (.int .i64 n) ∧ w'.cell? ⟨q, 2, none⟩ = some (.slice (some ⟨gF, 0, none⟩) NF ca) ∧ w'.cell? ⟨gF, i * 6, none⟩ = some (.int .u64 f.id)) (by kernel_rfl) (by kernel_rfl) ?_ ?_
              · exact ⟨(Below.refl _ _).drew, x0, x2, f0, i0⟩
              simp only [List.take_succ_cons, List.take_zero, List.drop_succ_cons, List.drop_zero]
              repeat (first
                | (refine seqU_skip (by rfl) ?_; simp only [Act.put, List.setIfInBounds_toArray, List.set_cons_zero, List.set_cons_succ])
                | (refine seqU_val ?_ (by rfl) ?_ ?_; rotate_left; · (intro w' hS; obtain ⟨_, _, _, _, _⟩ := hS; go_simp; first | done | with_reducible rfl)
                   simp only [Act.put, List.setIfInBounds_toArray, List.set_cons_zero, List.set_cons_succ])
                | (refine seqU_call 33 #[.pointer (some ⟨q, 0, none⟩), .int .u64 f.id] (.agg #[.int .i64 pf.1, .int .i64 pf.2]) (by rfl) ?_ (fun w' hS => (HST.out w' hS.1).mono fun e w2 ⟨he, hb⟩ => ⟨he, ⟨below_tail hS.1 hb, holda hb hS.2.1, holda hb hS.2.2.1, holda hb hS.2.2.2.1, holda hb hS.2.2.2.2⟩⟩) ?_; · (intro w'; go_simp; done)
                   simp only [Act.put, List.setIfInBounds_toArray, List.set_cons_zero, List.set_cons_succ]))
              refine seqU_nil (fun w' hS => ?_)
              have hB := hS.1
              have HB := Lib.hid hB
              have y0 := hS.2.2.2.1
              obtain ⟨y1, y1f⟩ := hold hB HI3.out
              clear hS x0 x2 f0 i0 hB
              go_wp2
              obtain ⟨k1, k2⟩ := (HOr.out.below HB.out).setFc (j := 3) (v := .bool true) (f' := { f with cut := true }) HNF.out HF.out (by decide) rfl
              have K1 := Lib.hid k1
              have K2 := Lib.hid k2
              clear k1 k2
              go_roundw
              case rel => exact ⟨i + 1, by go_num, _, _, _, _, K1.out, HI'.out.setF HF.out rfl, HLE1.out.1, by rw [List.length_set]; exact HLE1.out.2, (HMD.out.then_below HB.out).trans K2.out (fun g hg => HFT.out g (by rw [List.mem_singleton.1 hg]; simp [rfoot, Value.ownBlock])), HFT.out⟩
              case measure =>
                have h3 : ∀ w5, RbO w5 q vM' (.slice (some ⟨gF, 0, none⟩) NF ca) M' (F'.set i { f with cut := true }) mo ids dir → flenOf w5 q = NF := fun w5 h => by unfold flenOf; rw [h.f.1]
                rw [h3 _ K1.out, HFL.out _ (Below.refl _ _)]
                simp [intOf]; omega
    case rest =>
      have HCUT := Lib.hid hcut
      clear hcut
      go_wp2_with fail
      go_loopw [5] (fun s5 wr => ∃ i : Nat, s5 = .int .i64 i ∧ RsSt w1 q vM vF M.length F.length mo ids dir wr) (fun s5 wr => mlenOf wr q - (intOf s5).toNat)
      case atStart => exact ⟨0, rfl, HCUT.out⟩
      case round =>
        obtain ⟨i, rfl, vM', vF', M', F', hO, hI, h1, h2, hmd, hft⟩ := hrel
        obtain ⟨x0, x1, x2⟩ := HBX.out _ _ hmd HXF.out
        obtain ⟨A, ca, hv⟩ := row_form hO.ownM
        have f0 := hO.m.1
        rw [hv] at f0
        have HV := Lib.hid hv
        have HOr := Lib.hid hO
        have HI' := Lib.hid hI
        have HMD := Lib.hid hmd
        have HFT := Lib.hid hft
        clear hv hO hmd hI hft
        by_cases hlt : i < M'.length
        rotate_left
        · have hge : ¬ (i : Int) < (M'.length : Int) := by omega
          go_wp2
          go_end0
          exact RkPost.of_below (below_tail HB0.out HB1.out) ⟨M', F', ids, dir, ⟨rfl, vM', vF', HOr.out, HMD.out, HFT.out⟩, HI'.out, by omega, by omega, hi0, by omega⟩
        · have hltI : (i : Int) < (M'.length : Int) := by omega
          obtain ⟨m, hf⟩ : ∃ m, M'[i]? = some m := ⟨M'[i], List.getElem?_eq_getElem hlt⟩
          obtain ⟨gM, cM, hvf⟩ := Go.Joins.ownsRow_form HOr.out.ownM (by omega)
          rw [HV.out] at hvf
          simp only [Value.slice.injEq, true_and] at hvf
          obtain ⟨rfl, rfl⟩ := hvf
          have hvM := HV.out
          subst hvM
          have hown := HOr.out.ownM
          have HI2 := Lib.hid (owns_hold hown (i := i * 4 + 2) (v := .int .i64 m.r) (by rw [flat_at1 encMk_len M' i m 2 hf (by decide)]; rfl))
          have HI3 := Lib.hid (owns_hold hown (i := i * 4 + 2 + 1) (v := .int .i64 m.c) (by rw [Nat.add_assoc, flat_at1 encMk_len M' i m 3 hf (by decide)]; rfl))
          obtain ⟨i2, i2f⟩ := HI2.out
          obtain ⟨i3, i3f⟩ := HI3.out
          have HMV := Lib.hid (fun w' => RMove_any m.r m.c k a n w')
          unfold posV shV at HMV
          have hg6 := lt_of_cell i2
          generalize mv m.r m.c k a n = pm at HMV
          have HF := Lib.hid hf
          have hNb : M'.length ≤ 400 := by omega
          obtain ⟨NF, hNF⟩ : ∃ NF, NF = M'.length := ⟨_, rfl⟩
          have HNF := Lib.hid hNF
          rw [← hNF] at f0 hlt hltI HV HOr hNb
          have HFL : Hid (∀ w', Below wr.heap.size wr w' → mlenOf w' q = NF) := Lib.hid (fun w' hb => by unfold mlenOf; rw [(HOr.out.below hb).m.1])
          have HLE1 := Lib.hid (And.intro h1 h2)
          clear hown hf hNF h1 h2
          go_upto_region 12 with fail
          refine wp_region_u 17 (fun w' => Below wr.heap.size wr w' ∧ w'.cell? ⟨w.heap.size, 0, none⟩ = some (.int .i64 k) ∧ w'.cell? ⟨w.heap.size, 1, none⟩ = some (.int .i64 a) ∧ w'.cell? ⟨w.heap.size, 2, none⟩ = some (.int .i64 n) ∧ w'.cell? ⟨q, 1, none⟩ = some (.slice (some ⟨gM, 0, none⟩) NF ca) ∧ w'.cell? ⟨gM, i * 4 + 2, none⟩ = some (.int .i64 m.r) ∧ w'.cell? ⟨gM, i * 4 + 2 + 1, none⟩ = some (.int .i64 m.c)) (by kernel_rfl) (by kernel_rfl) ?_ ?_
          · exact ⟨(Below.refl _ _).drew, x0, x1, x2, f0, i2, i3⟩
          simp only [List.take_succ_cons, List.take_zero, List.drop_succ_cons, List.drop_zero]
          repeat (first
            | (refine seqU_skip (by rfl) ?_; simp only [Act.put, List.setIfInBounds_toArray, List.set_cons_zero, List.set_cons_succ])
            | (refine seqU_val ?_ (by rfl) ?_ ?_; rotate_left; · (intro w' hS; obtain ⟨_, _, _, _, _, _, _⟩ := hS; go_simp; first | done | with_reducible rfl)
               simp only [Act.put, List.setIfInBounds_toArray, List.set_cons_zero, List.set_cons_succ])
            | (refine seqU_call 35 #[.agg #[.int .i64 m.r, .int .i64 m.c], .agg #[.int .i64 k, .int .i64 a, .int .i64 n]] (.agg #[.int .i64 pm.1, .int .i64 pm.2]) (by rfl) ?_ (fun w' hS => (HMV.out w').mono fun e w2 ⟨he, hb⟩ => ⟨he, ⟨below_tail hS.1 hb, holda hb hS.2.1, holda hb hS.2.2.1, holda hb hS.2.2.2.1, holda hb hS.2.2.2.2.1, holda hb hS.2.2.2.2.2.1, holda hb hS.2.2.2.2.2.2⟩⟩) ?_; · (intro w'; go_simp; done)
               simp only [Act.put, List.setIfInBounds_toArray, List.set_cons_zero, List.set_cons_succ]))
          refine seqU_nil (fun w' hS => ?_)
          have hB := hS.1
          have HB := Lib.hid hB
          obtain ⟨y2, y2f⟩ := hold hB HI2.out
          obtain ⟨y3, y3f⟩ := hold hB HI3.out
          clear hS x0 x1 x2 f0 i2 i3 i2f i3f hB
          go_wp2
          obtain ⟨k1, k2⟩ := (HOr.out.below HB.out).setMk (j := 2) (v := .int .i64 pm.1) (m' := { m with r := pm.1 }) HNF.out HF.out (by decide) rfl
          have hlm : i < M'.length := by rw [← HNF.out]; exact hlt
          obtain ⟨k3, k4⟩ := k1.setMk (j := 2 + 1) (k := i) (v := .int .i64 pm.2) (m := { m with r := pm.1 }) (m' := { m with r := pm.1, c := pm.2 }) (by rw [List.length_set]; exact HNF.out) (by rw [List.getElem?_set_self hlm]) (by decide) rfl
          have K1 := Lib.hid k3
          have K2 := Lib.hid (k2.trans k4 (fun g hg => .inl hg))
          clear k1 k2 k3 k4
          have HJ1 := Lib.hid ((HI'.out.setM (m' := { m with r := pm.1 }) HF.out rfl rfl).setM (k := i) (m := { m with r := pm.1 }) (m' := { m with r := pm.1, c := pm.2 }) (by rw [List.getElem?_set_self hlm]) rfl rfl)
          go_roundw
          case rel => exact ⟨i + 1, by go_num, _, _, _, _, K1.out, HJ1.out, by rw [List.length_set, List.length_set]; exact HLE1.out.1, HLE1.out.2, (HMD.out.then_below HB.out).trans K2.out (fun g hg => HFT.out g (by rw [List.mem_singleton.1 hg]; simp [rfoot, Value.ownBlock])), HFT.out⟩
          case measure =>
            have h3 : ∀ (w5 : World) (X : List Mk), RbO w5 q (.slice (some ⟨gM, 0, none⟩) NF ca) vF' X F' mo ids dir → mlenOf w5 q = NF := fun w5 X h => by unfold mlenOf; rw [h.m.1]
            rw [h3 _ _ K1.out, HFL.out _ (Below.refl _ _)]
            simp [intOf]; omega
end Go.Proofs.Ytgfaincejebogaa
