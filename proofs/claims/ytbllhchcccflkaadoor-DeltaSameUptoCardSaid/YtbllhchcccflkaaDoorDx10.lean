/- Joined by a tool of this claim out of smaller texts. Conditions: as stated. -/
import Derived.Test.YtbllhchcccflkaaDoorDx08
import Derived.Test.YtbllhchcccflkaaDoorDx09
set_option linter.unusedVariables false
set_option linter.unusedSimpArgs false
namespace Go.Proofs.YtbllhchcccflkaaDoor
open Go.RowKit
instance : DecidableEq Atr := fun a b => by
  cases a; cases b
  simp only [Atr.mk.injEq]
  exact inferInstance
/-- What the document's flag says of two cells. -/
theorem pairB_fields (a b : Cl) (h : a.half = 1) : pairB a b = (decide (b.half = 2) && decide (b.r = a.r) && decide (b.more = a.more) && decide (atrOf b = atrOf a)) := by
  obtain ⟨ar, am, ah, a1, a2, a3, a4, a5⟩ := a
  obtain ⟨br, bm, bh, b1, b2, b3, b4, b5⟩ := b
  simp only at h
  subst h
  unfold pairB atrOf
  simp only [decide_true, Bool.true_and, Cl.mk.injEq, Atr.mk.injEq, true_and]
  by_cases e1 : bh = 2 <;> by_cases e2 : ar = br <;> by_cases e3 : am = bm <;> simp [e1, e2, e3, eq_comm]
  all_goals try (intro h; exact absurd h.symm e2)
  all_goals try (intro _ h; exact absurd h.symm e3)
/-- Cells of the call's own, or none yet. -/
def ClO (base : Nat) (w : World) (v : Value) (l : List Cl) : Prop := w.ownsRow base 44 8 v l.length (flat encCl l)
theorem ClO.below {base : Nat} {w w' : World} {v : Value} {l : List Cl} (h : ClO base w v l) (hb : Below w.heap.size w w') : ClO base w' v l := owns_mod h (Mod.of_below (X := []) hb) (fun _ _ h => by cases h)
theorem ClO.form {base : Nat} {w : World} {v : Value} {l : List Cl} (h : ClO base w v l) (h0 : 0 < l.length) : ∃ g cap, v = .slice (some ⟨g, 0, none⟩) l.length cap ∧ CrO w base g cap l := by
  obtain ⟨g, cap, rfl⟩ := own_formP h h0
  exact ⟨g, cap, rfl, h⟩
end Go.Proofs.YtbllhchcccflkaaDoor
namespace Go.Proofs.YtbllhchcccflkaaDoor
open Go.RowKit
def MInv (l P : List Cl) (i : Nat) (pr : Bool) : Prop := if pr = true then (∃ c, l[i]? = some c ∧ mendL l = P ++ (c :: mendL (l.drop (i + 1)))) else mendL l = P ++ mendL (l.drop i)
theorem there8 {w : World} {g : Nat} {t : TypeId} {c x : Cl} (h : w.heap[g]? = some (.cells (encCl c).toArray t (0, 0))) : w.there g 0 (encCl x).toArray.size := by
  have := there_new h
  exact this
theorem attr_range {w : World} {g : Nat} {t : TypeId} {cr : Int} {cm : ByteArray} {ch c1 c2 c3 c4 c5 : Int} (h : w.heap[g]? = some (.cells (encCl ⟨cr, cm, ch, c1, c2, c3, c4, c5⟩).toArray t (0, 0))) : w.rangeAt g 3 [.int .i64 c1, .int .i64 c2, .int .i64 c3, .int .i64 c4, .int .i64 c5] := fun j v hj => by
  match j, hj with
  | 0, hj => simp at hj; subst hj; exact (at_ h 3 _ rfl).1
  | 1, hj => simp at hj; subst hj; exact (at_ h 4 _ rfl).1
  | 2, hj => simp at hj; subst hj; exact (at_ h 5 _ rfl).1
  | 3, hj => simp at hj; subst hj; exact (at_ h 6 _ rfl).1
  | 4, hj => simp at hj; subst hj; exact (at_ h 7 _ rfl).1
theorem MInv.emit {l P : List Cl} {i : Nat} {c : Cl} (h : MInv l P i true) (hc : l[i]? = some c) : MInv l (P ++ [c]) (i + 1) false := by
  obtain ⟨d, hd, hm⟩ := h
  rw [hc] at hd
  injection hd with hd
  subst hd
  show mendL l = _
  rw [hm, List.append_assoc]; rfl
theorem MInv.keep {l P : List Cl} {i : Nat} {c x : Cl} (h : MInv l P i false) (hc : l[i]? = some c) (hx : mendL (c :: l.drop (i + 1)) = x :: mendL (l.drop (i + 1))) : MInv l (P ++ [x]) (i + 1) false := by
  have h' : mendL l = P ++ mendL (l.drop i) := h
  have hlt := (List.getElem?_eq_some_iff.1 hc).1
  show mendL l = _
  rw [h', List.drop_eq_getElem_cons hlt, (List.getElem?_eq_some_iff.1 hc).2, hx, List.append_assoc]; rfl
theorem MInv.pair {l P : List Cl} {i : Nat} {c d : Cl} (h : MInv l P i false) (hc : l[i]? = some c) (hd : l[i + 1]? = some d) (hp : pairB c d = true) : MInv l (P ++ [c]) (i + 1) true := by
  have h' : mendL l = P ++ mendL (l.drop i) := h
  have hlt := (List.getElem?_eq_some_iff.1 hc).1
  have hlt2 := (List.getElem?_eq_some_iff.1 hd).1
  refine ⟨d, hd, ?_⟩
  rw [h', List.drop_eq_getElem_cons hlt, (List.getElem?_eq_some_iff.1 hc).2, List.drop_eq_getElem_cons hlt2, (List.getElem?_eq_some_iff.1 hd).2, mendL_pair hp, List.append_assoc]; rfl
set_option maxRecDepth 100000 in
set_option maxHeartbeats 6400000 in
theorem rMend_any (A : Option Addr) (l : List Cl) (ca : Nat) (w : World) (hl : GrAt encCl 8 w A l) (h0 : 0 < l.length) (hz : l.length ≤ 10000) :
    Calls Tryd.prog 24 #[.slice A l.length ca] w (WithPost (mendL l) w) := by
  obtain ⟨j0, hj, gz0, gz1, gz2⟩ := info_parts info_cellz
  obtain ⟨b, off, rfl, hcell⟩ := hl h0
  have HR : Hid (∀ i c, l[i]? = some c → w.rangeAt b (off + i * 8) (encCl c)) := Lib.hid (fun i c hi j v hv => hcell i c hi j v hv)
  clear hl hcell
  go_enter Tryd.func24, Tryd.ntmps24
  go_wp2_with fail
  go_loopw [3, 4, 5] (fun s3 s4 s5 wr => ∃ (i : Nat) (P : List Cl) (pr : Bool), s5 = .int .i64 i ∧ s4 = .bool pr ∧ i ≤ l.length ∧ P.length = i ∧ ClO w.heap.size wr s3 P ∧ Below w.heap.size w wr ∧ MInv l P i pr) (fun _ _ s5 _ => l.length - (intOf s5).toNat)
  case atStart => exact ⟨0, [], false, rfl, rfl, Nat.zero_le _, rfl, World.ownsRow_nil _ _ _ _, Below.refl _ _, rfl⟩
  case round =>
    obtain ⟨i, P, pr, rfl, rfl, hi, hP, hO, hB, hM⟩ := hrel
    obtain ⟨bx, rfl⟩ : ∃ bx : Value × Unit, u3 = bx.1 := ⟨(u3, ()), rfl⟩
    have HO := Lib.hid hO
    have HB := Lib.hid hB
    have HM := Lib.hid hM
    have HP := Lib.hid hP
    clear hO hB hM hP
    by_cases hlt : i < l.length
    rotate_left
    · have hge : ¬ (i : Int) < (l.length : Int) := by omega
      have hpr : pr = false := by
        cases pr with
        | false => rfl
        | true => obtain ⟨c, hc, -⟩ := HM.out; have := (List.getElem?_eq_some_iff.1 hc).1; omega
      subst hpr
      have HE : Hid (P = mendL l) := Lib.hid (by
        have h' : mendL l = P ++ mendL (l.drop i) := HM.out
        rw [h', List.drop_eq_nil_of_le (by omega)]; simp [mendL])
      go_wp2
      go_ret
      have hO2 := HO.out
      rw [HE.out] at hO2
      obtain ⟨g, cap, hv, hc⟩ := ClO.form hO2 (by rw [mendL_len]; exact h0)
      exact ⟨g, cap, by rw [← hv]; rfl, hc, HB.out⟩
    · have hltI : (i : Int) < (l.length : Int) := by omega
      obtain ⟨c, hc⟩ : ∃ c, l[i]? = some c := ⟨l[i], List.getElem?_eq_getElem hlt⟩
      have HC := Lib.hid hc
      have HRI := Lib.hid (range_below (HR.out i c hc) HB.out)
      clear hc
      go_upto_region 6 with fail
      refine wp_region_lit ?_
      refine wpList_valG (.slice (some ⟨b, off, none⟩) l.length ca) (by rfl) (by rfl) ?_
      simp only [Act.put, List.setIfInBounds_toArray, List.set_cons_zero, List.set_cons_succ]
      refine wpList_valG (.int .i64 (i : Int)) (by rfl) (by rfl) ?_
      simp only [Act.put, List.setIfInBounds_toArray, List.set_cons_zero, List.set_cons_succ]
      refine wpList_valG (.pointer (some ⟨b, off + i * 8, none⟩)) (by rfl) (by go_simp) ?_
      simp only [Act.put, List.setIfInBounds_toArray, List.set_cons_zero, List.set_cons_succ]
      refine load_mid_g (by rfl) 44 (.tmp 17) rfl (b) (off + i * 8) rfl (encCl c) _ (HRI.out) Tryd.underlying44 rfl info_cell ?_
      simp only [Act.put, List.setIfInBounds_toArray, List.set_cons_zero, List.set_cons_succ]
      obtain ⟨cr, cm, ch, c1, c2, c3, c4, c5⟩ := c
      simp only [encCl]
      go_upto_region 7 with fail
      have HBW := Lib.hid (below_allocs HB.out (.cells (encCl ⟨cr, cm, ch, c1, c2, c3, c4, c5⟩).toArray 44))
      have HOW := Lib.hid (ClO.below HO.out (below_allocs (Below.refl wr.heap.size wr) (.cells (encCl ⟨cr, cm, ch, c1, c2, c3, c4, c5⟩).toArray 44)))
      have HCW := Lib.hid (show (wr.alloc (.cells (encCl ⟨cr, cm, ch, c1, c2, c3, c4, c5⟩).toArray 44)).heap[wr.heap.size]? = _ from hp_new rfl)
      change Code.wp _ _ _ _ (wr.alloc (.cells (encCl ⟨cr, cm, ch, c1, c2, c3, c4, c5⟩).toArray 44))
      obtain ⟨k, hk⟩ : ∃ k, wr.heap.size = k := ⟨_, rfl⟩
      have HKO : Hid (∀ g, bx.1.ownBlock = some g → g ≠ k) := Lib.hid (fun g hg => by have := (World.ownsRow.lt (show wr.ownsRow _ _ _ _ _ _ from HO.out) g hg).2; omega)
      have HKW : Hid (w.heap.size ≤ k) := Lib.hid (by have := HB.out.size; omega)
      generalize wr.alloc (.cells (encCl ⟨cr, cm, ch, c1, c2, c3, c4, c5⟩).toArray 44) = W at HBW HOW HCW ⊢
      rw [hk] at HCW ⊢
      clear hk
      cases pr with
      | true =>
        go_upto_region 8 with fail
        refine wp_region_lit ?_
        refine wpList_valG (bx.1) (by rfl) (by rfl) ?_
        simp only [Act.put, List.setIfInBounds_toArray, List.set_cons_zero, List.set_cons_succ]
        refine load_mid_g (by rfl) 44 (.tmp 6) rfl (k) (0) rfl (encCl (⟨cr, cm, ch, c1, c2, c3, c4, c5⟩)) _ (range_new HCW.out) Tryd.underlying44 rfl info_cell ?_
        simp only [Act.put, List.setIfInBounds_toArray, List.set_cons_zero, List.set_cons_succ]
        refine wpList_actG (.slice (some ⟨W.heap.size, 0, none⟩) 1 1) (W.alloc (.cells (encCl (⟨cr, cm, ch, c1, c2, c3, c4, c5⟩)).toArray 44)) (by rfl) (by simp only [encCl]; go_simp) ?_
        simp only [Act.put, List.setIfInBounds_toArray, List.set_cons_zero, List.set_cons_succ]
        refine wpList_append_gP rfl (.tmp 20) (.tmp 22) 26 rfl w.heap.size 44 j0 _ 8 72 Tryd.underlying26 hj gz0 gz1 gz2 rfl (by decide) bx.1 P.length (flat encCl P) rfl (ClO.below HOW.out (below_allocs (Below.refl _ _) _)) ⟨W.heap.size, 0, none⟩ 1 1 (encCl (⟨cr, cm, ch, c1, c2, c3, c4, c5⟩)) rfl rfl (fun j u hj => by rw [add_lit', Nat.zero_add]; exact (at_ (hp_new rfl) j u (by simpa using hj)).1) (encCl_one _) (by simp only [maxLen]; have := HP.out; omega) (by have := HP.out; omega) (by have := HBW.out.size; simp; omega) ?_
        intro v' w7 ho hg hv'
        have HO7 : Hid (ClO w.heap.size w7 v' (P ++ [⟨cr, cm, ch, c1, c2, c3, c4, c5⟩])) := Lib.hid (by unfold ClO; rw [flat_append, List.length_append]; exact ho)
        have HB7 := Lib.hid ((below_allocs HBW.out (.cells (encCl (⟨cr, cm, ch, c1, c2, c3, c4, c5⟩)).toArray 44)).grown hg (below_allocs HBW.out _).size (fun b hb => (World.ownsRow.lt (show W.ownsRow _ _ _ _ _ _ from HOW.out) b hb).1))
        simp only [Act.put, List.setIfInBounds_toArray, List.set_cons_zero, List.set_cons_succ]
        clear ho hg hv'
        go_wp2
        go_roundw
        case rel => exact ⟨i + 1, P ++ [⟨cr, cm, ch, c1, c2, c3, c4, c5⟩], false, by go_num, rfl, by omega, by rw [List.length_append, HP.out]; rfl, HO7.out, HB7.out, HM.out.emit HC.out⟩
        case measure => simp [intOf]; omega
      | false =>
        have z2 : W.cell? ⟨k, 2, none⟩ = some (.int .i64 ch) := (at_ HCW.out 2 _ rfl).1
        have hw : IntKind.i64.wrap ((l.length : Int) - 1) = (l.length : Int) - 1 := IntWalk.i64_in _ (by omega)
        by_cases h0 : ch = 0
        · subst h0
          go_upto_region 16 with fail
          refine wp_region_lit ?_
          refine wpList_valG (bx.1) (by rfl) (by rfl) ?_
          simp only [Act.put, List.setIfInBounds_toArray, List.set_cons_zero, List.set_cons_succ]
          refine load_mid_g (by rfl) 44 (.tmp 6) rfl (k) (0) rfl (encCl (⟨cr, cm, 0, c1, c2, c3, c4, c5⟩)) _ (range_new HCW.out) Tryd.underlying44 rfl info_cell ?_
          simp only [Act.put, List.setIfInBounds_toArray, List.set_cons_zero, List.set_cons_succ]
          refine wpList_actG (.slice (some ⟨W.heap.size, 0, none⟩) 1 1) (W.alloc (.cells (encCl (⟨cr, cm, 0, c1, c2, c3, c4, c5⟩)).toArray 44)) (by rfl) (by simp only [encCl]; go_simp) ?_
          simp only [Act.put, List.setIfInBounds_toArray, List.set_cons_zero, List.set_cons_succ]
          refine wpList_append_gP rfl (.tmp 86) (.tmp 88) 26 rfl w.heap.size 44 j0 _ 8 72 Tryd.underlying26 hj gz0 gz1 gz2 rfl (by decide) bx.1 P.length (flat encCl P) rfl (ClO.below HOW.out (below_allocs (Below.refl _ _) _)) ⟨W.heap.size, 0, none⟩ 1 1 (encCl (⟨cr, cm, 0, c1, c2, c3, c4, c5⟩)) rfl rfl (fun j u hj => by rw [add_lit', Nat.zero_add]; exact (at_ (hp_new rfl) j u (by simpa using hj)).1) (encCl_one _) (by simp only [maxLen]; have := HP.out; omega) (by have := HP.out; omega) (by have := HBW.out.size; simp; omega) ?_
          intro v' w7 ho hg hv'
          have HO7 : Hid (ClO w.heap.size w7 v' (P ++ [⟨cr, cm, 0, c1, c2, c3, c4, c5⟩])) := Lib.hid (by unfold ClO; rw [flat_append, List.length_append]; exact ho)
          have HB7 := Lib.hid ((below_allocs HBW.out (.cells (encCl (⟨cr, cm, 0, c1, c2, c3, c4, c5⟩)).toArray 44)).grown hg (below_allocs HBW.out _).size (fun b hb => (World.ownsRow.lt (show W.ownsRow _ _ _ _ _ _ from HOW.out) b hb).1))
          simp only [Act.put, List.setIfInBounds_toArray, List.set_cons_zero, List.set_cons_succ]
          clear ho hg hv'
          go_wp2
          go_roundw
          case rel => exact ⟨i + 1, P ++ [⟨cr, cm, 0, c1, c2, c3, c4, c5⟩], false, by go_num, rfl, by omega, by rw [List.length_append, HP.out]; rfl, HO7.out, HB7.out, HM.out.keep HC.out (mendL_zero rfl _)⟩
          case measure => simp [intOf]; omega
        have h0b : (ch == 0) = false := beq_eq_false_iff_ne.2 h0
        by_cases h3 : ch = 3 ∧ i + 1 = l.length
        · obtain ⟨rfl, hil⟩ := h3
          have hib : ((i : Int) == (l.length : Int) - 1) = true := by simp; omega
          have hib2 : (l.length : Int) - 1 = (i : Int) := by omega
          have HNI : Hid (l.drop (i + 1) = []) := Lib.hid (List.drop_eq_nil_of_le (by omega))
          go_upto_region 16 with fail
          refine wp_region_lit ?_
          refine wpList_valG (bx.1) (by rfl) (by rfl) ?_
          simp only [Act.put, List.setIfInBounds_toArray, List.set_cons_zero, List.set_cons_succ]
          refine load_mid_g (by rfl) 44 (.tmp 6) rfl (k) (0) rfl (encCl (⟨cr, cm, 3, c1, c2, c3, c4, c5⟩)) _ (range_new HCW.out) Tryd.underlying44 rfl info_cell ?_
          simp only [Act.put, List.setIfInBounds_toArray, List.set_cons_zero, List.set_cons_succ]
          refine wpList_actG (.slice (some ⟨W.heap.size, 0, none⟩) 1 1) (W.alloc (.cells (encCl (⟨cr, cm, 3, c1, c2, c3, c4, c5⟩)).toArray 44)) (by rfl) (by simp only [encCl]; go_simp) ?_
          simp only [Act.put, List.setIfInBounds_toArray, List.set_cons_zero, List.set_cons_succ]
          refine wpList_append_gP rfl (.tmp 86) (.tmp 88) 26 rfl w.heap.size 44 j0 _ 8 72 Tryd.underlying26 hj gz0 gz1 gz2 rfl (by decide) bx.1 P.length (flat encCl P) rfl (ClO.below HOW.out (below_allocs (Below.refl _ _) _)) ⟨W.heap.size, 0, none⟩ 1 1 (encCl (⟨cr, cm, 3, c1, c2, c3, c4, c5⟩)) rfl rfl (fun j u hj => by rw [add_lit', Nat.zero_add]; exact (at_ (hp_new rfl) j u (by simpa using hj)).1) (encCl_one _) (by simp only [maxLen]; have := HP.out; omega) (by have := HP.out; omega) (by have := HBW.out.size; simp; omega) ?_
          intro v' w7 ho hg hv'
          have HO7 : Hid (ClO w.heap.size w7 v' (P ++ [⟨cr, cm, 3, c1, c2, c3, c4, c5⟩])) := Lib.hid (by unfold ClO; rw [flat_append, List.length_append]; exact ho)
          have HB7 := Lib.hid ((below_allocs HBW.out (.cells (encCl (⟨cr, cm, 3, c1, c2, c3, c4, c5⟩)).toArray 44)).grown hg (below_allocs HBW.out _).size (fun b hb => (World.ownsRow.lt (show W.ownsRow _ _ _ _ _ _ from HOW.out) b hb).1))
          simp only [Act.put, List.setIfInBounds_toArray, List.set_cons_zero, List.set_cons_succ]
          clear ho hg hv'
          go_wp2
          go_roundw
          case rel => exact ⟨i + 1, P ++ [⟨cr, cm, 3, c1, c2, c3, c4, c5⟩], false, by go_num, rfl, by omega, by rw [List.length_append, HP.out]; rfl, HO7.out, HB7.out, HM.out.keep HC.out (by rw [HNI.out, mendL_pad rfl]; rfl)⟩
          case measure => simp [intOf]; omega
        have HN3 := Lib.hid h3
        have h3b : ch = 3 → ((i : Int) == (l.length : Int) - 1) = false := fun e => beq_eq_false_iff_ne.2 (by have := HN3.out; omega)
        by_cases h1 : ch = 1
        rotate_left
        · have h1b : (ch == 1) = false := beq_eq_false_iff_ne.2 h1
          have HMO : Hid (mendL (⟨cr, cm, ch, c1, c2, c3, c4, c5⟩ :: l.drop (i + 1)) = emptyC ⟨cr, cm, ch, c1, c2, c3, c4, c5⟩ :: mendL (l.drop (i + 1))) := Lib.hid (mendL_other h0 (fun hh => HN3.out ⟨hh.1, by have := congrArg List.length hh.2; simp at this; omega⟩) (fun d m _ => by unfold pairB; simp [h1]))
          by_cases h33 : ch = 3
          · have h3t : (ch == 3) = true := beq_iff_eq.2 h33
            have hib := h3b h33
            clear h3b h33 h3
            go_upto_region 15 with fail
            refine wp_region_lit ?_
            refine wpList_valG (.pointer (some ⟨k, 3, none⟩)) (by rfl) (by go_simp) ?_
            simp only [Act.put, List.setIfInBounds_toArray, List.set_cons_zero, List.set_cons_succ]
            refine load_mid_g (by rfl) 42 (.tmp 83) rfl (k) (3) rfl ([.int .i64 c1, .int .i64 c2, .int .i64 c3, .int .i64 c4, .int .i64 c5]) _ (attr_range HCW.out) Tryd.underlying42 rfl info_attr ?_
            simp only [Act.put, List.setIfInBounds_toArray, List.set_cons_zero, List.set_cons_succ]
            refine wpList_valG (.agg (encCl (emptyC ⟨cr, cm, ch, c1, c2, c3, c4, c5⟩)).toArray) (by rfl) (by simp only [encCl, emptyC, emptyA, mkCl, atrOf]; go_simp; try rfl) ?_
            simp only [Act.put, List.setIfInBounds_toArray, List.set_cons_zero, List.set_cons_succ]
            refine wpList_store_mid rfl 44 (.tmp 6) (.tmp 85) rfl (k) (0) ((encCl (emptyC ⟨cr, cm, ch, c1, c2, c3, c4, c5⟩)).toArray) rfl rfl (there8 HCW.out) info_cell (cl_one (emptyC ⟨cr, cm, ch, c1, c2, c3, c4, c5⟩)) ?_
            simp only [Act.put]
            have HXE : Hid ((W.setCells k 0 (encCl (emptyC ⟨cr, cm, ch, c1, c2, c3, c4, c5⟩))).heap[k]? = some (.cells (encCl (emptyC ⟨cr, cm, ch, c1, c2, c3, c4, c5⟩)).toArray 44 (0, 0))) := Lib.hid (by
              have := whole_setCells (encCl (emptyC ⟨cr, cm, ch, c1, c2, c3, c4, c5⟩)) 0 _ W HCW.out (by simp [encCl_len])
              simpa [encCl] using this)
            have HBE := Lib.hid (below_setCells HBW.out HKW.out (encCl (emptyC ⟨cr, cm, ch, c1, c2, c3, c4, c5⟩)) 0)
            have HOE : Hid (ClO w.heap.size (W.setCells k 0 (encCl (emptyC ⟨cr, cm, ch, c1, c2, c3, c4, c5⟩))) bx.1 P) := Lib.hid (owns_mod HOW.out (mod_setCellsN (X := [k]) (.inl (by simp)) _ _ _ (Mod.refl _ _)) (fun g hg hx => HKO.out g hg (List.mem_singleton.1 hx)))
            change wpList _ _ _ _ _ (W.setCells k 0 (encCl (emptyC ⟨cr, cm, ch, c1, c2, c3, c4, c5⟩)))
            generalize W.setCells k 0 (encCl (emptyC ⟨cr, cm, ch, c1, c2, c3, c4, c5⟩)) = WE at HXE HBE HOE ⊢
            go_upto_region 16 with fail
            refine wp_region_lit ?_
            refine wpList_valG (bx.1) (by rfl) (by rfl) ?_
            simp only [Act.put, List.setIfInBounds_toArray, List.set_cons_zero, List.set_cons_succ]
            refine load_mid_g (by rfl) 44 (.tmp 6) rfl (k) (0) rfl (encCl (emptyC ⟨cr, cm, ch, c1, c2, c3, c4, c5⟩)) _ (range_new HXE.out) Tryd.underlying44 rfl info_cell ?_
            simp only [Act.put, List.setIfInBounds_toArray, List.set_cons_zero, List.set_cons_succ]
            refine wpList_actG (.slice (some ⟨WE.heap.size, 0, none⟩) 1 1) (WE.alloc (.cells (encCl (emptyC ⟨cr, cm, ch, c1, c2, c3, c4, c5⟩)).toArray 44)) (by rfl) (by simp only [encCl]; go_simp) ?_
            simp only [Act.put, List.setIfInBounds_toArray, List.set_cons_zero, List.set_cons_succ]
            refine wpList_append_gP rfl (.tmp 86) (.tmp 88) 26 rfl w.heap.size 44 j0 _ 8 72 Tryd.underlying26 hj gz0 gz1 gz2 rfl (by decide) bx.1 P.length (flat encCl P) rfl (ClO.below HOE.out (below_allocs (Below.refl _ _) _)) ⟨WE.heap.size, 0, none⟩ 1 1 (encCl (emptyC ⟨cr, cm, ch, c1, c2, c3, c4, c5⟩)) rfl rfl (fun j u hj => by rw [add_lit', Nat.zero_add]; exact (at_ (hp_new rfl) j u (by simpa using hj)).1) (encCl_one _) (by simp only [maxLen]; have := HP.out; omega) (by have := HP.out; omega) (by have := HBE.out.size; simp; omega) ?_
            intro v' w7 ho hg hv'
            have HO7 : Hid (ClO w.heap.size w7 v' (P ++ [emptyC ⟨cr, cm, ch, c1, c2, c3, c4, c5⟩])) := Lib.hid (by unfold ClO; rw [flat_append, List.length_append]; exact ho)
            have HB7 := Lib.hid ((below_allocs HBE.out (.cells (encCl (emptyC ⟨cr, cm, ch, c1, c2, c3, c4, c5⟩)).toArray 44)).grown hg (below_allocs HBE.out _).size (fun b hb => (World.ownsRow.lt (show WE.ownsRow _ _ _ _ _ _ from HOE.out) b hb).1))
            simp only [Act.put, List.setIfInBounds_toArray, List.set_cons_zero, List.set_cons_succ]
            clear ho hg hv'
            go_wp2
            go_roundw
            case rel => exact ⟨i + 1, P ++ [emptyC ⟨cr, cm, ch, c1, c2, c3, c4, c5⟩], false, by go_num, rfl, by omega, by rw [List.length_append, HP.out]; rfl, HO7.out, HB7.out, HM.out.keep HC.out HMO.out⟩
            case measure => simp [intOf]; omega
          · have h3t : (ch == 3) = false := beq_eq_false_iff_ne.2 h33
            clear h3b h33 h3
            go_upto_region 15 with fail
            refine wp_region_lit ?_
            refine wpList_valG (.pointer (some ⟨k, 3, none⟩)) (by rfl) (by go_simp) ?_
            simp only [Act.put, List.setIfInBounds_toArray, List.set_cons_zero, List.set_cons_succ]
            refine load_mid_g (by rfl) 42 (.tmp 83) rfl (k) (3) rfl ([.int .i64 c1, .int .i64 c2, .int .i64 c3, .int .i64 c4, .int .i64 c5]) _ (attr_range HCW.out) Tryd.underlying42 rfl info_attr ?_
            simp only [Act.put, List.setIfInBounds_toArray, List.set_cons_zero, List.set_cons_succ]
            refine wpList_valG (.agg (encCl (emptyC ⟨cr, cm, ch, c1, c2, c3, c4, c5⟩)).toArray) (by rfl) (by simp only [encCl, emptyC, emptyA, mkCl, atrOf]; go_simp; try rfl) ?_
            simp only [Act.put, List.setIfInBounds_toArray, List.set_cons_zero, List.set_cons_succ]
            refine wpList_store_mid rfl 44 (.tmp 6) (.tmp 85) rfl (k) (0) ((encCl (emptyC ⟨cr, cm, ch, c1, c2, c3, c4, c5⟩)).toArray) rfl rfl (there8 HCW.out) info_cell (cl_one (emptyC ⟨cr, cm, ch, c1, c2, c3, c4, c5⟩)) ?_
            simp only [Act.put]
            have HXE : Hid ((W.setCells k 0 (encCl (emptyC ⟨cr, cm, ch, c1, c2, c3, c4, c5⟩))).heap[k]? = some (.cells (encCl (emptyC ⟨cr, cm, ch, c1, c2, c3, c4, c5⟩)).toArray 44 (0, 0))) := Lib.hid (by
              have := whole_setCells (encCl (emptyC ⟨cr, cm, ch, c1, c2, c3, c4, c5⟩)) 0 _ W HCW.out (by simp [encCl_len])
              simpa [encCl] using this)
            have HBE := Lib.hid (below_setCells HBW.out HKW.out (encCl (emptyC ⟨cr, cm, ch, c1, c2, c3, c4, c5⟩)) 0)
            have HOE : Hid (ClO w.heap.size (W.setCells k 0 (encCl (emptyC ⟨cr, cm, ch, c1, c2, c3, c4, c5⟩))) bx.1 P) := Lib.hid (owns_mod HOW.out (mod_setCellsN (X := [k]) (.inl (by simp)) _ _ _ (Mod.refl _ _)) (fun g hg hx => HKO.out g hg (List.mem_singleton.1 hx)))
            change wpList _ _ _ _ _ (W.setCells k 0 (encCl (emptyC ⟨cr, cm, ch, c1, c2, c3, c4, c5⟩)))
            generalize W.setCells k 0 (encCl (emptyC ⟨cr, cm, ch, c1, c2, c3, c4, c5⟩)) = WE at HXE HBE HOE ⊢
            go_upto_region 16 with fail
            refine wp_region_lit ?_
            refine wpList_valG (bx.1) (by rfl) (by rfl) ?_
            simp only [Act.put, List.setIfInBounds_toArray, List.set_cons_zero, List.set_cons_succ]
            refine load_mid_g (by rfl) 44 (.tmp 6) rfl (k) (0) rfl (encCl (emptyC ⟨cr, cm, ch, c1, c2, c3, c4, c5⟩)) _ (range_new HXE.out) Tryd.underlying44 rfl info_cell ?_
            simp only [Act.put, List.setIfInBounds_toArray, List.set_cons_zero, List.set_cons_succ]
            refine wpList_actG (.slice (some ⟨WE.heap.size, 0, none⟩) 1 1) (WE.alloc (.cells (encCl (emptyC ⟨cr, cm, ch, c1, c2, c3, c4, c5⟩)).toArray 44)) (by rfl) (by simp only [encCl]; go_simp) ?_
            simp only [Act.put, List.setIfInBounds_toArray, List.set_cons_zero, List.set_cons_succ]
            refine wpList_append_gP rfl (.tmp 86) (.tmp 88) 26 rfl w.heap.size 44 j0 _ 8 72 Tryd.underlying26 hj gz0 gz1 gz2 rfl (by decide) bx.1 P.length (flat encCl P) rfl (ClO.below HOE.out (below_allocs (Below.refl _ _) _)) ⟨WE.heap.size, 0, none⟩ 1 1 (encCl (emptyC ⟨cr, cm, ch, c1, c2, c3, c4, c5⟩)) rfl rfl (fun j u hj => by rw [add_lit', Nat.zero_add]; exact (at_ (hp_new rfl) j u (by simpa using hj)).1) (encCl_one _) (by simp only [maxLen]; have := HP.out; omega) (by have := HP.out; omega) (by have := HBE.out.size; simp; omega) ?_
            intro v' w7 ho hg hv'
            have HO7 : Hid (ClO w.heap.size w7 v' (P ++ [emptyC ⟨cr, cm, ch, c1, c2, c3, c4, c5⟩])) := Lib.hid (by unfold ClO; rw [flat_append, List.length_append]; exact ho)
            have HB7 := Lib.hid ((below_allocs HBE.out (.cells (encCl (emptyC ⟨cr, cm, ch, c1, c2, c3, c4, c5⟩)).toArray 44)).grown hg (below_allocs HBE.out _).size (fun b hb => (World.ownsRow.lt (show WE.ownsRow _ _ _ _ _ _ from HOE.out) b hb).1))
            simp only [Act.put, List.setIfInBounds_toArray, List.set_cons_zero, List.set_cons_succ]
            clear ho hg hv'
            go_wp2
            go_roundw
            case rel => exact ⟨i + 1, P ++ [emptyC ⟨cr, cm, ch, c1, c2, c3, c4, c5⟩], false, by go_num, rfl, by omega, by rw [List.length_append, HP.out]; rfl, HO7.out, HB7.out, HM.out.keep HC.out HMO.out⟩
            case measure => simp [intOf]; omega
        subst h1
        clear h3b h3
        by_cases hlast : i + 1 = l.length
        · have hni : ¬ (i : Int) < (l.length : Int) - 1 := by omega
          have HMO : Hid (mendL (⟨cr, cm, 1, c1, c2, c3, c4, c5⟩ :: l.drop (i + 1)) = emptyC ⟨cr, cm, 1, c1, c2, c3, c4, c5⟩ :: mendL (l.drop (i + 1))) := Lib.hid (mendL_other (show ¬ (1 : Int) = 0 from by decide) (fun hh => by simp at hh) (fun d m e => by have := congrArg List.length e; simp at this; omega))
          go_upto_region 15 with fail
          refine wp_region_lit ?_
          refine wpList_valG (.pointer (some ⟨k, 3, none⟩)) (by rfl) (by go_simp) ?_
          simp only [Act.put, List.setIfInBounds_toArray, List.set_cons_zero, List.set_cons_succ]
          refine load_mid_g (by rfl) 42 (.tmp 83) rfl (k) (3) rfl ([.int .i64 c1, .int .i64 c2, .int .i64 c3, .int .i64 c4, .int .i64 c5]) _ (attr_range HCW.out) Tryd.underlying42 rfl info_attr ?_
          simp only [Act.put, List.setIfInBounds_toArray, List.set_cons_zero, List.set_cons_succ]
          refine wpList_valG (.agg (encCl (emptyC ⟨cr, cm, 1, c1, c2, c3, c4, c5⟩)).toArray) (by rfl) (by simp only [encCl, emptyC, emptyA, mkCl, atrOf]; go_simp; try rfl) ?_
          simp only [Act.put, List.setIfInBounds_toArray, List.set_cons_zero, List.set_cons_succ]
          refine wpList_store_mid rfl 44 (.tmp 6) (.tmp 85) rfl (k) (0) ((encCl (emptyC ⟨cr, cm, 1, c1, c2, c3, c4, c5⟩)).toArray) rfl rfl (there8 HCW.out) info_cell (cl_one (emptyC ⟨cr, cm, 1, c1, c2, c3, c4, c5⟩)) ?_
          simp only [Act.put]
          have HXE : Hid ((W.setCells k 0 (encCl (emptyC ⟨cr, cm, 1, c1, c2, c3, c4, c5⟩))).heap[k]? = some (.cells (encCl (emptyC ⟨cr, cm, 1, c1, c2, c3, c4, c5⟩)).toArray 44 (0, 0))) := Lib.hid (by
            have := whole_setCells (encCl (emptyC ⟨cr, cm, 1, c1, c2, c3, c4, c5⟩)) 0 _ W HCW.out (by simp [encCl_len])
            simpa [encCl] using this)
          have HBE := Lib.hid (below_setCells HBW.out HKW.out (encCl (emptyC ⟨cr, cm, 1, c1, c2, c3, c4, c5⟩)) 0)
          have HOE : Hid (ClO w.heap.size (W.setCells k 0 (encCl (emptyC ⟨cr, cm, 1, c1, c2, c3, c4, c5⟩))) bx.1 P) := Lib.hid (owns_mod HOW.out (mod_setCellsN (X := [k]) (.inl (by simp)) _ _ _ (Mod.refl _ _)) (fun g hg hx => HKO.out g hg (List.mem_singleton.1 hx)))
          change wpList _ _ _ _ _ (W.setCells k 0 (encCl (emptyC ⟨cr, cm, 1, c1, c2, c3, c4, c5⟩)))
          generalize W.setCells k 0 (encCl (emptyC ⟨cr, cm, 1, c1, c2, c3, c4, c5⟩)) = WE at HXE HBE HOE ⊢
          go_upto_region 16 with fail
          refine wp_region_lit ?_
          refine wpList_valG (bx.1) (by rfl) (by rfl) ?_
          simp only [Act.put, List.setIfInBounds_toArray, List.set_cons_zero, List.set_cons_succ]
          refine load_mid_g (by rfl) 44 (.tmp 6) rfl (k) (0) rfl (encCl (emptyC ⟨cr, cm, 1, c1, c2, c3, c4, c5⟩)) _ (range_new HXE.out) Tryd.underlying44 rfl info_cell ?_
          simp only [Act.put, List.setIfInBounds_toArray, List.set_cons_zero, List.set_cons_succ]
          refine wpList_actG (.slice (some ⟨WE.heap.size, 0, none⟩) 1 1) (WE.alloc (.cells (encCl (emptyC ⟨cr, cm, 1, c1, c2, c3, c4, c5⟩)).toArray 44)) (by rfl) (by simp only [encCl]; go_simp) ?_
          simp only [Act.put, List.setIfInBounds_toArray, List.set_cons_zero, List.set_cons_succ]
          refine wpList_append_gP rfl (.tmp 86) (.tmp 88) 26 rfl w.heap.size 44 j0 _ 8 72 Tryd.underlying26 hj gz0 gz1 gz2 rfl (by decide) bx.1 P.length (flat encCl P) rfl (ClO.below HOE.out (below_allocs (Below.refl _ _) _)) ⟨WE.heap.size, 0, none⟩ 1 1 (encCl (emptyC ⟨cr, cm, 1, c1, c2, c3, c4, c5⟩)) rfl rfl (fun j u hj => by rw [add_lit', Nat.zero_add]; exact (at_ (hp_new rfl) j u (by simpa using hj)).1) (encCl_one _) (by simp only [maxLen]; have := HP.out; omega) (by have := HP.out; omega) (by have := HBE.out.size; simp; omega) ?_
          intro v' w7 ho hg hv'
          have HO7 : Hid (ClO w.heap.size w7 v' (P ++ [emptyC ⟨cr, cm, 1, c1, c2, c3, c4, c5⟩])) := Lib.hid (by unfold ClO; rw [flat_append, List.length_append]; exact ho)
          have HB7 := Lib.hid ((below_allocs HBE.out (.cells (encCl (emptyC ⟨cr, cm, 1, c1, c2, c3, c4, c5⟩)).toArray 44)).grown hg (below_allocs HBE.out _).size (fun b hb => (World.ownsRow.lt (show WE.ownsRow _ _ _ _ _ _ from HOE.out) b hb).1))
          simp only [Act.put, List.setIfInBounds_toArray, List.set_cons_zero, List.set_cons_succ]
          clear ho hg hv'
          go_wp2
          go_roundw
          case rel => exact ⟨i + 1, P ++ [emptyC ⟨cr, cm, 1, c1, c2, c3, c4, c5⟩], false, by go_num, rfl, by omega, by rw [List.length_append, HP.out]; rfl, HO7.out, HB7.out, HM.out.keep HC.out HMO.out⟩
          case measure => simp [intOf]; omega
        obtain ⟨j, hj⟩ : ∃ j : Nat, j = i + 1 := ⟨_, rfl⟩
        have hjI : (i : Int) + 1 = (j : Int) := by omega
        have hwj : IntKind.i64.wrap (j : Int) = (j : Int) := IntWalk.i64_in _ (by omega)
        have hjl : j < l.length := by omega
        have hjlI : (j : Int) < (l.length : Int) := by omega
        have hil : (i : Int) < (l.length : Int) - 1 := by omega
        have HJ := Lib.hid hj
        obtain ⟨d, hd⟩ : ∃ d, l[j]? = some d := ⟨l[j], List.getElem?_eq_getElem hjl⟩
        have HD := Lib.hid hd
        have HRJ := Lib.hid (range_below (HR.out j d hd) HBW.out)
        clear hd hj hlast
        go_upto_region 11 with fail
        refine wp_region_lit ?_
        refine wpList_valG (.slice (some ⟨b, off, none⟩) l.length ca) (by rfl) (by rfl) ?_
        simp only [Act.put, List.setIfInBounds_toArray, List.set_cons_zero, List.set_cons_succ]
        refine wpList_valG (.int .i64 (i : Int)) (by rfl) (by rfl) ?_
        simp only [Act.put, List.setIfInBounds_toArray, List.set_cons_zero, List.set_cons_succ]
        refine wpList_valG (.int .i64 (j : Int)) (by rfl) (by go_simp) ?_
        simp only [Act.put, List.setIfInBounds_toArray, List.set_cons_zero, List.set_cons_succ]
        refine wpList_valG (.pointer (some ⟨b, off + j * 8, none⟩)) (by rfl) (by go_simp) ?_
        simp only [Act.put, List.setIfInBounds_toArray, List.set_cons_zero, List.set_cons_succ]
        refine load_mid_g (by rfl) 44 (.tmp 37) rfl (b) (off + j * 8) rfl (encCl d) _ (HRJ.out) Tryd.underlying44 rfl info_cell ?_
        simp only [Act.put, List.setIfInBounds_toArray, List.set_cons_zero, List.set_cons_succ]
        obtain ⟨dr, dm, dh, d1, d2, d3, d4, d5⟩ := d
        simp only [encCl]
        go_upto_region 12 with fail
        have HBV := Lib.hid (below_allocs HBW.out (.cells (encCl ⟨dr, dm, dh, d1, d2, d3, d4, d5⟩).toArray 44))
        have HOV := Lib.hid (ClO.below HOW.out (below_allocs (Below.refl W.heap.size W) (.cells (encCl ⟨dr, dm, dh, d1, d2, d3, d4, d5⟩).toArray 44)))
        have HCV := Lib.hid (show (W.alloc (.cells (encCl ⟨dr, dm, dh, d1, d2, d3, d4, d5⟩).toArray 44)).heap[k]? = _ from hp_old HCW.out)
        have HDV := Lib.hid (show (W.alloc (.cells (encCl ⟨dr, dm, dh, d1, d2, d3, d4, d5⟩).toArray 44)).heap[W.heap.size]? = _ from hp_new rfl)
        change Code.wp _ _ _ _ (W.alloc (.cells (encCl ⟨dr, dm, dh, d1, d2, d3, d4, d5⟩).toArray 44))
        obtain ⟨m, hm⟩ : ∃ m, W.heap.size = m := ⟨_, rfl⟩
        generalize W.alloc (.cells (encCl ⟨dr, dm, dh, d1, d2, d3, d4, d5⟩).toArray 44) = V at HBV HOV HCV HDV ⊢
        rw [hm] at HDV ⊢
        clear hm z2
        have zk2 : V.cell? ⟨k, 2, none⟩ = some (.int .i64 1) := (at_ HCV.out 2 _ rfl).1
        have zk0 : V.cell? ⟨k, 0, none⟩ = some (.int .i32 cr) := (at_ HCV.out 0 _ rfl).1
        have zk1 : V.cell? ⟨k, 1, none⟩ = some (.string cm) := (at_ HCV.out 1 _ rfl).1
        have zm2 : V.cell? ⟨m, 2, none⟩ = some (.int .i64 dh) := (at_ HDV.out 2 _ rfl).1
        have zm0 : V.cell? ⟨m, 0, none⟩ = some (.int .i32 dr) := (at_ HDV.out 0 _ rfl).1
        have zm1 : V.cell? ⟨m, 1, none⟩ = some (.string dm) := (at_ HDV.out 1 _ rfl).1
        have HNP : Hid (pairB ⟨cr, cm, 1, c1, c2, c3, c4, c5⟩ ⟨dr, dm, dh, d1, d2, d3, d4, d5⟩ = false → mendL (⟨cr, cm, 1, c1, c2, c3, c4, c5⟩ :: l.drop (i + 1)) = emptyC ⟨cr, cm, 1, c1, c2, c3, c4, c5⟩ :: mendL (l.drop (i + 1))) := Lib.hid (fun hp => mendL_other (show ¬ (1 : Int) = 0 from by decide) (fun hh => absurd (show (1 : Int) = 3 from hh.1) (by decide)) (fun d mm e => by
          have h2 := HD.out
          have h3 : (l.drop (i + 1))[0]? = some ⟨dr, dm, dh, d1, d2, d3, d4, d5⟩ := by rw [List.getElem?_drop]; simpa [← HJ.out] using h2
          rw [e] at h3
          simp at h3
          subst h3
          exact hp))
        have HPE := Lib.hid (pairB_fields ⟨cr, cm, 1, c1, c2, c3, c4, c5⟩ ⟨dr, dm, dh, d1, d2, d3, d4, d5⟩ rfl)
        clear hjI hwj hjl hjlI hil
        by_cases e1 : dh = 2
        rotate_left
        · have e1b : (dh == 2) = false := beq_eq_false_iff_ne.2 e1
          have HMO := Lib.hid (HNP.out (by rw [HPE.out]; simp [e1]))
          clear e1
          go_upto_region 15 with fail
          refine wp_region_lit ?_
          refine wpList_valG (.pointer (some ⟨k, 3, none⟩)) (by rfl) (by go_simp) ?_
          simp only [Act.put, List.setIfInBounds_toArray, List.set_cons_zero, List.set_cons_succ]
          refine load_mid_g (by rfl) 42 (.tmp 83) rfl (k) (3) rfl ([.int .i64 c1, .int .i64 c2, .int .i64 c3, .int .i64 c4, .int .i64 c5]) _ (attr_range HCV.out) Tryd.underlying42 rfl info_attr ?_
          simp only [Act.put, List.setIfInBounds_toArray, List.set_cons_zero, List.set_cons_succ]
          refine wpList_valG (.agg (encCl (emptyC ⟨cr, cm, 1, c1, c2, c3, c4, c5⟩)).toArray) (by rfl) (by simp only [encCl, emptyC, emptyA, mkCl, atrOf]; go_simp; try rfl) ?_
          simp only [Act.put, List.setIfInBounds_toArray, List.set_cons_zero, List.set_cons_succ]
          refine wpList_store_mid rfl 44 (.tmp 6) (.tmp 85) rfl (k) (0) ((encCl (emptyC ⟨cr, cm, 1, c1, c2, c3, c4, c5⟩)).toArray) rfl rfl (there8 HCV.out) info_cell (cl_one (emptyC ⟨cr, cm, 1, c1, c2, c3, c4, c5⟩)) ?_
          simp only [Act.put]
          have HXE : Hid ((V.setCells k 0 (encCl (emptyC ⟨cr, cm, 1, c1, c2, c3, c4, c5⟩))).heap[k]? = some (.cells (encCl (emptyC ⟨cr, cm, 1, c1, c2, c3, c4, c5⟩)).toArray 44 (0, 0))) := Lib.hid (by
            have := whole_setCells (encCl (emptyC ⟨cr, cm, 1, c1, c2, c3, c4, c5⟩)) 0 _ V HCV.out (by simp [encCl_len])
            simpa [encCl] using this)
          have HBE := Lib.hid (below_setCells HBV.out HKW.out (encCl (emptyC ⟨cr, cm, 1, c1, c2, c3, c4, c5⟩)) 0)
          have HOE : Hid (ClO w.heap.size (V.setCells k 0 (encCl (emptyC ⟨cr, cm, 1, c1, c2, c3, c4, c5⟩))) bx.1 P) := Lib.hid (owns_mod HOV.out (mod_setCellsN (X := [k]) (.inl (by simp)) _ _ _ (Mod.refl _ _)) (fun g hg hx => HKO.out g hg (List.mem_singleton.1 hx)))
          change wpList _ _ _ _ _ (V.setCells k 0 (encCl (emptyC ⟨cr, cm, 1, c1, c2, c3, c4, c5⟩)))
          generalize V.setCells k 0 (encCl (emptyC ⟨cr, cm, 1, c1, c2, c3, c4, c5⟩)) = WE at HXE HBE HOE ⊢
          go_upto_region 16 with fail
          refine wp_region_lit ?_
          refine wpList_valG (bx.1) (by rfl) (by rfl) ?_
          simp only [Act.put, List.setIfInBounds_toArray, List.set_cons_zero, List.set_cons_succ]
          refine load_mid_g (by rfl) 44 (.tmp 6) rfl (k) (0) rfl (encCl (emptyC ⟨cr, cm, 1, c1, c2, c3, c4, c5⟩)) _ (range_new HXE.out) Tryd.underlying44 rfl info_cell ?_
          simp only [Act.put, List.setIfInBounds_toArray, List.set_cons_zero, List.set_cons_succ]
          refine wpList_actG (.slice (some ⟨WE.heap.size, 0, none⟩) 1 1) (WE.alloc (.cells (encCl (emptyC ⟨cr, cm, 1, c1, c2, c3, c4, c5⟩)).toArray 44)) (by rfl) (by simp only [encCl]; go_simp) ?_
          simp only [Act.put, List.setIfInBounds_toArray, List.set_cons_zero, List.set_cons_succ]
          refine wpList_append_gP rfl (.tmp 86) (.tmp 88) 26 rfl w.heap.size 44 j0 _ 8 72 Tryd.underlying26 hj gz0 gz1 gz2 rfl (by decide) bx.1 P.length (flat encCl P) rfl (ClO.below HOE.out (below_allocs (Below.refl _ _) _)) ⟨WE.heap.size, 0, none⟩ 1 1 (encCl (emptyC ⟨cr, cm, 1, c1, c2, c3, c4, c5⟩)) rfl rfl (fun j u hj => by rw [add_lit', Nat.zero_add]; exact (at_ (hp_new rfl) j u (by simpa using hj)).1) (encCl_one _) (by simp only [maxLen]; have := HP.out; omega) (by have := HP.out; omega) (by have := HBE.out.size; simp; omega) ?_
          intro v' w7 ho hg hv'
          have HO7 : Hid (ClO w.heap.size w7 v' (P ++ [emptyC ⟨cr, cm, 1, c1, c2, c3, c4, c5⟩])) := Lib.hid (by unfold ClO; rw [flat_append, List.length_append]; exact ho)
          have HB7 := Lib.hid ((below_allocs HBE.out (.cells (encCl (emptyC ⟨cr, cm, 1, c1, c2, c3, c4, c5⟩)).toArray 44)).grown hg (below_allocs HBE.out _).size (fun b hb => (World.ownsRow.lt (show WE.ownsRow _ _ _ _ _ _ from HOE.out) b hb).1))
          simp only [Act.put, List.setIfInBounds_toArray, List.set_cons_zero, List.set_cons_succ]
          clear ho hg hv'
          go_wp2
          go_roundw
          case rel => exact ⟨i + 1, P ++ [emptyC ⟨cr, cm, 1, c1, c2, c3, c4, c5⟩], false, by go_num, rfl, by omega, by rw [List.length_append, HP.out]; rfl, HO7.out, HB7.out, HM.out.keep HC.out HMO.out⟩
          case measure => simp [intOf]; omega
        subst e1
        by_cases e2 : dr = cr
        rotate_left
        · have e2b : (dr == cr) = false := beq_eq_false_iff_ne.2 e2
          have HMO := Lib.hid (HNP.out (by rw [HPE.out]; simp [e2]))
          clear e2
          go_upto_region 15 with fail
          refine wp_region_lit ?_
          refine wpList_valG (.pointer (some ⟨k, 3, none⟩)) (by rfl) (by go_simp) ?_
          simp only [Act.put, List.setIfInBounds_toArray, List.set_cons_zero, List.set_cons_succ]
          refine load_mid_g (by rfl) 42 (.tmp 83) rfl (k) (3) rfl ([.int .i64 c1, .int .i64 c2, .int .i64 c3, .int .i64 c4, .int .i64 c5]) _ (attr_range HCV.out) Tryd.underlying42 rfl info_attr ?_
          simp only [Act.put, List.setIfInBounds_toArray, List.set_cons_zero, List.set_cons_succ]
          refine wpList_valG (.agg (encCl (emptyC ⟨cr, cm, 1, c1, c2, c3, c4, c5⟩)).toArray) (by rfl) (by simp only [encCl, emptyC, emptyA, mkCl, atrOf]; go_simp; try rfl) ?_
          simp only [Act.put, List.setIfInBounds_toArray, List.set_cons_zero, List.set_cons_succ]
          refine wpList_store_mid rfl 44 (.tmp 6) (.tmp 85) rfl (k) (0) ((encCl (emptyC ⟨cr, cm, 1, c1, c2, c3, c4, c5⟩)).toArray) rfl rfl (there8 HCV.out) info_cell (cl_one (emptyC ⟨cr, cm, 1, c1, c2, c3, c4, c5⟩)) ?_
          simp only [Act.put]
          have HXE : Hid ((V.setCells k 0 (encCl (emptyC ⟨cr, cm, 1, c1, c2, c3, c4, c5⟩))).heap[k]? = some (.cells (encCl (emptyC ⟨cr, cm, 1, c1, c2, c3, c4, c5⟩)).toArray 44 (0, 0))) := Lib.hid (by
            have := whole_setCells (encCl (emptyC ⟨cr, cm, 1, c1, c2, c3, c4, c5⟩)) 0 _ V HCV.out (by simp [encCl_len])
            simpa [encCl] using this)
          have HBE := Lib.hid (below_setCells HBV.out HKW.out (encCl (emptyC ⟨cr, cm, 1, c1, c2, c3, c4, c5⟩)) 0)
          have HOE : Hid (ClO w.heap.size (V.setCells k 0 (encCl (emptyC ⟨cr, cm, 1, c1, c2, c3, c4, c5⟩))) bx.1 P) := Lib.hid (owns_mod HOV.out (mod_setCellsN (X := [k]) (.inl (by simp)) _ _ _ (Mod.refl _ _)) (fun g hg hx => HKO.out g hg (List.mem_singleton.1 hx)))
          change wpList _ _ _ _ _ (V.setCells k 0 (encCl (emptyC ⟨cr, cm, 1, c1, c2, c3, c4, c5⟩)))
          generalize V.setCells k 0 (encCl (emptyC ⟨cr, cm, 1, c1, c2, c3, c4, c5⟩)) = WE at HXE HBE HOE ⊢
          go_upto_region 16 with fail
          refine wp_region_lit ?_
          refine wpList_valG (bx.1) (by rfl) (by rfl) ?_
          simp only [Act.put, List.setIfInBounds_toArray, List.set_cons_zero, List.set_cons_succ]
          refine load_mid_g (by rfl) 44 (.tmp 6) rfl (k) (0) rfl (encCl (emptyC ⟨cr, cm, 1, c1, c2, c3, c4, c5⟩)) _ (range_new HXE.out) Tryd.underlying44 rfl info_cell ?_
          simp only [Act.put, List.setIfInBounds_toArray, List.set_cons_zero, List.set_cons_succ]
          refine wpList_actG (.slice (some ⟨WE.heap.size, 0, none⟩) 1 1) (WE.alloc (.cells (encCl (emptyC ⟨cr, cm, 1, c1, c2, c3, c4, c5⟩)).toArray 44)) (by rfl) (by simp only [encCl]; go_simp) ?_
          simp only [Act.put, List.setIfInBounds_toArray, List.set_cons_zero, List.set_cons_succ]
          refine wpList_append_gP rfl (.tmp 86) (.tmp 88) 26 rfl w.heap.size 44 j0 _ 8 72 Tryd.underlying26 hj gz0 gz1 gz2 rfl (by decide) bx.1 P.length (flat encCl P) rfl (ClO.below HOE.out (below_allocs (Below.refl _ _) _)) ⟨WE.heap.size, 0, none⟩ 1 1 (encCl (emptyC ⟨cr, cm, 1, c1, c2, c3, c4, c5⟩)) rfl rfl (fun j u hj => by rw [add_lit', Nat.zero_add]; exact (at_ (hp_new rfl) j u (by simpa using hj)).1) (encCl_one _) (by simp only [maxLen]; have := HP.out; omega) (by have := HP.out; omega) (by have := HBE.out.size; simp; omega) ?_
          intro v' w7 ho hg hv'
          have HO7 : Hid (ClO w.heap.size w7 v' (P ++ [emptyC ⟨cr, cm, 1, c1, c2, c3, c4, c5⟩])) := Lib.hid (by unfold ClO; rw [flat_append, List.length_append]; exact ho)
          have HB7 := Lib.hid ((below_allocs HBE.out (.cells (encCl (emptyC ⟨cr, cm, 1, c1, c2, c3, c4, c5⟩)).toArray 44)).grown hg (below_allocs HBE.out _).size (fun b hb => (World.ownsRow.lt (show WE.ownsRow _ _ _ _ _ _ from HOE.out) b hb).1))
          simp only [Act.put, List.setIfInBounds_toArray, List.set_cons_zero, List.set_cons_succ]
          clear ho hg hv'
          go_wp2
          go_roundw
          case rel => exact ⟨i + 1, P ++ [emptyC ⟨cr, cm, 1, c1, c2, c3, c4, c5⟩], false, by go_num, rfl, by omega, by rw [List.length_append, HP.out]; rfl, HO7.out, HB7.out, HM.out.keep HC.out HMO.out⟩
          case measure => simp [intOf]; omega
        obtain rfl : cr = dr := e2.symm
        by_cases e3 : dm.toList = cm.toList
        rotate_left
        · have e3b : (dm.toList == cm.toList) = false := beq_eq_false_iff_ne.2 e3
          have HMO := Lib.hid (HNP.out (by rw [HPE.out]; simp [show ¬ dm = cm from fun e => e3 (by rw [e])]))
          clear e3
          go_upto_region 15 with fail
          refine wp_region_lit ?_
          refine wpList_valG (.pointer (some ⟨k, 3, none⟩)) (by rfl) (by go_simp) ?_
          simp only [Act.put, List.setIfInBounds_toArray, List.set_cons_zero, List.set_cons_succ]
          refine load_mid_g (by rfl) 42 (.tmp 83) rfl (k) (3) rfl ([.int .i64 c1, .int .i64 c2, .int .i64 c3, .int .i64 c4, .int .i64 c5]) _ (attr_range HCV.out) Tryd.underlying42 rfl info_attr ?_
          simp only [Act.put, List.setIfInBounds_toArray, List.set_cons_zero, List.set_cons_succ]
          refine wpList_valG (.agg (encCl (emptyC ⟨cr, cm, 1, c1, c2, c3, c4, c5⟩)).toArray) (by rfl) (by simp only [encCl, emptyC, emptyA, mkCl, atrOf]; go_simp; try rfl) ?_
          simp only [Act.put, List.setIfInBounds_toArray, List.set_cons_zero, List.set_cons_succ]
          refine wpList_store_mid rfl 44 (.tmp 6) (.tmp 85) rfl (k) (0) ((encCl (emptyC ⟨cr, cm, 1, c1, c2, c3, c4, c5⟩)).toArray) rfl rfl (there8 HCV.out) info_cell (cl_one (emptyC ⟨cr, cm, 1, c1, c2, c3, c4, c5⟩)) ?_
          simp only [Act.put]
          have HXE : Hid ((V.setCells k 0 (encCl (emptyC ⟨cr, cm, 1, c1, c2, c3, c4, c5⟩))).heap[k]? = some (.cells (encCl (emptyC ⟨cr, cm, 1, c1, c2, c3, c4, c5⟩)).toArray 44 (0, 0))) := Lib.hid (by
            have := whole_setCells (encCl (emptyC ⟨cr, cm, 1, c1, c2, c3, c4, c5⟩)) 0 _ V HCV.out (by simp [encCl_len])
            simpa [encCl] using this)
          have HBE := Lib.hid (below_setCells HBV.out HKW.out (encCl (emptyC ⟨cr, cm, 1, c1, c2, c3, c4, c5⟩)) 0)
          have HOE : Hid (ClO w.heap.size (V.setCells k 0 (encCl (emptyC ⟨cr, cm, 1, c1, c2, c3, c4, c5⟩))) bx.1 P) := Lib.hid (owns_mod HOV.out (mod_setCellsN (X := [k]) (.inl (by simp)) _ _ _ (Mod.refl _ _)) (fun g hg hx => HKO.out g hg (List.mem_singleton.1 hx)))
          change wpList _ _ _ _ _ (V.setCells k 0 (encCl (emptyC ⟨cr, cm, 1, c1, c2, c3, c4, c5⟩)))
          generalize V.setCells k 0 (encCl (emptyC ⟨cr, cm, 1, c1, c2, c3, c4, c5⟩)) = WE at HXE HBE HOE ⊢
          go_upto_region 16 with fail
          refine wp_region_lit ?_
          refine wpList_valG (bx.1) (by rfl) (by rfl) ?_
          simp only [Act.put, List.setIfInBounds_toArray, List.set_cons_zero, List.set_cons_succ]
          refine load_mid_g (by rfl) 44 (.tmp 6) rfl (k) (0) rfl (encCl (emptyC ⟨cr, cm, 1, c1, c2, c3, c4, c5⟩)) _ (range_new HXE.out) Tryd.underlying44 rfl info_cell ?_
          simp only [Act.put, List.setIfInBounds_toArray, List.set_cons_zero, List.set_cons_succ]
          refine wpList_actG (.slice (some ⟨WE.heap.size, 0, none⟩) 1 1) (WE.alloc (.cells (encCl (emptyC ⟨cr, cm, 1, c1, c2, c3, c4, c5⟩)).toArray 44)) (by rfl) (by simp only [encCl]; go_simp) ?_
          simp only [Act.put, List.setIfInBounds_toArray, List.set_cons_zero, List.set_cons_succ]
          refine wpList_append_gP rfl (.tmp 86) (.tmp 88) 26 rfl w.heap.size 44 j0 _ 8 72 Tryd.underlying26 hj gz0 gz1 gz2 rfl (by decide) bx.1 P.length (flat encCl P) rfl (ClO.below HOE.out (below_allocs (Below.refl _ _) _)) ⟨WE.heap.size, 0, none⟩ 1 1 (encCl (emptyC ⟨cr, cm, 1, c1, c2, c3, c4, c5⟩)) rfl rfl (fun j u hj => by rw [add_lit', Nat.zero_add]; exact (at_ (hp_new rfl) j u (by simpa using hj)).1) (encCl_one _) (by simp only [maxLen]; have := HP.out; omega) (by have := HP.out; omega) (by have := HBE.out.size; simp; omega) ?_
          intro v' w7 ho hg hv'
          have HO7 : Hid (ClO w.heap.size w7 v' (P ++ [emptyC ⟨cr, cm, 1, c1, c2, c3, c4, c5⟩])) := Lib.hid (by unfold ClO; rw [flat_append, List.length_append]; exact ho)
          have HB7 := Lib.hid ((below_allocs HBE.out (.cells (encCl (emptyC ⟨cr, cm, 1, c1, c2, c3, c4, c5⟩)).toArray 44)).grown hg (below_allocs HBE.out _).size (fun b hb => (World.ownsRow.lt (show WE.ownsRow _ _ _ _ _ _ from HOE.out) b hb).1))
          simp only [Act.put, List.setIfInBounds_toArray, List.set_cons_zero, List.set_cons_succ]
          clear ho hg hv'
          go_wp2
          go_roundw
          case rel => exact ⟨i + 1, P ++ [emptyC ⟨cr, cm, 1, c1, c2, c3, c4, c5⟩], false, by go_num, rfl, by omega, by rw [List.length_append, HP.out]; rfl, HO7.out, HB7.out, HM.out.keep HC.out HMO.out⟩
          case measure => simp [intOf]; omega
        obtain rfl : cm = dm := (WideShapes.bytes_inj (by rw [← ByteArray.toList_eq, ← ByteArray.toList_eq, e3])).symm
        clear e3
        refine wp_region_lit ?_
        refine wpList_valG (.pointer (some ⟨m, 2, none⟩)) (by rfl) (by go_simp) ?_
        simp only [Act.put, List.setIfInBounds_toArray, List.set_cons_zero, List.set_cons_succ]
        refine wpList_valG (.int .i64 2) (by rfl) (by go_simp) ?_
        simp only [Act.put, List.setIfInBounds_toArray, List.set_cons_zero, List.set_cons_succ]
        refine wpList_valG (.bool true) (by rfl) (by go_simp) ?_
        simp only [Act.put, List.setIfInBounds_toArray, List.set_cons_zero, List.set_cons_succ]
        refine wpList_valG (.bool true) (by rfl) (by go_simp) ?_
        simp only [Act.put, List.setIfInBounds_toArray, List.set_cons_zero, List.set_cons_succ]
        refine wpList_valG (.pointer (some ⟨m, 0, none⟩)) (by rfl) (by go_simp) ?_
        simp only [Act.put, List.setIfInBounds_toArray, List.set_cons_zero, List.set_cons_succ]
        refine wpList_valG (.int .i32 cr) (by rfl) (by go_simp) ?_
        simp only [Act.put, List.setIfInBounds_toArray, List.set_cons_zero, List.set_cons_succ]
        refine wpList_valG (.pointer (some ⟨k, 0, none⟩)) (by rfl) (by go_simp) ?_
        simp only [Act.put, List.setIfInBounds_toArray, List.set_cons_zero, List.set_cons_succ]
        refine wpList_valG (.int .i32 cr) (by rfl) (by go_simp) ?_
        simp only [Act.put, List.setIfInBounds_toArray, List.set_cons_zero, List.set_cons_succ]
        refine wpList_valG (.bool true) (by rfl) (by go_simp) ?_
        simp only [Act.put, List.setIfInBounds_toArray, List.set_cons_zero, List.set_cons_succ]
        refine wpList_valG (.bool true) (by rfl) (by go_simp) ?_
        simp only [Act.put, List.setIfInBounds_toArray, List.set_cons_zero, List.set_cons_succ]
        refine wpList_valG (.bool true) (by rfl) (by go_simp) ?_
        simp only [Act.put, List.setIfInBounds_toArray, List.set_cons_zero, List.set_cons_succ]
        refine wpList_valG (.pointer (some ⟨m, 1, none⟩)) (by rfl) (by go_simp) ?_
        simp only [Act.put, List.setIfInBounds_toArray, List.set_cons_zero, List.set_cons_succ]
        refine wpList_valG (.string cm) (by rfl) (by go_simp) ?_
        simp only [Act.put, List.setIfInBounds_toArray, List.set_cons_zero, List.set_cons_succ]
        refine wpList_valG (.pointer (some ⟨k, 1, none⟩)) (by rfl) (by go_simp) ?_
        simp only [Act.put, List.setIfInBounds_toArray, List.set_cons_zero, List.set_cons_succ]
        refine wpList_valG (.string cm) (by rfl) (by go_simp) ?_
        simp only [Act.put, List.setIfInBounds_toArray, List.set_cons_zero, List.set_cons_succ]
        refine wpList_valG (.bool true) (by rfl) (by go_simp) ?_
        simp only [Act.put, List.setIfInBounds_toArray, List.set_cons_zero, List.set_cons_succ]
        refine wpList_valG (.bool true) (by rfl) (by go_simp) ?_
        simp only [Act.put, List.setIfInBounds_toArray, List.set_cons_zero, List.set_cons_succ]
        refine wpList_valG (.bool true) (by rfl) (by go_simp) ?_
        simp only [Act.put, List.setIfInBounds_toArray, List.set_cons_zero, List.set_cons_succ]
        refine wpList_valG (.pointer (some ⟨m, 3, none⟩)) (by rfl) (by go_simp) ?_
        simp only [Act.put, List.setIfInBounds_toArray, List.set_cons_zero, List.set_cons_succ]
        refine load_mid_g (by rfl) 42 (.tmp 57) rfl (m) (3) rfl ([.int .i64 d1, .int .i64 d2, .int .i64 d3, .int .i64 d4, .int .i64 d5]) _ (attr_range HDV.out) Tryd.underlying42 rfl info_attr ?_
        simp only [Act.put, List.setIfInBounds_toArray, List.set_cons_zero, List.set_cons_succ]
        refine wpList_valG (.pointer (some ⟨k, 3, none⟩)) (by rfl) (by go_simp) ?_
        simp only [Act.put, List.setIfInBounds_toArray, List.set_cons_zero, List.set_cons_succ]
        refine load_mid_g (by rfl) 42 (.tmp 59) rfl (k) (3) rfl ([.int .i64 c1, .int .i64 c2, .int .i64 c3, .int .i64 c4, .int .i64 c5]) _ (attr_range HCV.out) Tryd.underlying42 rfl info_attr ?_
        simp only [Act.put, List.setIfInBounds_toArray, List.set_cons_zero, List.set_cons_succ]
        by_cases e4 : c1 = d1 ∧ c2 = d2 ∧ c3 = d3 ∧ c4 = d4 ∧ c5 = d5
        · obtain ⟨rfl, rfl, rfl, rfl, rfl⟩ := e4
          clear HNP
          have HPT : Hid (pairB ⟨cr, cm, 1, c1, c2, c3, c4, c5⟩ ⟨cr, cm, 2, c1, c2, c3, c4, c5⟩ = true) := Lib.hid (by rw [HPE.out]; simp [atrOf])
          refine wpList_valG (.bool true) (by rfl) (by go_simp) ?_
          simp only [Act.put, List.setIfInBounds_toArray, List.set_cons_zero, List.set_cons_succ]
          refine wpList_valG (.bool true) (by rfl) (by go_simp) ?_
          simp only [Act.put, List.setIfInBounds_toArray, List.set_cons_zero, List.set_cons_succ]
          go_upto_region 16 with fail
          refine wp_region_lit ?_
          refine wpList_valG (bx.1) (by rfl) (by rfl) ?_
          simp only [Act.put, List.setIfInBounds_toArray, List.set_cons_zero, List.set_cons_succ]
          refine load_mid_g (by rfl) 44 (.tmp 6) rfl (k) (0) rfl (encCl (⟨cr, cm, 1, c1, c2, c3, c4, c5⟩)) _ (range_new HCV.out) Tryd.underlying44 rfl info_cell ?_
          simp only [Act.put, List.setIfInBounds_toArray, List.set_cons_zero, List.set_cons_succ]
          refine wpList_actG (.slice (some ⟨V.heap.size, 0, none⟩) 1 1) (V.alloc (.cells (encCl (⟨cr, cm, 1, c1, c2, c3, c4, c5⟩)).toArray 44)) (by rfl) (by simp only [encCl]; go_simp) ?_
          simp only [Act.put, List.setIfInBounds_toArray, List.set_cons_zero, List.set_cons_succ]
          refine wpList_append_gP rfl (.tmp 86) (.tmp 88) 26 rfl w.heap.size 44 j0 _ 8 72 Tryd.underlying26 hj gz0 gz1 gz2 rfl (by decide) bx.1 P.length (flat encCl P) rfl (ClO.below HOV.out (below_allocs (Below.refl _ _) _)) ⟨V.heap.size, 0, none⟩ 1 1 (encCl (⟨cr, cm, 1, c1, c2, c3, c4, c5⟩)) rfl rfl (fun j u hj => by rw [add_lit', Nat.zero_add]; exact (at_ (hp_new rfl) j u (by simpa using hj)).1) (encCl_one _) (by simp only [maxLen]; have := HP.out; omega) (by have := HP.out; omega) (by have := HBV.out.size; simp; omega) ?_
          intro v' w7 ho hg hv'
          have HO7 : Hid (ClO w.heap.size w7 v' (P ++ [⟨cr, cm, 1, c1, c2, c3, c4, c5⟩])) := Lib.hid (by unfold ClO; rw [flat_append, List.length_append]; exact ho)
          have HB7 := Lib.hid ((below_allocs HBV.out (.cells (encCl (⟨cr, cm, 1, c1, c2, c3, c4, c5⟩)).toArray 44)).grown hg (below_allocs HBV.out _).size (fun b hb => (World.ownsRow.lt (show V.ownsRow _ _ _ _ _ _ from HOV.out) b hb).1))
          simp only [Act.put, List.setIfInBounds_toArray, List.set_cons_zero, List.set_cons_succ]
          clear ho hg hv'
          go_wp2
          go_roundw
          case rel => exact ⟨i + 1, P ++ [⟨cr, cm, 1, c1, c2, c3, c4, c5⟩], true, by go_num, rfl, by omega, by rw [List.length_append, HP.out]; rfl, HO7.out, HB7.out, HM.out.pair HC.out (by rw [← HJ.out]; exact HD.out) HPT.out⟩
          case measure => simp [intOf]; omega
        · have HMO := Lib.hid (HNP.out (by rw [HPE.out]; simp [atrOf]; exact fun a1 a2 a3 a4 a5 => e4 ⟨a1.symm, a2.symm, a3.symm, a4.symm, a5.symm⟩))
          refine wpList_valG (.bool false) (by rfl) (by go_simp; exact fun a1 a2 a3 a4 a5 => e4 ⟨a1.symm, a2.symm, a3.symm, a4.symm, a5.symm⟩) ?_
          simp only [Act.put, List.setIfInBounds_toArray, List.set_cons_zero, List.set_cons_succ]
          refine wpList_valG (.bool false) (by rfl) (by go_simp) ?_
          simp only [Act.put, List.setIfInBounds_toArray, List.set_cons_zero, List.set_cons_succ]
          go_upto_region 15 with fail
          refine wp_region_lit ?_
          refine wpList_valG (.pointer (some ⟨k, 3, none⟩)) (by rfl) (by go_simp) ?_
          simp only [Act.put, List.setIfInBounds_toArray, List.set_cons_zero, List.set_cons_succ]
          refine load_mid_g (by rfl) 42 (.tmp 83) rfl (k) (3) rfl ([.int .i64 c1, .int .i64 c2, .int .i64 c3, .int .i64 c4, .int .i64 c5]) _ (attr_range HCV.out) Tryd.underlying42 rfl info_attr ?_
          simp only [Act.put, List.setIfInBounds_toArray, List.set_cons_zero, List.set_cons_succ]
          refine wpList_valG (.agg (encCl (emptyC ⟨cr, cm, 1, c1, c2, c3, c4, c5⟩)).toArray) (by rfl) (by simp only [encCl, emptyC, emptyA, mkCl, atrOf]; go_simp; try rfl) ?_
          simp only [Act.put, List.setIfInBounds_toArray, List.set_cons_zero, List.set_cons_succ]
          refine wpList_store_mid rfl 44 (.tmp 6) (.tmp 85) rfl (k) (0) ((encCl (emptyC ⟨cr, cm, 1, c1, c2, c3, c4, c5⟩)).toArray) rfl rfl (there8 HCV.out) info_cell (cl_one (emptyC ⟨cr, cm, 1, c1, c2, c3, c4, c5⟩)) ?_
          simp only [Act.put]
          have HXE : Hid ((V.setCells k 0 (encCl (emptyC ⟨cr, cm, 1, c1, c2, c3, c4, c5⟩))).heap[k]? = some (.cells (encCl (emptyC ⟨cr, cm, 1, c1, c2, c3, c4, c5⟩)).toArray 44 (0, 0))) := Lib.hid (by
            have := whole_setCells (encCl (emptyC ⟨cr, cm, 1, c1, c2, c3, c4, c5⟩)) 0 _ V HCV.out (by simp [encCl_len])
            simpa [encCl] using this)
          have HBE := Lib.hid (below_setCells HBV.out HKW.out (encCl (emptyC ⟨cr, cm, 1, c1, c2, c3, c4, c5⟩)) 0)
          have HOE : Hid (ClO w.heap.size (V.setCells k 0 (encCl (emptyC ⟨cr, cm, 1, c1, c2, c3, c4, c5⟩))) bx.1 P) := Lib.hid (owns_mod HOV.out (mod_setCellsN (X := [k]) (.inl (by simp)) _ _ _ (Mod.refl _ _)) (fun g hg hx => HKO.out g hg (List.mem_singleton.1 hx)))
          change wpList _ _ _ _ _ (V.setCells k 0 (encCl (emptyC ⟨cr, cm, 1, c1, c2, c3, c4, c5⟩)))
          generalize V.setCells k 0 (encCl (emptyC ⟨cr, cm, 1, c1, c2, c3, c4, c5⟩)) = WE at HXE HBE HOE ⊢
          go_upto_region 16 with fail
          refine wp_region_lit ?_
          refine wpList_valG (bx.1) (by rfl) (by rfl) ?_
          simp only [Act.put, List.setIfInBounds_toArray, List.set_cons_zero, List.set_cons_succ]
          refine load_mid_g (by rfl) 44 (.tmp 6) rfl (k) (0) rfl (encCl (emptyC ⟨cr, cm, 1, c1, c2, c3, c4, c5⟩)) _ (range_new HXE.out) Tryd.underlying44 rfl info_cell ?_
          simp only [Act.put, List.setIfInBounds_toArray, List.set_cons_zero, List.set_cons_succ]
          refine wpList_actG (.slice (some ⟨WE.heap.size, 0, none⟩) 1 1) (WE.alloc (.cells (encCl (emptyC ⟨cr, cm, 1, c1, c2, c3, c4, c5⟩)).toArray 44)) (by rfl) (by simp only [encCl]; go_simp) ?_
          simp only [Act.put, List.setIfInBounds_toArray, List.set_cons_zero, List.set_cons_succ]
          refine wpList_append_gP rfl (.tmp 86) (.tmp 88) 26 rfl w.heap.size 44 j0 _ 8 72 Tryd.underlying26 hj gz0 gz1 gz2 rfl (by decide) bx.1 P.length (flat encCl P) rfl (ClO.below HOE.out (below_allocs (Below.refl _ _) _)) ⟨WE.heap.size, 0, none⟩ 1 1 (encCl (emptyC ⟨cr, cm, 1, c1, c2, c3, c4, c5⟩)) rfl rfl (fun j u hj => by rw [add_lit', Nat.zero_add]; exact (at_ (hp_new rfl) j u (by simpa using hj)).1) (encCl_one _) (by simp only [maxLen]; have := HP.out; omega) (by have := HP.out; omega) (by have := HBE.out.size; simp; omega) ?_
          intro v' w7 ho hg hv'
          have HO7 : Hid (ClO w.heap.size w7 v' (P ++ [emptyC ⟨cr, cm, 1, c1, c2, c3, c4, c5⟩])) := Lib.hid (by unfold ClO; rw [flat_append, List.length_append]; exact ho)
          have HB7 := Lib.hid ((below_allocs HBE.out (.cells (encCl (emptyC ⟨cr, cm, 1, c1, c2, c3, c4, c5⟩)).toArray 44)).grown hg (below_allocs HBE.out _).size (fun b hb => (World.ownsRow.lt (show WE.ownsRow _ _ _ _ _ _ from HOE.out) b hb).1))
          simp only [Act.put, List.setIfInBounds_toArray, List.set_cons_zero, List.set_cons_succ]
          clear ho hg hv'
          go_wp2
          go_roundw
          case rel => exact ⟨i + 1, P ++ [emptyC ⟨cr, cm, 1, c1, c2, c3, c4, c5⟩], false, by go_num, rfl, by omega, by rw [List.length_append, HP.out]; rfl, HO7.out, HB7.out, HM.out.keep HC.out HMO.out⟩
          case measure => simp [intOf]; omega
end Go.Proofs.YtbllhchcccflkaaDoor
