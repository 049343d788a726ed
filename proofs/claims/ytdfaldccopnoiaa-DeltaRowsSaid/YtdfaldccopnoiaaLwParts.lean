/- DeltaParts: the walk of the law. Conditions: none. -/
import Derived.Test.YtdfaldccopnoiaaClC
import Derived.Deep.DeepCutAuto
namespace Go.Proofs.Ytdfaldccopnoiaa
open Go.RowKit

def litC (r : Int) : Cl := ⟨r, ByteArray.empty, 0, 0, 0, 0, 0, 0⟩
theorem ClsAt_two {W w1 : World} {b : Nat} {t : TypeId} {r0 r1 : Int} (hb : Below W.heap.size W w1) (h : W.heap[b]? = some (.cells #[.int .i32 r0, .string ByteArray.empty, .int .i64 0, .int .i64 0, .int .i64 0, .int .i64 0, .int .i64 0, .int .i64 0, .int .i32 r1, .string ByteArray.empty, .int .i64 0, .int .i64 0, .int .i64 0, .int .i64 0, .int .i64 0, .int .i64 0] t (0, 0))) : ClsAt w1 (some ⟨b, 0, none⟩) [litC r0, litC r1] := by
  intro _
  refine ⟨b, 0, rfl, fun i s hs => ?_⟩
  match i, hs with
  | 0, hs =>
    obtain rfl : litC r0 = s := by simpa using hs
    exact ⟨(at_new hb h 0 _ rfl).1, (at_new hb h 1 _ rfl).1, (at_new hb h 2 _ rfl).1, (at_new hb h 3 _ rfl).1, (at_new hb h 4 _ rfl).1, (at_new hb h 5 _ rfl).1, (at_new hb h 6 _ rfl).1, (at_new hb h 7 _ rfl).1⟩
  | 1, hs =>
    obtain rfl : litC r1 = s := by simpa using hs
    exact ⟨(at_new hb h 8 _ rfl).1, (at_new hb h 9 _ rfl).1, (at_new hb h 10 _ rfl).1, (at_new hb h 11 _ rfl).1, (at_new hb h 12 _ rfl).1, (at_new hb h 13 _ rfl).1, (at_new hb h 14 _ rfl).1, (at_new hb h 15 _ rfl).1⟩
  | i + 2, hs => simp at hs
theorem Part_two (b b' : Nat) (w : World) (hl : ClsAt w (some ⟨b, 0, none⟩) [litC 97, litC 98]) (hm : ClsAt w (some ⟨b', 0, none⟩) [litC 97, litC 99]) :
    Calls Try.prog 24 #[.slice (some ⟨b, 0, none⟩) 2 2, .slice (some ⟨b', 0, none⟩) 2 2] w fun e w' => e = .returned (.tuple #[.int .i64 1, .int .i64 2, .bool true]) ∧ Below w.heap.size w w' := by
  have hd : Diffs [litC 97, litC 98] [litC 97, litC 99] 1 1 := by
    refine ⟨rfl, Nat.le_refl _, by simp, by simp [litC], by simp [litC], fun i hi => ?_, fun i hi => ?_⟩
    · obtain rfl : i = 0 := by omega
      rfl
    · rw [List.getElem?_eq_none (by simp; omega), List.getElem?_eq_none (by simp; omega)]
  have := Part_some b b' 0 0 [litC 97, litC 98] [litC 97, litC 99] 2 2 1 1 (litC 98) (litC 99) (litC 98) (litC 99) w hl hm (by simp) (by simp) hd rfl rfl rfl rfl
  exact this
set_option maxHeartbeats 800000 in
theorem awake29 (w : World) : Calls Try.prog 23 #[] w fun e w' => e = .returned (.bool true) ∧ Below w.heap.size w w' := by
  go_enter Try.func23, Try.ntmps23
  go_wp2_with (go_at_call 24; refine (Part_two _ _ _ ?_ ?_).mono ?_; · (exact ClsAt_two ((Below.refl _ _).alloc (Nat.le_refl _) _) (hp_new rfl))
               · (exact ClsAt_two (Below.refl _ _) (hp_new (by simp)))
               rintro e w1 ⟨rfl, hb1⟩; have hB := below_tail (show Below w.heap.size w _ from by repeat (first | exact Below.refl _ _ | refine below_allocs ?_ _)) hb1)
  go_ret
  exact ⟨by simp, hB⟩

set_option maxRecDepth 100000 in
set_option maxHeartbeats 1600000 in
theorem DeltaParts_big (A B : Option Addr) (n m ca cb : Nat) (w : World) (h : 200 < n ∨ 200 < m) :
    Calls Try.prog 7 #[.slice A n ca, .slice B m cb] w fun e w' => e = .returned (.bool true) ∧ Below w.heap.size w w' := by
  by_cases h1 : 200 < n
  · clear h
    go_enter Try.func7, Try.ntmps7
    go_wp2_with (go_at_call 23; refine (awake29 _).mono ?_; rintro e w3 ⟨rfl, hb3⟩)
    go_ret
    exact ⟨by simp, hb3⟩
  · have h2 : 200 < m := by omega
    clear h
    go_enter Try.func7, Try.ntmps7
    go_wp2_with (go_at_call 23; refine (awake29 _).mono ?_; rintro e w3 ⟨rfl, hb3⟩)
    go_ret
    exact ⟨by simp, hb3⟩

theorem Part_none_hid (A B : Option Addr) (l m : List Cl) (ca cb : Nat) (hz : l.length ≤ 200) (hz2 : m.length ≤ 200) (h : l.length ≠ m.length ∨ l = m) :
    Hid (∀ w : World, ClsAt w A l → ClsAt w B m → Calls Try.prog 24 #[.slice A l.length ca, .slice B m.length cb] w fun e w' => e = .returned (.tuple #[.int .i64 0, .int .i64 0, .bool false]) ∧ Below w.heap.size w w') :=
  Lib.hid fun w hl hm => Part_none A B l m ca cb w hl hm (by omega) (by omega) h
theorem Same_hid (A B : Option Addr) (l m : List Cl) (ca cb : Nat) (hz : l.length ≤ 200) (hz2 : m.length ≤ 200) :
    Hid (∀ w : World, ClsAt w A l → ClsAt w B m → Calls Try.prog 25 #[.slice A l.length ca, .slice B m.length cb] w fun e w' => e = .returned (.bool (decide (l = m))) ∧ Below w.heap.size w w') :=
  Lib.hid fun w hl hm => SameCells_any A B l m ca cb w hl hm (by omega) (by omega)

set_option maxRecDepth 100000 in
set_option maxHeartbeats 1600000 in
theorem DeltaParts_none (A B : Option Addr) (l m : List Cl) (ca cb : Nat) (w : World) (hl : ClsAt w A l) (hm : ClsAt w B m) (hz : l.length ≤ 200) (hz2 : m.length ≤ 200) (h : l.length ≠ m.length ∨ l = m) :
    Calls Try.prog 7 #[.slice A l.length ca, .slice B m.length cb] w fun e w' => e = .returned (.bool true) ∧ Below w.heap.size w w' := by
  have HL := Lib.hid hl
  have HM := Lib.hid hm
  clear hl hm
  have HP := Part_none_hid A B l m ca cb hz hz2 h
  have HS := Same_hid A B l m ca cb hz hz2
  by_cases hlen : l.length = m.length
  · obtain rfl : l = m := by
      rcases h with h | h
      · exact absurd hlen h
      · exact h
    rw [show decide (l = l) = true from by simp] at HS
    clear hlen h
    go_enter Try.func7, Try.ntmps7
    go_wp2_with (first | (go_at_call 23; refine (awake29 _).mono ?_; rintro e w1 ⟨rfl, hb1⟩) | (go_at_call 24; refine (HP.out _ (HL.out.below hb1) (HM.out.below hb1)).mono ?_; rintro e w2 ⟨rfl, hb2⟩) | (go_at_call 25; refine (HS.out _ ((HL.out.below hb1).below hb2) ((HM.out.below hb1).below hb2)).mono ?_; rintro e w3 ⟨rfl, hb3⟩))
    go_ret
    exact ⟨by simp, below_tail (below_tail hb1 hb2) hb3⟩
  · have h' : ((l.length : Int) != (m.length : Int)) = true := by simp; omega
    clear hlen h HS
    go_enter Try.func7, Try.ntmps7
    go_wp2_with (first | (go_at_call 23; refine (awake29 _).mono ?_; rintro e w1 ⟨rfl, hb1⟩) | (go_at_call 24; refine (HP.out _ (HL.out.below hb1) (HM.out.below hb1)).mono ?_; rintro e w2 ⟨rfl, hb2⟩))
    go_ret
    exact ⟨by simp, below_tail hb1 hb2⟩

theorem Part_some_hid (b b' off off' : Nat) (l m : List Cl) (ca cb fst lst : Nat) (x y x2 y2 : Cl) (hz : l.length ≤ 200) (hz2 : m.length ≤ 200) (hd : Diffs l m fst lst)
    (hx : l[fst]? = some x) (hy : m[fst]? = some y) (hx2 : l[lst]? = some x2) (hy2 : m[lst]? = some y2) :
    Hid (∀ w : World, ClsAt w (some ⟨b, off, none⟩) l → ClsAt w (some ⟨b', off', none⟩) m → Calls Try.prog 24 #[.slice (some ⟨b, off, none⟩) l.length ca, .slice (some ⟨b', off', none⟩) m.length cb] w fun e w' => e = .returned (.tuple #[.int .i64 (partA fst (halfB x y 2)), .int .i64 (partB lst l.length (halfB x2 y2 1)), .bool true]) ∧ Below w.heap.size w w') :=
  Lib.hid fun w hl hm => Part_some b b' off off' l m ca cb fst lst x y x2 y2 w hl hm (by omega) (by omega) hd hx hy hx2 hy2
/-- What the law's loop knows of the last cell that differs, ahead of round i. -/
def LastOf (l m : List Cl) (fst : Nat) (i : Nat) (s : Value) : Prop := ∃ q : Nat, s = .int .i64 (q : Int) ∧ (i ≤ fst → q = 0) ∧ (fst < i → q < i ∧ l[q]? ≠ m[q]? ∧ ∀ r, q < r → r < i → l[r]? = m[r]?)

set_option maxRecDepth 100000 in
set_option maxHeartbeats 1600000 in
theorem DeltaParts_some (b b' off off' : Nat) (l m : List Cl) (ca cb fst lst : Nat) (x y x2 y2 : Cl) (w : World) (hl : ClsAt w (some ⟨b, off, none⟩) l) (hm : ClsAt w (some ⟨b', off', none⟩) m) (hz : l.length ≤ 200) (hz2 : m.length ≤ 200) (hd : Diffs l m fst lst)
    (hx : l[fst]? = some x) (hy : m[fst]? = some y) (hx2 : l[lst]? = some x2) (hy2 : m[lst]? = some y2) :
    Calls Try.prog 7 #[.slice (some ⟨b, off, none⟩) l.length ca, .slice (some ⟨b', off', none⟩) m.length cb] w fun e w' => e = .returned (.bool true) ∧ Below w.heap.size w w' := by
  have HL := Lib.hid hl
  have HM := Lib.hid hm
  clear hl hm
  have HP := Part_some_hid b b' off off' l m ca cb fst lst x y x2 y2 hz hz2 hd hx hy hx2 hy2
  have HS := Same_hid (some ⟨b, off, none⟩) (some ⟨b', off', none⟩) l m ca cb hz hz2
  rw [show decide (l = m) = false from by simp; rintro rfl; exact hd.f rfl] at HS
  have HD := Lib.hid hd
  have h' : ((l.length : Int) != (m.length : Int)) = false := by have := hd.len; simp; omega
  have d1 := hd.le
  have d2 := hd.lt
  have d3 : lst < m.length := by have := hd.len; omega
  have X1 := Lib.hid hx
  have Y1 := Lib.hid hy
  have X2 := Lib.hid hx2
  have Y2 := Lib.hid hy2
  clear hd hx hy hx2 hy2
  go_enter Try.func7, Try.ntmps7
  go_wp2_with (first | (go_at_call 23; refine (awake29 _).mono ?_; rintro e w1 ⟨rfl, hb1⟩) | (go_at_call 24; refine (HP.out _ (HL.out.below hb1) (HM.out.below hb1)).mono ?_; rintro e w2 ⟨rfl, hb2⟩) | (go_at_call 25; refine (HS.out _ ((HL.out.below hb1).below hb2) ((HM.out.below hb1).below hb2)).mono ?_; rintro e w3 ⟨rfl, hb3⟩))
  have HL1 := Lib.hid (((HL.out.below hb1).below hb2).below hb3)
  have HM1 := Lib.hid (((HM.out.below hb1).below hb2).below hb3)
  have hB := below_tail (below_tail hb1 hb2) hb3
  clear HL HM HP HS hb1 hb2 hb3
  go_loopw [8, 9, 10] (fun s8 s9 s10 wr => ∃ k : Nat, k ≤ l.length ∧ s10 = .int .i64 k ∧ s8 = .int .i64 (if fst < k then (fst : Int) else -1) ∧ LastOf l m fst k s9 ∧ Below w3.heap.size w3 wr) (fun _ _ s10 _ => l.length - (intOf s10).toNat)
  case atStart => exact ⟨0, Nat.zero_le _, rfl, by simp, ⟨0, rfl, fun _ => rfl, fun h => absurd h (by omega)⟩, Below.refl _ _⟩
  case round =>
    obtain ⟨k, hk, rfl, rfl, hlast, hB2⟩ := hrel
    by_cases hkl : k < l.length
    rotate_left
    · obtain rfl : k = l.length := by omega
      rw [if_pos (show fst < l.length by omega)]
      obtain ⟨q, rfl, -, hq⟩ := hlast
      obtain rfl : q = lst := by
        obtain ⟨q1, q2, q3⟩ := hq (by omega)
        rcases Nat.lt_trichotomy q lst with h1 | h1 | h1
        · exact absurd (q3 lst h1 d2) HD.out.g
        · exact h1
        · exact absurd (HD.out.behind q h1) q2
      clear hq
      have cx := ((HL1.out.cell X1.out).below hB2).2.2.1
      have cy := ((HM1.out.cell Y1.out).below hB2).2.2.1
      have cx2 := ((HL1.out.cell X2.out).below hB2).2.2.1
      have cy2 := ((HM1.out.cell Y2.out).below hB2).2.2.1
      have hfst : fst < l.length := by omega
      have hfsm : fst < m.length := by omega
      clear HL1 HM1 HD X1 Y1 X2 Y2
      have hfin := Lib.hid (below_tail hB hB2)
      clear hB hB2
      have ca0 : (fst = 0 ∧ partA fst (halfB x y 2) = 0) ∨ (0 < fst ∧ (x.half == 2) = true ∧ partA fst (halfB x y 2) = (fst : Int) - 1) ∨ (0 < fst ∧ (x.half == 2) = false ∧ (y.half == 2) = true ∧ partA fst (halfB x y 2) = (fst : Int) - 1) ∨ (0 < fst ∧ (x.half == 2) = false ∧ (y.half == 2) = false ∧ partA fst (halfB x y 2) = (fst : Int)) := by
        unfold partA halfB
        by_cases h0 : 0 < fst
        · cases (x.half == 2) <;> cases (y.half == 2) <;> simp [h0]
        · left; exact ⟨by omega, by rw [if_neg (by omega)]; omega⟩
      have cb0 : (¬ q + 1 < l.length ∧ partB q l.length (halfB x2 y2 1) = (q : Int) + 1) ∨ (q + 1 < l.length ∧ (x2.half == 1) = true ∧ partB q l.length (halfB x2 y2 1) = (q : Int) + 2) ∨ (q + 1 < l.length ∧ (x2.half == 1) = false ∧ (y2.half == 1) = true ∧ partB q l.length (halfB x2 y2 1) = (q : Int) + 2) ∨ (q + 1 < l.length ∧ (x2.half == 1) = false ∧ (y2.half == 1) = false ∧ partB q l.length (halfB x2 y2 1) = (q : Int) + 1) := by
        unfold partB halfB
        by_cases h0 : q + 1 < l.length
        · cases (x2.half == 1) <;> cases (y2.half == 1) <;> simp [h0]
        · left; exact ⟨h0, by rw [if_neg (fun h => h0 h.1)]⟩
      generalize partA fst (halfB x y 2) = pa at ca0 ⊢
      generalize partB q l.length (halfB x2 y2 1) = pb at cb0 ⊢
      rcases ca0 with ⟨rfl, rfl⟩ | ⟨f1, f2, rfl⟩ | ⟨f1, f2, f3, rfl⟩ | ⟨f1, f2, f3, rfl⟩ <;> rcases cb0 with ⟨g1, rfl⟩ | ⟨g1, g2, rfl⟩ | ⟨g1, g2, g3, rfl⟩ | ⟨g1, g2, g3, rfl⟩
      all_goals
        go_wp2
        go_ret
        refine ⟨?_, hfin.out⟩
        simp
        try omega
    · have hkm : k < m.length := by have := HD.out.len; omega
      obtain ⟨u, hu⟩ : ∃ u, l[k]? = some u := ⟨l[k], List.getElem?_eq_getElem hkl⟩
      obtain ⟨v, hv⟩ : ∃ v, m[k]? = some v := ⟨m[k], List.getElem?_eq_getElem hkm⟩
      have cx := (HL1.out.cell hu).below hB2
      have cy := (HM1.out.cell hv).below hB2
      unfold ClAt at cx cy
      have U := Lib.hid hu
      have V := Lib.hid hv
      have LS := Lib.hid hlast
      clear hu hv hlast
      obtain ⟨ql, rfl, -⟩ := LS.out
      generalize hf8 : (if fst < k then (fst : Int) else -1) = f8
      have HF := Lib.hid hf8
      clear hf8
      go_wp2_with fail
      refine wp_region_u 8 (fun w' => Below wr.heap.size wr w' ∧ (w'.cell? ⟨b, off + k * 8, none⟩ = some (.int .i32 u.r) ∧ w'.cell? ⟨b, off + k * 8 + 1, none⟩ = some (.string u.more) ∧ w'.cell? ⟨b, off + k * 8 + 2, none⟩ = some (.int .i64 u.half) ∧ w'.cell? ⟨b, off + k * 8 + 3, none⟩ = some (.int .i64 u.fk) ∧ w'.cell? ⟨b, off + k * 8 + 4, none⟩ = some (.int .i64 u.fn) ∧ w'.cell? ⟨b, off + k * 8 + 5, none⟩ = some (.int .i64 u.bk) ∧ w'.cell? ⟨b, off + k * 8 + 6, none⟩ = some (.int .i64 u.bn) ∧ w'.cell? ⟨b, off + k * 8 + 7, none⟩ = some (.int .i64 u.fl)) ∧ (w'.cell? ⟨b', off' + k * 8, none⟩ = some (.int .i32 v.r) ∧ w'.cell? ⟨b', off' + k * 8 + 1, none⟩ = some (.string v.more) ∧ w'.cell? ⟨b', off' + k * 8 + 2, none⟩ = some (.int .i64 v.half) ∧ w'.cell? ⟨b', off' + k * 8 + 3, none⟩ = some (.int .i64 v.fk) ∧ w'.cell? ⟨b', off' + k * 8 + 4, none⟩ = some (.int .i64 v.fn) ∧ w'.cell? ⟨b', off' + k * 8 + 5, none⟩ = some (.int .i64 v.bk) ∧ w'.cell? ⟨b', off' + k * 8 + 6, none⟩ = some (.int .i64 v.bn) ∧ w'.cell? ⟨b', off' + k * 8 + 7, none⟩ = some (.int .i64 v.fl))) (by kernel_rfl) (by kernel_rfl) ?_ ?_
      · exact ⟨(Below.refl _ _).drew, cx, cy⟩
      simp only [List.take_succ_cons, List.take_zero, List.drop_succ_cons, List.drop_zero]
      repeat (refine seqU_val ?_ (by rfl) ?_ ?_; rotate_left; · (intro w' hS; obtain ⟨_, _, _⟩ := hS; go_simp; first | done | with_reducible rfl)
              simp only [Act.put, List.setIfInBounds_toArray, List.set_cons_zero, List.set_cons_succ])
      refine seqU_nil (fun w' hS => ?_)
      have hB4 := hS.1
      clear hS cx cy
      refine wpList_val (.bool (!decide (u = v))) rfl (exec_neq_cell _ _ _ _ _ _ _ _ u v rfl rfl w') ?_
      by_cases huv : u = v
      · rw [show (!decide (u = v)) = false from by simp [huv]]
        simp only [Act.put, List.setIfInBounds_toArray, List.set_cons_zero, List.set_cons_succ]
        have HUV := Lib.hid huv
        clear huv
        go_wp2
        go_roundw
        case rel =>
          have hne : k ≠ fst := by
            rintro rfl
            apply HD.out.f
            rw [U.out, V.out, HUV.out]
          refine ⟨k + 1, by omega, by go_num, ?_, ?_, below_tail hB2 hB4⟩
          · rw [← HF.out]
            by_cases h0 : fst < k
            · rw [if_pos h0, if_pos (by omega)]
            · rw [if_neg h0, if_neg (by omega)]
          · obtain ⟨q, e, e1, e2⟩ := LS.out
            refine ⟨q, e, fun h => e1 (by omega), fun h => ?_⟩
            obtain ⟨a1, a2, a3⟩ := e2 (by omega)
            refine ⟨by omega, a2, fun r h1 h2 => ?_⟩
            rcases Nat.lt_or_ge r k with h3 | h3
            · exact a3 r h1 h3
            · obtain rfl : r = k := by omega
              rw [U.out, V.out, HUV.out]
        case measure => simp [intOf]; omega
      · rw [show (!decide (u = v)) = true from by simp [huv]]
        simp only [Act.put, List.setIfInBounds_toArray, List.set_cons_zero, List.set_cons_succ]
        have HUV := Lib.hid huv
        clear huv
        have hle : fst ≤ k := by
          rcases Nat.lt_or_ge k fst with h1 | h1
          · exfalso
            apply HUV.out
            have h2 := HD.out.before k h1
            rw [U.out, V.out] at h2
            injection h2
          · exact h1
        have hd' : l[k]? ≠ m[k]? := by
          rw [U.out, V.out]
          intro e
          injection e with e
          exact HUV.out e
        have HDK := Lib.hid hd'
        clear hd'
        by_cases h0 : fst < k
        · obtain rfl : f8 = (fst : Int) := by rw [← HF.out, if_pos h0]
          clear HF
          go_wp2
          go_roundw
          case rel =>
            exact ⟨k + 1, by omega, by go_num, by rw [if_pos (by omega)], ⟨k, rfl, fun h => absurd h (by omega), fun h => ⟨by omega, HDK.out, fun r h1 h2 => absurd h2 (by omega)⟩⟩, below_tail hB2 hB4⟩
          case measure => simp [intOf]; omega
        · obtain rfl : f8 = -1 := by rw [← HF.out, if_neg h0]
          clear HF
          obtain rfl : k = fst := by omega
          clear h0
          go_wp2
          go_roundw
          case rel =>
            exact ⟨k + 1, by omega, by go_num, by rw [if_pos (by omega)], ⟨k, rfl, fun h => absurd h (by omega), fun h => ⟨by omega, HDK.out, fun r h1 h2 => absurd h2 (by omega)⟩⟩, below_tail hB2 hB4⟩
          case measure => simp [intOf]; omega

theorem DeltaParts_walk (A B : Option Addr) (l m : List Cl) (ca cb : Nat) (w : World) (hl : ClsAt w A l) (hm : ClsAt w B m) :
    Calls Try.prog 7 #[.slice A l.length ca, .slice B m.length cb] w fun e w' => e = .returned (.bool true) ∧ Below w.heap.size w w' := by
  by_cases h : 200 < l.length ∨ 200 < m.length
  · exact DeltaParts_big A B l.length m.length ca cb w h
  · by_cases h2 : l.length ≠ m.length ∨ l = m
    · exact DeltaParts_none A B l m ca cb w hl hm (by omega) (by omega) h2
    · have hlen : l.length = m.length := by omega
      obtain ⟨fst, lst, hd⟩ := diffs_of hlen (fun e => h2 (.inr e))
      have a1 := hd.lt
      have a2 := hd.le
      obtain ⟨b, off, rfl, -⟩ := hl (by omega)
      obtain ⟨b', off', rfl, -⟩ := hm (by omega)
      exact DeltaParts_some b b' off off' l m ca cb fst lst _ _ _ _ w hl hm (by omega) (by omega) hd (List.getElem?_eq_getElem (show fst < l.length by omega)) (List.getElem?_eq_getElem (show fst < m.length by omega)) (List.getElem?_eq_getElem (show lst < l.length by omega)) (List.getElem?_eq_getElem (show lst < m.length by omega))
end Go.Proofs.Ytdfaldccopnoiaa
