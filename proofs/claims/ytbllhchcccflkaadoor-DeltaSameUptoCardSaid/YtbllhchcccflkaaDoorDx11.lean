/- Joined by a tool of this claim out of smaller texts. Conditions: as stated. -/
import Derived.Test.YtbllhchcccflkaaDoorDx10
import Derived.Deep.Slices
import Derived.Deep.Fields
import Derived.ChangeSame
import Derived.ProofKit
set_option linter.unusedVariables false
set_option linter.unusedSimpArgs false
namespace Go.Proofs.YtbllhchcccflkaaDoor
open Go.RowKit
theorem take_eq_succ {α : Type} [DecidableEq α] {l m : List α} {k : Nat} {a b : α} (ha : l[k]? = some a) (hb : m[k]? = some b) (h : l.take k = m.take k) (e : a = b) : l.take (k + 1) = m.take (k + 1) := by
  have h1 := (List.getElem?_eq_some_iff.1 ha)
  have h2 := (List.getElem?_eq_some_iff.1 hb)
  obtain ⟨p1, q1⟩ := h1
  obtain ⟨p2, q2⟩ := h2
  rw [List.take_succ_eq_append_getElem p1, List.take_succ_eq_append_getElem p2, h, q1, q2, e]
theorem ne_of_at {α : Type} {l m : List α} {k : Nat} {a b : α} (ha : l[k]? = some a) (hb : m[k]? = some b) (e : a ≠ b) : l ≠ m := by
  rintro rfl
  rw [ha] at hb
  injection hb with hb
  exact e hb
set_option maxRecDepth 100000 in
set_option maxHeartbeats 1600000 in
theorem EqualCells_any (A B : Option Addr) (l m : List Cl) (ca cb : Nat) (w : World) (hl : ClsAt w A l) (hm : ClsAt w B m) (hz : l.length ≤ 9223372036854775807) (hz2 : m.length ≤ 9223372036854775807) :
    Calls Tryd.prog 29 #[.slice A l.length ca, .slice B m.length cb] w fun e w' => e = .returned (.bool (decide (l = m))) ∧ Below w.heap.size w w' := by
  have HL := Lib.hid hl
  have HM := Lib.hid hm
  clear hl hm
  by_cases hlen : l.length = m.length
  rotate_left
  · have e : decide (l = m) = false := by simp; rintro rfl; exact hlen rfl
    rw [e]; clear e
    have h' : ((l.length : Int) != (m.length : Int)) = true := by simp; omega
    clear hlen
    go_enter Tryd.func29, Tryd.ntmps29
    go_wp2
    go_ret
    exact ⟨rfl, Below.refl _ _⟩
  · have HE := Lib.hid hlen
    have h' : ((l.length : Int) != (m.length : Int)) = false := by simp; omega
    have hle : l.length ≤ m.length := by omega
    have hge : m.length ≤ l.length := by omega
    clear hlen
    generalize hX : decide (l = m) = X
    have HX := Lib.hid hX
    clear hX
    go_enter Tryd.func29, Tryd.ntmps29
    go_wp2_with fail
    go_loopw [13] (fun i wr => ∃ k : Nat, k ≤ l.length ∧ i = .int .i64 k ∧ Below w.heap.size w wr ∧ l.take k = m.take k) (fun i _ => l.length - (intOf i).toNat)
    case atStart => exact ⟨0, Nat.zero_le _, rfl, Below.refl _ _, rfl⟩
    case round =>
      obtain ⟨k, hk, rfl, hB, htk⟩ := hrel
      have HT := Lib.hid htk
      clear htk
      by_cases hlt : k < l.length
      rotate_left
      · go_wp2
        go_ret
        refine ⟨?_, hB⟩
        have h1 := HT.out
        rw [List.take_of_length_le (by omega), List.take_of_length_le (by omega)] at h1
        rw [← HX.out, h1]; simp
      · have hltm : k < m.length := by omega
        obtain ⟨b, off, x, rfl, hx, cx⟩ := HL.out.at_ hlt
        obtain ⟨b', off', y, rfl, hy, cy⟩ := HM.out.at_ hltm
        have HXX := Lib.hid hx
        have HYY := Lib.hid hy
        clear hx hy
        replace cx := cx.below hB
        replace cy := cy.below hB
        unfold ClAt at cx cy
        go_wp2_with fail
        refine wp_region_u 8 (fun w' => Below wr.heap.size wr w' ∧ (w'.cell? ⟨b, off + k * 8, none⟩ = some (.int .i32 x.r) ∧ w'.cell? ⟨b, off + k * 8 + 1, none⟩ = some (.string x.more) ∧ w'.cell? ⟨b, off + k * 8 + 2, none⟩ = some (.int .i64 x.half) ∧ w'.cell? ⟨b, off + k * 8 + 3, none⟩ = some (.int .i64 x.fk) ∧ w'.cell? ⟨b, off + k * 8 + 4, none⟩ = some (.int .i64 x.fn) ∧ w'.cell? ⟨b, off + k * 8 + 5, none⟩ = some (.int .i64 x.bk) ∧ w'.cell? ⟨b, off + k * 8 + 6, none⟩ = some (.int .i64 x.bn) ∧ w'.cell? ⟨b, off + k * 8 + 7, none⟩ = some (.int .i64 x.fl)) ∧ (w'.cell? ⟨b', off' + k * 8, none⟩ = some (.int .i32 y.r) ∧ w'.cell? ⟨b', off' + k * 8 + 1, none⟩ = some (.string y.more) ∧ w'.cell? ⟨b', off' + k * 8 + 2, none⟩ = some (.int .i64 y.half) ∧ w'.cell? ⟨b', off' + k * 8 + 3, none⟩ = some (.int .i64 y.fk) ∧ w'.cell? ⟨b', off' + k * 8 + 4, none⟩ = some (.int .i64 y.fn) ∧ w'.cell? ⟨b', off' + k * 8 + 5, none⟩ = some (.int .i64 y.bk) ∧ w'.cell? ⟨b', off' + k * 8 + 6, none⟩ = some (.int .i64 y.bn) ∧ w'.cell? ⟨b', off' + k * 8 + 7, none⟩ = some (.int .i64 y.fl))) (by kernel_rfl) (by kernel_rfl) ?_ ?_
        · exact ⟨(Below.refl _ _).drew, cx, cy⟩
        simp only [List.take_succ_cons, List.take_zero, List.drop_succ_cons, List.drop_zero]
        repeat (refine seqU_val ?_ (by rfl) ?_ ?_; rotate_left; · (intro w' hS; obtain ⟨_, _, _⟩ := hS; go_simp; first | done | with_reducible rfl)
                simp only [Act.put, List.setIfInBounds_toArray, List.set_cons_zero, List.set_cons_succ])
        refine seqU_nil (fun w' hS => ?_)
        have hB4 := hS.1
        clear hS
        refine wpList_val (.bool (!decide (x = y))) rfl (exec_neq_cell _ _ _ _ _ _ _ _ x y rfl rfl w') ?_
        by_cases hxy : x = y
        · rw [show (!decide (x = y)) = false from by simp [hxy]]
          simp only [Act.put, List.setIfInBounds_toArray, List.set_cons_zero, List.set_cons_succ]
          have HXY := Lib.hid hxy
          clear hxy
          go_wp2
          go_roundw
          case rel => exact ⟨k + 1, by omega, by go_num, below_tail hB hB4, take_eq_succ HXX.out HYY.out HT.out HXY.out⟩
          case measure => simp [intOf]; omega
        · rw [show (!decide (x = y)) = true from by simp [hxy]]
          simp only [Act.put, List.setIfInBounds_toArray, List.set_cons_zero, List.set_cons_succ]
          have HXY := Lib.hid hxy
          clear hxy
          go_wp2
          go_ret
          refine ⟨?_, below_tail hB hB4⟩
          rw [← HX.out, show decide (l = m) = false from by simp; exact ne_of_at HXX.out HYY.out HXY.out]
          rfl
set_option maxRecDepth 100000 in
set_option maxHeartbeats 1600000 in
theorem SameCells_any (A B : Option Addr) (l m : List Cl) (ca cb : Nat) (w : World) (hl : ClsAt w A l) (hm : ClsAt w B m) (hz : l.length ≤ 9223372036854775807) (hz2 : m.length ≤ 9223372036854775807) :
    Calls Tryd.prog 23 #[.slice A l.length ca, .slice B m.length cb] w fun e w' => e = .returned (.bool (decide (l = m))) ∧ Below w.heap.size w w' := by
  have HL := Lib.hid hl
  have HM := Lib.hid hm
  clear hl hm
  by_cases hlen : l.length = m.length
  rotate_left
  · have e : decide (l = m) = false := by simp; rintro rfl; exact hlen rfl
    rw [e]; clear e
    have h' : ((l.length : Int) != (m.length : Int)) = true := by simp; omega
    clear hlen
    go_enter Tryd.func23, Tryd.ntmps23
    go_wp2
    go_ret
    exact ⟨rfl, Below.refl _ _⟩
  · have HE := Lib.hid hlen
    have h' : ((l.length : Int) != (m.length : Int)) = false := by simp; omega
    have hle : l.length ≤ m.length := by omega
    have hge : m.length ≤ l.length := by omega
    clear hlen
    generalize hX : decide (l = m) = X
    have HX := Lib.hid hX
    clear hX
    go_enter Tryd.func23, Tryd.ntmps23
    go_wp2_with fail
    go_loopw [5] (fun i wr => ∃ k : Nat, k ≤ l.length ∧ i = .int .i64 k ∧ Below w.heap.size w wr ∧ l.take k = m.take k) (fun i _ => l.length - (intOf i).toNat)
    case atStart => exact ⟨0, Nat.zero_le _, rfl, Below.refl _ _, rfl⟩
    case round =>
      obtain ⟨k, hk, rfl, hB, htk⟩ := hrel
      have HT := Lib.hid htk
      clear htk
      by_cases hlt : k < l.length
      rotate_left
      · go_wp2
        go_ret
        refine ⟨?_, hB⟩
        have h1 := HT.out
        rw [List.take_of_length_le (by omega), List.take_of_length_le (by omega)] at h1
        rw [← HX.out, h1]; simp
      · have hltm : k < m.length := by omega
        obtain ⟨b, off, x, rfl, hx, cx⟩ := HL.out.at_ hlt
        obtain ⟨b', off', y, rfl, hy, cy⟩ := HM.out.at_ hltm
        have HXX := Lib.hid hx
        have HYY := Lib.hid hy
        clear hx hy
        replace cx := cx.below hB
        replace cy := cy.below hB
        unfold ClAt at cx cy
        go_wp2_with fail
        refine wp_region_u 8 (fun w' => Below wr.heap.size wr w' ∧ (w'.cell? ⟨b, off + k * 8, none⟩ = some (.int .i32 x.r) ∧ w'.cell? ⟨b, off + k * 8 + 1, none⟩ = some (.string x.more) ∧ w'.cell? ⟨b, off + k * 8 + 2, none⟩ = some (.int .i64 x.half) ∧ w'.cell? ⟨b, off + k * 8 + 3, none⟩ = some (.int .i64 x.fk) ∧ w'.cell? ⟨b, off + k * 8 + 4, none⟩ = some (.int .i64 x.fn) ∧ w'.cell? ⟨b, off + k * 8 + 5, none⟩ = some (.int .i64 x.bk) ∧ w'.cell? ⟨b, off + k * 8 + 6, none⟩ = some (.int .i64 x.bn) ∧ w'.cell? ⟨b, off + k * 8 + 7, none⟩ = some (.int .i64 x.fl)) ∧ (w'.cell? ⟨b', off' + k * 8, none⟩ = some (.int .i32 y.r) ∧ w'.cell? ⟨b', off' + k * 8 + 1, none⟩ = some (.string y.more) ∧ w'.cell? ⟨b', off' + k * 8 + 2, none⟩ = some (.int .i64 y.half) ∧ w'.cell? ⟨b', off' + k * 8 + 3, none⟩ = some (.int .i64 y.fk) ∧ w'.cell? ⟨b', off' + k * 8 + 4, none⟩ = some (.int .i64 y.fn) ∧ w'.cell? ⟨b', off' + k * 8 + 5, none⟩ = some (.int .i64 y.bk) ∧ w'.cell? ⟨b', off' + k * 8 + 6, none⟩ = some (.int .i64 y.bn) ∧ w'.cell? ⟨b', off' + k * 8 + 7, none⟩ = some (.int .i64 y.fl))) (by kernel_rfl) (by kernel_rfl) ?_ ?_
        · exact ⟨(Below.refl _ _).drew, cx, cy⟩
        simp only [List.take_succ_cons, List.take_zero, List.drop_succ_cons, List.drop_zero]
        repeat (refine seqU_val ?_ (by rfl) ?_ ?_; rotate_left; · (intro w' hS; obtain ⟨_, _, _⟩ := hS; go_simp; first | done | with_reducible rfl)
                simp only [Act.put, List.setIfInBounds_toArray, List.set_cons_zero, List.set_cons_succ])
        refine seqU_nil (fun w' hS => ?_)
        have hB4 := hS.1
        clear hS
        refine wpList_val (.bool (!decide (x = y))) rfl (exec_neq_cell _ _ _ _ _ _ _ _ x y rfl rfl w') ?_
        by_cases hxy : x = y
        · rw [show (!decide (x = y)) = false from by simp [hxy]]
          simp only [Act.put, List.setIfInBounds_toArray, List.set_cons_zero, List.set_cons_succ]
          have HXY := Lib.hid hxy
          clear hxy
          go_wp2
          go_roundw
          case rel => exact ⟨k + 1, by omega, by go_num, below_tail hB hB4, take_eq_succ HXX.out HYY.out HT.out HXY.out⟩
          case measure => simp [intOf]; omega
        · rw [show (!decide (x = y)) = true from by simp [hxy]]
          simp only [Act.put, List.setIfInBounds_toArray, List.set_cons_zero, List.set_cons_succ]
          have HXY := Lib.hid hxy
          clear hxy
          go_wp2
          go_ret
          refine ⟨?_, below_tail hB hB4⟩
          rw [← HX.out, show decide (l = m) = false from by simp; exact ne_of_at HXX.out HYY.out HXY.out]
          rfl
end Go.Proofs.YtbllhchcccflkaaDoor

namespace Go.Proofs.YtbllhchcccflkaaDoor
open Go.RowKit
theorem cls_of_gr {w : World} {A : Option Addr} {l : List Cl} (h : GrAt encCl 8 w A l) : ClsAt w A l := fun h0 => by
  obtain ⟨b, off, hA, hc⟩ := h h0
  refine ⟨b, off, hA, fun i c hi => ?_⟩
  have := hc i c hi
  exact ⟨this 0 _ rfl, this 1 _ rfl, this 2 _ rfl, this 3 _ rfl, this 4 _ rfl, this 5 _ rfl, this 6 _ rfl, this 7 _ rfl⟩
def Ok7 (c : Cl) : Prop := c.half = 3 ∨ CellOk c
theorem take_all {P : Cl → Prop} {l : List Cl} {k : Nat} (h : ∀ c ∈ l.take k, P c) (hk : k < l.length) (hp : P l[k]) : ∀ c ∈ l.take (k + 1), P c := fun c hc => by
  rw [List.take_succ_eq_append_getElem hk] at hc
  rcases List.mem_append.1 hc with h' | h'
  · exact h c h'
  · rw [List.mem_singleton.1 h']; exact hp
theorem wid_two {r : Int} (h : widOf r = 2) : r ≠ 0 := by
  rintro rfl
  revert h
  decide
def Row7Post (l : List Cl) (w : World) (e : Ending) (w' : World) : Prop := ∃ t : Bool, e = .returned (.bool t) ∧ (t = true → mendL l = l ∧ ∀ c ∈ l, Ok7 c) ∧ Below w.heap.size w w'
set_option maxRecDepth 100000 in
set_option maxHeartbeats 6400000 in
theorem rright7_any (A : Option Addr) (l : List Cl) (ca : Nat) (w : World) (hl : ClsAt w A l) (h0 : 0 < l.length) (hz : l.length ≤ 1000) (hmz : ∀ c ∈ l, c.more.size ≤ 1048576) :
    Calls Tryd.prog 12 #[.slice A l.length ca] w (Row7Post l w) := by
  have HM := Lib.hid (rMend_any A l ca w (gr_of_cls hl) h0 (by omega))
  have HL := Lib.hid hl
  have HMZ := Lib.hid hmz
  have hml := mendL_len l
  clear hl hmz
  have HS : Hid (∀ (g cap : Nat) (w1 : World), CrO w1 w.heap.size g cap (mendL l) → Below w.heap.size w w1 → Calls Tryd.prog 23 #[.slice (some ⟨g, 0, none⟩) l.length cap, .slice A l.length ca] w1 fun e w2 => e = .returned (.bool (decide (mendL l = l))) ∧ Below w1.heap.size w1 w2) := Lib.hid (fun g cap w1 hc hb => by
    have := SameCells_any _ _ _ _ cap ca w1 (cls_of_gr (gr_of_crO hc)) (HL.out.below hb) (by rw [hml]; omega) (by omega)
    rwa [hml] at this)
  by_cases hm : mendL l = l
  · rw [show decide (mendL l = l) = true from decide_eq_true hm] at HS
    have HMM := Lib.hid hm
    clear hm
    go_enter Tryd.func12, Tryd.ntmps12
    go_wp2_with (first | (go_at_call 24; (with_reducible refine HM.out.mono ?_); rintro e w1 ⟨g, cap, rfl, hcr, hb1⟩) | (go_at_call 23; (with_reducible refine (HS.out g cap _ hcr hb1).mono ?_); rintro e w2 ⟨rfl, hb2⟩; have HB2 := Lib.hid (below_tail hb1 hb2); clear hcr hb1 hb2))
    go_loopw [3] (fun i wr => ∃ k : Nat, k ≤ l.length ∧ i = .int .i64 k ∧ (∀ c ∈ l.take k, Ok7 c) ∧ Below w.heap.size w wr) (fun i _ => l.length - (intOf i).toNat)
    case atStart => exact ⟨0, Nat.zero_le _, rfl, by simp, HB2.out⟩
    case round =>
      obtain ⟨k, hk, rfl, hok, hB⟩ := hrel
      have HOK := Lib.hid hok
      clear hok
      by_cases hlt : k < l.length
      · obtain ⟨b, off, rfl, hcl⟩ := HL.out h0
        have hr := (hcl k _ (List.getElem?_eq_getElem hlt)).below hB
        have hmz := HMZ.out _ (List.getElem_mem hlt)
        have HT := Lib.hid (fun hp => take_all (P := Ok7) HOK.out hlt hp)
        clear hcl
        generalize l[k] = c at hr hmz HT
        obtain ⟨r0, r1, r2, r3, r4, r5, r6, r7⟩ := hr
        obtain ⟨cr, cm, ch, c3, c4, c5, c6, c7⟩ := c
        simp only at r0 r1 r2 r3 r4 r5 r6 r7 hmz
        have HW := Lib.hid (fun w => rOf_any cr w)
        have HK := Lib.hid (fun w => rmarks7_any cm hmz w)
        have HBX := Lib.hid (below_allocs hB (.cells #[.int .i32 cr, .string cm, .int .i64 ch, .int .i64 c3, .int .i64 c4, .int .i64 c5, .int .i64 c6, .int .i64 c7] 44))
        clear hmz
        by_cases hA : ch = 0
        · subst hA
          by_cases hr : cr = 0
          · subst hr
            by_cases hm : cm = ByteArray.empty
            · subst hm
              go_wp2_with (go_at_call 25; (with_reducible refine (HW.out _).mono ?_); rintro e w3 ⟨rfl, hb3⟩; have x0 := (at_new hb3 (hp_new rfl) 0 _ rfl).1; have x1 := (at_new hb3 (hp_new rfl) 1 _ rfl).1; have x2 := (at_new hb3 (hp_new rfl) 2 _ rfl).1; have HB3 := Lib.hid (below_tail HBX.out hb3); clear hb3)
              all_goals
                first
                | (go_ret; exact ⟨_, rfl, fun h => by simp at h, HB3.out⟩)
                | (go_roundw
                   case rel => exact ⟨k + 1, by omega, by go_num, HT.out (.inr (.inl ⟨rfl, rfl, rfl⟩)), HB3.out⟩
                   case measure => simp [intOf]; omega)
            · have hcm2 : ¬ cm.toList = [] := fun e => hm (WideShapes.bytes_inj (by rw [← ByteArray.toList_eq cm, e]; rfl))
              have hcm : cm.toList.isEmpty = false := by rw [List.isEmpty_eq_false_iff]; exact hcm2
              go_wp2_with (go_at_call 25; (with_reducible refine (HW.out _).mono ?_); rintro e w3 ⟨rfl, hb3⟩; have x0 := (at_new hb3 (hp_new rfl) 0 _ rfl).1; have x1 := (at_new hb3 (hp_new rfl) 1 _ rfl).1; have x2 := (at_new hb3 (hp_new rfl) 2 _ rfl).1; have HB3 := Lib.hid (below_tail HBX.out hb3); clear hb3)
              all_goals
                first
                | (go_ret; exact ⟨_, rfl, fun h => by simp at h, HB3.out⟩)
          · by_cases hw : widOf cr = 1
            · have HR := Lib.hid hw
              rw [hw] at HW
              clear hw
              go_wp2_with (first | (go_at_call 25; (with_reducible refine (HW.out _).mono ?_); rintro e w3 ⟨rfl, hb3⟩; have x0 := (at_new hb3 (hp_new rfl) 0 _ rfl).1; have x1 := (at_new hb3 (hp_new rfl) 1 _ rfl).1; have x2 := (at_new hb3 (hp_new rfl) 2 _ rfl).1; have HB3 := Lib.hid (below_tail HBX.out hb3); clear hb3) | (go_at_call 26; (with_reducible refine (HK.out _).mono ?_); rintro e w4 ⟨t, rfl, ht, hb4⟩; have HT4 := Lib.hid ht; clear ht; cases t))
              all_goals
                first
                | (go_ret; exact ⟨_, rfl, fun h => by simp at h, below_tail HB3.out hb4⟩)
                | (go_roundw
                   case rel => exact ⟨k + 1, by omega, by go_num, HT.out (.inr (.inr ⟨hr, HT4.out (by first | rfl | trivial), .inl ⟨rfl, HR.out⟩⟩)), below_tail HB3.out hb4⟩
                   case measure => simp [intOf]; omega)
            · go_wp2_with (go_at_call 25; (with_reducible refine (HW.out _).mono ?_); rintro e w3 ⟨rfl, hb3⟩; have x0 := (at_new hb3 (hp_new rfl) 0 _ rfl).1; have x1 := (at_new hb3 (hp_new rfl) 1 _ rfl).1; have x2 := (at_new hb3 (hp_new rfl) 2 _ rfl).1; have HB3 := Lib.hid (below_tail HBX.out hb3); clear hb3)
              all_goals
                first
                | (go_ret; exact ⟨_, rfl, fun h => by simp at h, HB3.out⟩)
        by_cases hB1 : ch = 1
        · subst hB1
          by_cases hw : widOf cr = 2
          · have HR := Lib.hid hw
            rw [hw] at HW
            clear hw
            go_wp2_with (first | (go_at_call 25; (with_reducible refine (HW.out _).mono ?_); rintro e w3 ⟨rfl, hb3⟩; have x0 := (at_new hb3 (hp_new rfl) 0 _ rfl).1; have x1 := (at_new hb3 (hp_new rfl) 1 _ rfl).1; have x2 := (at_new hb3 (hp_new rfl) 2 _ rfl).1; have HB3 := Lib.hid (below_tail HBX.out hb3); clear hb3) | (go_at_call 26; (with_reducible refine (HK.out _).mono ?_); rintro e w4 ⟨t, rfl, ht, hb4⟩; have HT4 := Lib.hid ht; clear ht; cases t))
            all_goals
              first
              | (go_ret; exact ⟨_, rfl, fun h => by simp at h, below_tail HB3.out hb4⟩)
              | (go_roundw
                 case rel => exact ⟨k + 1, by omega, by go_num, HT.out (.inr (.inr ⟨wid_two HR.out, HT4.out (by first | rfl | trivial), .inr (.inl ⟨rfl, HR.out⟩)⟩)), below_tail HB3.out hb4⟩
                 case measure => simp [intOf]; omega)
          · go_wp2_with (go_at_call 25; (with_reducible refine (HW.out _).mono ?_); rintro e w3 ⟨rfl, hb3⟩; have x0 := (at_new hb3 (hp_new rfl) 0 _ rfl).1; have x1 := (at_new hb3 (hp_new rfl) 1 _ rfl).1; have x2 := (at_new hb3 (hp_new rfl) 2 _ rfl).1; have HB3 := Lib.hid (below_tail HBX.out hb3); clear hb3)
            all_goals
              first
              | (go_ret; exact ⟨_, rfl, fun h => by simp at h, HB3.out⟩)
        by_cases hB2 : ch = 2
        · subst hB2
          by_cases hw : widOf cr = 2
          · have HR := Lib.hid hw
            rw [hw] at HW
            clear hw
            go_wp2_with (first | (go_at_call 25; (with_reducible refine (HW.out _).mono ?_); rintro e w3 ⟨rfl, hb3⟩; have x0 := (at_new hb3 (hp_new rfl) 0 _ rfl).1; have x1 := (at_new hb3 (hp_new rfl) 1 _ rfl).1; have x2 := (at_new hb3 (hp_new rfl) 2 _ rfl).1; have HB3 := Lib.hid (below_tail HBX.out hb3); clear hb3) | (go_at_call 26; (with_reducible refine (HK.out _).mono ?_); rintro e w4 ⟨t, rfl, ht, hb4⟩; have HT4 := Lib.hid ht; clear ht; cases t))
            all_goals
              first
              | (go_ret; exact ⟨_, rfl, fun h => by simp at h, below_tail HB3.out hb4⟩)
              | (go_roundw
                 case rel => exact ⟨k + 1, by omega, by go_num, HT.out (.inr (.inr ⟨wid_two HR.out, HT4.out (by first | rfl | trivial), .inr (.inr ⟨rfl, HR.out⟩)⟩)), below_tail HB3.out hb4⟩
                 case measure => simp [intOf]; omega)
          · go_wp2_with (go_at_call 25; (with_reducible refine (HW.out _).mono ?_); rintro e w3 ⟨rfl, hb3⟩; have x0 := (at_new hb3 (hp_new rfl) 0 _ rfl).1; have x1 := (at_new hb3 (hp_new rfl) 1 _ rfl).1; have x2 := (at_new hb3 (hp_new rfl) 2 _ rfl).1; have HB3 := Lib.hid (below_tail HBX.out hb3); clear hb3)
            all_goals
              first
              | (go_ret; exact ⟨_, rfl, fun h => by simp at h, HB3.out⟩)
        by_cases hC : ch = 3
        · subst hC
          go_wp2_with (go_at_call 25; (with_reducible refine (HW.out _).mono ?_); rintro e w3 ⟨rfl, hb3⟩; have x0 := (at_new hb3 (hp_new rfl) 0 _ rfl).1; have x1 := (at_new hb3 (hp_new rfl) 1 _ rfl).1; have x2 := (at_new hb3 (hp_new rfl) 2 _ rfl).1; have HB3 := Lib.hid (below_tail HBX.out hb3); clear hb3)
          all_goals
            first
            | (go_ret; exact ⟨_, rfl, fun h => by simp at h, HB3.out⟩)
            | (go_roundw
               case rel => exact ⟨k + 1, by omega, by go_num, HT.out (.inl rfl), HB3.out⟩
               case measure => simp [intOf]; omega)
        go_wp2_with (go_at_call 25; (with_reducible refine (HW.out _).mono ?_); rintro e w3 ⟨rfl, hb3⟩; have x0 := (at_new hb3 (hp_new rfl) 0 _ rfl).1; have x1 := (at_new hb3 (hp_new rfl) 1 _ rfl).1; have x2 := (at_new hb3 (hp_new rfl) 2 _ rfl).1; have HB3 := Lib.hid (below_tail HBX.out hb3); clear hb3)
        all_goals
          first
          | (go_ret; exact ⟨_, rfl, fun h => by simp at h, HB3.out⟩)
      · obtain rfl : k = l.length := by omega
        rw [List.take_length] at HOK
        go_wp2
        go_ret
        exact ⟨_, rfl, fun _ => ⟨HMM.out, HOK.out⟩, hB⟩
  · rw [show decide (mendL l = l) = false from decide_eq_false hm] at HS
    clear hm
    go_enter Tryd.func12, Tryd.ntmps12
    go_wp2_with (first | (go_at_call 24; (with_reducible refine HM.out.mono ?_); rintro e w1 ⟨g, cap, rfl, hcr, hb1⟩) | (go_at_call 23; (with_reducible refine (HS.out g cap _ hcr hb1).mono ?_); rintro e w2 ⟨rfl, hb2⟩))
    go_ret
    exact ⟨_, rfl, fun h => by simp at h, below_tail hb1 hb2⟩
end Go.Proofs.YtbllhchcccflkaaDoor

namespace Go.Proofs.YtbllhchcccflkaaDoor
open Go.RowKit Go.ChangeShapes Go.WideShapes Go.Deep
section
variable {H : Type} {enc : TypeId × Value → H} {P : Program} {w : World} {base : Nat} {spare : Nat → Bool} {held : Bool}
theorem list_of_forall {α : Type} {Q : Nat → α → Prop} : ∀ (n : Nat), (∀ i, i < n → ∃ s, Q i s) → ∃ l : List α, l.length = n ∧ ∀ i s, l[i]? = some s → Q i s
  | 0, _ => ⟨[], rfl, fun i s h => by simp at h⟩
  | n + 1, h => by
    obtain ⟨l, hl, hq⟩ := list_of_forall n (fun i hi => h i (by omega))
    obtain ⟨s, hs⟩ := h n (by omega)
    refine ⟨l ++ [s], by simp [hl], fun i u hu => ?_⟩
    by_cases hi : i < l.length
    · rw [List.getElem?_append_left hi] at hu
      exact hq i u hu
    · rw [List.getElem?_append_right (by omega)] at hu
      have : i - l.length = 0 := by
        rcases Nat.eq_zero_or_pos (i - l.length) with h0 | h0
        · exact h0
        · rw [List.getElem?_eq_none (by simp; omega)] at hu; cases hu
      rw [this] at hu
      obtain rfl : s = u := by simpa using hu
      have e : i = n := by omega
      rw [e]; exact hs
end
end Go.Proofs.YtbllhchcccflkaaDoor

namespace Go.Proofs.YtbllhchcccflkaaDoor
open Go.RowKit Go.ChangeShapes Go.WideShapes Go.Deep
theorem co_cell : Tryd.prog.cellsOf 44 = 8 := by kernel_rfl
theorem co_attr : Tryd.prog.cellsOf 42 = 5 := by kernel_rfl
theorem co_color : Tryd.prog.cellsOf 40 = 2 := by kernel_rfl
theorem co_int : Tryd.prog.cellsOf 3 = 1 := by kernel_rfl
theorem co_int32 : Tryd.prog.cellsOf 21 = 1 := by kernel_rfl
theorem co_string : Tryd.prog.cellsOf 9 = 1 := by kernel_rfl
def clList (c : Cl) : List Value := [.int .i32 c.r, .string c.more, .int .i64 c.half, .int .i64 c.fk, .int .i64 c.fn, .int .i64 c.bk, .int .i64 c.bn, .int .i64 c.fl]
section
variable {H : Type} {enc : TypeId × Value → H} {w : World} {base : Nat} {spare : Nat → Bool} {held : Bool}
theorem int_of_trod {n : Nat} {v : Value} {x : DataW H × List MemPlace} (h : DataW.trod enc Tryd.prog w base spare held n 3 [v] = some x) : ∃ z : Int, v = .int .i64 z := by
  obtain ⟨z, e, -, -⟩ := DataW.trod_int Tryd.underlying3 h
  exact ⟨z, by simpa using e⟩
theorem color_of_trod {n : Nat} {v0 v1 : Value} {x : DataW H × List MemPlace} (h : DataW.trod enc Tryd.prog w base spare held n 40 [v0, v1] = some x) : ∃ z y : Int, v0 = .int .i64 z ∧ v1 = .int .i64 y := by
  obtain ⟨xs, m, _, _, _, hlen, hf⟩ := DataW.trod_struct Tryd.underlying40 h
  match xs, hlen with
  | [y0, y1], _ =>
    have h0 := hf 0 _ rfl
    have h1 := hf 1 _ rfl
    simp [co_int] at h0 h1
    obtain ⟨z, rfl⟩ := int_of_trod h0
    obtain ⟨y, rfl⟩ := int_of_trod h1
    exact ⟨z, y, rfl, rfl⟩
theorem attr_of_trod {n : Nat} {v0 v1 v2 v3 v4 : Value} {x : DataW H × List MemPlace} (h : DataW.trod enc Tryd.prog w base spare held n 42 [v0, v1, v2, v3, v4] = some x) : ∃ a b c d e : Int, v0 = .int .i64 a ∧ v1 = .int .i64 b ∧ v2 = .int .i64 c ∧ v3 = .int .i64 d ∧ v4 = .int .i64 e := by
  obtain ⟨xs, m, _, _, _, hlen, hf⟩ := DataW.trod_struct Tryd.underlying42 h
  match xs, hlen with
  | [y0, y1, y2], _ =>
    have h0 := hf 0 _ rfl
    have h1 := hf 1 _ rfl
    have h2 := hf 2 _ rfl
    simp [co_int, co_color] at h0 h1 h2
    obtain ⟨a, b, rfl, rfl⟩ := color_of_trod h0
    obtain ⟨c, d, rfl, rfl⟩ := color_of_trod h1
    obtain ⟨e, rfl⟩ := int_of_trod h2
    exact ⟨a, b, c, d, e, rfl, rfl, rfl, rfl, rfl⟩
set_option maxRecDepth 100000 in
theorem cell_of_trod {n : Nat} {cs : List Value} {x : DataW H × List MemPlace} (h : DataW.trod enc Tryd.prog w base spare held n 44 cs = some x) : ∃ c : Cl, cs = clList c := by
  obtain ⟨xs, m, _, _, hl, hlen, hf⟩ := DataW.trod_struct Tryd.underlying44 h
  rw [co_cell] at hl
  match cs, hl with
  | [v0, v1, v2, v3, v4, v5, v6, v7], _ =>
    match xs, hlen with
    | [y0, y1, y2, y3], _ =>
      have h0 := hf 0 _ rfl
      have h1 := hf 1 _ rfl
      have h2 := hf 2 _ rfl
      have h3 := hf 3 _ rfl
      simp [co_int, co_int32, co_string, co_attr] at h0 h1 h2 h3
      obtain ⟨z, e0, -, -⟩ := DataW.trod_int Tryd.underlying21 h0
      obtain ⟨s, e1, -, -⟩ := DataW.trod_string Tryd.underlying9 h1
      obtain ⟨hh, rfl⟩ := int_of_trod h2
      obtain ⟨a, b, c, d, e, rfl, rfl, rfl, rfl, rfl⟩ := attr_of_trod h3
      simp at e0 e1
      subst e0 e1
      exact ⟨⟨z, s, hh, a, b, c, d, e⟩, rfl⟩
end
end Go.Proofs.YtbllhchcccflkaaDoor

namespace Go.Proofs.YtbllhchcccflkaaDoor
open Go.RowKit Go.ChangeShapes Go.WideShapes Go.Deep
structure Rw where
  A : Option Addr
  cs : List Cl
  cap : Nat
  cont : Bool
def RwAt (w : World) (b o : Nat) (r : Rw) : Prop := (w.cell? ⟨b, o, none⟩ = some (.slice r.A r.cs.length r.cap) ∧ w.cell? ⟨b, o + 1, none⟩ = some (.bool r.cont)) ∧ ClsAt w r.A r.cs ∧ r.cs.length ≤ 9223372036854775807
theorem RwAt.below {w w1 : World} {b o : Nat} {r : Rw} (h : RwAt w b o r) (hb : Below w.heap.size w w1) : RwAt w1 b o r :=
  ⟨⟨holda hb h.1.1, holda hb h.1.2⟩, h.2.1.below hb, h.2.2⟩
def RwsAt (w : World) (A : Option Addr) (l : List Rw) : Prop := 0 < l.length → ∃ b off, A = some ⟨b, off, none⟩ ∧ ∀ i r, l[i]? = some r → RwAt w b (off + i * 2) r
theorem RwsAt.below {w w1 : World} {A : Option Addr} {l : List Rw} (h : RwsAt w A l) (hb : Below w.heap.size w w1) : RwsAt w1 A l := fun hl => by
  obtain ⟨b, off, e, hc⟩ := h hl
  exact ⟨b, off, e, fun i s hs => (hc i s hs).below hb⟩
theorem RwsAt.at_ {w : World} {A : Option Addr} {l : List Rw} (h : RwsAt w A l) {k : Nat} (hk : k < l.length) : ∃ b off r, A = some ⟨b, off, none⟩ ∧ l[k]? = some r ∧ RwAt w b (off + k * 2) r := by
  obtain ⟨b, off, hA, hc⟩ := h (by omega)
  exact ⟨b, off, l[k], hA, List.getElem?_eq_getElem hk, hc k _ (List.getElem?_eq_getElem hk)⟩
theorem co_row : Tryd.prog.cellsOf 28 = 2 := by kernel_rfl
theorem co_bool : Tryd.prog.cellsOf 4 = 1 := by kernel_rfl
theorem co_cells : Tryd.prog.cellsOf 26 = 1 := by kernel_rfl
section
variable {H : Type} {enc : TypeId × Value → H} {w : World} {base : Nat} {spare : Nat → Bool} {held : Bool}
end
end Go.Proofs.YtbllhchcccflkaaDoor

namespace Go.Proofs.YtbllhchcccflkaaDoor
open Go.RowKit
/-- Rows that can be drawn. -/
def RowsOk (l : List Rw) (cols : Nat) : Prop := 0 < l.length ∧ l.length ≤ 400 ∧ 2 ≤ cols ∧ cols ≤ 1000 ∧ ∀ r ∈ l, r.cs.length = cols ∧ mendL r.cs = r.cs ∧ ∀ c ∈ r.cs, DrawOk c
set_option maxRecDepth 100000 in
theorem dsize_any (A : Option Addr) (l : List Rw) (ca cols : Nat) (w : World) (hl : RwsAt w A l) (hok : RowsOk l cols) :
    Calls Tryd.prog 15 #[.slice A l.length ca] w fun e w' => e = .returned (.tuple #[.int .i64 l.length, .int .i64 cols]) ∧ Below w.heap.size w w' := by
  obtain ⟨h0, h1, h2, h3, h4⟩ := hok
  obtain ⟨b, off, rfl, hr⟩ := hl h0
  obtain ⟨⟨c0, -⟩, -, -⟩ := hr 0 _ (List.getElem?_eq_getElem h0)
  rw [(h4 _ (List.getElem_mem h0)).1, Nat.zero_mul, Nat.add_zero] at c0
  clear hr hl h4
  generalize l[0] = r at c0
  obtain ⟨B, _, cap, _⟩ := r
  simp only at c0
  go_enter Tryd.func15, Tryd.ntmps15
  go_upto_region 3 with fail
  refine wp_region_u 8 (fun w' => Below w.heap.size w w' ∧ w'.cell? ⟨b, off, none⟩ = some (.slice B cols cap)) (by kernel_rfl) (by kernel_rfl) ?_ ?_
  · exact ⟨(Below.refl _ _).drew, c0⟩
  simp only [List.take_succ_cons, List.take_zero, List.drop_succ_cons, List.drop_zero]
  repeat (
    (first
     | refine seqU_skip (by rfl) ?_
     | (refine seqU_val ?_ (by rfl) ?_ ?_; rotate_left; (focus (intro w' hS; obtain ⟨_, _⟩ := hS; go_simp; first | done | with_reducible rfl))))
    simp only [Act.put, List.setIfInBounds_toArray, List.set_cons_zero, List.set_cons_succ])
  refine seqU_nil (fun w' hS => ?_)
  obtain ⟨hb, _⟩ := hS
  go_wp2
  go_ret2
  exact ⟨rfl, hb⟩
set_option maxRecDepth 100000 in
set_option maxHeartbeats 3200000 in
theorem dright_any (A : Option Addr) (l : List Rw) (ca cols : Nat) (w : World) (hl : RwsAt w A l) (hok : RowsOk l cols) :
    Calls Tryd.prog 16 #[.slice A l.length ca] w fun e w' => e = .returned (.bool true) ∧ Below w.heap.size w w' := by
  have HS := Lib.hid (dsize_any A l ca cols w hl hok)
  obtain ⟨h0, h1, h2, h3, h4⟩ := hok
  have HL := Lib.hid hl
  have HOK := Lib.hid h4
  clear hl h4
  have g1 : ¬ (l.length : Int) < 1 := by omega
  have g2 : ¬ (1000 : Int) < l.length := by omega
  have g3 : ¬ (cols : Int) < 2 := by omega
  have g4 : ¬ (1000 : Int) < cols := by omega
  go_enter Tryd.func16, Tryd.ntmps16
  go_wp2_with (go_at_call 15; (with_reducible refine HS.out.mono ?_); rintro e w1 ⟨rfl, hb1⟩)
  have HB1 := Lib.hid hb1
  clear hb1
  go_loopw [30] (fun i wr => ∃ k : Nat, k ≤ l.length ∧ i = .int .i64 k ∧ Below w.heap.size w wr) (fun i _ => l.length - (intOf i).toNat)
  case atStart => exact ⟨0, Nat.zero_le _, rfl, HB1.out⟩
  case round =>
    obtain ⟨k, hk, rfl, hB⟩ := hrel
    by_cases hlt : k < l.length
    · obtain ⟨b, off, rfl, hr⟩ := HL.out h0
      have hget := List.getElem?_eq_getElem hlt
      obtain ⟨⟨c0, c1⟩, hcl, -⟩ := (hr k _ hget).below hB
      obtain ⟨hlen, hm, hcs⟩ := HOK.out _ (List.getElem_mem hlt)
      generalize l[k] = r at c0 c1 hcl hlen hm hcs
      obtain ⟨B, cs, cap, cont⟩ := r
      simp only at c0 c1 hcl hlen hm hcs
      clear hr hget
      have hp : 0 < cs.length := by omega
      have HR := Lib.hid (fun w h => cright_any B cs cap w h hp (by omega) hm (fun c hc => (hcs c hc).1))
      have HC := Lib.hid hcs
      have HCL := Lib.hid hcl
      rw [hlen] at c0 HR
      have HLEN := Lib.hid hlen
      clear hm hcs hcl hp hlen
      have hcl2 := HCL.out.below ((Below.refl wr.heap.size wr).alloc (Nat.le_refl _) (.cells #[.slice B cols cap, .bool cont] 28))
      have HC2 := Lib.hid hcl2
      have HBW := Lib.hid (below_allocs hB (.cells #[.slice B cols cap, .bool cont] 28))
      clear hcl2
      go_wp2_with (go_at_call 31; (with_reducible refine (HR.out _ HC2.out).mono ?_); rintro e w2 ⟨rfl, hb2⟩; have d0 := (at_new hb2 (hp_new rfl) 0 _ rfl).1; have HB2 := Lib.hid (below_tail HBW.out hb2); have HC3 := Lib.hid (HC2.out.below hb2); clear hb2)
      go_loopw [48] (fun i w5 => ∃ j : Nat, j ≤ cols ∧ i = .int .i64 j ∧ Below w.heap.size w w5 ∧ Below w2.heap.size w2 w5) (fun i _ => cols - (intOf i).toNat)
      case atStart => exact ⟨0, Nat.zero_le _, rfl, HB2.out, Below.refl _ _⟩
      case round =>
        obtain ⟨j, hj, rfl, hB5, hb5⟩ := hrel
        by_cases hjl : j < cols
        · have hjc : j < cs.length := by have := HLEN.out; omega
          obtain ⟨b', off', c, rfl, hcg, hca⟩ := HC3.out.at_ hjc
          have hD := HC.out c (List.mem_of_getElem? hcg)
          have hca := hca.below hb5
          have HF := Lib.hid (fun w => dfine_any c hD w)
          clear hcg hD
          obtain ⟨r0, r1, r2, r3, r4, r5, r6, r7⟩ := hca
          obtain ⟨cr, cm, chf, c3, c4, c5, c6, c7⟩ := c
          unfold clV at HF
          simp only at HF r0 r1 r2 r3 r4 r5 r6 r7
          have HBX := Lib.hid (below_allocs hB5 (.cells #[.int .i32 cr, .string cm, .int .i64 chf, .int .i64 c3, .int .i64 c4, .int .i64 c5, .int .i64 c6, .int .i64 c7] 44))
          have HBY := Lib.hid (below_allocs hb5 (.cells #[.int .i32 cr, .string cm, .int .i64 chf, .int .i64 c3, .int .i64 c4, .int .i64 c5, .int .i64 c6, .int .i64 c7] 44))
          go_wp2_with (go_at_call 32; (with_reducible refine (HF.out _).mono ?_); rintro e w6 ⟨rfl, hb6⟩)
          go_roundw
          case rel => exact ⟨j + 1, by omega, by go_num, below_tail HBX.out hb6, below_tail HBY.out hb6⟩
          case measure => simp [intOf]; omega
        · obtain rfl : j = cols := by omega
          go_wp2
          go_roundw
          case rel => exact ⟨k + 1, by omega, by go_num, hB5⟩
          case measure => simp [intOf]; omega
    · obtain rfl : k = l.length := by omega
      go_wp2
      go_ret
      exact ⟨by first | rfl | simp, hB⟩
end Go.Proofs.YtbllhchcccflkaaDoor
