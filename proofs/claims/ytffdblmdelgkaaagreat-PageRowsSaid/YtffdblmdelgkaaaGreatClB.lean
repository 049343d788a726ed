/- Walks of slices.Equal at cells and of the document's Same: are two lists of cells one? Conditions: none. -/
import Derived.Test.YtffdblmdelgkaaaGreatClA
import Derived.Test.YtffdblmdelgkaaaGreatRegU
namespace Go.Proofs.YtffdblmdelgkaaaGreat
open Go.RowKit

theorem take_eq_succ {α : Type} [DecidableEq α] {l m : List α} {k : Nat} {a b : α} (ha : l[k]? = some a) (hb : m[k]? = some b) (h : l.take k = m.take k) (e : a = b) : l.take (k + 1) = m.take (k + 1) := by
  have h1 := (List.getElem?_eq_some_iff.1 ha)
  have h2 := (List.getElem?_eq_some_iff.1 hb)
  obtain ⟨p1, q1⟩ := h1
  obtain ⟨p2, q2⟩ := h2
  rw [List.take_succ_eq_append_getElem p1, List.take_succ_eq_append_getElem p2, h, q1, q2, e]
theorem ne_of_at {α : Type} {l m : List α} {k : Nat} {a b : α} (ha : l[k]? = some a) (hb : m[k]? = some b) (e : a ≠ b) : l ≠ m := by
  rintro rfl
  rw [ha] at hb
  injection hb with hb
  exact e hb

set_option maxRecDepth 100000 in
set_option maxHeartbeats 1600000 in
theorem SameCells_any (A B : Option Addr) (l m : List Cl) (ca cb : Nat) (w : World) (hl : ClsAt w A l) (hm : ClsAt w B m) (hz : l.length ≤ 9223372036854775807) (hz2 : m.length ≤ 9223372036854775807) :
    Calls Tryz.prog 51 #[.slice A l.length ca, .slice B m.length cb] w fun e w' => e = .returned (.bool (decide (l = m))) ∧ Below w.heap.size w w' := by
  have HL := Lib.hid hl
  have HM := Lib.hid hm
  clear hl hm
  by_cases hlen : l.length = m.length
  rotate_left
  · have e : decide (l = m) = false := by simp; rintro rfl; exact hlen rfl
    rw [e]; clear e
    have h' : ((l.length : Int) != (m.length : Int)) = true := by simp; omega
    clear hlen
    go_enter Tryz.func51, Tryz.ntmps51
    go_wp2
    go_ret
    exact ⟨rfl, Below.refl _ _⟩
  · have HE := Lib.hid hlen
    have h' : ((l.length : Int) != (m.length : Int)) = false := by simp; omega
    have hle : l.length ≤ m.length := by omega
    have hge : m.length ≤ l.length := by omega
    clear hlen
    generalize hX : decide (l = m) = X
    have HX := Lib.hid hX
    clear hX
    go_enter Tryz.func51, Tryz.ntmps51
    go_wp2_with fail
    go_loopw [5] (fun i wr => ∃ k : Nat, k ≤ l.length ∧ i = .int .i64 k ∧ Below w.heap.size w wr ∧ l.take k = m.take k) (fun i _ => l.length - (intOf i).toNat)
    case atStart => exact ⟨0, Nat.zero_le _, rfl, Below.refl _ _, rfl⟩
    case round =>
      obtain ⟨k, hk, rfl, hB, htk⟩ := hrel
      have HT := Lib.hid htk
      clear htk
      by_cases hlt : k < l.length
      rotate_left
      · go_wp2
        go_ret
        refine ⟨?_, hB⟩
        have h1 := HT.out
        rw [List.take_of_length_le (by omega), List.take_of_length_le (by omega)] at h1
        rw [← HX.out, h1]; simp
      · have hltm : k < m.length := by omega
        obtain ⟨b, off, x, rfl, hx, cx⟩ := HL.out.at_ hlt
        obtain ⟨b', off', y, rfl, hy, cy⟩ := HM.out.at_ hltm
        have HXX := Lib.hid hx
        have HYY := Lib.hid hy
        clear hx hy
        replace cx := cx.below hB
        replace cy := cy.below hB
        unfold ClAt at cx cy
        go_wp2_with fail
        refine wp_region_u 8 (fun w' => Below wr.heap.size wr w' ∧ (w'.cell? ⟨b, off + k * 8, none⟩ = some (.int .i32 x.r) ∧ w'.cell? ⟨b, off + k * 8 + 1, none⟩ = some (.string x.more) ∧ w'.cell? ⟨b, off + k * 8 + 2, none⟩ = some (.int .i64 x.half) ∧ w'.cell? ⟨b, off + k * 8 + 3, none⟩ = some (.int .i64 x.fk) ∧ w'.cell? ⟨b, off + k * 8 + 4, none⟩ = some (.int .i64 x.fn) ∧ w'.cell? ⟨b, off + k * 8 + 5, none⟩ = some (.int .i64 x.bk) ∧ w'.cell? ⟨b, off + k * 8 + 6, none⟩ = some (.int .i64 x.bn) ∧ w'.cell? ⟨b, off + k * 8 + 7, none⟩ = some (.int .i64 x.fl)) ∧ (w'.cell? ⟨b', off' + k * 8, none⟩ = some (.int .i32 y.r) ∧ w'.cell? ⟨b', off' + k * 8 + 1, none⟩ = some (.string y.more) ∧ w'.cell? ⟨b', off' + k * 8 + 2, none⟩ = some (.int .i64 y.half) ∧ w'.cell? ⟨b', off' + k * 8 + 3, none⟩ = some (.int .i64 y.fk) ∧ w'.cell? ⟨b', off' + k * 8 + 4, none⟩ = some (.int .i64 y.fn) ∧ w'.cell? ⟨b', off' + k * 8 + 5, none⟩ = some (.int .i64 y.bk) ∧ w'.cell? ⟨b', off' + k * 8 + 6, none⟩ = some (.int .i64 y.bn) ∧ w'.cell? ⟨b', off' + k * 8 + 7, none⟩ = some (.int .i64 y.fl))) (by kernel_rfl) (by kernel_rfl) ?_ ?_
        · exact ⟨(Below.refl _ _).drew, cx, cy⟩
        simp only [List.take_succ_cons, List.take_zero, List.drop_succ_cons, List.drop_zero]
        repeat (refine seqU_val ?_ (by rfl) ?_ ?_; rotate_left; · (intro w' hS; obtain ⟨_, _, _⟩ := hS; go_simp; first | done | with_reducible rfl)
                simp only [Act.put, List.setIfInBounds_toArray, List.set_cons_zero, List.set_cons_succ])
        refine seqU_nil (fun w' hS => ?_)
        have hB4 := hS.1
        clear hS
        refine wpList_val (.bool (!decide (x = y))) rfl (exec_neq_cell _ _ _ _ _ _ _ _ x y rfl rfl w') ?_
        by_cases hxy : x = y
        · rw [show (!decide (x = y)) = false from by simp [hxy]]
          simp only [Act.put, List.setIfInBounds_toArray, List.set_cons_zero, List.set_cons_succ]
          have HXY := Lib.hid hxy
          clear hxy
          go_wp2
          go_roundw
          case rel => exact ⟨k + 1, by omega, by go_num, below_tail hB hB4, take_eq_succ HXX.out HYY.out HT.out HXY.out⟩
          case measure => simp [intOf]; omega
        · rw [show (!decide (x = y)) = true from by simp [hxy]]
          simp only [Act.put, List.setIfInBounds_toArray, List.set_cons_zero, List.set_cons_succ]
          have HXY := Lib.hid hxy
          clear hxy
          go_wp2
          go_ret
          refine ⟨?_, below_tail hB hB4⟩
          rw [← HX.out, show decide (l = m) = false from by simp; exact ne_of_at HXX.out HYY.out HXY.out]
          rfl
end Go.Proofs.YtffdblmdelgkaaaGreat
