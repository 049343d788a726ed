/- The program's store of points: Shift's walk. Conditions: as stated. -/
import Derived.Test.YtfadcmjdlfobhaaPtC
namespace Go.Proofs.Ytfadcmjdlfobhaa
open Go.RowKit Go.Sort

set_option maxRecDepth 100000 in
set_option maxHeartbeats 1600000 in
theorem PtShift_any (p : Nat) (F : List Nat) (most : Int) (L : List P2) (k a n : Int) (w : World) (h : PtSt w p F most L) (hz : L.length ≤ 1000000) :
    Calls Try.prog 42 #[.pointer (some ⟨p, 0, none⟩), .agg #[.int .i64 k, .int .i64 a, .int .i64 n]] w (PtPost w p F most (shiftL k a n L)) := by
  obtain ⟨j0, hj, gz0, gz1, gz2⟩ := info_parts info_pos
  have HR := Lib.hid (fun w => Right_any k a n w)
  by_cases hr : rightS k a n = true
  rotate_left
  · have hr' : rightS k a n = false := by simpa using hr
    have e : shiftL k a n L = L := by unfold shiftL; rw [if_neg hr]
    rw [e]
    rw [hr'] at HR
    have H := Lib.hid h
    clear h hr hr' e
    go_enter Try.func42, Try.ntmps42
    go_wp2_with (go_at_call 61; refine (HR.out _).mono ?_; rintro e w1 ⟨rfl, hb1⟩)
    go_end0
    exact pt_stays H.out (below_tail (below_allocs (Below.refl _ _) _) hb1)
  rw [hr] at HR
  have e : shiftL k a n L = keptL k a n L := by unfold shiftL; rw [if_pos hr]; rfl
  rw [e]
  clear hr e
  have HH := Lib.hid h
  obtain ⟨v, hF, h0, h1, ho⟩ := h
  have HF := Lib.hid hF
  have HFL := Lib.hid (fun g hg => HH.out.lt g hg)
  have hp := lt_of_cell h0.1
  have HO := Lib.hid ho
  obtain ⟨A, c, hv⟩ := row_form ho
  subst hv
  clear hF ho
  rcases Nat.eq_zero_or_pos L.length with hl0 | hl0
  · obtain rfl : L = [] := List.length_eq_zero_iff.1 hl0
    clear hl0
    have hpF : Hid (p ∈ F) := Lib.hid (by rw [HF.out]; simp)
    rcases HO.out.2 with ⟨hv, -⟩ | ⟨g, cap, cur, hv, -⟩
    · simp only [Value.slice.injEq] at hv
      obtain ⟨rfl, -, rfl⟩ := hv
      go_enter Try.func42, Try.ntmps42
      go_wp2_with (go_at_call 61; refine (HR.out _).mono ?_; rintro e w1 ⟨rfl, hb1⟩; have hB := below_tail (below_allocs (Below.refl w.heap.size w) _) hb1; replace h0 := hold hB h0; replace h1 := holda hB h1; have HO2 := Lib.hid (owns_bl HO.out hB))
      go_loopw [4, 24] (fun s4 i wr => i = .int .i64 0 ∧ s4 = .slice none 0 0 ∧ wr = w1) (fun _ i _ => 0)
      case atStart => exact ⟨rfl, rfl, rfl⟩
      case round =>
        obtain ⟨rfl, rfl, rfl⟩ := hrel
        go_wp2
        go_end0
        refine ⟨rfl, F, ⟨.slice none 0 0, HF.out, set_self h0, (World.cell?_setCell_other _ _ _ _ (fun e => by injection e with e1 e2; omega)).trans h1, ownsRow_setCell_below HO2.out (Nat.lt_succ_self p) _⟩, (Mod.of_below (X := F) hB).setCell (.inl hpF.out) _, fun g hg => .inl hg⟩
    · simp only [Value.slice.injEq] at hv
      obtain ⟨rfl, -, rfl⟩ := hv
      go_enter Try.func42, Try.ntmps42
      go_wp2_with (go_at_call 61; refine (HR.out _).mono ?_; rintro e w1 ⟨rfl, hb1⟩; have hB := below_tail (below_allocs (Below.refl w.heap.size w) _) hb1; replace h0 := hold hB h0; replace h1 := holda hB h1; have HO2 := Lib.hid (owns_bl HO.out hB))
      go_loopw [4, 24] (fun s4 i wr => i = .int .i64 0 ∧ s4 = .slice (some ⟨g, 0, none⟩) 0 c ∧ wr = w1) (fun _ i _ => 0)
      case atStart => exact ⟨rfl, rfl, rfl⟩
      case round =>
        obtain ⟨rfl, rfl, rfl⟩ := hrel
        go_wp2
        go_end0
        refine ⟨rfl, F, ⟨.slice (some ⟨g, 0, none⟩) 0 c, HF.out, set_self h0, (World.cell?_setCell_other _ _ _ _ (fun e => by injection e with e1 e2; omega)).trans h1, ownsRow_setCell_below HO2.out (Nat.lt_succ_self p) _⟩, (Mod.of_below (X := F) hB).setCell (.inl hpF.out) _, fun g hg => .inl hg⟩
  obtain ⟨b, c', hf0⟩ := Go.Joins.ownsRow_form HO.out hl0
  simp only [Value.slice.injEq] at hf0
  obtain ⟨rfl, -, -⟩ := hf0
  have hbp : b ≠ p ∧ b < w.heap.size := by
    have := HO.out.lt b rfl
    exact ⟨by omega, this.2⟩
  obtain ⟨hbp, hbw⟩ := hbp
  have hbF : Hid (b ∈ F ∧ p ∈ F) := Lib.hid (by rw [HF.out]; simp [Value.ownBlock])
  have hcn : L.length ≤ c := by
    obtain ⟨_, _, e1, e2, -⟩ := gr_of_owns encP_len HO.out rfl
    simp only [Value.slice.injEq] at e1
    omega
  have HM := Lib.hid (fun w r c => Move_any r c k a n w)
  simp only [posV, shV] at HM
  have HO1 := Lib.hid (fun (w1 : World) (hb : Below w.heap.size w w1) => owns_bl HO.out hb)
  clear HO
  go_enter Try.func42, Try.ntmps42
  go_wp2_with (go_at_call 61; refine (HR.out _).mono ?_; rintro e w1 ⟨rfl, hb1⟩; have hB := below_tail (show Below w.heap.size w _ from by repeat (first | exact Below.refl _ _ | refine below_allocs ?_ _ | refine below_drewNs ?_ _ | refine Below.drew ?_)) hb1; have q0 := at_new (b := w.heap.size) hb1 (by repeat (first | (refine hp_new ?_; simp; done) | refine hp_old ?_ | refine hp_drewN ?_ | refine hp_drew ?_)) 0 (.int .i64 k) rfl; have q1 := at_new (b := w.heap.size) hb1 (by repeat (first | (refine hp_new ?_; simp; done) | refine hp_old ?_ | refine hp_drewN ?_ | refine hp_drew ?_)) 1 (.int .i64 a) rfl; have q2 := at_new (b := w.heap.size) hb1 (by repeat (first | (refine hp_new ?_; simp; done) | refine hp_old ?_ | refine hp_drewN ?_ | refine hp_drew ?_)) 2 (.int .i64 n) rfl; replace h0 := hold hB h0; replace h1 := holda hB h1; have HO2 := Lib.hid (HO1.out _ hB); have hpw := lt_of_cell h0.1; have hbB := hB.size)
  go_loopw [4, 24] (fun s4 i wr => ∃ (j m : Nat) (X : List P2), i = .int .i64 j ∧ s4 = .slice (some ⟨b, 0, none⟩) m c ∧ FilSt k a n L j m X ∧ wr.ownsRow (p + 1) 30 2 (.slice (some ⟨b, 0, none⟩) L.length c) L.length (flat encP X) ∧ Mod [b] w1 wr) (fun _ i _ => L.length - (intOf i).toNat)
  case atStart => exact ⟨0, 0, L, rfl, rfl, FilSt.start _ _ _ _, HO2.out, Mod.refl _ _⟩
  case round =>
    obtain ⟨j, m, X, rfl, rfl, hfs, how, hmd⟩ := hrel
    have hbq : w.heap.size ∉ [b] := by simp; omega
    have hbp' : p ∉ [b] := by simp; omega
    have hmj := hfs.m_le
    have hjl := hfs.le
    have HFS := Lib.hid hfs
    have HOW := Lib.hid how
    have HMD := Lib.hid hmd
    by_cases hlt : j < L.length
    rotate_left
    · obtain rfl : j = L.length := by omega
      replace h0 := hmd.hold hbp' h0
      replace h1 := hmd.cell hbp' h1
      clear hfs how hmd q0 q1 q2
      go_wp2
      go_end0
      obtain ⟨hd1, hd2⟩ := HFS.out.done
      refine ⟨rfl, F, ⟨.slice (some ⟨b, 0, none⟩) m c, HF.out, set_self h0, (World.cell?_setCell_other _ _ _ _ (fun e => by injection e with e1 e2; omega)).trans h1, ?_⟩, ?_, fun g hg => .inl hg⟩
      · rw [← hd2, ← hd1]
        exact ownsRow_setCell_below (owns_head HOW.out hmj HFS.out.len.symm) (Nat.lt_succ_self p) _
      · exact ((Mod.of_below (X := F) hB).trans (HMD.out.mono (Y := F) (fun g hg => by rw [List.mem_singleton.1 hg]; exact hbF.out.1)) (fun g hg => .inl hg)).setCell (.inl hbF.out.2) _
    · obtain ⟨x, hx⟩ : ∃ x, L[j]? = some x := ⟨L[j], List.getElem?_eq_getElem hlt⟩
      obtain ⟨⟨c0, -⟩, c1, -⟩ := owns_cell how hfs.len.symm (hfs.at_ hx)
      have HX := Lib.hid hx
      replace q0 := hmd.hold hbq q0
      replace q1 := hmd.hold hbq q1
      replace q2 := hmd.hold hbq q2
      have hqw := lt_of_cell q0.1
      have hbw2 := lt_of_cell c0
      clear hfs how hmd hx h0 h1
      obtain ⟨r, cc⟩ := x
      simp only at c0 c1
      cases hk2 : (k == 2) with
      | false =>
        go_wp2_with (first
          | (go_at_call 63; refine (HM.out _ _ _).mono ?_; rintro e w2 ⟨rfl, hb2⟩; have hb3 := below_tail (below_allocs (Below.refl wr.heap.size wr) _) hb2; have HOW3 := Lib.hid (owns_bl HOW.out hb3); have HRM := Lib.hid (fun o => owns_room (HOW3.out.alloc o) (Nat.lt_of_le_of_lt hmj hlt)))
          | (at_builtin; refine wpList_append_room2 rfl (.tmp 36) (.tmp 40) _ rfl 30 j0 2 Try.underlying40 hj gz1 b m c rfl ⟨w2.heap.size, 0, none⟩ 1 1 [.int .i64 (mv r cc k a n).1, .int .i64 (mv r cc k a n).2] rfl rfl (cell_two_new _ _ _ _) (by simp [Value.oneCell']) (by omega) (fun j hj => (HRM.out _ j hj).1) (fun j hj => (HRM.out _ j hj).2) ?_))
        go_roundw
        case rel =>
          obtain ⟨r1, r2, r3⟩ := fil_step (o := Obj.cells #[.int .i64 (mv r cc k a n).1, .int .i64 (mv r cc k a n).2] 30) HFS.out HX.out (by simp [goP, hk2]) HOW3.out HMD.out hb3
          exact ⟨j + 1, m + 1, _, by go_num, rfl, r1, r2, r3⟩
        case measure => simp [intOf]; omega
      | true =>
        have HLo := Lib.hid (fun w => Lost_any r cc k a n w)
        simp only [posV, shV] at HLo
        generalize hlo : lostB r cc k a n = lo at HLo
        have HLO := Lib.hid hlo
        clear hlo
        cases lo
        · go_wp2_with (first
            | (go_at_call 62; refine (HLo.out _).mono ?_; rintro e w3 ⟨rfl, hb4⟩; have hB := below_tail (show Below wr.heap.size wr _ from by repeat (first | exact Below.refl _ _ | refine below_allocs ?_ _ | refine below_drewNs ?_ _ | refine Below.drew ?_)) hb4; have y0 := at_new (b := wr.heap.size) hb4 (by repeat (first | (refine hp_new ?_; simp; done) | refine hp_old ?_ | refine hp_drewN ?_ | refine hp_drew ?_)) 0 (.int .i64 r) rfl; have y1 := at_new (b := wr.heap.size) hb4 (by repeat (first | (refine hp_new ?_; simp; done) | refine hp_old ?_ | refine hp_drewN ?_ | refine hp_drew ?_)) 1 (.int .i64 cc) rfl; replace q0 := hold hB q0; replace q1 := hold hB q1; replace q2 := hold hB q2; have hqw := lt_of_cell q0.1)
            | (go_at_call 63; refine (HM.out _ _ _).mono ?_; rintro e w2 ⟨rfl, hb2⟩; have hb3 := below_tail hB hb2; have HOW3 := Lib.hid (owns_bl HOW.out hb3); have HRM := Lib.hid (fun o => owns_room (HOW3.out.alloc o) (Nat.lt_of_le_of_lt hmj hlt)))
            | (at_builtin; refine wpList_append_room2 rfl (.tmp 36) (.tmp 40) _ rfl 30 j0 2 Try.underlying40 hj gz1 b m c rfl ⟨w2.heap.size, 0, none⟩ 1 1 [.int .i64 (mv r cc k a n).1, .int .i64 (mv r cc k a n).2] rfl rfl (cell_two_new _ _ _ _) (by simp [Value.oneCell']) (by omega) (fun j hj => (HRM.out _ j hj).1) (fun j hj => (HRM.out _ j hj).2) ?_))
          go_roundw
          case rel =>
            obtain ⟨r1, r2, r3⟩ := fil_step (o := Obj.cells #[.int .i64 (mv r cc k a n).1, .int .i64 (mv r cc k a n).2] 30) HFS.out HX.out (by simp [goP, hk2, HLO.out]) HOW3.out HMD.out hb3
            exact ⟨j + 1, m + 1, _, by go_num, rfl, r1, r2, r3⟩
          case measure => simp [intOf]; omega
        · go_wp2_with (go_at_call 62; refine (HLo.out _).mono ?_; rintro e w3 ⟨rfl, hb4⟩; have hb5 := below_tail (below_allocs (Below.refl wr.heap.size wr) _) hb4)
          go_roundw
          case rel => exact ⟨j + 1, m, X, by go_num, rfl, HFS.out.skip HX.out (by simp [goP, hk2, HLO.out]), owns_bl HOW.out hb5, HMD.out.then_below hb5⟩
          case measure => simp [intOf]; omega
end Go.Proofs.Ytfadcmjdlfobhaa
