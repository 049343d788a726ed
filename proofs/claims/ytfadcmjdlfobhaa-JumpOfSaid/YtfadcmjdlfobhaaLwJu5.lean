/- JumpOf: the walk of the law. Conditions: none. -/
import Derived.Test.YtfadcmjdlfobhaaJuI
import Derived.Test.YtfadcmjdlfobhaaBkB
import Derived.Deep.CutBlock
namespace Go.Proofs.Ytfadcmjdlfobhaa
open Go.RowKit Go.Sort

set_option maxRecDepth 100000 in
set_option maxHeartbeats 6400000 in
theorem JumpOf_walk (A : Option Addr) (l : List Bk) (ca : Nat) (kind : Int) (w : World) (hm : l.length ≤ 9223372036854775807) (hl : GrAt bkCells 17 w A l) (hok : ∀ c ∈ l, bkOk c) :
    Calls Try.prog 13 #[.slice A l.length ca, .int .i64 kind] w fun e w' => e = .returned (.bool true) ∧ Below w.heap.size w w' := by
  obtain ⟨i0, hi, hz0, hz1, hz2⟩ := info_parts info_int
  have HL := Lib.hid hl
  have HK := Lib.hid (rowsOf_ok (kind := kind) hok)
  clear hl hok
  by_cases hbig : 100 < l.length
  · go_enter Try.func13, Try.ntmps13
    go_wp2_with (go_at_call 30; refine (awake25 _).mono ?_; rintro e w3 ⟨rfl, hb3⟩)
    go_ret
    exact ⟨by simp, hb3⟩
  · go_enter Try.func13, Try.ntmps13
    go_wp2_with (go_at_call 30; refine (awake25 _).mono ?_; rintro e w1 ⟨rfl, hb1⟩)
    have HB1 := Lib.hid hb1
    have HL1 := Lib.hid (HL.out.below hb1)
    clear hb1 HL
    go_loopw [5, 6] (fun s5 i wr => ∃ k : Nat, k ≤ l.length ∧ i = .int .i64 k ∧ OfSt w1 (rowsOf (l.take k) kind) s5 wr) (fun _ i _ => l.length - (intOf i).toNat)
    case atStart => exact ⟨0, Nat.zero_le _, rfl, World.ownsRow_nil _ _ _ _, Below.refl _ _⟩
    case round =>
      obtain ⟨k, hk, rfl, hst⟩ := hrel
      have HST := Lib.hid hst
      have HB := Lib.hid hst.2
      have hlen := rowsOf_len (l.take k) kind
      rw [List.length_take] at hlen
      clear hst
      by_cases hlt : k < l.length
      rotate_left
      · obtain rfl : k = l.length := by omega
        have ho := HST.out.1
        have HOF := Lib.hid (Of_any A l ca kind _ (HL1.out.below HB.out) (by omega))
        have hsl := srtd_len (rowsOf l kind)
        rw [List.take_length] at ho hlen
        have HKK := Lib.hid (fun x hx => (HK.out x hx).1)
        generalize rowsOf l kind = xs at ho hlen HOF HKK hsl
        obtain ⟨A1, c1, rfl, -, -, -, hg⟩ := ints_of_owns ho rfl
        have HS : Hid (∀ W : World, IntsAt W A1 xs → Calls Try.prog 36 #[.slice A1 xs.length c1] W (OwnPost W (srtd xs))) := Lib.hid fun W h => Sorted_any A1 xs c1 W h (by omega) HKK.out
        have HG := Lib.hid hg
        generalize srtd xs = s at HS HOF hsl
        clear ho hg HST HKK HK
        go_wp2_with (first
          | (go_at_call 44; refine HOF.out.mono ?_; rintro e w2 ⟨v2, rfl, ho2, hb2⟩; have HO2 := Lib.hid ho2; clear ho2)
          | (go_at_call 36; refine (HS.out _ (HG.out.below hb2)).mono ?_; rintro e w3 ⟨v3, rfl, ho3, hb3⟩; have HO3 := Lib.hid ho3; clear ho3)
          | (go_at_call 34; refine (Ints_same _ _ _ _ s _ (owns_below HO2.out hb3) HO3.out (by omega)).mono ?_; rintro e w4 ⟨rfl, hb4⟩))
        go_ret
        exact ⟨by simp, below_tail HB1.out (below_tail HB.out (below_tail hb2 (below_tail hb3 hb4)))⟩
      · obtain ⟨b, off, c, rfl, hc, hr⟩ := range_of_gr HL1.out hlt
        have HR := Lib.hid (range_below hr HB.out)
        have HC := Lib.hid (rowsOf_take kind hc)
        have hlt' : (k : Int) < (l.length : Int) := by omega
        clear hr hc
        have hsc := stop_cases c kind
        generalize stopB c kind = sb at HC hsc
        generalize hxs : rowsOf (l.take k) kind = xs at HST HC hlen
        clear hxs
        have HTN := Lib.hid (there_new (cs := (bkCells zeroBk).toArray) (w := wr.alloc (.cells (bkCells zeroBk).toArray 72)) (g := wr.heap.size) (hp_new rfl))
        go_upto_region 8 with (first
          | (refine wpList_load_mid (op := ⟨some 25, _, _, _, _, _⟩) rfl 72 (.tmp 24) rfl b (off + k * 17) rfl (bkCells c) _ HR.out Try.underlying72 rfl info_block ?_)
          | (refine wpList_store_mid (op := ⟨none, .store 72 (.tmp 7) (.tmp 25), _, _, _, _⟩) rfl 72 (.tmp 7) (.tmp 25) rfl wr.heap.size 0 (bkCells c).toArray rfl rfl HTN.out info_block (one_arr c) ?_))
        generalize hW2 : World.setCells _ _ _ _ = W2
        have HBW : Hid (Below wr.heap.size wr W2) := Lib.hid (by rw [← hW2]; exact below_setCells (below_allocs (Below.refl _ _) _) (Nat.le_refl _) _ _)
        have hr : W2.rangeAt wr.heap.size 0 (bkCells c) := by rw [← hW2]; exact World.rangeAt_setCells_same _ _ _ _ HTN.out
        clear hW2 HTN
        have d0 : W2.cell? ⟨wr.heap.size, 0, none⟩ = some (.int .u64 c.id) := by simpa using hr 0 _ rfl
        have d1 : W2.cell? ⟨wr.heap.size, 1, none⟩ = some (.int .i64 c.ph) := by simpa using hr 1 _ rfl
        have d2 : W2.cell? ⟨wr.heap.size, 2, none⟩ = some (.int .i64 c.sr) := by simpa using hr 2 _ rfl
        have d6 : W2.cell? ⟨wr.heap.size, 6, none⟩ = some (.int .i64 c.pr) := by simpa using hr 6 _ rfl
        have d12 : W2.cell? ⟨wr.heap.size, 12, none⟩ = some (.int .i64 c.code) := by simpa using hr 12 _ rfl
        have d13 : W2.cell? ⟨wr.heap.size, 13, none⟩ = some (.bool c.has) := by simpa using hr 13 _ rfl
        clear hr HR
        have HST2 := Lib.hid (HST.out.below HBW.out)
        generalize (bkCells c).toArray = cells
        rcases hsc with ⟨h1, h2, rfl⟩ | ⟨h1, h2, rfl, rfl⟩ | ⟨h1, h2, rfl, h3, rfl⟩ | ⟨h1, h2, rfl, h3, h4, rfl⟩ | ⟨h1, h2, rfl, h3, h4, rfl⟩ | ⟨h1, h2, rfl, h3, rfl⟩ | ⟨h1, h2, rfl, h3, h4, rfl⟩ | ⟨h1, h2, rfl, h3, h4, rfl⟩ | ⟨h1, h2, h3, h4, h5, rfl⟩
        · go_wp2
          go_roundw
          case rel => exact ⟨k + 1, by omega, by go_num, by
            rw [HC.out]
            simp only [Bool.false_eq_true, if_false, List.append_nil]
            exact HST2.out⟩
          case measure => simp [intOf]; omega
        · go_wp2_with (at_builtin; refine wpList_append_own _ rfl (.tmp 46) (.tmp 50) _ rfl w1.heap.size 3 i0 (.int .i64 0) 1 8 Try.underlying53 hi hz0 hz1 hz2 rfl (by decide) _ _ _ rfl (HST2.out.1.alloc _) ⟨W2.heap.size, 0, none⟩ 1 1 [.int .i64 c.sr] rfl rfl (cell_one_new _ _ _) (by simp [Value.oneCell']) (by simp only [maxLen]; omega) (by omega) (by have := HST2.out.2.size; simp; omega) ?_; intro v1 w3 hown1 hg1 _; have HO1 := Lib.hid hown1; have HG1 := Lib.hid hg1; clear hown1 hg1; have c0 := keep_append HG1.out d0 (fun q hq => Nat.ne_of_lt (HST.out.1.lt q hq).2))
          go_roundw
          case rel => exact ⟨k + 1, by omega, by go_num, by
            rw [HC.out]
            simp only [if_true]
            exact HST2.out.add (Below.refl _ _) HO1.out HG1.out⟩
          case measure => simp [intOf]; omega
        · go_wp2_with (at_builtin; refine wpList_append_own _ rfl (.tmp 69) (.tmp 73) _ rfl w1.heap.size 3 i0 (.int .i64 0) 1 8 Try.underlying53 hi hz0 hz1 hz2 rfl (by decide) _ _ _ rfl (HST2.out.1.alloc _) ⟨W2.heap.size, 0, none⟩ 1 1 [.int .i64 c.pr] rfl rfl (cell_one_new _ _ _) (by simp [Value.oneCell']) (by simp only [maxLen]; omega) (by omega) (by have := HST2.out.2.size; simp; omega) ?_; intro v1 w3 hown1 hg1 _; have HO1 := Lib.hid hown1; have HG1 := Lib.hid hg1; clear hown1 hg1; have c0 := keep_append HG1.out d0 (fun q hq => Nat.ne_of_lt (HST.out.1.lt q hq).2))
          go_roundw
          case rel => exact ⟨k + 1, by omega, by go_num, by
            rw [HC.out]
            simp only [if_true]
            exact HST2.out.add (Below.refl _ _) HO1.out HG1.out⟩
          case measure => simp [intOf]; omega
        · go_wp2_with (at_builtin; refine wpList_append_own _ rfl (.tmp 69) (.tmp 73) _ rfl w1.heap.size 3 i0 (.int .i64 0) 1 8 Try.underlying53 hi hz0 hz1 hz2 rfl (by decide) _ _ _ rfl (HST2.out.1.alloc _) ⟨W2.heap.size, 0, none⟩ 1 1 [.int .i64 c.pr] rfl rfl (cell_one_new _ _ _) (by simp [Value.oneCell']) (by simp only [maxLen]; omega) (by omega) (by have := HST2.out.2.size; simp; omega) ?_; intro v1 w3 hown1 hg1 _; have HO1 := Lib.hid hown1; have HG1 := Lib.hid hg1; clear hown1 hg1; have c0 := keep_append HG1.out d0 (fun q hq => Nat.ne_of_lt (HST.out.1.lt q hq).2))
          go_roundw
          case rel => exact ⟨k + 1, by omega, by go_num, by
            rw [HC.out]
            simp only [if_true]
            exact HST2.out.add (Below.refl _ _) HO1.out HG1.out⟩
          case measure => simp [intOf]; omega
        · go_wp2
          go_roundw
          case rel => exact ⟨k + 1, by omega, by go_num, by
            rw [HC.out]
            simp only [Bool.false_eq_true, if_false, List.append_nil]
            exact HST2.out⟩
          case measure => simp [intOf]; omega
        · go_wp2
          go_roundw
          case rel => exact ⟨k + 1, by omega, by go_num, by
            rw [HC.out]
            simp only [Bool.false_eq_true, if_false, List.append_nil]
            exact HST2.out⟩
          case measure => simp [intOf]; omega
        · go_wp2
          go_roundw
          case rel => exact ⟨k + 1, by omega, by go_num, by
            rw [HC.out]
            simp only [Bool.false_eq_true, if_false, List.append_nil]
            exact HST2.out⟩
          case measure => simp [intOf]; omega
        · go_wp2_with (at_builtin; refine wpList_append_own _ rfl (.tmp 46) (.tmp 50) _ rfl w1.heap.size 3 i0 (.int .i64 0) 1 8 Try.underlying53 hi hz0 hz1 hz2 rfl (by decide) _ _ _ rfl (HST2.out.1.alloc _) ⟨W2.heap.size, 0, none⟩ 1 1 [.int .i64 c.sr] rfl rfl (cell_one_new _ _ _) (by simp [Value.oneCell']) (by simp only [maxLen]; omega) (by omega) (by have := HST2.out.2.size; simp; omega) ?_; intro v1 w3 hown1 hg1 _; have HO1 := Lib.hid hown1; have HG1 := Lib.hid hg1; clear hown1 hg1; have c0 := keep_append HG1.out d0 (fun q hq => Nat.ne_of_lt (HST.out.1.lt q hq).2))
          go_roundw
          case rel => exact ⟨k + 1, by omega, by go_num, by
            rw [HC.out]
            simp only [if_true]
            exact HST2.out.add (Below.refl _ _) HO1.out HG1.out⟩
          case measure => simp [intOf]; omega
        · go_wp2
          go_roundw
          case rel => exact ⟨k + 1, by omega, by go_num, by
            rw [HC.out]
            simp only [Bool.false_eq_true, if_false, List.append_nil]
            exact HST2.out⟩
          case measure => simp [intOf]; omega
end Go.Proofs.Ytfadcmjdlfobhaa
