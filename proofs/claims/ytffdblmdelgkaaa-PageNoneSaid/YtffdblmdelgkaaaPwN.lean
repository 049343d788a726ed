/- PageNone: the walk. Conditions: as stated. -/
import Derived.Test.YtffdblmdelgkaaaPwA
import Derived.Test.YtffdblmdelgkaaaOkI
namespace Go.Proofs.Ytffdblmdelgkaaa
open Go.RowKit

set_option maxRecDepth 100000 in
theorem rfits_any (r c : Int) (w : World) : Calls Try.prog 5 #[.int .i64 r, .int .i64 c] w fun e w' => e = .returned (.bool (fitsB r c)) ∧ w = w' := by
  unfold fitsB
  by_cases h1 : 1 ≤ r <;> by_cases h2 : r ≤ 1000 <;> by_cases h3 : 2 ≤ c <;>
  · have e1 : (0 < r) = (1 ≤ r) := by simp only [eq_iff_iff]; omega
    have e2 : (1 < c) = (2 ≤ c) := by simp only [eq_iff_iff]; omega
    go_enter Try.func5, Try.ntmps5
    go_wp2
    go_ret
    refine ⟨?_, rfl⟩
    simp [h1, h2, h3]
    try omega
set_option maxRecDepth 100000 in
set_option maxHeartbeats 1600000 in
theorem pRow_nil (i : Int) (w : World) (hi : okI i) : Calls Try.prog 16 #[.pointer none, .int .i64 i] w fun e w' => e = .returned (.tuple #[.agg #[.slice none 0 0, .bool false], .bool false]) ∧ Below w.heap.size w w' := by
  have HB := Lib.hid (fun w => pBase_nil w)
  have HR := Lib.hid (fun w => pRows_nil w)
  have hw : IntKind.i64.wrap i = i := IntWalk.i64_in _ (by have := hi; unfold okI at this; omega)
  have HL := Lib.hid (below_allocs (Below.refl w.heap.size w) (.cells #[.slice none 0 0, .bool false] 39))
  obtain ⟨z0, z0f⟩ := at_ (hp_new (W := w) (o := .cells #[.slice none 0 0, .bool false] 39) rfl) 0 _ rfl
  obtain ⟨z1, z1f⟩ := at_ (hp_new (W := w) (o := .cells #[.slice none 0 0, .bool false] 39) rfl) 1 _ rfl
  by_cases h0 : 0 ≤ i
  · have h0n : ¬ i < 0 := by omega
    go_enter Try.func16, Try.ntmps16
    go_wp2_with (first
      | (go_at_call 8; refine (HB.out _).mono ?_; rintro e w1 ⟨rfl, rfl⟩)
      | (go_at_call 6; refine (HR.out _).mono ?_; rintro e w1 ⟨rfl, rfl⟩))
    exact bodyPost_ret (ret_row2 rfl _ _ w.heap.size _ _ _ rfl rfl z0 z1) rfl ⟨rfl, HL.out⟩
  · have h0n : i < 0 := by omega
    go_enter Try.func16, Try.ntmps16
    go_wp2_with (first
      | (go_at_call 8; refine (HB.out _).mono ?_; rintro e w1 ⟨rfl, rfl⟩)
      | (go_at_call 6; refine (HR.out _).mono ?_; rintro e w1 ⟨rfl, rfl⟩))
    exact bodyPost_ret (ret_row2 rfl _ _ w.heap.size _ _ _ rfl rfl z0 z1) rfl ⟨rfl, HL.out⟩
theorem results_cell_tmp2 {P : Program} {fn : Func} {p u u2 : Tmp} {ty : TypeId} (h : fn.results = #[.cell p ty, .tmp u, .tmp u2]) (tmps : Array Value) (w : World) :
    (results fn tmps).run P w = ((asAddr (tmps.getD p undef)).run P w).andThen fun a w₁ => ((loadVar ty a).run P w₁).andThen fun v w₂ => .ok (.tuple #[v, tmps.getD u undef, tmps.getD u2 undef]) w₂ := by
  simp only [results, h]
  simp [Sem.run_bind, Result.andThen]
theorem info_posq : (Try.prog.info? 43).map (·.size) = some 2 := by kernel_rfl
theorem ret_pos3 {fn : Func} {p u u2 : Tmp} (hr : fn.results = #[.cell p 43, .tmp u, .tmp u2]) (tmps : Array Value) (w : World) (b : Nat) (x y z z2 : Value) (hp : tmps.getD p undef = .pointer (some ⟨b, 0, none⟩)) (hu : tmps.getD u undef = z) (hu2 : tmps.getD u2 undef = z2) (h0 : w.cell? ⟨b, 0, none⟩ = some x) (h1 : w.cell? ⟨b, 1, none⟩ = some y) :
    (results fn tmps).run Try.prog w = .ok (.tuple #[.agg #[x, y], z, z2]) w := by
  rw [results_cell_tmp2 hr, hp, hu, hu2]
  have := run_loadVar_mid (P := Try.prog) w b 0 43 [x, y] _ (fun j v hj => by
    rw [Nat.zero_add]
    match j, hj with
    | 0, hj => simp at hj; subst hj; exact h0
    | 1, hj => simp at hj; subst hj; exact h1) Try.underlying43 rfl info_posq
  simp only [asAddr, Sem.run_pure, Result.andThen_ok, this]
set_option maxRecDepth 100000 in
set_option maxHeartbeats 1600000 in
theorem pResize_nil (r c a b : Int) (v : Value) (w : World) : Calls Try.prog 17 #[.pointer none, .int .i64 r, .int .i64 c, .agg #[.int .i64 a, .int .i64 b], v] w fun e w' => e = .returned (.tuple #[.agg #[.int .i64 0, .int .i64 0], .slice none 0 0, .int .i64 1]) ∧ Below w.heap.size w w' := by
  have HL := Lib.hid (below_allocs (below_allocs (Below.refl w.heap.size w) (.cells #[.int .i64 a, .int .i64 b] 43)) (.cells #[.int .i64 0, .int .i64 0] 43))
  go_enter Try.func17, Try.ntmps17
  go_wp2
  have hp := hp_new (W := w.alloc (.cells #[.int .i64 a, .int .i64 b] 43)) (b := w.heap.size + 1) (o := .cells #[.int .i64 0, .int .i64 0] 43) (by simp)
  exact bodyPost_ret (ret_pos3 rfl _ _ (w.heap.size + 1) _ _ _ _ rfl rfl rfl (at_ hp 0 _ rfl).1 (at_ hp 1 _ rfl).1) rfl ⟨rfl, HL.out⟩
set_option maxRecDepth 100000 in
theorem pCrop_nil (r c : Int) (w : World) : Calls Try.prog 20 #[.pointer none, .int .i64 r, .int .i64 c] w fun e w' => e = .returned (.int .i64 1) ∧ w = w' := by
  go_enter Try.func20, Try.ntmps20
  go_wp2
  go_ret
  exact ⟨rfl, rfl⟩
theorem new_rows {base rows cols lines : Nat} {w : World} {q : Pv} (h : PgO base w q (newP rows cols lines)) : Calls Try.prog 6 #[.pointer (some ⟨q.P, 0, none⟩)] w fun e w' => e = .returned (.int .i64 rows) ∧ w = w' := by
  have := pRows_any h
  rwa [show (newP rows cols lines).scr.length = rows from List.length_replicate ..] at this
theorem new_base {base rows cols lines : Nat} {w : World} {q : Pv} (h : PgO base w q (newP rows cols lines)) : Calls Try.prog 8 #[.pointer (some ⟨q.P, 0, none⟩)] w fun e w' => e = .returned (.int .i64 0) ∧ w = w' := pBase_any h
theorem all_len {base : Nat} {w : World} {q : Pv} {g : Pg} (h : PgO base w q g) : Calls Try.prog 9 #[.pointer (some ⟨q.P, 0, none⟩)] w fun e w3 => (∃ A c, e = .returned (.slice A (g.hist.length + g.scr.length) c)) ∧ Below w.heap.size w w3 := by
  refine (pAll_any h).mono ?_
  rintro e w3 ⟨v, L, rfl, hro, hmp, hb⟩
  obtain ⟨A, c, rfl⟩ := row_form hro.1
  have hl : L.length = g.hist.length + g.scr.length := by have := congrArg List.length hmp; simp at this; omega
  exact ⟨⟨A, c, by rw [hl]⟩, hb⟩
theorem new_all {base rows cols lines : Nat} {w : World} {q : Pv} (h : PgO base w q (newP rows cols lines)) : Calls Try.prog 9 #[.pointer (some ⟨q.P, 0, none⟩)] w fun e w3 => (∃ A c, e = .returned (.slice A rows c)) ∧ Below w.heap.size w w3 := by
  have := all_len h
  rwa [show (newP rows cols lines).hist.length + (newP rows cols lines).scr.length = rows from by unfold newP; simp] at this
set_option maxRecDepth 100000 in
set_option maxHeartbeats 6400000 in
theorem none_big_ok (rows cols lines : Nat) (w : World) (hb : 40 < rows ∧ rows ≤ 1000) (hf : 1 ≤ 40 ∧ 40 ≤ 1000 ∧ 2 ≤ cols ∧ cols ≤ 1000) (hl : lines ≤ 100000) : Calls Try.prog 3 #[.int .i64 rows, .int .i64 cols, .int .i64 lines] w (TruePost w) := by
  have HNew : Hid (Calls Try.prog 4 #[.int .i64 40, .int .i64 cols, .int .i64 lines] w (NewPost 40 cols lines w)) := Lib.hid (pnew_ok 40 cols lines w hf.1 hf.2.1 hf.2.2.1 hf.2.2.2 hl)
  have hfit : fitsB 40 cols = true := by unfold fitsB; simp; omega
  have HOKR : Hid (okI 40) := Lib.hid (by unfold okI; omega)
  have l1 : ¬ (lines : Int) < 0 := by omega
  have l2 : ¬ (100000 : Int) < (lines : Int) := by omega
  have b1 : (40 : Int) < (rows : Int) := by omega
  have b2 : (rows : Int) ≤ 1000 := by omega
  have KPut := Lib.hid (fun w => pPut_nil 40 cols 97 ⟨0, 0, 0, 0, 0⟩ w)
  have KErase := Lib.hid (fun w => pErase_nil 40 cols lines ⟨0, 0⟩ w)
  have KWrap := Lib.hid (fun w => pWrap_nil 40 w)
  have KUp := Lib.hid (fun w => pUp_nil 40 cols lines ⟨0, 0⟩ w)
  have KDown := Lib.hid (fun w => pDown_nil 40 cols lines ⟨0, 0⟩ w)
  have KForget := Lib.hid (fun w => pForget_nil w)
  have KRow := Lib.hid (fun w => pRow_nil 40 w HOKR.out)
  have KResize := Lib.hid (fun v w => pResize_nil 40 cols 1 0 v w)
  have KCrop := Lib.hid (fun w => pCrop_nil 40 cols w)
  have KRows := Lib.hid (fun w => pRows_nil w)
  have KCols := Lib.hid (fun w => pCols_nil w)
  have KBase := Lib.hid (fun w => pBase_nil w)
  have KGone := Lib.hid (fun w => pGone_nil w)
  have KAll := Lib.hid (fun w => pAll_nil w)
  have KShifts := Lib.hid (fun w => pShifts_nil w)
  have KAwake := Lib.hid (fun w => awake13 w)
  have HFit := Lib.hid (fun w => rfits_any 40 cols w)
  go_enter Try.func3, Try.ntmps3
  go_wp2_with (first
    | (go_at_call 4; refine HNew.out.mono ?_; rintro e w1 ⟨q, rfl, hq, hb⟩; have HQ := Lib.hid hq; have HBW := Lib.hid hb; have KR1 := Lib.hid (new_rows hq); have KC1 := Lib.hid (pCols_any hq); have KB1 := Lib.hid (new_base hq); have KA1 := Lib.hid (new_all hq); clear hq hb)
    | (go_at_call 5; refine (HFit.out _).mono ?_; rintro e w2 ⟨rfl, rfl⟩)
    | (go_at_call 6; first | ((with_reducible refine (KR1.out).mono ?_); rintro e w2 ⟨rfl, rfl⟩) | (refine (KRows.out _).mono ?_; rintro e w2 ⟨rfl, rfl⟩))
    | (go_at_call 7; first | ((with_reducible refine (KC1.out).mono ?_); rintro e w2 ⟨rfl, rfl⟩) | (refine (KCols.out _).mono ?_; rintro e w2 ⟨rfl, rfl⟩))
    | (go_at_call 8; first | ((with_reducible refine (KB1.out).mono ?_); rintro e w2 ⟨rfl, rfl⟩) | (refine (KBase.out _).mono ?_; rintro e w2 ⟨rfl, rfl⟩))
    | (go_at_call 9; first | ((with_reducible refine (KA1.out).mono ?_); rintro e w2 ⟨⟨A2, c2, rfl⟩, hb⟩; have HBW := Lib.hid (below_tail HBW.out hb); clear hb) | (refine (KAll.out _).mono ?_; rintro e w2 ⟨rfl, rfl⟩))
    | (go_at_call 10; refine (KPut.out _).mono ?_; rintro e w2 ⟨rfl, hb⟩; have HBW := Lib.hid (by first | exact below_tail HBW.out hb | exact below_tail (below_allocs HBW.out _) hb | exact below_tail (below_allocs (below_allocs HBW.out _) _) hb); clear hb)
    | (go_at_call 11; refine (KErase.out _).mono ?_; rintro e w2 ⟨rfl, hb⟩; have HBW := Lib.hid (by first | exact below_tail HBW.out hb | exact below_tail (below_allocs HBW.out _) hb | exact below_tail (below_allocs (below_allocs HBW.out _) _) hb); clear hb)
    | (go_at_call 12; refine (KWrap.out _).mono ?_; rintro e w2 ⟨rfl, rfl⟩)
    | (go_at_call 13; refine (KUp.out _).mono ?_; rintro e w2 ⟨rfl, hb⟩; have HBW := Lib.hid (by first | exact below_tail HBW.out hb | exact below_tail (below_allocs HBW.out _) hb | exact below_tail (below_allocs (below_allocs HBW.out _) _) hb); clear hb)
    | (go_at_call 14; refine (KDown.out _).mono ?_; rintro e w2 ⟨rfl, hb⟩; have HBW := Lib.hid (by first | exact below_tail HBW.out hb | exact below_tail (below_allocs HBW.out _) hb | exact below_tail (below_allocs (below_allocs HBW.out _) _) hb); clear hb)
    | (go_at_call 15; refine (KForget.out _).mono ?_; rintro e w2 ⟨rfl, hb⟩; have HBW := Lib.hid (by first | exact below_tail HBW.out hb | exact below_tail (below_allocs HBW.out _) hb | exact below_tail (below_allocs (below_allocs HBW.out _) _) hb); clear hb)
    | (go_at_call 16; refine (KRow.out _).mono ?_; rintro e w2 ⟨rfl, hb⟩; have HBW := Lib.hid (by first | exact below_tail HBW.out hb | exact below_tail (below_allocs HBW.out _) hb | exact below_tail (below_allocs (below_allocs HBW.out _) _) hb); clear hb)
    | (go_at_call 17; refine (KResize.out _ _).mono ?_; rintro e w2 ⟨rfl, hb⟩; have HBW := Lib.hid (by first | exact below_tail HBW.out hb | exact below_tail (below_allocs HBW.out _) hb | exact below_tail (below_allocs (below_allocs HBW.out _) _) hb); clear hb)
    | (go_at_call 20; refine (KCrop.out _).mono ?_; rintro e w2 ⟨rfl, rfl⟩)
    | (go_at_call 18; refine (KGone.out _).mono ?_; rintro e w2 ⟨rfl, rfl⟩)
    | (go_at_call 19; refine (KShifts.out _).mono ?_; rintro e w2 ⟨rfl, rfl⟩)
    | (go_at_call 21; refine (KAwake.out _).mono ?_; rintro e w2 ⟨rfl, hb⟩; have HBW := Lib.hid (by first | exact below_tail HBW.out hb | exact below_tail (below_allocs HBW.out _) hb | exact below_tail (below_allocs (below_allocs HBW.out _) _) hb); clear hb))
  go_ret
  exact ⟨rfl, HBW.out⟩
set_option maxRecDepth 100000 in
set_option maxHeartbeats 6400000 in
theorem none_big_bad (rows cols lines : Int) (w : World) (ho : okI rows) (hb : 40 < rows ∧ rows ≤ 1000) (hf : fitsB 40 cols = false ∨ lines < 0 ∨ 100000 < lines) : Calls Try.prog 3 #[.int .i64 rows, .int .i64 cols, .int .i64 lines] w (TruePost w) := by
  have HNew := Lib.hid (pnew_bad 40 cols lines w hf)
  have HOKR : Hid (okI 40) := Lib.hid (by unfold okI; omega)
  have b1 : (40 : Int) < rows := by omega
  have b2 : rows ≤ 1000 := by omega
  cases hfit : fitsB 40 cols with
  | false =>
    have KPut := Lib.hid (fun w => pPut_nil 40 cols 97 ⟨0, 0, 0, 0, 0⟩ w)
    have KErase := Lib.hid (fun w => pErase_nil 40 cols lines ⟨0, 0⟩ w)
    have KWrap := Lib.hid (fun w => pWrap_nil 40 w)
    have KUp := Lib.hid (fun w => pUp_nil 40 cols lines ⟨0, 0⟩ w)
    have KDown := Lib.hid (fun w => pDown_nil 40 cols lines ⟨0, 0⟩ w)
    have KForget := Lib.hid (fun w => pForget_nil w)
    have KRow := Lib.hid (fun w => pRow_nil 40 w HOKR.out)
    have KResize := Lib.hid (fun v w => pResize_nil 40 cols 1 0 v w)
    have KCrop := Lib.hid (fun w => pCrop_nil 40 cols w)
    have KRows := Lib.hid (fun w => pRows_nil w)
    have KCols := Lib.hid (fun w => pCols_nil w)
    have KBase := Lib.hid (fun w => pBase_nil w)
    have KGone := Lib.hid (fun w => pGone_nil w)
    have KAll := Lib.hid (fun w => pAll_nil w)
    have KShifts := Lib.hid (fun w => pShifts_nil w)
    have KAwake := Lib.hid (fun w => awake13 w)
    have HFit := Lib.hid (fun w => rfits_any 40 cols w)
    rw [hfit] at HFit
    clear hfit hf
    · have c2 := b2
      clear b1
      go_enter Try.func3, Try.ntmps3
      go_wp2_with (first
        | (go_at_call 4; refine HNew.out.mono ?_; rintro e w1 ⟨rfl, hb⟩; have HBW := Lib.hid hb; clear hb)
        | (go_at_call 5; refine (HFit.out _).mono ?_; rintro e w2 ⟨rfl, rfl⟩)
        | (go_at_call 6; refine (KRows.out _).mono ?_; rintro e w2 ⟨rfl, rfl⟩)
        | (go_at_call 7; refine (KCols.out _).mono ?_; rintro e w2 ⟨rfl, rfl⟩)
        | (go_at_call 8; refine (KBase.out _).mono ?_; rintro e w2 ⟨rfl, rfl⟩)
        | (go_at_call 9; refine (KAll.out _).mono ?_; rintro e w2 ⟨rfl, rfl⟩)
        | (go_at_call 10; refine (KPut.out _).mono ?_; rintro e w2 ⟨rfl, hb⟩; have HBW := Lib.hid (by first | exact below_tail HBW.out hb | exact below_tail (below_allocs HBW.out _) hb | exact below_tail (below_allocs (below_allocs HBW.out _) _) hb); clear hb)
        | (go_at_call 11; refine (KErase.out _).mono ?_; rintro e w2 ⟨rfl, hb⟩; have HBW := Lib.hid (by first | exact below_tail HBW.out hb | exact below_tail (below_allocs HBW.out _) hb | exact below_tail (below_allocs (below_allocs HBW.out _) _) hb); clear hb)
        | (go_at_call 12; refine (KWrap.out _).mono ?_; rintro e w2 ⟨rfl, rfl⟩)
        | (go_at_call 13; refine (KUp.out _).mono ?_; rintro e w2 ⟨rfl, hb⟩; have HBW := Lib.hid (by first | exact below_tail HBW.out hb | exact below_tail (below_allocs HBW.out _) hb | exact below_tail (below_allocs (below_allocs HBW.out _) _) hb); clear hb)
        | (go_at_call 14; refine (KDown.out _).mono ?_; rintro e w2 ⟨rfl, hb⟩; have HBW := Lib.hid (by first | exact below_tail HBW.out hb | exact below_tail (below_allocs HBW.out _) hb | exact below_tail (below_allocs (below_allocs HBW.out _) _) hb); clear hb)
        | (go_at_call 15; refine (KForget.out _).mono ?_; rintro e w2 ⟨rfl, hb⟩; have HBW := Lib.hid (by first | exact below_tail HBW.out hb | exact below_tail (below_allocs HBW.out _) hb | exact below_tail (below_allocs (below_allocs HBW.out _) _) hb); clear hb)
        | (go_at_call 16; refine (KRow.out _).mono ?_; rintro e w2 ⟨rfl, hb⟩; have HBW := Lib.hid (by first | exact below_tail HBW.out hb | exact below_tail (below_allocs HBW.out _) hb | exact below_tail (below_allocs (below_allocs HBW.out _) _) hb); clear hb)
        | (go_at_call 17; refine (KResize.out _ _).mono ?_; rintro e w2 ⟨rfl, hb⟩; have HBW := Lib.hid (by first | exact below_tail HBW.out hb | exact below_tail (below_allocs HBW.out _) hb | exact below_tail (below_allocs (below_allocs HBW.out _) _) hb); clear hb)
        | (go_at_call 20; refine (KCrop.out _).mono ?_; rintro e w2 ⟨rfl, rfl⟩)
        | (go_at_call 18; refine (KGone.out _).mono ?_; rintro e w2 ⟨rfl, rfl⟩)
        | (go_at_call 19; refine (KShifts.out _).mono ?_; rintro e w2 ⟨rfl, rfl⟩)
        | (go_at_call 21; refine (KAwake.out _).mono ?_; rintro e w2 ⟨rfl, hb⟩; have HBW := Lib.hid (by first | exact below_tail HBW.out hb | exact below_tail (below_allocs HBW.out _) hb | exact below_tail (below_allocs (below_allocs HBW.out _) _) hb); clear hb))
      go_ret
      exact ⟨rfl, HBW.out⟩
  | true =>
    have KPut := Lib.hid (fun w => pPut_nil 40 cols 97 ⟨0, 0, 0, 0, 0⟩ w)
    have KErase := Lib.hid (fun w => pErase_nil 40 cols lines ⟨0, 0⟩ w)
    have KWrap := Lib.hid (fun w => pWrap_nil 40 w)
    have KUp := Lib.hid (fun w => pUp_nil 40 cols lines ⟨0, 0⟩ w)
    have KDown := Lib.hid (fun w => pDown_nil 40 cols lines ⟨0, 0⟩ w)
    have KForget := Lib.hid (fun w => pForget_nil w)
    have KRow := Lib.hid (fun w => pRow_nil 40 w HOKR.out)
    have KResize := Lib.hid (fun v w => pResize_nil 40 cols 1 0 v w)
    have KCrop := Lib.hid (fun w => pCrop_nil 40 cols w)
    have KRows := Lib.hid (fun w => pRows_nil w)
    have KCols := Lib.hid (fun w => pCols_nil w)
    have KBase := Lib.hid (fun w => pBase_nil w)
    have KGone := Lib.hid (fun w => pGone_nil w)
    have KAll := Lib.hid (fun w => pAll_nil w)
    have KShifts := Lib.hid (fun w => pShifts_nil w)
    have KAwake := Lib.hid (fun w => awake13 w)
    have HFit := Lib.hid (fun w => rfits_any 40 cols w)
    rw [hfit] at HFit
    have hll : lines < 0 ∨ 100000 < lines := by
      rcases hf with h | h
      · rw [hfit] at h; exact absurd h (by decide)
      · exact h
    clear hfit hf
    · have c2 := b2
      rcases hll with l1 | l1
      · clear b1
        go_enter Try.func3, Try.ntmps3
        go_wp2_with (first
          | (go_at_call 4; refine HNew.out.mono ?_; rintro e w1 ⟨rfl, hb⟩; have HBW := Lib.hid hb; clear hb)
          | (go_at_call 5; refine (HFit.out _).mono ?_; rintro e w2 ⟨rfl, rfl⟩)
          | (go_at_call 6; refine (KRows.out _).mono ?_; rintro e w2 ⟨rfl, rfl⟩)
          | (go_at_call 7; refine (KCols.out _).mono ?_; rintro e w2 ⟨rfl, rfl⟩)
          | (go_at_call 8; refine (KBase.out _).mono ?_; rintro e w2 ⟨rfl, rfl⟩)
          | (go_at_call 9; refine (KAll.out _).mono ?_; rintro e w2 ⟨rfl, rfl⟩)
          | (go_at_call 10; refine (KPut.out _).mono ?_; rintro e w2 ⟨rfl, hb⟩; have HBW := Lib.hid (by first | exact below_tail HBW.out hb | exact below_tail (below_allocs HBW.out _) hb | exact below_tail (below_allocs (below_allocs HBW.out _) _) hb); clear hb)
          | (go_at_call 11; refine (KErase.out _).mono ?_; rintro e w2 ⟨rfl, hb⟩; have HBW := Lib.hid (by first | exact below_tail HBW.out hb | exact below_tail (below_allocs HBW.out _) hb | exact below_tail (below_allocs (below_allocs HBW.out _) _) hb); clear hb)
          | (go_at_call 12; refine (KWrap.out _).mono ?_; rintro e w2 ⟨rfl, rfl⟩)
          | (go_at_call 13; refine (KUp.out _).mono ?_; rintro e w2 ⟨rfl, hb⟩; have HBW := Lib.hid (by first | exact below_tail HBW.out hb | exact below_tail (below_allocs HBW.out _) hb | exact below_tail (below_allocs (below_allocs HBW.out _) _) hb); clear hb)
          | (go_at_call 14; refine (KDown.out _).mono ?_; rintro e w2 ⟨rfl, hb⟩; have HBW := Lib.hid (by first | exact below_tail HBW.out hb | exact below_tail (below_allocs HBW.out _) hb | exact below_tail (below_allocs (below_allocs HBW.out _) _) hb); clear hb)
          | (go_at_call 15; refine (KForget.out _).mono ?_; rintro e w2 ⟨rfl, hb⟩; have HBW := Lib.hid (by first | exact below_tail HBW.out hb | exact below_tail (below_allocs HBW.out _) hb | exact below_tail (below_allocs (below_allocs HBW.out _) _) hb); clear hb)
          | (go_at_call 16; refine (KRow.out _).mono ?_; rintro e w2 ⟨rfl, hb⟩; have HBW := Lib.hid (by first | exact below_tail HBW.out hb | exact below_tail (below_allocs HBW.out _) hb | exact below_tail (below_allocs (below_allocs HBW.out _) _) hb); clear hb)
          | (go_at_call 17; refine (KResize.out _ _).mono ?_; rintro e w2 ⟨rfl, hb⟩; have HBW := Lib.hid (by first | exact below_tail HBW.out hb | exact below_tail (below_allocs HBW.out _) hb | exact below_tail (below_allocs (below_allocs HBW.out _) _) hb); clear hb)
          | (go_at_call 20; refine (KCrop.out _).mono ?_; rintro e w2 ⟨rfl, rfl⟩)
          | (go_at_call 18; refine (KGone.out _).mono ?_; rintro e w2 ⟨rfl, rfl⟩)
          | (go_at_call 19; refine (KShifts.out _).mono ?_; rintro e w2 ⟨rfl, rfl⟩)
          | (go_at_call 21; refine (KAwake.out _).mono ?_; rintro e w2 ⟨rfl, hb⟩; have HBW := Lib.hid (by first | exact below_tail HBW.out hb | exact below_tail (below_allocs HBW.out _) hb | exact below_tail (below_allocs (below_allocs HBW.out _) _) hb); clear hb))
        go_ret
        exact ⟨rfl, HBW.out⟩
      · have l0 : ¬ lines < 0 := by omega
        clear b1
        go_enter Try.func3, Try.ntmps3
        go_wp2_with (first
          | (go_at_call 4; refine HNew.out.mono ?_; rintro e w1 ⟨rfl, hb⟩; have HBW := Lib.hid hb; clear hb)
          | (go_at_call 5; refine (HFit.out _).mono ?_; rintro e w2 ⟨rfl, rfl⟩)
          | (go_at_call 6; refine (KRows.out _).mono ?_; rintro e w2 ⟨rfl, rfl⟩)
          | (go_at_call 7; refine (KCols.out _).mono ?_; rintro e w2 ⟨rfl, rfl⟩)
          | (go_at_call 8; refine (KBase.out _).mono ?_; rintro e w2 ⟨rfl, rfl⟩)
          | (go_at_call 9; refine (KAll.out _).mono ?_; rintro e w2 ⟨rfl, rfl⟩)
          | (go_at_call 10; refine (KPut.out _).mono ?_; rintro e w2 ⟨rfl, hb⟩; have HBW := Lib.hid (by first | exact below_tail HBW.out hb | exact below_tail (below_allocs HBW.out _) hb | exact below_tail (below_allocs (below_allocs HBW.out _) _) hb); clear hb)
          | (go_at_call 11; refine (KErase.out _).mono ?_; rintro e w2 ⟨rfl, hb⟩; have HBW := Lib.hid (by first | exact below_tail HBW.out hb | exact below_tail (below_allocs HBW.out _) hb | exact below_tail (below_allocs (below_allocs HBW.out _) _) hb); clear hb)
          | (go_at_call 12; refine (KWrap.out _).mono ?_; rintro e w2 ⟨rfl, rfl⟩)
          | (go_at_call 13; refine (KUp.out _).mono ?_; rintro e w2 ⟨rfl, hb⟩; have HBW := Lib.hid (by first | exact below_tail HBW.out hb | exact below_tail (below_allocs HBW.out _) hb | exact below_tail (below_allocs (below_allocs HBW.out _) _) hb); clear hb)
          | (go_at_call 14; refine (KDown.out _).mono ?_; rintro e w2 ⟨rfl, hb⟩; have HBW := Lib.hid (by first | exact below_tail HBW.out hb | exact below_tail (below_allocs HBW.out _) hb | exact below_tail (below_allocs (below_allocs HBW.out _) _) hb); clear hb)
          | (go_at_call 15; refine (KForget.out _).mono ?_; rintro e w2 ⟨rfl, hb⟩; have HBW := Lib.hid (by first | exact below_tail HBW.out hb | exact below_tail (below_allocs HBW.out _) hb | exact below_tail (below_allocs (below_allocs HBW.out _) _) hb); clear hb)
          | (go_at_call 16; refine (KRow.out _).mono ?_; rintro e w2 ⟨rfl, hb⟩; have HBW := Lib.hid (by first | exact below_tail HBW.out hb | exact below_tail (below_allocs HBW.out _) hb | exact below_tail (below_allocs (below_allocs HBW.out _) _) hb); clear hb)
          | (go_at_call 17; refine (KResize.out _ _).mono ?_; rintro e w2 ⟨rfl, hb⟩; have HBW := Lib.hid (by first | exact below_tail HBW.out hb | exact below_tail (below_allocs HBW.out _) hb | exact below_tail (below_allocs (below_allocs HBW.out _) _) hb); clear hb)
          | (go_at_call 20; refine (KCrop.out _).mono ?_; rintro e w2 ⟨rfl, rfl⟩)
          | (go_at_call 18; refine (KGone.out _).mono ?_; rintro e w2 ⟨rfl, rfl⟩)
          | (go_at_call 19; refine (KShifts.out _).mono ?_; rintro e w2 ⟨rfl, rfl⟩)
          | (go_at_call 21; refine (KAwake.out _).mono ?_; rintro e w2 ⟨rfl, hb⟩; have HBW := Lib.hid (by first | exact below_tail HBW.out hb | exact below_tail (below_allocs HBW.out _) hb | exact below_tail (below_allocs (below_allocs HBW.out _) _) hb); clear hb))
        go_ret
        exact ⟨rfl, HBW.out⟩
set_option maxRecDepth 100000 in
set_option maxHeartbeats 6400000 in
theorem none_small_ok (rows cols lines : Nat) (w : World) (hb : ¬ (40 < rows ∧ rows ≤ 1000)) (hf : 1 ≤ rows ∧ rows ≤ 1000 ∧ 2 ≤ cols ∧ cols ≤ 1000) (hl : lines ≤ 100000) : Calls Try.prog 3 #[.int .i64 rows, .int .i64 cols, .int .i64 lines] w (TruePost w) := by
  have HNew : Hid (Calls Try.prog 4 #[.int .i64 rows, .int .i64 cols, .int .i64 lines] w (NewPost rows cols lines w)) := Lib.hid (pnew_ok rows cols lines w hf.1 hf.2.1 hf.2.2.1 hf.2.2.2 hl)
  have hfit : fitsB (rows : Int) cols = true := by unfold fitsB; simp; omega
  have HOKR : Hid (okI (rows : Int)) := Lib.hid (by unfold okI; omega)
  have l1 : ¬ (lines : Int) < 0 := by omega
  have l2 : ¬ (100000 : Int) < (lines : Int) := by omega
  have b1 : (40 : Int) < (rows : Int) → ¬ (rows : Int) ≤ 1000 := by omega
  have b3 : ((40 : Int) < (rows : Int)) = False := eq_false (by omega)
  have KPut := Lib.hid (fun w => pPut_nil rows cols 97 ⟨0, 0, 0, 0, 0⟩ w)
  have KErase := Lib.hid (fun w => pErase_nil rows cols lines ⟨0, 0⟩ w)
  have KWrap := Lib.hid (fun w => pWrap_nil rows w)
  have KUp := Lib.hid (fun w => pUp_nil rows cols lines ⟨0, 0⟩ w)
  have KDown := Lib.hid (fun w => pDown_nil rows cols lines ⟨0, 0⟩ w)
  have KForget := Lib.hid (fun w => pForget_nil w)
  have KRow := Lib.hid (fun w => pRow_nil rows w HOKR.out)
  have KResize := Lib.hid (fun v w => pResize_nil rows cols 1 0 v w)
  have KCrop := Lib.hid (fun w => pCrop_nil rows cols w)
  have KRows := Lib.hid (fun w => pRows_nil w)
  have KCols := Lib.hid (fun w => pCols_nil w)
  have KBase := Lib.hid (fun w => pBase_nil w)
  have KGone := Lib.hid (fun w => pGone_nil w)
  have KAll := Lib.hid (fun w => pAll_nil w)
  have KShifts := Lib.hid (fun w => pShifts_nil w)
  have KAwake := Lib.hid (fun w => awake13 w)
  have HFit := Lib.hid (fun w => rfits_any rows cols w)
  go_enter Try.func3, Try.ntmps3
  go_wp2_with (first
    | (go_at_call 4; refine HNew.out.mono ?_; rintro e w1 ⟨q, rfl, hq, hb⟩; have HQ := Lib.hid hq; have HBW := Lib.hid hb; have KR1 := Lib.hid (new_rows hq); have KC1 := Lib.hid (pCols_any hq); have KB1 := Lib.hid (new_base hq); have KA1 := Lib.hid (new_all hq); clear hq hb)
    | (go_at_call 5; refine (HFit.out _).mono ?_; rintro e w2 ⟨rfl, rfl⟩)
    | (go_at_call 6; first | ((with_reducible refine (KR1.out).mono ?_); rintro e w2 ⟨rfl, rfl⟩) | (refine (KRows.out _).mono ?_; rintro e w2 ⟨rfl, rfl⟩))
    | (go_at_call 7; first | ((with_reducible refine (KC1.out).mono ?_); rintro e w2 ⟨rfl, rfl⟩) | (refine (KCols.out _).mono ?_; rintro e w2 ⟨rfl, rfl⟩))
    | (go_at_call 8; first | ((with_reducible refine (KB1.out).mono ?_); rintro e w2 ⟨rfl, rfl⟩) | (refine (KBase.out _).mono ?_; rintro e w2 ⟨rfl, rfl⟩))
    | (go_at_call 9; first | ((with_reducible refine (KA1.out).mono ?_); rintro e w2 ⟨⟨A2, c2, rfl⟩, hb⟩; have HBW := Lib.hid (below_tail HBW.out hb); clear hb) | (refine (KAll.out _).mono ?_; rintro e w2 ⟨rfl, rfl⟩))
    | (go_at_call 10; refine (KPut.out _).mono ?_; rintro e w2 ⟨rfl, hb⟩; have HBW := Lib.hid (by first | exact below_tail HBW.out hb | exact below_tail (below_allocs HBW.out _) hb | exact below_tail (below_allocs (below_allocs HBW.out _) _) hb); clear hb)
    | (go_at_call 11; refine (KErase.out _).mono ?_; rintro e w2 ⟨rfl, hb⟩; have HBW := Lib.hid (by first | exact below_tail HBW.out hb | exact below_tail (below_allocs HBW.out _) hb | exact below_tail (below_allocs (below_allocs HBW.out _) _) hb); clear hb)
    | (go_at_call 12; refine (KWrap.out _).mono ?_; rintro e w2 ⟨rfl, rfl⟩)
    | (go_at_call 13; refine (KUp.out _).mono ?_; rintro e w2 ⟨rfl, hb⟩; have HBW := Lib.hid (by first | exact below_tail HBW.out hb | exact below_tail (below_allocs HBW.out _) hb | exact below_tail (below_allocs (below_allocs HBW.out _) _) hb); clear hb)
    | (go_at_call 14; refine (KDown.out _).mono ?_; rintro e w2 ⟨rfl, hb⟩; have HBW := Lib.hid (by first | exact below_tail HBW.out hb | exact below_tail (below_allocs HBW.out _) hb | exact below_tail (below_allocs (below_allocs HBW.out _) _) hb); clear hb)
    | (go_at_call 15; refine (KForget.out _).mono ?_; rintro e w2 ⟨rfl, hb⟩; have HBW := Lib.hid (by first | exact below_tail HBW.out hb | exact below_tail (below_allocs HBW.out _) hb | exact below_tail (below_allocs (below_allocs HBW.out _) _) hb); clear hb)
    | (go_at_call 16; refine (KRow.out _).mono ?_; rintro e w2 ⟨rfl, hb⟩; have HBW := Lib.hid (by first | exact below_tail HBW.out hb | exact below_tail (below_allocs HBW.out _) hb | exact below_tail (below_allocs (below_allocs HBW.out _) _) hb); clear hb)
    | (go_at_call 17; refine (KResize.out _ _).mono ?_; rintro e w2 ⟨rfl, hb⟩; have HBW := Lib.hid (by first | exact below_tail HBW.out hb | exact below_tail (below_allocs HBW.out _) hb | exact below_tail (below_allocs (below_allocs HBW.out _) _) hb); clear hb)
    | (go_at_call 20; refine (KCrop.out _).mono ?_; rintro e w2 ⟨rfl, rfl⟩)
    | (go_at_call 18; refine (KGone.out _).mono ?_; rintro e w2 ⟨rfl, rfl⟩)
    | (go_at_call 19; refine (KShifts.out _).mono ?_; rintro e w2 ⟨rfl, rfl⟩)
    | (go_at_call 21; refine (KAwake.out _).mono ?_; rintro e w2 ⟨rfl, hb⟩; have HBW := Lib.hid (by first | exact below_tail HBW.out hb | exact below_tail (below_allocs HBW.out _) hb | exact below_tail (below_allocs (below_allocs HBW.out _) _) hb); clear hb))
  go_ret
  exact ⟨rfl, HBW.out⟩
set_option maxRecDepth 100000 in
set_option maxHeartbeats 6400000 in
theorem none_small_bad (rows cols lines : Int) (w : World) (ho : okI rows) (hb : ¬ (40 < rows ∧ rows ≤ 1000)) (hf : fitsB rows cols = false ∨ lines < 0 ∨ 100000 < lines) : Calls Try.prog 3 #[.int .i64 rows, .int .i64 cols, .int .i64 lines] w (TruePost w) := by
  have HNew := Lib.hid (pnew_bad rows cols lines w hf)
  have HOKR : Hid (okI rows) := Lib.hid (ho)
  have b3 : ((40 : Int) < rows ∧ rows ≤ 1000) = False := eq_false (by omega)
  have b1 : (40 : Int) < rows → ¬ rows ≤ 1000 := by omega
  cases hfit : fitsB rows cols with
  | false =>
    have KPut := Lib.hid (fun w => pPut_nil rows cols 97 ⟨0, 0, 0, 0, 0⟩ w)
    have KErase := Lib.hid (fun w => pErase_nil rows cols lines ⟨0, 0⟩ w)
    have KWrap := Lib.hid (fun w => pWrap_nil rows w)
    have KUp := Lib.hid (fun w => pUp_nil rows cols lines ⟨0, 0⟩ w)
    have KDown := Lib.hid (fun w => pDown_nil rows cols lines ⟨0, 0⟩ w)
    have KForget := Lib.hid (fun w => pForget_nil w)
    have KRow := Lib.hid (fun w => pRow_nil rows w HOKR.out)
    have KResize := Lib.hid (fun v w => pResize_nil rows cols 1 0 v w)
    have KCrop := Lib.hid (fun w => pCrop_nil rows cols w)
    have KRows := Lib.hid (fun w => pRows_nil w)
    have KCols := Lib.hid (fun w => pCols_nil w)
    have KBase := Lib.hid (fun w => pBase_nil w)
    have KGone := Lib.hid (fun w => pGone_nil w)
    have KAll := Lib.hid (fun w => pAll_nil w)
    have KShifts := Lib.hid (fun w => pShifts_nil w)
    have KAwake := Lib.hid (fun w => awake13 w)
    have HFit := Lib.hid (fun w => rfits_any rows cols w)
    rw [hfit] at HFit
    clear hfit hf
    by_cases c1 : (40 : Int) < rows
    · have c2 : ¬ rows ≤ 1000 := b1 c1
      clear b1
      go_enter Try.func3, Try.ntmps3
      go_wp2_with (first
        | (go_at_call 4; refine HNew.out.mono ?_; rintro e w1 ⟨rfl, hb⟩; have HBW := Lib.hid hb; clear hb)
        | (go_at_call 5; refine (HFit.out _).mono ?_; rintro e w2 ⟨rfl, rfl⟩)
        | (go_at_call 6; refine (KRows.out _).mono ?_; rintro e w2 ⟨rfl, rfl⟩)
        | (go_at_call 7; refine (KCols.out _).mono ?_; rintro e w2 ⟨rfl, rfl⟩)
        | (go_at_call 8; refine (KBase.out _).mono ?_; rintro e w2 ⟨rfl, rfl⟩)
        | (go_at_call 9; refine (KAll.out _).mono ?_; rintro e w2 ⟨rfl, rfl⟩)
        | (go_at_call 10; refine (KPut.out _).mono ?_; rintro e w2 ⟨rfl, hb⟩; have HBW := Lib.hid (by first | exact below_tail HBW.out hb | exact below_tail (below_allocs HBW.out _) hb | exact below_tail (below_allocs (below_allocs HBW.out _) _) hb); clear hb)
        | (go_at_call 11; refine (KErase.out _).mono ?_; rintro e w2 ⟨rfl, hb⟩; have HBW := Lib.hid (by first | exact below_tail HBW.out hb | exact below_tail (below_allocs HBW.out _) hb | exact below_tail (below_allocs (below_allocs HBW.out _) _) hb); clear hb)
        | (go_at_call 12; refine (KWrap.out _).mono ?_; rintro e w2 ⟨rfl, rfl⟩)
        | (go_at_call 13; refine (KUp.out _).mono ?_; rintro e w2 ⟨rfl, hb⟩; have HBW := Lib.hid (by first | exact below_tail HBW.out hb | exact below_tail (below_allocs HBW.out _) hb | exact below_tail (below_allocs (below_allocs HBW.out _) _) hb); clear hb)
        | (go_at_call 14; refine (KDown.out _).mono ?_; rintro e w2 ⟨rfl, hb⟩; have HBW := Lib.hid (by first | exact below_tail HBW.out hb | exact below_tail (below_allocs HBW.out _) hb | exact below_tail (below_allocs (below_allocs HBW.out _) _) hb); clear hb)
        | (go_at_call 15; refine (KForget.out _).mono ?_; rintro e w2 ⟨rfl, hb⟩; have HBW := Lib.hid (by first | exact below_tail HBW.out hb | exact below_tail (below_allocs HBW.out _) hb | exact below_tail (below_allocs (below_allocs HBW.out _) _) hb); clear hb)
        | (go_at_call 16; refine (KRow.out _).mono ?_; rintro e w2 ⟨rfl, hb⟩; have HBW := Lib.hid (by first | exact below_tail HBW.out hb | exact below_tail (below_allocs HBW.out _) hb | exact below_tail (below_allocs (below_allocs HBW.out _) _) hb); clear hb)
        | (go_at_call 17; refine (KResize.out _ _).mono ?_; rintro e w2 ⟨rfl, hb⟩; have HBW := Lib.hid (by first | exact below_tail HBW.out hb | exact below_tail (below_allocs HBW.out _) hb | exact below_tail (below_allocs (below_allocs HBW.out _) _) hb); clear hb)
        | (go_at_call 20; refine (KCrop.out _).mono ?_; rintro e w2 ⟨rfl, rfl⟩)
        | (go_at_call 18; refine (KGone.out _).mono ?_; rintro e w2 ⟨rfl, rfl⟩)
        | (go_at_call 19; refine (KShifts.out _).mono ?_; rintro e w2 ⟨rfl, rfl⟩)
        | (go_at_call 21; refine (KAwake.out _).mono ?_; rintro e w2 ⟨rfl, hb⟩; have HBW := Lib.hid (by first | exact below_tail HBW.out hb | exact below_tail (below_allocs HBW.out _) hb | exact below_tail (below_allocs (below_allocs HBW.out _) _) hb); clear hb))
      go_ret
      exact ⟨rfl, HBW.out⟩
    · have c3 : ¬ (40 : Int) < rows := c1
      clear b1
      go_enter Try.func3, Try.ntmps3
      go_wp2_with (first
        | (go_at_call 4; refine HNew.out.mono ?_; rintro e w1 ⟨rfl, hb⟩; have HBW := Lib.hid hb; clear hb)
        | (go_at_call 5; refine (HFit.out _).mono ?_; rintro e w2 ⟨rfl, rfl⟩)
        | (go_at_call 6; refine (KRows.out _).mono ?_; rintro e w2 ⟨rfl, rfl⟩)
        | (go_at_call 7; refine (KCols.out _).mono ?_; rintro e w2 ⟨rfl, rfl⟩)
        | (go_at_call 8; refine (KBase.out _).mono ?_; rintro e w2 ⟨rfl, rfl⟩)
        | (go_at_call 9; refine (KAll.out _).mono ?_; rintro e w2 ⟨rfl, rfl⟩)
        | (go_at_call 10; refine (KPut.out _).mono ?_; rintro e w2 ⟨rfl, hb⟩; have HBW := Lib.hid (by first | exact below_tail HBW.out hb | exact below_tail (below_allocs HBW.out _) hb | exact below_tail (below_allocs (below_allocs HBW.out _) _) hb); clear hb)
        | (go_at_call 11; refine (KErase.out _).mono ?_; rintro e w2 ⟨rfl, hb⟩; have HBW := Lib.hid (by first | exact below_tail HBW.out hb | exact below_tail (below_allocs HBW.out _) hb | exact below_tail (below_allocs (below_allocs HBW.out _) _) hb); clear hb)
        | (go_at_call 12; refine (KWrap.out _).mono ?_; rintro e w2 ⟨rfl, rfl⟩)
        | (go_at_call 13; refine (KUp.out _).mono ?_; rintro e w2 ⟨rfl, hb⟩; have HBW := Lib.hid (by first | exact below_tail HBW.out hb | exact below_tail (below_allocs HBW.out _) hb | exact below_tail (below_allocs (below_allocs HBW.out _) _) hb); clear hb)
        | (go_at_call 14; refine (KDown.out _).mono ?_; rintro e w2 ⟨rfl, hb⟩; have HBW := Lib.hid (by first | exact below_tail HBW.out hb | exact below_tail (below_allocs HBW.out _) hb | exact below_tail (below_allocs (below_allocs HBW.out _) _) hb); clear hb)
        | (go_at_call 15; refine (KForget.out _).mono ?_; rintro e w2 ⟨rfl, hb⟩; have HBW := Lib.hid (by first | exact below_tail HBW.out hb | exact below_tail (below_allocs HBW.out _) hb | exact below_tail (below_allocs (below_allocs HBW.out _) _) hb); clear hb)
        | (go_at_call 16; refine (KRow.out _).mono ?_; rintro e w2 ⟨rfl, hb⟩; have HBW := Lib.hid (by first | exact below_tail HBW.out hb | exact below_tail (below_allocs HBW.out _) hb | exact below_tail (below_allocs (below_allocs HBW.out _) _) hb); clear hb)
        | (go_at_call 17; refine (KResize.out _ _).mono ?_; rintro e w2 ⟨rfl, hb⟩; have HBW := Lib.hid (by first | exact below_tail HBW.out hb | exact below_tail (below_allocs HBW.out _) hb | exact below_tail (below_allocs (below_allocs HBW.out _) _) hb); clear hb)
        | (go_at_call 20; refine (KCrop.out _).mono ?_; rintro e w2 ⟨rfl, rfl⟩)
        | (go_at_call 18; refine (KGone.out _).mono ?_; rintro e w2 ⟨rfl, rfl⟩)
        | (go_at_call 19; refine (KShifts.out _).mono ?_; rintro e w2 ⟨rfl, rfl⟩)
        | (go_at_call 21; refine (KAwake.out _).mono ?_; rintro e w2 ⟨rfl, hb⟩; have HBW := Lib.hid (by first | exact below_tail HBW.out hb | exact below_tail (below_allocs HBW.out _) hb | exact below_tail (below_allocs (below_allocs HBW.out _) _) hb); clear hb))
      go_ret
      exact ⟨rfl, HBW.out⟩
  | true =>
    have KPut := Lib.hid (fun w => pPut_nil rows cols 97 ⟨0, 0, 0, 0, 0⟩ w)
    have KErase := Lib.hid (fun w => pErase_nil rows cols lines ⟨0, 0⟩ w)
    have KWrap := Lib.hid (fun w => pWrap_nil rows w)
    have KUp := Lib.hid (fun w => pUp_nil rows cols lines ⟨0, 0⟩ w)
    have KDown := Lib.hid (fun w => pDown_nil rows cols lines ⟨0, 0⟩ w)
    have KForget := Lib.hid (fun w => pForget_nil w)
    have KRow := Lib.hid (fun w => pRow_nil rows w HOKR.out)
    have KResize := Lib.hid (fun v w => pResize_nil rows cols 1 0 v w)
    have KCrop := Lib.hid (fun w => pCrop_nil rows cols w)
    have KRows := Lib.hid (fun w => pRows_nil w)
    have KCols := Lib.hid (fun w => pCols_nil w)
    have KBase := Lib.hid (fun w => pBase_nil w)
    have KGone := Lib.hid (fun w => pGone_nil w)
    have KAll := Lib.hid (fun w => pAll_nil w)
    have KShifts := Lib.hid (fun w => pShifts_nil w)
    have KAwake := Lib.hid (fun w => awake13 w)
    have HFit := Lib.hid (fun w => rfits_any rows cols w)
    rw [hfit] at HFit
    have hll : lines < 0 ∨ 100000 < lines := by
      rcases hf with h | h
      · rw [hfit] at h; exact absurd h (by decide)
      · exact h
    clear hfit hf
    by_cases c1 : (40 : Int) < rows
    · have c2 : ¬ rows ≤ 1000 := b1 c1
      rcases hll with l1 | l1
      · clear b1
        go_enter Try.func3, Try.ntmps3
        go_wp2_with (first
          | (go_at_call 4; refine HNew.out.mono ?_; rintro e w1 ⟨rfl, hb⟩; have HBW := Lib.hid hb; clear hb)
          | (go_at_call 5; refine (HFit.out _).mono ?_; rintro e w2 ⟨rfl, rfl⟩)
          | (go_at_call 6; refine (KRows.out _).mono ?_; rintro e w2 ⟨rfl, rfl⟩)
          | (go_at_call 7; refine (KCols.out _).mono ?_; rintro e w2 ⟨rfl, rfl⟩)
          | (go_at_call 8; refine (KBase.out _).mono ?_; rintro e w2 ⟨rfl, rfl⟩)
          | (go_at_call 9; refine (KAll.out _).mono ?_; rintro e w2 ⟨rfl, rfl⟩)
          | (go_at_call 10; refine (KPut.out _).mono ?_; rintro e w2 ⟨rfl, hb⟩; have HBW := Lib.hid (by first | exact below_tail HBW.out hb | exact below_tail (below_allocs HBW.out _) hb | exact below_tail (below_allocs (below_allocs HBW.out _) _) hb); clear hb)
          | (go_at_call 11; refine (KErase.out _).mono ?_; rintro e w2 ⟨rfl, hb⟩; have HBW := Lib.hid (by first | exact below_tail HBW.out hb | exact below_tail (below_allocs HBW.out _) hb | exact below_tail (below_allocs (below_allocs HBW.out _) _) hb); clear hb)
          | (go_at_call 12; refine (KWrap.out _).mono ?_; rintro e w2 ⟨rfl, rfl⟩)
          | (go_at_call 13; refine (KUp.out _).mono ?_; rintro e w2 ⟨rfl, hb⟩; have HBW := Lib.hid (by first | exact below_tail HBW.out hb | exact below_tail (below_allocs HBW.out _) hb | exact below_tail (below_allocs (below_allocs HBW.out _) _) hb); clear hb)
          | (go_at_call 14; refine (KDown.out _).mono ?_; rintro e w2 ⟨rfl, hb⟩; have HBW := Lib.hid (by first | exact below_tail HBW.out hb | exact below_tail (below_allocs HBW.out _) hb | exact below_tail (below_allocs (below_allocs HBW.out _) _) hb); clear hb)
          | (go_at_call 15; refine (KForget.out _).mono ?_; rintro e w2 ⟨rfl, hb⟩; have HBW := Lib.hid (by first | exact below_tail HBW.out hb | exact below_tail (below_allocs HBW.out _) hb | exact below_tail (below_allocs (below_allocs HBW.out _) _) hb); clear hb)
          | (go_at_call 16; refine (KRow.out _).mono ?_; rintro e w2 ⟨rfl, hb⟩; have HBW := Lib.hid (by first | exact below_tail HBW.out hb | exact below_tail (below_allocs HBW.out _) hb | exact below_tail (below_allocs (below_allocs HBW.out _) _) hb); clear hb)
          | (go_at_call 17; refine (KResize.out _ _).mono ?_; rintro e w2 ⟨rfl, hb⟩; have HBW := Lib.hid (by first | exact below_tail HBW.out hb | exact below_tail (below_allocs HBW.out _) hb | exact below_tail (below_allocs (below_allocs HBW.out _) _) hb); clear hb)
          | (go_at_call 20; refine (KCrop.out _).mono ?_; rintro e w2 ⟨rfl, rfl⟩)
          | (go_at_call 18; refine (KGone.out _).mono ?_; rintro e w2 ⟨rfl, rfl⟩)
          | (go_at_call 19; refine (KShifts.out _).mono ?_; rintro e w2 ⟨rfl, rfl⟩)
          | (go_at_call 21; refine (KAwake.out _).mono ?_; rintro e w2 ⟨rfl, hb⟩; have HBW := Lib.hid (by first | exact below_tail HBW.out hb | exact below_tail (below_allocs HBW.out _) hb | exact below_tail (below_allocs (below_allocs HBW.out _) _) hb); clear hb))
        go_ret
        exact ⟨rfl, HBW.out⟩
      · have l0 : ¬ lines < 0 := by omega
        clear b1
        go_enter Try.func3, Try.ntmps3
        go_wp2_with (first
          | (go_at_call 4; refine HNew.out.mono ?_; rintro e w1 ⟨rfl, hb⟩; have HBW := Lib.hid hb; clear hb)
          | (go_at_call 5; refine (HFit.out _).mono ?_; rintro e w2 ⟨rfl, rfl⟩)
          | (go_at_call 6; refine (KRows.out _).mono ?_; rintro e w2 ⟨rfl, rfl⟩)
          | (go_at_call 7; refine (KCols.out _).mono ?_; rintro e w2 ⟨rfl, rfl⟩)
          | (go_at_call 8; refine (KBase.out _).mono ?_; rintro e w2 ⟨rfl, rfl⟩)
          | (go_at_call 9; refine (KAll.out _).mono ?_; rintro e w2 ⟨rfl, rfl⟩)
          | (go_at_call 10; refine (KPut.out _).mono ?_; rintro e w2 ⟨rfl, hb⟩; have HBW := Lib.hid (by first | exact below_tail HBW.out hb | exact below_tail (below_allocs HBW.out _) hb | exact below_tail (below_allocs (below_allocs HBW.out _) _) hb); clear hb)
          | (go_at_call 11; refine (KErase.out _).mono ?_; rintro e w2 ⟨rfl, hb⟩; have HBW := Lib.hid (by first | exact below_tail HBW.out hb | exact below_tail (below_allocs HBW.out _) hb | exact below_tail (below_allocs (below_allocs HBW.out _) _) hb); clear hb)
          | (go_at_call 12; refine (KWrap.out _).mono ?_; rintro e w2 ⟨rfl, rfl⟩)
          | (go_at_call 13; refine (KUp.out _).mono ?_; rintro e w2 ⟨rfl, hb⟩; have HBW := Lib.hid (by first | exact below_tail HBW.out hb | exact below_tail (below_allocs HBW.out _) hb | exact below_tail (below_allocs (below_allocs HBW.out _) _) hb); clear hb)
          | (go_at_call 14; refine (KDown.out _).mono ?_; rintro e w2 ⟨rfl, hb⟩; have HBW := Lib.hid (by first | exact below_tail HBW.out hb | exact below_tail (below_allocs HBW.out _) hb | exact below_tail (below_allocs (below_allocs HBW.out _) _) hb); clear hb)
          | (go_at_call 15; refine (KForget.out _).mono ?_; rintro e w2 ⟨rfl, hb⟩; have HBW := Lib.hid (by first | exact below_tail HBW.out hb | exact below_tail (below_allocs HBW.out _) hb | exact below_tail (below_allocs (below_allocs HBW.out _) _) hb); clear hb)
          | (go_at_call 16; refine (KRow.out _).mono ?_; rintro e w2 ⟨rfl, hb⟩; have HBW := Lib.hid (by first | exact below_tail HBW.out hb | exact below_tail (below_allocs HBW.out _) hb | exact below_tail (below_allocs (below_allocs HBW.out _) _) hb); clear hb)
          | (go_at_call 17; refine (KResize.out _ _).mono ?_; rintro e w2 ⟨rfl, hb⟩; have HBW := Lib.hid (by first | exact below_tail HBW.out hb | exact below_tail (below_allocs HBW.out _) hb | exact below_tail (below_allocs (below_allocs HBW.out _) _) hb); clear hb)
          | (go_at_call 20; refine (KCrop.out _).mono ?_; rintro e w2 ⟨rfl, rfl⟩)
          | (go_at_call 18; refine (KGone.out _).mono ?_; rintro e w2 ⟨rfl, rfl⟩)
          | (go_at_call 19; refine (KShifts.out _).mono ?_; rintro e w2 ⟨rfl, rfl⟩)
          | (go_at_call 21; refine (KAwake.out _).mono ?_; rintro e w2 ⟨rfl, hb⟩; have HBW := Lib.hid (by first | exact below_tail HBW.out hb | exact below_tail (below_allocs HBW.out _) hb | exact below_tail (below_allocs (below_allocs HBW.out _) _) hb); clear hb))
        go_ret
        exact ⟨rfl, HBW.out⟩
    · have c3 : ¬ (40 : Int) < rows := c1
      rcases hll with l1 | l1
      · clear b1
        go_enter Try.func3, Try.ntmps3
        go_wp2_with (first
          | (go_at_call 4; refine HNew.out.mono ?_; rintro e w1 ⟨rfl, hb⟩; have HBW := Lib.hid hb; clear hb)
          | (go_at_call 5; refine (HFit.out _).mono ?_; rintro e w2 ⟨rfl, rfl⟩)
          | (go_at_call 6; refine (KRows.out _).mono ?_; rintro e w2 ⟨rfl, rfl⟩)
          | (go_at_call 7; refine (KCols.out _).mono ?_; rintro e w2 ⟨rfl, rfl⟩)
          | (go_at_call 8; refine (KBase.out _).mono ?_; rintro e w2 ⟨rfl, rfl⟩)
          | (go_at_call 9; refine (KAll.out _).mono ?_; rintro e w2 ⟨rfl, rfl⟩)
          | (go_at_call 10; refine (KPut.out _).mono ?_; rintro e w2 ⟨rfl, hb⟩; have HBW := Lib.hid (by first | exact below_tail HBW.out hb | exact below_tail (below_allocs HBW.out _) hb | exact below_tail (below_allocs (below_allocs HBW.out _) _) hb); clear hb)
          | (go_at_call 11; refine (KErase.out _).mono ?_; rintro e w2 ⟨rfl, hb⟩; have HBW := Lib.hid (by first | exact below_tail HBW.out hb | exact below_tail (below_allocs HBW.out _) hb | exact below_tail (below_allocs (below_allocs HBW.out _) _) hb); clear hb)
          | (go_at_call 12; refine (KWrap.out _).mono ?_; rintro e w2 ⟨rfl, rfl⟩)
          | (go_at_call 13; refine (KUp.out _).mono ?_; rintro e w2 ⟨rfl, hb⟩; have HBW := Lib.hid (by first | exact below_tail HBW.out hb | exact below_tail (below_allocs HBW.out _) hb | exact below_tail (below_allocs (below_allocs HBW.out _) _) hb); clear hb)
          | (go_at_call 14; refine (KDown.out _).mono ?_; rintro e w2 ⟨rfl, hb⟩; have HBW := Lib.hid (by first | exact below_tail HBW.out hb | exact below_tail (below_allocs HBW.out _) hb | exact below_tail (below_allocs (below_allocs HBW.out _) _) hb); clear hb)
          | (go_at_call 15; refine (KForget.out _).mono ?_; rintro e w2 ⟨rfl, hb⟩; have HBW := Lib.hid (by first | exact below_tail HBW.out hb | exact below_tail (below_allocs HBW.out _) hb | exact below_tail (below_allocs (below_allocs HBW.out _) _) hb); clear hb)
          | (go_at_call 16; refine (KRow.out _).mono ?_; rintro e w2 ⟨rfl, hb⟩; have HBW := Lib.hid (by first | exact below_tail HBW.out hb | exact below_tail (below_allocs HBW.out _) hb | exact below_tail (below_allocs (below_allocs HBW.out _) _) hb); clear hb)
          | (go_at_call 17; refine (KResize.out _ _).mono ?_; rintro e w2 ⟨rfl, hb⟩; have HBW := Lib.hid (by first | exact below_tail HBW.out hb | exact below_tail (below_allocs HBW.out _) hb | exact below_tail (below_allocs (below_allocs HBW.out _) _) hb); clear hb)
          | (go_at_call 20; refine (KCrop.out _).mono ?_; rintro e w2 ⟨rfl, rfl⟩)
          | (go_at_call 18; refine (KGone.out _).mono ?_; rintro e w2 ⟨rfl, rfl⟩)
          | (go_at_call 19; refine (KShifts.out _).mono ?_; rintro e w2 ⟨rfl, rfl⟩)
          | (go_at_call 21; refine (KAwake.out _).mono ?_; rintro e w2 ⟨rfl, hb⟩; have HBW := Lib.hid (by first | exact below_tail HBW.out hb | exact below_tail (below_allocs HBW.out _) hb | exact below_tail (below_allocs (below_allocs HBW.out _) _) hb); clear hb))
        go_ret
        exact ⟨rfl, HBW.out⟩
      · have l0 : ¬ lines < 0 := by omega
        clear b1
        go_enter Try.func3, Try.ntmps3
        go_wp2_with (first
          | (go_at_call 4; refine HNew.out.mono ?_; rintro e w1 ⟨rfl, hb⟩; have HBW := Lib.hid hb; clear hb)
          | (go_at_call 5; refine (HFit.out _).mono ?_; rintro e w2 ⟨rfl, rfl⟩)
          | (go_at_call 6; refine (KRows.out _).mono ?_; rintro e w2 ⟨rfl, rfl⟩)
          | (go_at_call 7; refine (KCols.out _).mono ?_; rintro e w2 ⟨rfl, rfl⟩)
          | (go_at_call 8; refine (KBase.out _).mono ?_; rintro e w2 ⟨rfl, rfl⟩)
          | (go_at_call 9; refine (KAll.out _).mono ?_; rintro e w2 ⟨rfl, rfl⟩)
          | (go_at_call 10; refine (KPut.out _).mono ?_; rintro e w2 ⟨rfl, hb⟩; have HBW := Lib.hid (by first | exact below_tail HBW.out hb | exact below_tail (below_allocs HBW.out _) hb | exact below_tail (below_allocs (below_allocs HBW.out _) _) hb); clear hb)
          | (go_at_call 11; refine (KErase.out _).mono ?_; rintro e w2 ⟨rfl, hb⟩; have HBW := Lib.hid (by first | exact below_tail HBW.out hb | exact below_tail (below_allocs HBW.out _) hb | exact below_tail (below_allocs (below_allocs HBW.out _) _) hb); clear hb)
          | (go_at_call 12; refine (KWrap.out _).mono ?_; rintro e w2 ⟨rfl, rfl⟩)
          | (go_at_call 13; refine (KUp.out _).mono ?_; rintro e w2 ⟨rfl, hb⟩; have HBW := Lib.hid (by first | exact below_tail HBW.out hb | exact below_tail (below_allocs HBW.out _) hb | exact below_tail (below_allocs (below_allocs HBW.out _) _) hb); clear hb)
          | (go_at_call 14; refine (KDown.out _).mono ?_; rintro e w2 ⟨rfl, hb⟩; have HBW := Lib.hid (by first | exact below_tail HBW.out hb | exact below_tail (below_allocs HBW.out _) hb | exact below_tail (below_allocs (below_allocs HBW.out _) _) hb); clear hb)
          | (go_at_call 15; refine (KForget.out _).mono ?_; rintro e w2 ⟨rfl, hb⟩; have HBW := Lib.hid (by first | exact below_tail HBW.out hb | exact below_tail (below_allocs HBW.out _) hb | exact below_tail (below_allocs (below_allocs HBW.out _) _) hb); clear hb)
          | (go_at_call 16; refine (KRow.out _).mono ?_; rintro e w2 ⟨rfl, hb⟩; have HBW := Lib.hid (by first | exact below_tail HBW.out hb | exact below_tail (below_allocs HBW.out _) hb | exact below_tail (below_allocs (below_allocs HBW.out _) _) hb); clear hb)
          | (go_at_call 17; refine (KResize.out _ _).mono ?_; rintro e w2 ⟨rfl, hb⟩; have HBW := Lib.hid (by first | exact below_tail HBW.out hb | exact below_tail (below_allocs HBW.out _) hb | exact below_tail (below_allocs (below_allocs HBW.out _) _) hb); clear hb)
          | (go_at_call 20; refine (KCrop.out _).mono ?_; rintro e w2 ⟨rfl, rfl⟩)
          | (go_at_call 18; refine (KGone.out _).mono ?_; rintro e w2 ⟨rfl, rfl⟩)
          | (go_at_call 19; refine (KShifts.out _).mono ?_; rintro e w2 ⟨rfl, rfl⟩)
          | (go_at_call 21; refine (KAwake.out _).mono ?_; rintro e w2 ⟨rfl, hb⟩; have HBW := Lib.hid (by first | exact below_tail HBW.out hb | exact below_tail (below_allocs HBW.out _) hb | exact below_tail (below_allocs (below_allocs HBW.out _) _) hb); clear hb))
        go_ret
        exact ⟨rfl, HBW.out⟩
end Go.Proofs.Ytffdblmdelgkaaa
