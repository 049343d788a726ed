/- The walk of the document's Rows: each row that doesn't go stands where its place is. Conditions: small numbers. -/
import Derived.Test.YtdfaldccopnoiaaShD
import Derived.Test.YtdfaldccopnoiaaBase2
import Derived.Deep.LoopGhost
import Derived.Deep.DeepCutAuto
namespace Go.Proofs.Ytdfaldccopnoiaa
open Go.RowKit

theorem hold_grown {W w1 : World} {row : Option Nat} (hg : W.grownBy w1 row) {b o : Nat} {v : Value} (h : W.cell? ⟨b, o, none⟩ = some v ∧ W.frozen? ⟨b, o, none⟩ = false) (hne : some b ≠ row) :
    w1.cell? ⟨b, o, none⟩ = some v ∧ w1.frozen? ⟨b, o, none⟩ = false :=
  ⟨(World.cell?_of_block (hg.block b (lt_of_cell h.1) hne)).trans h.1, (World.frozen?_of_block (hg.block b (lt_of_cell h.1) hne)).trans h.2⟩
theorem below_grown {B : Nat} {W w1 w : World} {base size n : Nat} {e : TypeId} {v : Value} {xs : List Value} (h : Below B w W) (ho : W.ownsRow base e size v n xs) (hg : W.grownBy w1 v.ownBlock) (hb : B ≤ base) (hB : B ≤ W.heap.size) : Below B w w1 :=
  h.grown hg hB (fun k hk => by have := (ho.lt k hk).1; omega)

/-- How long the list is ahead of round i. -/
def rowsLen (k a m i : Int) : Int := if k = 0 then (if a < i then i + m else i) else if i ≤ gapI k a then i else if i ≤ gapI k a + m then gapI k a else i - m
/-- Each row in the list is found where its place is. -/
def RowsOk (k a m : Int) (xs : List Int) : Prop := ∀ (j : Nat) (x : Int), xs[j]? = some x → 0 ≤ x → ∀ c : Int, inB c = true → mv x c k a m = ((j : Int), c)
theorem RowsOk.nil (k a m : Int) : RowsOk k a m [] := fun j x h => by simp at h
theorem RowsOk.snoc {k a m : Int} {xs : List Int} (h : RowsOk k a m xs) (x : Int) (hx : 0 ≤ x → ∀ c : Int, inB c = true → mv x c k a m = ((xs.length : Int), c)) : RowsOk k a m (xs ++ [x]) := by
  intro j y hj hy c hc
  by_cases hlt : j < xs.length
  · rw [List.getElem?_append_left hlt] at hj
    exact h j y hj hy c hc
  · rw [List.getElem?_append_right (by omega)] at hj
    have : j - xs.length = 0 := by
      rcases Nat.eq_zero_or_pos (j - xs.length) with h0 | h0
      · exact h0
      · rw [List.getElem?_eq_none (by simp; omega)] at hj; cases hj
    rw [this] at hj
    obtain rfl : x = y := by simpa using hj
    have e : j = xs.length := by omega
    rw [e]; exact hx hy c hc
/-- A row that doesn't go, at round i: its place behind the shift is the list's length. -/
theorem rows_place {k a m i c : Int} (hk : 0 ≤ k) (hk2 : k ≤ 2) (ha : 0 ≤ a) (ha2 : a ≤ 60) (hm : 1 ≤ m) (hm2 : m ≤ 60) (hi : 0 ≤ i) (hi2 : i ≤ 60) (hc : inB c = true) (h : k = 0 ∨ i < gapI k a ∨ gapI k a + m ≤ i) :
    mv i c k a m = (if k = 0 then (if a ≤ i then i + m else i) else if i < gapI k a then i else i - m, c) := by
  have b1 : inB i = true := inB_of (by omega) (by omega)
  have b2 : rightS k a m = true := by simp [rightS, inB_of ha (by omega : a ≤ 1099511627776), inB_of (by omega : 0 ≤ m) (by omega : m ≤ 1099511627776), hk, hk2]; omega
  unfold mv
  by_cases hg : gapI k a ≤ i
  · rw [if_pos ⟨b1, hc, b2, hg⟩]
    by_cases h0 : k = 0
    · subst h0
      have hg' : a ≤ i := hg
      simp [hg']
    · rw [if_neg h0, if_neg h0, if_neg (by omega), if_neg (by omega)]
  · rw [if_neg (by simp [hg])]
    by_cases h0 : k = 0
    · subst h0
      have hg' : ¬ a ≤ i := hg
      simp [hg']
    · rw [if_neg h0, if_pos (by omega)]
theorem rows_len_snoc {k a m i : Int} (hm : 1 ≤ m) (h : k = 0 ∨ i < gapI k a ∨ gapI k a + m ≤ i) (hka : k ≠ 0 ∨ i ≠ a) : rowsLen k a m (i + 1) = rowsLen k a m i + 1 := by
  unfold rowsLen
  by_cases h0 : k = 0
  · rw [if_pos h0, if_pos h0]
    by_cases h1 : a < i
    · rw [if_pos h1, if_pos (by omega)]; omega
    · rw [if_neg h1, if_neg (by omega)]
  · rw [if_neg h0, if_neg h0]
    by_cases h1 : i < gapI k a
    · rw [if_pos (by omega), if_pos (by omega)]
    · rw [if_neg (by omega)]
      by_cases h2 : i = gapI k a + m
      · rw [if_neg (by omega), if_neg (by omega), if_pos (by omega)]; omega
      · rw [if_neg (by omega), if_neg (by omega), if_neg (by omega)]; omega

theorem info_int : (Try.prog.info? 3).map (fun i => (i.zero, i.size, i.bytes)) = some (some (.int .i64 0), 1, 8) := by kernel_rfl
def vals (xs : List Int) : List Value := xs.map (Value.int .i64)
theorem vals_snoc (xs : List Int) (x : Int) : vals xs ++ [Value.int .i64 x] = vals (xs ++ [x]) := by simp [vals]
def RowsPost (k a m : Int) (w : World) (e : Ending) (w' : World) : Prop :=
  ∃ (v : Value) (xs : List Int), e = .returned v ∧ w'.ownsRow (w.heap.size + 1) 3 1 v xs.length (vals xs) ∧ RowsOk k a m xs ∧ xs.length ≤ 200 ∧ Below w.heap.size w w'
/-- What is kept from step to step: the list so far, the struct's cells. -/
def RowsSt (k a m : Int) (w : World) (s5 : Value) (xs : List Int) (wr : World) : Prop :=
  wr.ownsRow (w.heap.size + 1) 3 1 s5 xs.length (vals xs) ∧ RowsOk k a m xs ∧ Below w.heap.size w wr ∧
    (wr.cell? ⟨w.heap.size, 0, none⟩ = some (.int .i64 k) ∧ wr.frozen? ⟨w.heap.size, 0, none⟩ = false) ∧ (wr.cell? ⟨w.heap.size, 1, none⟩ = some (.int .i64 a) ∧ wr.frozen? ⟨w.heap.size, 1, none⟩ = false) ∧ (wr.cell? ⟨w.heap.size, 2, none⟩ = some (.int .i64 m) ∧ wr.frozen? ⟨w.heap.size, 2, none⟩ = false)
/-- One more, behind an append. -/
theorem RowsSt.snoc {k a m : Int} {w wr w1 : World} {v v1 : Value} {xs : List Int} {x : Int} (h : RowsSt k a m w v xs wr) (o : Obj) (hown : w1.ownsRow (w.heap.size + 1) 3 1 v1 (xs.length + 1) (vals xs ++ [Value.int .i64 x])) (hg : (wr.alloc o).grownBy w1 v.ownBlock)
    (hx : 0 ≤ x → ∀ c : Int, inB c = true → mv x c k a m = ((xs.length : Int), c)) : RowsSt k a m w v1 (xs ++ [x]) w1 := by
  obtain ⟨ho, hok, hB, s0, s1, s2⟩ := h
  have hlt := lt_of_cell s0.1
  have hne : some w.heap.size ≠ v.ownBlock := fun e => by have := (ho.lt _ e.symm).1; omega
  have hB1 := below_allocs hB o
  refine ⟨?_, hok.snoc x hx, ?_, hold_grown hg (hold_alloc s0) hne, hold_grown hg (hold_alloc s1) hne, hold_grown hg (hold_alloc s2) hne⟩
  · rw [← vals_snoc, List.length_append]; exact hown
  · exact hB1.grown hg hB1.size (fun k hk => by have := (ho.lt k hk).1; omega)
/-- What the outer loop's slots and world hold ahead of round i. -/
def RowsRel (k a m n : Int) (w : World) (s5 s6 : Value) (wr : World) : Prop :=
  ∃ (i : Nat) (xs : List Int), (i : Int) ≤ n + 1 ∧ s6 = .int .i64 (i : Int) ∧ RowsSt k a m w s5 xs wr ∧ ((i : Int) ≤ n → (xs.length : Int) = rowsLen k a m i) ∧ xs.length ≤ 130
def rowsMid (k a m i : Int) : Int := if k = 0 then (if a ≤ i then i + m else i) else rowsLen k a m i
def RowsMid (k a m i : Int) (w : World) (s5 : Value) (wr : World) : Prop := ∃ ys : List Int, RowsSt k a m w s5 ys wr ∧ (ys.length : Int) = rowsMid k a m i
def RowsIn (k a m : Int) (w : World) (L : Nat) (s5 s7 : Value) (wr : World) : Prop := ∃ (q : Nat) (ys : List Int), (q : Int) ≤ m ∧ s7 = .int .i64 (q : Int) ∧ RowsSt k a m w s5 ys wr ∧ ys.length = L + q
theorem rowsLen_bd {k a m i : Int} (hk : 0 ≤ k) (ha : 0 ≤ a) (ha2 : a ≤ 60) (hm : 1 ≤ m) (hm2 : m ≤ 60) (hi : 0 ≤ i) (hi2 : i ≤ 61) : 0 ≤ rowsLen k a m i ∧ rowsLen k a m i ≤ 121 := by
  unfold rowsLen gapI
  repeat' split
  all_goals omega
theorem rowsMid_bd {k a m i : Int} (hk : 0 ≤ k) (ha : 0 ≤ a) (ha2 : a ≤ 60) (hm : 1 ≤ m) (hm2 : m ≤ 60) (hi : 0 ≤ i) (hi2 : i ≤ 61) : 0 ≤ rowsMid k a m i ∧ rowsMid k a m i ≤ 121 := by
  unfold rowsMid rowsLen gapI
  repeat' split
  all_goals omega

def kept (k a m i : Int) : Prop := k = 0 ∨ i < gapI k a ∨ gapI k a + m ≤ i
theorem mid_place {k a m i : Int} (hm : 1 ≤ m) (h : kept k a m i) : rowsMid k a m i = (if k = 0 then (if a ≤ i then i + m else i) else if i < gapI k a then i else i - m) := by
  unfold kept at h
  unfold rowsMid
  by_cases h0 : k = 0
  · rw [if_pos h0, if_pos h0]
  · rw [if_neg h0, if_neg h0]
    unfold rowsLen
    rw [if_neg h0]
    by_cases h1 : i < gapI k a
    · rw [if_pos (by omega), if_pos h1]
    · rw [if_neg h1, if_neg (by omega)]
      by_cases h2 : i ≤ gapI k a + m
      · rw [if_pos h2]; omega
      · rw [if_neg h2]
theorem mid_kept {k a m i : Int} (hm : 1 ≤ m) (h : kept k a m i) : rowsLen k a m (i + 1) = rowsMid k a m i + 1 := by
  rw [mid_place hm h]
  unfold kept at h
  unfold rowsLen
  by_cases h0 : k = 0
  · rw [if_pos h0, if_pos h0]
    by_cases h1 : a ≤ i
    · rw [if_pos (by omega), if_pos h1]; omega
    · rw [if_neg (by omega), if_neg h1]
  · rw [if_neg h0, if_neg h0]
    by_cases h1 : i < gapI k a
    · rw [if_pos (by omega), if_pos h1]
    · rw [if_neg h1, if_neg (by omega), if_neg (by omega)]; omega
theorem mid_not {k a m i : Int} (h : ¬ kept k a m i) : rowsLen k a m (i + 1) = rowsMid k a m i := by
  unfold kept at h
  have h0 : k ≠ 0 := fun e => h (.inl e)
  have h1 : gapI k a ≤ i := by omega
  have h2 : i < gapI k a + m := by omega
  unfold rowsMid rowsLen
  rw [if_neg h0, if_neg h0, if_neg h0, if_neg (by omega), if_pos (by omega)]
  by_cases h3 : i ≤ gapI k a
  · rw [if_pos h3]; omega
  · rw [if_neg h3, if_pos (by omega)]

set_option maxRecDepth 100000 in
set_option maxHeartbeats 1600000 in
theorem Rows_any (n k a m : Int) (w : World) (hn : 0 ≤ n) (hn2 : n ≤ 60) (hk : 0 ≤ k) (hk2 : k ≤ 2) (ha : 0 ≤ a) (ha2 : a ≤ 60) (hm : 1 ≤ m) (hm2 : m ≤ 60) :
    Calls Try.prog 15 #[.int .i64 n, shV k a m] w (RowsPost k a m w) := by
  obtain ⟨i0, hi, hz0, hz1, hz2⟩ := info_parts info_int
  unfold shV
  go_enter Try.func15, Try.ntmps15
  go_wp2_with fail
  go_loopw [5, 6] (fun s5 s6 wr => RowsRel k a m n w s5 s6 wr) (fun _ s6 _ => (n + 1 - intOf s6).toNat)
  case atStart =>
    refine ⟨0, [], by omega, rfl, ⟨World.ownsRow_nil _ _ _ _, RowsOk.nil _ _ _, below_allocs (Below.refl _ _) _, at_new (Below.refl _ _) (hp_new rfl) 0 _ rfl, at_new (Below.refl _ _) (hp_new rfl) 1 _ rfl, at_new (Below.refl _ _) (hp_new rfl) 2 _ rfl⟩, fun _ => ?_, by simp⟩
    have : 0 ≤ gapI k a := by unfold gapI; split <;> omega
    unfold rowsLen
    by_cases h0 : k = 0
    · rw [if_pos h0, if_neg (by omega)]; simp
    · rw [if_neg h0, if_pos (by omega)]; simp
  case round =>
    obtain ⟨i, xs, hin, rfl, hst, hlen, hle⟩ := hrel
    have HLEN := Lib.hid hlen
    have HST := Lib.hid hst
    obtain ⟨hown, -, hB, s0, s1, s2⟩ := hst
    clear hlen
    by_cases hlt : (i : Int) ≤ n
    rotate_left
    · go_wp2
      go_ret
      exact ⟨u5, xs, rfl, hown, HST.out.2.1, by omega, hB⟩
    · go_upto_region 5 with (fail)
      go_cut [22] (fun s22 w' => s22 = .bool (k == 0 && (i : Int) == a) ∧ w' = wr)
      case first =>
        cases hk0 : (k == 0)
        · go_wp2
          go_meet
          exact ⟨by simp [hk0], rfl⟩
        · go_wp2
          go_meet
          exact ⟨by simp [hk0], rfl⟩
      obtain ⟨rfl, rfl⟩ := hcut
      go_upto_if 22 with (fail)
      go_cut [5] (fun s5 w' => RowsMid k a m i w s5 w')
      case first =>
        by_cases hc : k = 0 ∧ (i : Int) = a
        · obtain ⟨rfl, hia⟩ := hc
          have e : ((0 : Int) == 0 && (i : Int) == a) = true := by simp [hia]
          rw [e]; clear e
          have HIA := Lib.hid hia
          clear hia
          go_wp2_with fail
          go_loopw [5, 7] (fun s5 s7 wrI => RowsIn 0 a m w xs.length s5 s7 wrI) (fun _ s7 _ => (m - intOf s7).toNat)
          case atStart => exact ⟨0, xs, by omega, rfl, HST.out, by omega⟩
          case round =>
            obtain ⟨q, ys, hq, rfl, hstI, hlenI⟩ := hrel
            have HSTI := Lib.hid hstI
            obtain ⟨hownI, -, hBI, r0, r1, r2⟩ := hstI
            have HLI := Lib.hid hlenI
            have hlI : ys.length ≤ 195 := by omega
            clear hlenI
            have zI := lt_of_cell r0.1
            by_cases hlq : (q : Int) < m
            · go_wp2_with (at_builtin; refine wpList_append_own _ rfl (.tmp 29) (.tmp 30) _ rfl (w.heap.size + 1) 3 i0 (.int .i64 0) 1 8 Try.underlying25 hi hz0 hz1 hz2 rfl (by decide) _ _ _ rfl (hownI.alloc _) ⟨wr.heap.size, 0, none⟩ 1 1 [.int .i64 (-1)] rfl rfl (cell_one_new _ _ _) (by simp [Value.oneCell']) (by simp only [maxLen]; omega) (by omega) (by simp; omega) ?_; intro v1 w1 hown1 hg1 _)
              go_roundw
              case rel =>
                refine ⟨q + 1, ys ++ [-1], by omega, by go_num, HSTI.out.snoc _ hown1 hg1 (fun h => absurd h (by omega)), ?_⟩
                rw [List.length_append, HLI.out]; simp; omega
              case measure => simp [intOf]; omega
            · go_wp2
              go_meet
              refine ⟨ys, HSTI.out, ?_⟩
              have h1 := HLI.out
              have h2 := HLEN.out hlt
              have h3 := HIA.out
              rw [h3] at h2
              have h4 : rowsLen 0 a m a = a := by unfold rowsLen; rw [if_pos rfl, if_neg (by omega)]
              have h5 : rowsMid 0 a m i = i + m := by unfold rowsMid; rw [if_pos rfl, if_pos (by omega)]
              rw [h5]; omega
        · have e : (k == 0 && (i : Int) == a) = false := by
            cases h1 : (k == 0) <;> simp_all
          rw [e]; clear e
          have HC := Lib.hid hc
          clear hc
          go_wp2
          go_meet
          refine ⟨xs, HST.out, ?_⟩
          rw [HLEN.out hlt]
          have hc := HC.out
          unfold rowsMid rowsLen
          repeat' split
          all_goals omega
      case rest =>
        clear HLEN HST hown hB s0 s1 s2 hle
        obtain ⟨ys, hst, hlen⟩ := hcut
        have HST := Lib.hid hst
        obtain ⟨hown, -, hB, s0, s1, s2⟩ := hst
        have HLEN := Lib.hid hlen
        have hle : ys.length ≤ 125 := by have := rowsMid_bd (k := k) (a := a) (m := m) (i := i) hk ha ha2 hm hm2 (by omega) (by omega); omega
        clear hlen
        have z := lt_of_cell s0.1
        by_cases hln : (i : Int) < n
        · rcases (show k = 0 ∨ k = 1 ∨ k = 2 from by omega) with rfl | rfl | rfl
          · skip
            have HK := Lib.hid (show kept 0 a m i from (.inl rfl))
            go_wp2_with (at_builtin; refine wpList_append_own _ rfl (.tmp 58) (.tmp 60) _ rfl (w.heap.size + 1) 3 i0 (.int .i64 0) 1 8 Try.underlying25 hi hz0 hz1 hz2 rfl (by decide) _ _ _ rfl (hown.alloc _) ⟨wc.heap.size, 0, none⟩ 1 1 [.int .i64 i] rfl rfl (cell_one_new _ _ _) (by simp [Value.oneCell']) (by simp only [maxLen]; omega) (by omega) (by simp; omega) ?_; intro v1 w1 hown1 hg1 _)
            go_roundw
            case rel =>
              refine ⟨i + 1, ys ++ [(i : Int)], by omega, by go_num, HST.out.snoc _ hown1 hg1 (fun _ c hc => ?_), fun _ => ?_, by simp; omega⟩
              · rw [rows_place hk hk2 ha ha2 hm hm2 (by omega) (by omega) hc HK.out, HLEN.out, mid_place hm HK.out]
              · have e := mid_kept hm HK.out
                have e2 := HLEN.out
                rw [show ((i + 1 : Nat) : Int) = (i : Int) + 1 from by omega, e, List.length_append]
                simp; omega
            case measure => simp [intOf]; omega
          · skip
            by_cases h1 : (i : Int) < a
            · have HK := Lib.hid (show kept 1 a m i from (.inr (.inl h1)))
              go_wp2_with (at_builtin; refine wpList_append_own _ rfl (.tmp 58) (.tmp 60) _ rfl (w.heap.size + 1) 3 i0 (.int .i64 0) 1 8 Try.underlying25 hi hz0 hz1 hz2 rfl (by decide) _ _ _ rfl (hown.alloc _) ⟨wc.heap.size, 0, none⟩ 1 1 [.int .i64 i] rfl rfl (cell_one_new _ _ _) (by simp [Value.oneCell']) (by simp only [maxLen]; omega) (by omega) (by simp; omega) ?_; intro v1 w1 hown1 hg1 _)
              go_roundw
              case rel =>
                refine ⟨i + 1, ys ++ [(i : Int)], by omega, by go_num, HST.out.snoc _ hown1 hg1 (fun _ c hc => ?_), fun _ => ?_, by simp; omega⟩
                · rw [rows_place hk hk2 ha ha2 hm hm2 (by omega) (by omega) hc HK.out, HLEN.out, mid_place hm HK.out]
                · have e := mid_kept hm HK.out
                  have e2 := HLEN.out
                  rw [show ((i + 1 : Nat) : Int) = (i : Int) + 1 from by omega, e, List.length_append]
                  simp; omega
              case measure => simp [intOf]; omega
            · by_cases h2 : a + m ≤ (i : Int)
              · have HK := Lib.hid (show kept 1 a m i from (.inr (.inr h2)))
                go_wp2_with (at_builtin; refine wpList_append_own _ rfl (.tmp 58) (.tmp 60) _ rfl (w.heap.size + 1) 3 i0 (.int .i64 0) 1 8 Try.underlying25 hi hz0 hz1 hz2 rfl (by decide) _ _ _ rfl (hown.alloc _) ⟨wc.heap.size, 0, none⟩ 1 1 [.int .i64 i] rfl rfl (cell_one_new _ _ _) (by simp [Value.oneCell']) (by simp only [maxLen]; omega) (by omega) (by simp; omega) ?_; intro v1 w1 hown1 hg1 _)
                go_roundw
                case rel =>
                  refine ⟨i + 1, ys ++ [(i : Int)], by omega, by go_num, HST.out.snoc _ hown1 hg1 (fun _ c hc => ?_), fun _ => ?_, by simp; omega⟩
                  · rw [rows_place hk hk2 ha ha2 hm hm2 (by omega) (by omega) hc HK.out, HLEN.out, mid_place hm HK.out]
                  · have e := mid_kept hm HK.out
                    have e2 := HLEN.out
                    rw [show ((i + 1 : Nat) : Int) = (i : Int) + 1 from by omega, e, List.length_append]
                    simp; omega
                case measure => simp [intOf]; omega
              · have HK := Lib.hid (show ¬ kept 1 a m i from (fun hh => Or.elim hh (fun e => absurd e (by omega)) (fun hh => Or.elim hh h1 h2)))
                go_wp2
                go_roundw
                case rel =>
                  refine ⟨i + 1, ys, by omega, by go_num, HST.out, fun _ => ?_, by omega⟩
                  have e := mid_not HK.out
                  have e2 := HLEN.out
                  rw [show ((i + 1 : Nat) : Int) = (i : Int) + 1 from by omega, e]
                  exact e2
                case measure => simp [intOf]; omega
          · skip
            by_cases h1 : (i : Int) < 0
            · exfalso; omega
            · by_cases h2 : 0 + m ≤ (i : Int)
              · have HK := Lib.hid (show kept 2 a m i from (.inr (.inr h2)))
                go_wp2_with (at_builtin; refine wpList_append_own _ rfl (.tmp 58) (.tmp 60) _ rfl (w.heap.size + 1) 3 i0 (.int .i64 0) 1 8 Try.underlying25 hi hz0 hz1 hz2 rfl (by decide) _ _ _ rfl (hown.alloc _) ⟨wc.heap.size, 0, none⟩ 1 1 [.int .i64 i] rfl rfl (cell_one_new _ _ _) (by simp [Value.oneCell']) (by simp only [maxLen]; omega) (by omega) (by simp; omega) ?_; intro v1 w1 hown1 hg1 _)
                go_roundw
                case rel =>
                  refine ⟨i + 1, ys ++ [(i : Int)], by omega, by go_num, HST.out.snoc _ hown1 hg1 (fun _ c hc => ?_), fun _ => ?_, by simp; omega⟩
                  · rw [rows_place hk hk2 ha ha2 hm hm2 (by omega) (by omega) hc HK.out, HLEN.out, mid_place hm HK.out]
                  · have e := mid_kept hm HK.out
                    have e2 := HLEN.out
                    rw [show ((i + 1 : Nat) : Int) = (i : Int) + 1 from by omega, e, List.length_append]
                    simp; omega
                case measure => simp [intOf]; omega
              · have HK := Lib.hid (show ¬ kept 2 a m i from (fun hh => Or.elim hh (fun e => absurd e (by omega)) (fun hh => Or.elim hh h1 h2)))
                go_wp2
                go_roundw
                case rel =>
                  refine ⟨i + 1, ys, by omega, by go_num, HST.out, fun _ => ?_, by omega⟩
                  have e := mid_not HK.out
                  have e2 := HLEN.out
                  rw [show ((i + 1 : Nat) : Int) = (i : Int) + 1 from by omega, e]
                  exact e2
                case measure => simp [intOf]; omega
        · go_wp2
          all_goals
            go_roundw
            case rel =>
              exact ⟨i + 1, ys, by omega, by go_num, HST.out, fun h => absurd h (by omega), by omega⟩
            case measure => simp [intOf]; omega
end Go.Proofs.Ytdfaldccopnoiaa
