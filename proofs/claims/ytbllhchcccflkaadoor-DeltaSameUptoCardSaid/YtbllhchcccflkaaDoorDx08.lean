/- Joined by a tool of this claim out of smaller texts. Conditions: as stated. -/
import Derived.Test.YtbllhchcccflkaaDoorDx07
import Derived.Deep.LoopGhost
set_option linter.unusedVariables false
set_option linter.unusedSimpArgs false
namespace Go.Proofs.YtbllhchcccflkaaDoor
open Go.RowKit
theorem BsS.take {w : World} {g off : Nat} {xs : List Int} (h : BsS w g off xs) (k : Nat) : BsS w g off (xs.take k) := fun i x hx => by
  rw [List.getElem?_take] at hx
  split at hx
  · exact h i x hx
  · cases hx
theorem scal_of (r : Int) (xs : List Int) (h0 : 0 < xs.length) (h : putB r = strOfNums xs) : isScal r = true := by
  cases hs : isScal r with
  | true => rfl
  | false =>
    exfalso
    have h1 : (putB r).size = xs.length := by rw [h, strOfNums_size]
    rw [show putB r = ByteArray.empty from by unfold putB; rw [hs]; rfl] at h1
    have : ByteArray.empty.size = 0 := rfl
    omega
def OnePost (n : Nat) (w : World) (e : Ending) (w' : World) : Prop := ∃ (r : Int) (m : Nat), e = .returned (.tuple #[.int .i32 r, .int .i64 m]) ∧ isScal r = true ∧ 1 ≤ m ∧ m ≤ n ∧ Below w.heap.size w w'
set_option maxRecDepth 100000 in
set_option maxHeartbeats 3200000 in
theorem rone_any (g off ca : Nat) (xs : List Int) (w : World) (hx : ∀ x ∈ xs, 0 ≤ x ∧ x < 256) (h0 : 0 < xs.length) (hca : xs.length ≤ ca) (hcm : xs.length ≤ 2000000) (hb : BsS w g off xs) :
    Calls Tryd.prog 50 #[.slice (some ⟨g, off, none⟩) xs.length ca] w (OnePost xs.length w) := by
  have HI : Hid (∀ (k : Nat) (w' : World), 1 ≤ k → k ≤ 4 → k ≤ xs.length → Below w.heap.size w w' → Calls Tryd.prog 61 #[.slice (some ⟨g, off, none⟩) k ca] w' (IsPost (xs.take k) w')) := Lib.hid (fun k w' h1 h2 h3 hB => by
    have := ris_any g off ca (xs.take k) w' (fun x hx' => hx x (List.mem_of_mem_take hx')) (by rw [List.length_take]; omega) (by rw [List.length_take]; omega) ((hb.take k).below hB)
    rwa [List.length_take, Nat.min_eq_left h3] at this)
  have HN : Hid (∀ (k : Nat) (w' : World), 1 ≤ k → k ≤ 4 → k ≤ xs.length → Below w.heap.size w w' → Calls Tryd.prog 62 #[.slice (some ⟨g, off, none⟩) k ca] w' fun e w2 => e = .returned (.int .i32 (numB (xs.take k))) ∧ Below w'.heap.size w' w2) := Lib.hid (fun k w' h1 h2 h3 hB => by
    have := rnumber_any g off ca (xs.take k) w' (fun x hx' => hx x (List.mem_of_mem_take hx')) (by rw [List.length_take]; omega) (by rw [List.length_take]; omega) ((hb.take k).below hB)
    rwa [List.length_take, Nat.min_eq_left h3] at this)
  have HG : Hid (∀ (k : Nat) (w' : World), 1 ≤ k → k ≤ 3 → k ≤ xs.length → Below w.heap.size w w' → Calls Tryd.prog 63 #[.slice (some ⟨g, off, none⟩) k ca] w' (BoolPost w')) := Lib.hid (fun k w' h1 h2 h3 hB => by
    have := rbegins_any g off ca (xs.take k) w' (fun x hx' => hx x (List.mem_of_mem_take hx')) (by rw [List.length_take]; omega) (by rw [List.length_take]; omega) ((hb.take k).below hB)
    rwa [List.length_take, Nat.min_eq_left h3] at this)
  have HSC : Hid (∀ k, 1 ≤ k → k ≤ xs.length → putB (numB (xs.take k)) = strOfNums (xs.take k) → isScal (numB (xs.take k)) = true) := Lib.hid (fun k h1 h2 h => scal_of _ _ (by rw [List.length_take]; omega) h)
  obtain ⟨n, hn⟩ : ∃ n, n = xs.length := ⟨_, rfl⟩
  rw [← hn] at HI HN HG HSC h0 hca hcm ⊢
  clear hx hb hn
  go_enter Tryd.func50, Tryd.ntmps50
  go_wp2_with fail
  go_loopw [4] (fun i wr => ∃ k : Nat, 1 ≤ k ∧ k ≤ 5 ∧ k ≤ n + 1 ∧ i = .int .i64 k ∧ Below w.heap.size w wr) (fun i _ => 6 - (intOf i).toNat)
  case atStart => exact ⟨1, by omega, by omega, by omega, rfl, Below.refl _ _⟩
  case round =>
    obtain ⟨k, hk1, hk2, hk3, rfl, hB⟩ := hrel
    by_cases hlt : k ≤ 4 ∧ k ≤ n
    · obtain ⟨hl1, hl2⟩ := hlt
      have HI1 := Lib.hid (HI.out k wr hk1 hl1 hl2 hB)
      go_wp2_with (first | (go_at_call 61; (with_reducible refine HI1.out.mono ?_); rintro e w1 ⟨t, rfl, ht, hb1⟩; have HT := Lib.hid ht; clear ht) | (go_at_call 62; (with_reducible refine (HN.out k _ hk1 hl1 hl2 (below_tail hB hb1)).mono ?_); rintro e w2 ⟨rfl, hb2⟩))
      all_goals
        first
        | exact ⟨⟨k + 1, by omega, by omega, by omega, by go_num, below_tail hB hb1⟩, by simp [intOf]; omega⟩
        | (go_ret2; exact ⟨_, _, rfl, HSC.out k hk1 hl2 (HT.out (by assumption)).2, hk1, hl2, below_tail (below_tail hB hb1) hb2⟩)
    · clear HI HN HSC
      have hex : (k ≤ 4 ∧ n < k) ∨ (4 < k ∧ 4 < k) := by omega
      rcases hex with ⟨hex, hex2⟩ | ⟨hex, hex2⟩
      all_goals
        go_wp2_with fail
        try simp only [show decide (k ≤ n) = false from decide_eq_false (by omega)]
        go_loopw [5, 6] (fun s i w5 => ∃ m j : Nat, 1 ≤ m ∧ m ≤ n ∧ 1 ≤ j ∧ j ≤ 4 ∧ j ≤ n + 1 ∧ s = .int .i64 m ∧ i = .int .i64 j ∧ Below w.heap.size w w5) (fun _ i _ => 6 - (intOf i).toNat)
        case atStart => exact ⟨1, 1, by omega, by omega, by omega, by omega, by omega, rfl, rfl, hB⟩
        case round =>
          obtain ⟨m, j, hm1, hm2, hj1, hj2, hj3, rfl, rfl, hB5⟩ := hrel
          by_cases hlj : j ≤ 3 ∧ j ≤ n
          · obtain ⟨hj4, hj5⟩ := hlj
            have HG1 := Lib.hid (HG.out j _ hj1 hj4 hj5 hB5)
            go_wp2_with (go_at_call 63; (with_reducible refine HG1.out.mono ?_); rintro e w6 ⟨⟨t, rfl⟩, hb6⟩)
            all_goals
              first
              | exact ⟨⟨m, j + 1, by omega, by omega, by omega, by omega, by omega, rfl, by go_num, below_tail hB5 hb6⟩, by simp [intOf]; omega⟩
              | (go_roundw
                 case rel => exact ⟨j, j + 1, by omega, by omega, by omega, by omega, by omega, rfl, by go_num, below_tail hB5 hb6⟩
                 case measure => simp [intOf]; omega)
          · go_wp2
            all_goals
              go_ret2
              exact ⟨_, _, rfl, by decide, hm1, hm2, hB5⟩
end Go.Proofs.YtbllhchcccflkaaDoor

namespace Go.Proofs.YtbllhchcccflkaaDoor
open Go.RowKit
theorem BsS.drop {w : World} {g off : Nat} {xs : List Int} (h : BsS w g off xs) (i : Nat) : BsS w g (off + i) (xs.drop i) := fun j x hx => by
  rw [List.getElem?_drop] at hx
  have := h (i + j) x hx
  rwa [← Nat.add_assoc] at this
def ScalsPost (n : Nat) (w : World) (e : Ending) (w' : World) : Prop := ∃ (v : Value) (L : List Int), e = .returned v ∧ w'.ownsRow w.heap.size 21 1 v L.length (L.map (.int .i32)) ∧ (∀ r ∈ L, isScal r = true) ∧ L.length ≤ n ∧ Below w.heap.size w w'
set_option maxRecDepth 100000 in
set_option maxHeartbeats 3200000 in
theorem rall_any (g off ca : Nat) (xs : List Int) (w : World) (hx : ∀ x ∈ xs, 0 ≤ x ∧ x < 256) (hca : xs.length ≤ ca) (hcm : xs.length ≤ 2000000) (hb : BsS w g off xs) :
    Calls Tryd.prog 40 #[.slice (some ⟨g, off, none⟩) xs.length ca] w (ScalsPost xs.length w) := by
  obtain ⟨n, hn⟩ : ∃ n, n = xs.length := ⟨_, rfl⟩
  have HO : Hid (∀ (i : Nat) (w' : World), i < n → Below w.heap.size w w' → Calls Tryd.prog 50 #[.slice (some ⟨g, off + i, none⟩) (n - i) (ca - i)] w' (OnePost (n - i) w')) := Lib.hid (fun i w' h1 hB => by
    have := rone_any g (off + i) (ca - i) (xs.drop i) w' (fun x hx' => hx x (List.mem_of_mem_drop hx')) (by rw [List.length_drop]; omega) (by rw [List.length_drop]; omega) (by rw [List.length_drop]; omega) ((hb.drop i).below hB)
    rwa [List.length_drop, ← hn] at this)
  rw [← hn] at hca hcm ⊢
  clear hx hb hn
  obtain ⟨i0, hi, hz0, hz1, hz2⟩ := info_parts info_i32
  go_enter Tryd.func40, Tryd.ntmps40
  go_wp2_with fail
  go_loopw [0, 3] (fun s o wr => ∃ (i : Nat) (L : List Int) (A : Option Addr), i ≤ n ∧ (i < n → A = some ⟨g, off + i, none⟩) ∧ s = .slice A (n - i) (ca - i) ∧ wr.ownsRow w.heap.size 21 1 o L.length (L.map (.int .i32)) ∧ (∀ r ∈ L, isScal r = true) ∧ L.length ≤ i ∧ Below w.heap.size w wr) (fun s _ _ => match s with | .slice _ m _ => m | _ => 0)
  case atStart => exact ⟨0, [], _, Nat.zero_le _, fun _ => rfl, rfl, World.ownsRow_nil _ _ _ _, by simp, Nat.le_refl _, Below.refl _ _⟩
  case round =>
    obtain ⟨i, L, A, hin, hA, rfl, ho, hL, hLi, hB⟩ := hrel
    by_cases hlt : i < n
    · obtain rfl := hA hlt
      have HO1 := Lib.hid (HO.out i wr hlt hB)
      have HOW := Lib.hid ho
      have HB := Lib.hid hB
      have HL := Lib.hid hL
      have hp : 0 < n - i := by omega
      have hp2 : (0 : Int) < ((n - i : Nat) : Int) := by omega
      clear ho hB hL
      go_wp2_with (first
        | (go_at_call 50; (with_reducible refine HO1.out.mono ?_); rintro e w1 ⟨r, m, rfl, hr, hm1, hm2, hb1⟩; have HB1 := Lib.hid (below_tail HB.out hb1); have ho1 := (owns_bl HOW.out hb1).alloc (.cells #[.int .i32 r] 21); clear hb1)
        | (at_builtin; refine wpList_append_own _ rfl _ _ 77 rfl w.heap.size 21 i0 (.int .i32 0) 1 4 Tryd.underlying77 hi hz0 hz1 hz2 rfl (by decide) _ L.length _ rfl ho1 ⟨w1.heap.size, 0, none⟩ 1 1 [.int .i32 r] rfl rfl (cell_one_new _ _ _) (by simp [Value.oneCell']) (by unfold maxLen; omega) (by omega) (by have := HB1.out.size; simp; omega) ?_; intro v' w2 hown' hgrow _; have HB2 := Lib.hid (show Below w.heap.size w w2 from (HB1.out.alloc HB1.out.size _).grown hgrow (by have := HB1.out.size; simp; omega) (fun k hk => (ho1.lt k hk).1)); have HO2 := Lib.hid hown'; clear hown' hgrow))
      refine ⟨⟨i + m, L ++ [r], _, by omega, fun h => ?_, by rw [Nat.sub_add_eq, Nat.sub_add_eq], by simpa using HO2.out, fun x hx => ?_, by simp; omega, HB2.out⟩, by simp only []; omega⟩
      · rw [if_neg (by omega)]; rw [Nat.add_assoc]
      · rcases List.mem_append.1 hx with h | h
        · exact HL.out x h
        · rw [List.mem_singleton.1 h]; exact hr
    · have hz : n - i = 0 := by omega
      rw [hz]
      go_wp2
      go_ret
      exact ⟨_, L, rfl, ho, hL, by omega, hB⟩
end Go.Proofs.YtbllhchcccflkaaDoor

namespace Go.Proofs.YtbllhchcccflkaaDoor
open Go.RowKit
def RTabPost (l : List (Int × Int)) (w : World) (e : Ending) (w' : World) : Prop := ∃ g, e = .returned (.slice (some ⟨g, 0, none⟩) (l.length * 2) (l.length * 2)) ∧ GrAt encPr 2 w' (some ⟨g, 0, none⟩) l ∧ Below w.heap.size w w'
set_option maxRecDepth 100000 in
set_option maxHeartbeats 1600000 in
theorem rmarks_any (w : World) : Calls Tryd.prog 38 #[] w (RTabPost marksT w) := by
  go_enter Tryd.func38, Tryd.ntmps38
  go_wp2
  go_ret
  exact ⟨w.heap.size, rfl, gr_lit encPr_len (l := marksT) (hp_new rfl), below_allocs (Below.refl _ _) _⟩
set_option maxRecDepth 100000 in
set_option maxHeartbeats 1600000 in
theorem rwides_any (w : World) : Calls Tryd.prog 39 #[] w (RTabPost widesT w) := by
  go_enter Tryd.func39, Tryd.ntmps39
  go_wp2
  go_ret
  exact ⟨w.heap.size, rfl, gr_lit encPr_len (l := widesT) (hp_new rfl), below_allocs (Below.refl _ _) _⟩
set_option maxRecDepth 100000 in
set_option maxHeartbeats 3200000 in
theorem rin_any (r : Int) (a : Nat) (l : List (Int × Int)) (w : World) (hl : GrAt encPr 2 w (some ⟨a, 0, none⟩) l) (hz : l.length ≤ 1000) :
    Calls Tryd.prog 37 #[.slice (some ⟨a, 0, none⟩) (l.length * 2) (l.length * 2), .int .i32 r] w fun e w' => e = .returned (.bool (amongB l r)) ∧ w = w' := by
  obtain ⟨L2, hL2⟩ : ∃ L2, l.length * 2 = L2 := ⟨_, rfl⟩
  rw [hL2]
  have HL := Lib.hid hl
  have HL2 := Lib.hid hL2
  clear hl hL2
  go_enter Tryd.func37, Tryd.ntmps37
  go_wp2_with fail
  go_loopw [5] (fun s5 wr => ∃ i j : Nat, s5 = .int .i64 j ∧ j = i * 2 ∧ i ≤ l.length ∧ amongB (l.take i) r = false ∧ wr = w) (fun s5 _ => L2 - (intOf s5).toNat)
  case atStart => exact ⟨0, 0, rfl, rfl, Nat.zero_le _, rfl, rfl⟩
  case round =>
    obtain ⟨i, j, rfl, hij, hi, hf, rfl⟩ := hrel
    have HIJ := Lib.hid hij
    have HF := Lib.hid hf
    clear hf
    by_cases hlt : i < l.length
    rotate_left
    · have hge : ¬ (j : Int) < (L2 : Int) := by have := HL2.out; omega
      have HE : Hid (amongB l r = false) := Lib.hid (by have := HF.out; rwa [List.take_of_length_le (by omega)] at this)
      clear hij
      go_wp2
      go_ret
      exact ⟨by rw [HE.out]; rfl, rfl⟩
    · have hltI : (j : Int) < (L2 : Int) := by have := HL2.out; omega
      obtain ⟨j1, hj1⟩ : ∃ j1 : Nat, j1 = j + 1 := ⟨_, rfl⟩
      have hj1I : (j : Int) + 1 = (j1 : Int) := by omega
      have hwj1 : IntKind.i64.wrap (j1 : Int) = (j1 : Int) := IntWalk.i64_in _ (by omega)
      have hj1L : (j1 : Int) < (L2 : Int) := by have := HL2.out; omega
      obtain ⟨j2, hj2⟩ : ∃ j2 : Nat, j2 = j + 2 := ⟨_, rfl⟩
      have hj2I : (j : Int) + 2 = (j2 : Int) := by omega
      have hwj2 : IntKind.i64.wrap (j2 : Int) = (j2 : Int) := IntWalk.i64_in _ (by omega)
      obtain ⟨b, off, x, e, hx, hc⟩ := HL.out.at_ hlt
      simp only [Option.some.injEq, Addr.mk.injEq, and_true] at e
      obtain ⟨rfl, rfl⟩ := e
      have y0 : wr.cell? ⟨a, j, none⟩ = some (.int .i32 x.1) := by have := hc 0 _ rfl; rw [hij]; simpa using this
      have y1 : wr.cell? ⟨a, j1, none⟩ = some (.int .i32 x.2) := by have := hc 1 _ rfl; rw [hj1, hij]; simpa using this
      have HX := Lib.hid hx
      have HJ2 := Lib.hid hj2
      have hjL : j < L2 := by omega
      have hj1LN : j1 < L2 := by omega
      clear hc hx hij hj1 hj2
      by_cases h1 : x.1 ≤ r
      · by_cases h2 : r ≤ x.2
        · have HE : Hid (amongB l r = true) := Lib.hid (among_of_take (k := i + 1) (by rw [among_take HX.out]; unfold inPr; simp [h1, h2]))
          go_wp2
          go_ret
          exact ⟨by rw [HE.out]; rfl, rfl⟩
        · have HE : Hid (amongB (l.take (i + 1)) r = false) := Lib.hid (by rw [among_take HX.out, HF.out]; unfold inPr; simp; omega)
          go_wp2
          go_roundw
          case rel => exact ⟨i + 1, j2, by go_num, by have := HIJ.out; have := HJ2.out; omega, by omega, HE.out, by first | rfl | trivial⟩
          case measure => have := HJ2.out; simp [intOf]; omega
      · have HE : Hid (amongB (l.take (i + 1)) r = false) := Lib.hid (by rw [among_take HX.out, HF.out]; unfold inPr; simp; omega)
        go_wp2
        go_roundw
        case rel => exact ⟨i + 1, j2, by go_num, by have := HIJ.out; have := HJ2.out; omega, by omega, HE.out, by first | rfl | trivial⟩
        case measure => have := HJ2.out; simp [intOf]; omega
theorem noneW_cases (r : Int) : (noneW r = true ∧ (r < 32 ∨ (126 < r ∧ r < 160 ∧ ¬ r < 32) ∨ (55295 < r ∧ r < 57344 ∧ 126 < r ∧ ¬ r < 160 ∧ ¬ r < 32) ∨ (1114111 < r ∧ 55295 < r ∧ ¬ r < 57344 ∧ 126 < r ∧ ¬ r < 160 ∧ ¬ r < 32))) ∨
    (noneW r = false ∧ ((¬ r < 32 ∧ ¬ 126 < r ∧ ¬ 55295 < r ∧ ¬ 1114111 < r) ∨ (¬ r < 32 ∧ 126 < r ∧ ¬ r < 160 ∧ ¬ 55295 < r ∧ ¬ 1114111 < r) ∨ (¬ r < 32 ∧ 126 < r ∧ ¬ r < 160 ∧ 55295 < r ∧ ¬ r < 57344 ∧ ¬ 1114111 < r))) := by
  unfold noneW
  simp only [Bool.or_eq_true, Bool.and_eq_true, decide_eq_true_eq, Bool.or_eq_false_iff, Bool.and_eq_false_iff, decide_eq_false_iff_not]
  omega
set_option maxRecDepth 100000 in
set_option maxHeartbeats 3200000 in
theorem rOf_any (r : Int) (w : World) : Calls Tryd.prog 25 #[.int .i32 r] w fun e w' => e = .returned (.int .i64 (widOf r)) ∧ Below w.heap.size w w' := by
  have HM := Lib.hid (fun w => rmarks_any w)
  have HW := Lib.hid (fun w => rwides_any w)
  have HA1 := Lib.hid (fun a w hl => rin_any r a marksT w hl (by decide))
  have HA2 := Lib.hid (fun a w hl => rin_any r a widesT w hl (by decide))
  unfold widOf
  rcases noneW_cases r with ⟨hn, h⟩ | ⟨hn, h⟩
  · rw [hn]
    clear hn HM HW HA1 HA2
    rcases h with h1 | ⟨h1, h2, h3⟩ | ⟨h1, h2, h3, h4, h5⟩ | ⟨h1, h2, h3, h4, h5, h6⟩
    all_goals
      go_enter Tryd.func25, Tryd.ntmps25
      go_wp2
      go_ret
      exact ⟨rfl, Below.refl _ _⟩
  · rw [hn]
    clear hn
    generalize amongB marksT r = b1 at HA1
    generalize amongB widesT r = b2 at HA2
    rcases h with ⟨h1, h2, h3, h4⟩ | ⟨h1, h2, h3, h4, h5⟩ | ⟨h1, h2, h3, h4, h5, h6⟩ <;> cases b1 <;> cases b2
    all_goals
      go_enter Tryd.func25, Tryd.ntmps25
      go_wp2_with (first
        | (go_at_call 38; refine (HM.out _).mono ?_; rintro e w2 ⟨g, rfl, hg, hb2⟩; have HG := Lib.hid hg; have HB := Lib.hid hb2; clear hg hb2)
        | (go_at_call 39; refine (HW.out _).mono ?_; rintro e w4 ⟨g2, rfl, hg, hb2⟩; have HG2 := Lib.hid hg; have HB3 := Lib.hid (below_tail HB.out hb2); clear hg hb2)
        | (go_at_call 37; first
            | (have hpv := HB3.out; clear hpv; refine (HA2.out _ _ HG2.out).mono ?_; rintro e w5 ⟨rfl, rfl⟩)
            | (refine (HA1.out _ _ HG.out).mono ?_; rintro e w3 ⟨rfl, rfl⟩)))
      go_ret
      exact ⟨rfl, by first | exact HB3.out | exact HB.out⟩
end Go.Proofs.YtbllhchcccflkaaDoor

namespace Go.Proofs.YtbllhchcccflkaaDoor
open Go.RowKit
theorem strOfNums_append (a b : List Int) : strOfNums a ++ strOfNums b = strOfNums (a ++ b) := by
  unfold strOfNums
  refine ByteArray.ext ?_
  rw [ByteArray.data_append]
  simp
theorem bytesR_le (r : Int) : (bytesR r).length ≤ 4 := by
  unfold bytesR
  repeat' split
  all_goals simp
theorem flat_bytes_le (L : List Int) : (L.flatMap bytesR).length ≤ 4 * L.length := by
  induction L with
  | nil => simp
  | cons r L ih => rw [List.flatMap_cons, List.length_append, List.length_cons]; have := bytesR_le r; omega
def numsOf (s : ByteArray) : List Int := s.data.toList.map fun b => (b.toNat : Int)
theorem numsOf_len (s : ByteArray) : (numsOf s).length = s.size := by
  unfold numsOf
  rw [List.length_map, Array.length_toList]
  rfl
theorem numsOf_range (s : ByteArray) : ∀ x ∈ numsOf s, 0 ≤ x ∧ x < 256 := fun x hx => by
  obtain ⟨b, _, rfl⟩ := List.mem_map.1 hx
  have := b.toNat_lt
  omega
theorem bytes_inS (w : World) (e : TypeId) (s : ByteArray) : BsS (Lib.bytesWorld w e s) w.heap.size 0 (numsOf s) := fun i x hi => by
  have hl := (List.getElem?_eq_some_iff.1 hi).1
  rw [numsOf_len] at hl
  rw [Nat.zero_add, Lib.bytesWorld_cell w e s i hl]
  unfold numsOf at hi
  rw [List.getElem?_map] at hi
  obtain ⟨b, hb, rfl⟩ := Option.map_eq_some_iff.1 hi
  rw [List.getD_eq_getElem?_getD, hb]
  rfl
theorem cap_le (w : World) (e : TypeId) (n : Nat) : n ≤ grownCap w n 0 e := grownCap_ge w n 0 e
def MarksPost (s : ByteArray) (w : World) (e : Ending) (w' : World) : Prop := ∃ t : Bool, e = .returned (.bool t) ∧ (t = true → MarksOk s) ∧ Below w.heap.size w w'
set_option maxRecDepth 100000 in
set_option maxHeartbeats 3200000 in
theorem rmarks7_any (s : ByteArray) (hz : s.size ≤ 1048576) (w : World) : Calls Tryd.prog 26 #[.string s] w (MarksPost s w) := by
  have hcv := conv_str s w
  have HBI := Lib.hid (bytes_inS w 5 s)
  have HBB := Lib.hid (bytes_below w 5 s)
  have hcap := cap_le w 5 s.size
  have HA : Hid (∀ (w1 : World), BsS w1 w.heap.size 0 (numsOf s) → Calls Tryd.prog 40 #[.slice (some ⟨w.heap.size, 0, none⟩) s.size (grownCap w s.size 0 5)] w1 (ScalsPost s.size w1)) := Lib.hid (fun w1 hb => by
    have := rall_any w.heap.size 0 (grownCap w s.size 0 5) (numsOf s) w1 (numsOf_range s) (by rw [numsOf_len]; exact hcap) (by rw [numsOf_len]; omega) hb
    rwa [numsOf_len] at this)
  clear hcap
  generalize Lib.bytesWorld w 5 s = wb at hcv HBI HBB
  go_enter Tryd.func26, Tryd.ntmps26
  go_wp2_with (go_at_call 40; (with_reducible refine (HA.out _ HBI.out).mono ?_); rintro e w1 ⟨v, L, rfl, ho, hsc, hLn, hb1⟩; obtain ⟨A, c, rfl, hA⟩ := owns_at ho; have HB1 := Lib.hid (below_tail HBB.out hb1); clear hb1 ho)
  have hAA := Lib.hid hA
  have HSC := Lib.hid hsc
  clear hA hsc
  go_loopw [4, 5] (fun b i wr => ∃ k : Nat, k ≤ L.length ∧ i = .int .i64 k ∧ b = .string (strOfNums ((L.take k).flatMap bytesR)) ∧ (∀ r ∈ L.take k, widOf r = 0) ∧ Below w.heap.size w wr ∧ Below w1.heap.size w1 wr) (fun _ i _ => L.length - (intOf i).toNat)
  case atStart => exact ⟨0, Nat.zero_le _, rfl, rfl, by simp, HB1.out, Below.refl _ _⟩
  case round =>
    obtain ⟨k, hk, rfl, rfl, hw0, hB, hb⟩ := hrel
    have HW0 := Lib.hid hw0
    have hfl := flat_bytes_le (L.take k)
    have hlk : (L.take k).length ≤ k := by rw [List.length_take]; omega
    have hsz : (strOfNums ((L.take k).flatMap bytesR)).size ≤ 4 * k := by rw [strOfNums_size]; omega
    clear hw0 hfl hlk
    by_cases hlt : k < L.length
    · obtain ⟨g, rfl, hc0⟩ := hAA.out k _ (List.getElem?_eq_getElem hlt)
      have hc := holda hb hc0
      have hr := HSC.out _ (List.getElem_mem hlt)
      have HT : Hid (L.take (k + 1) = L.take k ++ [L[k]]) := Lib.hid (List.take_succ_eq_append_getElem hlt)
      clear hc0
      generalize L[k] = r at hc hr HT
      obtain ⟨X, hX⟩ : ∃ X, X = (L.take k).flatMap bytesR := ⟨_, rfl⟩
      rw [← hX] at hsz ⊢
      have HW := Lib.hid (fun w => rOf_any r w)
      have HU := Lib.hid (fun w => rPutB_any r w)
      have hp32 := putB_size r
      have HPB := Lib.hid (bytesR_put r hr)
      have HXX := Lib.hid hX
      clear hX hr
      have hss : ¬ 9223372036854775807 < (strOfNums X).size + (putB r).size := by omega
      by_cases h0 : widOf r = 0
      · rw [h0] at HW
        have hw00 := Lib.hid h0
        clear h0
        go_wp2_with (first | (go_at_call 25; (with_reducible refine (HW.out _).mono ?_); rintro e w2 ⟨rfl, hb2⟩; have hc2 := holda hb2 hc) | (go_at_call 41; (with_reducible refine (HU.out _).mono ?_); rintro e w3 ⟨u, ys, rfl, hu, hy, hb3⟩; have hcu := conv_bytes hu; rw [hy] at hcu; clear hu hy))
        go_roundw
        case rel => exact ⟨k + 1, by omega, by go_num, by rw [HT.out, List.flatMap_append, ← HXX.out, ← strOfNums_append, HPB.out]; simp, fun x hx => by
          rw [HT.out] at hx
          rcases List.mem_append.1 hx with h | h
          · exact HW0.out x h
          · rw [List.mem_singleton.1 h]; exact hw00.out, below_tail (below_tail hB hb2) hb3, below_tail (below_tail hb hb2) hb3⟩
        case measure => simp [intOf]; omega
      · go_wp2_with (go_at_call 25; (with_reducible refine (HW.out _).mono ?_); rintro e w2 ⟨rfl, hb2⟩)
        go_ret
        exact ⟨_, rfl, fun h => by simp at h, below_tail hB hb2⟩
    · obtain rfl : k = L.length := by omega
      rw [List.take_length] at hsz HW0 ⊢
      have HFIN : Hid (strOfNums (L.flatMap bytesR) = s → s.size ≤ 32 → MarksOk s) := Lib.hid (fun h h2 => ⟨L, fun r hr => ⟨HSC.out r hr, HW0.out r hr⟩, h.symm, h2⟩)
      generalize strOfNums (L.flatMap bytesR) = S at hsz HFIN ⊢
      go_wp2
      all_goals
        go_ret
        first
        | exact ⟨_, rfl, fun h => HFIN.out (WideShapes.bytes_inj (by rw [← ByteArray.toList_eq, ← ByteArray.toList_eq]; assumption)) (by have h2 : ((s.size : Nat) : Int) ≤ 32 := of_decide_eq_true h; omega), hB⟩
        | exact ⟨_, rfl, fun h => by simp at h, hB⟩
end Go.Proofs.YtbllhchcccflkaaDoor

namespace Go.Proofs.YtbllhchcccflkaaDoor
open Go.RowKit
/-- A color that is right. -/
def colB (k n : Int) : Bool := decide (k = 0 ∧ n = 0 ∨ k = 1 ∧ 0 ≤ n ∧ n < 256 ∨ k = 2 ∧ 0 ≤ n ∧ n < 16777216)
def hasN (n f : Int) : Bool := if n < 0 then false else decide (n / f % 2 = 1)
def attB (fk fn bk bn fl : Int) : Bool := colB fk fn && colB bk bn && decide (0 ≤ fl) && decide (fl < 1024) && !(hasN fl 8 && hasN fl 256)
theorem colB_cases (k n : Int) : (k = 0 ∧ (n = 0 ∧ colB k n = true ∨ n ≠ 0 ∧ colB k n = false)) ∨ (k = 1 ∧ (0 ≤ n ∧ n < 256 ∧ colB k n = true ∨ n < 0 ∧ colB k n = false ∨ 256 ≤ n ∧ colB k n = false)) ∨ (k = 2 ∧ (0 ≤ n ∧ n < 16777216 ∧ colB k n = true ∨ n < 0 ∧ colB k n = false ∨ 16777216 ≤ n ∧ colB k n = false)) ∨ (k ≠ 0 ∧ k ≠ 1 ∧ k ≠ 2 ∧ colB k n = false) := by
  unfold colB
  simp only [decide_eq_true_eq, decide_eq_false_iff_not]
  omega
set_option maxRecDepth 100000 in
theorem rColor_any (k n : Int) (w : World) : Calls Tryd.prog 27 #[.agg #[.int .i64 k, .int .i64 n]] w fun e w' => e = .returned (.bool (colB k n)) ∧ Below w.heap.size w w' := by
  have HC := colB_cases k n
  generalize colB k n = b at HC ⊢
  rcases HC with ⟨rfl, ⟨rfl, rfl⟩ | ⟨h, rfl⟩⟩ | ⟨rfl, ⟨h0, h1, rfl⟩ | ⟨h0, rfl⟩ | ⟨h0, rfl⟩⟩ | ⟨rfl, ⟨h0, h1, rfl⟩ | ⟨h0, rfl⟩ | ⟨h0, rfl⟩⟩ | ⟨h0, h1, h2, rfl⟩
  all_goals
    go_enter Tryd.func27, Tryd.ntmps27
    go_wp2
    go_ret
    refine ⟨?_, by repeat (first | exact Below.refl _ _ | refine below_allocs ?_ _)⟩
    simp
    try omega
set_option maxRecDepth 100000 in
theorem acolor_any (k n : Int) (hc : colB k n = true) (w : World) : Calls Tryd.prog 56 #[.agg #[.int .i64 k, .int .i64 n]] w fun e w' => e = .returned (.bool true) ∧ Below w.heap.size w w' := by
  have HC := colB_cases k n
  rw [hc] at HC
  clear hc
  rcases HC with ⟨rfl, ⟨rfl, _⟩ | ⟨_, h⟩⟩ | ⟨rfl, ⟨h0, h1, _⟩ | ⟨_, h⟩ | ⟨_, h⟩⟩ | ⟨rfl, ⟨h0, h1, _⟩ | ⟨_, h⟩ | ⟨_, h⟩⟩ | ⟨_, _, _, h⟩
  all_goals try (cases h; done)
  all_goals
    go_enter Tryd.func56, Tryd.ntmps56
    go_wp2
    go_ret
    refine ⟨?_, by repeat (first | exact Below.refl _ _ | refine below_allocs ?_ _)⟩
    simp
    try omega
theorem rHasN_any (n f : Int) (w : World) (h0 : 0 ≤ n) (h1 : n < 1024) (hf : 0 < f) (hf2 : f ≤ 1024) : Calls Tryd.prog 28 #[.int .i64 n, .int .i64 f] w fun e w' => e = .returned (.bool (hasN n f)) ∧ w = w' := by
  have hq : n.tdiv f = n / f := Int.tdiv_eq_ediv_of_nonneg h0
  have hqn : 0 ≤ n / f := Int.ediv_nonneg h0 (by omega)
  have hql : n / f ≤ n := Int.ediv_le_self _ h0
  have hr : (n / f).tmod 2 = n / f % 2 := Int.tmod_eq_emod_of_nonneg hqn
  have hfz : (f == 0) = false := beq_eq_false_iff_ne.2 (by omega)
  have hf0 : ¬ f = 0 := by omega
  have hn : ¬ n < 0 := by omega
  have hw1 : IntKind.i64.wrap (n / f) = n / f := IntWalk.i64_in _ (by omega)
  have hw2 : IntKind.i64.wrap (n / f % 2) = n / f % 2 := IntWalk.i64_in _ (by omega)
  have he : hasN n f = (n / f % 2 == 1) := by
    unfold hasN
    rw [if_neg hn]
    by_cases h : n / f % 2 = 1
    · rw [h]; rfl
    · rw [beq_eq_false_iff_ne.2 h, decide_eq_false h]
  rw [he]
  clear he
  go_enter Tryd.func28, Tryd.ntmps28
  go_wp2
  go_ret
  exact ⟨rfl, rfl⟩
set_option maxRecDepth 100000 in
set_option maxHeartbeats 1600000 in
theorem rRight5_any (fk fn bk bn fl : Int) (w : World) : Calls Tryd.prog 13 #[.agg #[.int .i64 fk, .int .i64 fn, .int .i64 bk, .int .i64 bn, .int .i64 fl]] w fun e w' => e = .returned (.bool (attB fk fn bk bn fl)) ∧ Below w.heap.size w w' := by
  have HF := Lib.hid (fun w => rColor_any fk fn w)
  have HB := Lib.hid (fun w => rColor_any bk bn w)
  unfold attB
  obtain ⟨b1, hb1⟩ : ∃ b, colB fk fn = b := ⟨_, rfl⟩
  obtain ⟨b2, hb2⟩ : ∃ b, colB bk bn = b := ⟨_, rfl⟩
  rw [hb1] at HF ⊢
  rw [hb2] at HB ⊢
  clear hb1 hb2
  cases b1
  · go_enter Tryd.func13, Tryd.ntmps13
    go_wp2_with (go_at_call 27; refine (HF.out _).mono ?_; rintro e w1 ⟨rfl, hb1⟩; have hB1 := below_tail (show Below w.heap.size w _ from by repeat (first | exact Below.refl _ _ | refine below_allocs ?_ _)) hb1; have e2 := (at_new hb1 (hp_new rfl) 2 _ rfl).1; have e3 := (at_new hb1 (hp_new rfl) 3 _ rfl).1; have e4 := (at_new hb1 (hp_new rfl) 4 _ rfl).1)
    go_ret
    exact ⟨by simp, hB1⟩
  cases b2
  · go_enter Tryd.func13, Tryd.ntmps13
    go_wp2_with (first | (go_at_call 27; (with_reducible refine (HF.out _).mono ?_); rintro e w1 ⟨rfl, hb1⟩; have hB1 := below_tail (show Below w.heap.size w _ from by repeat (first | exact Below.refl _ _ | refine below_allocs ?_ _)) hb1; have e2 := (at_new hb1 (hp_new rfl) 2 _ rfl).1; have e3 := (at_new hb1 (hp_new rfl) 3 _ rfl).1; have e4 := (at_new hb1 (hp_new rfl) 4 _ rfl).1) | (go_at_call 27; (with_reducible refine (HB.out _).mono ?_); rintro e w2 ⟨rfl, hb2⟩; have hB2 := below_tail (show Below w.heap.size w _ from by repeat (first | exact hB1 | refine below_allocs ?_ _)) hb2; have f4 := holda hb2 e4))
    go_ret
    exact ⟨by simp, hB2⟩
  by_cases h0 : 0 ≤ fl
  rotate_left
  · have h0' : fl < 0 := by omega
    go_enter Tryd.func13, Tryd.ntmps13
    go_wp2_with (first | (go_at_call 27; (with_reducible refine (HF.out _).mono ?_); rintro e w1 ⟨rfl, hb1⟩; have hB1 := below_tail (show Below w.heap.size w _ from by repeat (first | exact Below.refl _ _ | refine below_allocs ?_ _)) hb1; have e2 := (at_new hb1 (hp_new rfl) 2 _ rfl).1; have e3 := (at_new hb1 (hp_new rfl) 3 _ rfl).1; have e4 := (at_new hb1 (hp_new rfl) 4 _ rfl).1) | (go_at_call 27; (with_reducible refine (HB.out _).mono ?_); rintro e w2 ⟨rfl, hb2⟩; have hB2 := below_tail (show Below w.heap.size w _ from by repeat (first | exact hB1 | refine below_allocs ?_ _)) hb2; have f4 := holda hb2 e4))
    go_ret
    refine ⟨?_, hB2⟩
    rw [decide_eq_false (show ¬ 0 ≤ fl by omega)]; simp
  by_cases h1 : fl < 1024
  rotate_left
  · have h1' : 1024 ≤ fl := by omega
    go_enter Tryd.func13, Tryd.ntmps13
    go_wp2_with (first | (go_at_call 27; (with_reducible refine (HF.out _).mono ?_); rintro e w1 ⟨rfl, hb1⟩; have hB1 := below_tail (show Below w.heap.size w _ from by repeat (first | exact Below.refl _ _ | refine below_allocs ?_ _)) hb1; have e2 := (at_new hb1 (hp_new rfl) 2 _ rfl).1; have e3 := (at_new hb1 (hp_new rfl) 3 _ rfl).1; have e4 := (at_new hb1 (hp_new rfl) 4 _ rfl).1) | (go_at_call 27; (with_reducible refine (HB.out _).mono ?_); rintro e w2 ⟨rfl, hb2⟩; have hB2 := below_tail (show Below w.heap.size w _ from by repeat (first | exact hB1 | refine below_allocs ?_ _)) hb2; have f4 := holda hb2 e4))
    go_ret
    refine ⟨?_, hB2⟩
    rw [decide_eq_false (show ¬ fl < 1024 by omega)]; simp
  have H8 := Lib.hid (fun w => rHasN_any fl 8 w h0 h1 (by omega) (by omega))
  have H256 := Lib.hid (fun w => rHasN_any fl 256 w h0 h1 (by omega) (by omega))
  obtain ⟨b3, hb3⟩ : ∃ b, hasN fl 8 = b := ⟨_, rfl⟩
  obtain ⟨b4, hb4⟩ : ∃ b, hasN fl 256 = b := ⟨_, rfl⟩
  rw [hb3] at H8 ⊢
  rw [hb4] at H256 ⊢
  clear hb3 hb4
  cases b3 <;> cases b4 <;>
  · go_enter Tryd.func13, Tryd.ntmps13
    go_wp2_with (first | (go_at_call 27; (with_reducible refine (HF.out _).mono ?_); rintro e w1 ⟨rfl, hb1⟩; have hB1 := below_tail (show Below w.heap.size w _ from by repeat (first | exact Below.refl _ _ | refine below_allocs ?_ _)) hb1; have e2 := (at_new hb1 (hp_new rfl) 2 _ rfl).1; have e3 := (at_new hb1 (hp_new rfl) 3 _ rfl).1; have e4 := (at_new hb1 (hp_new rfl) 4 _ rfl).1) | (go_at_call 27; (with_reducible refine (HB.out _).mono ?_); rintro e w2 ⟨rfl, hb2⟩; have hB2 := below_tail (show Below w.heap.size w _ from by repeat (first | exact hB1 | refine below_allocs ?_ _)) hb2; have f4 := holda hb2 e4) | (go_at_call 28; (with_reducible refine (H8.out _).mono ?_); rintro e w1 ⟨rfl, rfl⟩) | (go_at_call 28; (with_reducible refine (H256.out _).mono ?_); rintro e w1 ⟨rfl, rfl⟩))
    go_ret
    exact ⟨by simp [h0, h1], hB2⟩
theorem flags_draw : ∀ f : Fin 1024, bits .andNot .i64 (f.val : Int) 1023 = 0 ∧ (hasN (f.val : Int) 8 = true ∧ hasN (f.val : Int) 256 = true ∨ ¬ bits .and .i64 (f.val : Int) 264 = 264) := by decide +kernel
theorem aRight_any (fk fn bk bn fl : Int) (h : attB fk fn bk bn fl = true) (w : World) : Calls Tryd.prog 44 #[.agg #[.int .i64 fk, .int .i64 fn, .int .i64 bk, .int .i64 bn, .int .i64 fl]] w fun e w' => e = .returned (.bool true) ∧ Below w.heap.size w w' := by
  unfold attB at h
  simp only [Bool.and_eq_true, decide_eq_true_eq, Bool.not_eq_true'] at h
  obtain ⟨⟨⟨⟨hf, hb⟩, h0⟩, h1⟩, h2⟩ := h
  have HF := Lib.hid (fun w => acolor_any fk fn hf w)
  have HB := Lib.hid (fun w => acolor_any bk bn hb w)
  have hfl := flags_draw ⟨fl.toNat, by omega⟩
  rw [show (((⟨fl.toNat, by omega⟩ : Fin 1024).val : Nat) : Int) = fl from by show ((fl.toNat : Nat) : Int) = fl; omega] at hfl
  obtain ⟨hx, hy⟩ := hfl
  have hy' : ¬ bits .and .i64 fl 264 = 264 := by
    rcases hy with ⟨a, b⟩ | h
    · rw [a, b] at h2; cases h2
    · exact h
  clear hf hb h0 h1 h2 hy
  go_enter Tryd.func44, Tryd.ntmps44
  go_wp2_with (first | (go_at_call 56; (with_reducible refine (HF.out _).mono ?_); rintro e w1 ⟨rfl, hb1⟩; have hB1 := below_tail (show Below w.heap.size w _ from by repeat (first | exact Below.refl _ _ | refine below_allocs ?_ _)) hb1; have e2 := (at_new hb1 (hp_new rfl) 2 _ rfl).1; have e3 := (at_new hb1 (hp_new rfl) 3 _ rfl).1; have e4 := (at_new hb1 (hp_new rfl) 4 _ rfl).1) | (go_at_call 56; (with_reducible refine (HB.out _).mono ?_); rintro e w2 ⟨rfl, hb2⟩; have hB2 := below_tail (show Below w.heap.size w _ from by repeat (first | exact hB1 | refine below_allocs ?_ _)) hb2; have f4 := holda hb2 e4))
  go_ret
  refine ⟨?_, hB2⟩
  simp [hx, hy']
end Go.Proofs.YtbllhchcccflkaaDoor

namespace Go.Proofs.YtbllhchcccflkaaDoor
open Go.RowKit
/-- A cell that is right by itself. -/
def CellOk (c : Cl) : Prop := (c.r = 0 ∧ c.more = ByteArray.empty ∧ c.half = 0) ∨ (c.r ≠ 0 ∧ MarksOk c.more ∧ (c.half = 0 ∧ widOf c.r = 1 ∨ c.half = 1 ∧ widOf c.r = 2 ∨ c.half = 2 ∧ widOf c.r = 2))
/-- It can be drawn. -/
def DrawOk (c : Cl) : Prop := CellOk c ∧ attB c.fk c.fn c.bk c.bn c.fl = true ∧ (c.r = 0 → c.fk = 0 ∧ c.fn = 0 ∧ c.fl = 0)
set_option maxRecDepth 100000 in
set_option maxHeartbeats 1600000 in
theorem cfine_any (c : Cl) (h : CellOk c) (w : World) : Calls Tryd.prog 43 #[clV c] w fun e w' => e = .returned (.bool true) ∧ Below w.heap.size w w' := by
  obtain ⟨r, more, half, fk, fn, bk, bn, fl⟩ := c
  unfold clV
  rcases h with ⟨h1, h2, h3⟩ | ⟨h1, h2, h3⟩
  · simp only at h1 h2 h3
    subst h1 h2 h3
    go_enter Tryd.func43, Tryd.ntmps43
    go_wp2
    go_ret
    exact ⟨by first | rfl | simp, by repeat (first | exact Below.refl _ _ | refine below_allocs ?_ _)⟩
  · simp only at h1 h2 h3
    have HM := Lib.hid (fun w => cmarks_any more h2 w)
    have HW := Lib.hid (fun w => widOf_any r w)
    clear h2
    rcases h3 with ⟨rfl, h3⟩ | ⟨rfl, h3⟩ | ⟨rfl, h3⟩
    all_goals
      rw [h3] at HW
      clear h3
      go_enter Tryd.func43, Tryd.ntmps43
      go_wp2_with (first | (go_at_call 54; (with_reducible refine (HW.out _).mono ?_); rintro e w1 ⟨rfl, hb1⟩; have e1 := (at_new hb1 (hp_new rfl) 1 _ rfl).1; have hB1 := below_tail (show Below w.heap.size w _ from by repeat (first | exact Below.refl _ _ | refine below_allocs ?_ _)) hb1) | (go_at_call 55; (with_reducible refine (HM.out _).mono ?_); rintro e w2 ⟨rfl, hb2⟩))
      go_ret
      exact ⟨by first | rfl | simp, below_tail hB1 hb2⟩
set_option maxRecDepth 100000 in
set_option maxHeartbeats 1600000 in
theorem dfine_any (c : Cl) (h : DrawOk c) (w : World) : Calls Tryd.prog 32 #[clV c] w fun e w' => e = .returned (.bool true) ∧ Below w.heap.size w w' := by
  obtain ⟨r, more, half, fk, fn, bk, bn, fl⟩ := c
  unfold clV
  obtain ⟨hc, ha, h0⟩ := h
  have hh : ¬ half = 3 := by rcases hc with ⟨_, _, h⟩ | ⟨_, _, ⟨h, _⟩ | ⟨h, _⟩ | ⟨h, _⟩⟩ <;> (simp only at h; omega)
  simp only at ha h0
  have HA := Lib.hid (fun w => aRight_any fk fn bk bn fl ha w)
  clear hc ha
  by_cases hr : r = 0
  · obtain ⟨rfl, rfl, rfl⟩ := h0 hr
    subst hr
    clear h0
    go_enter Tryd.func32, Tryd.ntmps32
    go_wp2_with (go_at_call 44; (with_reducible refine (HA.out _).mono ?_); rintro e w2 ⟨rfl, hb2⟩)
    go_ret
    exact ⟨by first | rfl | simp [hh], below_tail (by repeat (first | exact Below.refl _ _ | refine below_allocs ?_ _)) hb2⟩
  · clear h0
    go_enter Tryd.func32, Tryd.ntmps32
    go_wp2_with (go_at_call 44; (with_reducible refine (HA.out _).mono ?_); rintro e w2 ⟨rfl, hb2⟩)
    go_ret
    exact ⟨by first | rfl | simp [hh], below_tail (by repeat (first | exact Below.refl _ _ | refine below_allocs ?_ _)) hb2⟩
end Go.Proofs.YtbllhchcccflkaaDoor

namespace Go.Proofs.YtbllhchcccflkaaDoor
open Go.RowKit
theorem gr_of_crO {w : World} {base g c : Nat} {X : List Cl} (h : CrO w base g c X) : GrAt encCl 8 w (some ⟨g, 0, none⟩) X := fun _ => by
  refine ⟨g, 0, rfl, fun i x hi j v hj => ?_⟩
  rw [Nat.zero_add]
  exact (owns_hold h (i := i * 8 + j) (by rw [flat_at2 encCl_len X i x j hi (by have := (List.getElem?_eq_some_iff.1 hj).1; rw [encCl_len] at this; exact this)]; exact hj)).1
theorem gr_of_cls {w : World} {A : Option Addr} {l : List Cl} (h : ClsAt w A l) : GrAt encCl 8 w A l := fun h0 => by
  obtain ⟨b, off, hA, hc⟩ := h h0
  refine ⟨b, off, hA, fun i c hi j v hv => ?_⟩
  obtain ⟨c0, c1, c2, c3, c4, c5, c6, c7⟩ := hc i c hi
  rcases j with _ | _ | _ | _ | _ | _ | _ | _ | j <;> simp [encCl] at hv <;> subst hv <;> assumption
set_option maxRecDepth 100000 in
set_option maxHeartbeats 3200000 in
theorem cright_any (A : Option Addr) (l : List Cl) (ca : Nat) (w : World) (hl : ClsAt w A l) (h0 : 0 < l.length) (hz : l.length ≤ 1000) (hm : mendL l = l) (hok : ∀ c ∈ l, CellOk c) :
    Calls Tryd.prog 31 #[.slice A l.length ca] w fun e w' => e = .returned (.bool true) ∧ Below w.heap.size w w' := by
  have HM := Lib.hid (cMend_any A l ca w (gr_of_cls hl) h0 (by omega))
  rw [hm] at HM
  have HL := Lib.hid hl
  have HOK := Lib.hid hok
  clear hl hm hok
  go_enter Tryd.func31, Tryd.ntmps31
  go_wp2_with (go_at_call 42; (with_reducible refine HM.out.mono ?_); rintro e w1 ⟨g, cap, rfl, hcr, hb1⟩)
  have HG := Lib.hid (gr_of_crO hcr h0)
  have HB1 := Lib.hid hb1
  clear hcr hb1
  go_loopw [8] (fun i wr => ∃ k : Nat, k ≤ l.length ∧ i = .int .i64 k ∧ Below w1.heap.size w1 wr) (fun i _ => l.length - (intOf i).toNat)
  case atStart => exact ⟨0, Nat.zero_le _, rfl, Below.refl _ _⟩
  case round =>
    obtain ⟨k, hk, rfl, hB⟩ := hrel
    by_cases hlt : k < l.length
    · obtain ⟨g', off', hg', hcm⟩ := HG.out
      simp only [Option.some.injEq, Addr.mk.injEq] at hg'
      obtain ⟨rfl, rfl, -⟩ := hg'
      obtain ⟨b, off, rfl, hcl⟩ := HL.out h0
      have hget := List.getElem?_eq_getElem hlt
      have hm := hcm k _ hget
      have hr := ((hcl k _ hget).below HB1.out).below hB
      have hcok := HOK.out _ (List.getElem_mem hlt)
      generalize l[k] = c at hm hr hcok
      clear hcm hcl hget
      have HF := Lib.hid (fun w => cfine_any c hcok w)
      clear hcok
      obtain ⟨r0, r1, r2, r3, r4, r5, r6, r7⟩ := hr
      have m0 := holda hB (hm 0 _ rfl)
      have m1 := holda hB (hm 1 _ rfl)
      have m2 := holda hB (hm 2 _ rfl)
      have m3 := holda hB (hm 3 _ rfl)
      have m4 := holda hB (hm 4 _ rfl)
      have m5 := holda hB (hm 5 _ rfl)
      have m6 := holda hB (hm 6 _ rfl)
      have m7 := holda hB (hm 7 _ rfl)
      clear hm
      simp only [Nat.zero_add, Nat.add_zero] at m0 m1 m2 m3 m4 m5 m6 m7
      obtain ⟨cr, cm, chf, c3, c4, c5, c6, c7⟩ := c
      unfold clV at HF
      simp only at HF r0 r1 r2 r3 r4 r5 r6 r7 m0 m1 m2 m3 m4 m5 m6 m7
      go_upto_region 4 with fail
      have hBA := (Below.refl wr.heap.size wr).alloc (Nat.le_refl _) (.cells #[.int .i32 cr, .string cm, .int .i64 chf, .int .i64 c3, .int .i64 c4, .int .i64 c5, .int .i64 c6, .int .i64 c7] 44)
      have n0 := (at_ (hp_new (W := wr) (o := (.cells #[.int .i32 cr, .string cm, .int .i64 chf, .int .i64 c3, .int .i64 c4, .int .i64 c5, .int .i64 c6, .int .i64 c7] 44)) rfl) 0 _ rfl).1
      have n1 := (at_ (hp_new (W := wr) (o := (.cells #[.int .i32 cr, .string cm, .int .i64 chf, .int .i64 c3, .int .i64 c4, .int .i64 c5, .int .i64 c6, .int .i64 c7] 44)) rfl) 1 _ rfl).1
      have n2 := (at_ (hp_new (W := wr) (o := (.cells #[.int .i32 cr, .string cm, .int .i64 chf, .int .i64 c3, .int .i64 c4, .int .i64 c5, .int .i64 c6, .int .i64 c7] 44)) rfl) 2 _ rfl).1
      have n3 := (at_ (hp_new (W := wr) (o := (.cells #[.int .i32 cr, .string cm, .int .i64 chf, .int .i64 c3, .int .i64 c4, .int .i64 c5, .int .i64 c6, .int .i64 c7] 44)) rfl) 3 _ rfl).1
      have n4 := (at_ (hp_new (W := wr) (o := (.cells #[.int .i32 cr, .string cm, .int .i64 chf, .int .i64 c3, .int .i64 c4, .int .i64 c5, .int .i64 c6, .int .i64 c7] 44)) rfl) 4 _ rfl).1
      have n5 := (at_ (hp_new (W := wr) (o := (.cells #[.int .i32 cr, .string cm, .int .i64 chf, .int .i64 c3, .int .i64 c4, .int .i64 c5, .int .i64 c6, .int .i64 c7] 44)) rfl) 5 _ rfl).1
      have n6 := (at_ (hp_new (W := wr) (o := (.cells #[.int .i32 cr, .string cm, .int .i64 chf, .int .i64 c3, .int .i64 c4, .int .i64 c5, .int .i64 c6, .int .i64 c7] 44)) rfl) 6 _ rfl).1
      have n7 := (at_ (hp_new (W := wr) (o := (.cells #[.int .i32 cr, .string cm, .int .i64 chf, .int .i64 c3, .int .i64 c4, .int .i64 c5, .int .i64 c6, .int .i64 c7] 44)) rfl) 7 _ rfl).1
      replace r0 := holda hBA r0
      replace r1 := holda hBA r1
      replace r2 := holda hBA r2
      replace r3 := holda hBA r3
      replace r4 := holda hBA r4
      replace r5 := holda hBA r5
      replace r6 := holda hBA r6
      replace r7 := holda hBA r7
      have HB2 := Lib.hid (below_allocs hB (.cells #[.int .i32 cr, .string cm, .int .i64 chf, .int .i64 c3, .int .i64 c4, .int .i64 c5, .int .i64 c6, .int .i64 c7] 44))
      have hsN := World.size_alloc wr (.cells #[.int .i32 cr, .string cm, .int .i64 chf, .int .i64 c3, .int .i64 c4, .int .i64 c5, .int .i64 c6, .int .i64 c7] 44)
      clear hBA m0 m1 m2 m3 m4 m5 m6 m7
      generalize hW : wr.alloc (.cells #[.int .i32 cr, .string cm, .int .i64 chf, .int .i64 c3, .int .i64 c4, .int .i64 c5, .int .i64 c6, .int .i64 c7] 44) = W at n0 n1 n2 n3 n4 n5 n6 n7 r0 r1 r2 r3 r4 r5 r6 r7 HB2 hsN ⊢
      clear hW
      obtain ⟨N, hN⟩ : ∃ N, wr.heap.size = N := ⟨_, rfl⟩
      rw [hN] at n0 n1 n2 n3 n4 n5 n6 n7 hsN ⊢
      clear hN
      refine wp_region_u 5 (fun w' => Below W.heap.size W w' ∧ w'.cell? ⟨N, 0, none⟩ = some (.int .i32 cr) ∧ w'.cell? ⟨N, 1, none⟩ = some (.string cm) ∧ w'.cell? ⟨N, 2, none⟩ = some (.int .i64 chf) ∧ w'.cell? ⟨N, 3, none⟩ = some (.int .i64 c3) ∧ w'.cell? ⟨N, 4, none⟩ = some (.int .i64 c4) ∧ w'.cell? ⟨N, 5, none⟩ = some (.int .i64 c5) ∧ w'.cell? ⟨N, 6, none⟩ = some (.int .i64 c6) ∧ w'.cell? ⟨N, 7, none⟩ = some (.int .i64 c7) ∧ w'.cell? ⟨b, off + k * 8, none⟩ = some (.int .i32 cr) ∧ w'.cell? ⟨b, off + k * 8 + 1, none⟩ = some (.string cm) ∧ w'.cell? ⟨b, off + k * 8 + 2, none⟩ = some (.int .i64 chf) ∧ w'.cell? ⟨b, off + k * 8 + 3, none⟩ = some (.int .i64 c3) ∧ w'.cell? ⟨b, off + k * 8 + 4, none⟩ = some (.int .i64 c4) ∧ w'.cell? ⟨b, off + k * 8 + 5, none⟩ = some (.int .i64 c5) ∧ w'.cell? ⟨b, off + k * 8 + 6, none⟩ = some (.int .i64 c6) ∧ w'.cell? ⟨b, off + k * 8 + 7, none⟩ = some (.int .i64 c7)) (by kernel_rfl) (by kernel_rfl) ?_ ?_
      · exact ⟨(Below.refl _ _).drew, n0, n1, n2, n3, n4, n5, n6, n7, r0, r1, r2, r3, r4, r5, r6, r7⟩
      simp only [List.take_succ_cons, List.take_zero, List.drop_succ_cons, List.drop_zero]
      repeat (
        (first
         | refine seqU_skip (by rfl) ?_
         | (refine seqU_val ?_ (by rfl) ?_ ?_; rotate_left; (focus (intro w' hS; obtain ⟨_, _, _, _, _, _, _, _, _, _, _, _, _, _, _, _, _⟩ := hS; go_simp; first | done | with_reducible rfl))))
        simp only [Act.put, List.setIfInBounds_toArray, List.set_cons_zero, List.set_cons_succ])
      refine seqU_nil (fun w' hS => ?_)
      obtain ⟨hb2, n0', n1', n2', n3', n4', n5', n6', n7', _⟩ := hS
      have HB3 := Lib.hid (below_tail HB2.out hb2)
      clear hb2
      go_wp2_with (go_at_call 43; (with_reducible refine (HF.out _).mono ?_); rintro e w3 ⟨rfl, hb3⟩)
      go_roundw
      case rel => exact ⟨k + 1, by omega, by go_num, below_tail HB3.out hb3⟩
      case measure => simp [intOf]; omega
    · obtain rfl : k = l.length := by omega
      go_wp2
      go_ret
      exact ⟨by first | rfl | simp, below_tail HB1.out hB⟩
end Go.Proofs.YtbllhchcccflkaaDoor
