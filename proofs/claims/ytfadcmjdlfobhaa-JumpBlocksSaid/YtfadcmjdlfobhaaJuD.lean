/- jump.Sort, above, next, ahead, Next, Ahead. Conditions: as stated. -/
import Derived.Test.YtfadcmjdlfobhaaJuC
import Derived.Test.YtfadcmjdlfobhaaApNil
import Derived.Test.YtfadcmjdlfobhaaLayJu
import Derived.RegionTactic
namespace Go.Proofs.Ytfadcmjdlfobhaa
open Go.RowKit Go.Sort

theorem putRow_enc {α : Type} [Inhabited α] (enc : α → Value) (w : World) (b o : Nat) (d : List α) : putRow enc w b o d.toArray = putRow id w b o (d.map enc).toArray := by
  unfold putRow
  refine mapBlock_congr _ _ _ _ fun c e fr _ => ?_
  unfold putCells
  apply Array.ext
  · simp
  · intro i h1 h2
    simp only [Array.getElem_mapIdx, List.size_toArray, List.length_map]
    by_cases hc : o ≤ i ∧ i < o + d.length
    · rw [if_pos hc, if_pos hc, getElem!_pos d.toArray (i - o) (by simp; omega), getElem!_pos (d.map enc).toArray (i - o) (by simp; omega)]
      simp
    · rw [if_neg hc, if_neg hc]
theorem holdsI {w : World} {g : Nat} {l : List Int} (h : Holds id w g 0 (vals l).toArray) : Holds (Value.int .i64) w g 0 l.toArray := by
  intro j hj
  have hj' : j < l.length := by simpa using hj
  have := h j (by simpa [vals] using hj')
  rw [getElem!_pos (vals l).toArray j (by simpa [vals] using hj')] at this
  rw [getElem!_pos l.toArray j hj]
  simpa [vals] using this
theorem owns_shrink {w : World} {base : Nat} {e : TypeId} {size n cap g n' : Nat} {xs : List Value} (h : w.ownsRow base e size (.slice (some ⟨g, 0, none⟩) n cap) n xs) (hn : n' ≤ n) :
    w.ownsRow base e size (.slice (some ⟨g, 0, none⟩) n' cap) n' (xs.take (n' * size)) := by
  obtain ⟨h1, h2 | ⟨g', cap', cur, hv, hb, hg, hc, hm, hs, ht⟩⟩ := h
  · cases h2.1
  · simp only [Value.slice.injEq, Option.some.injEq, Addr.mk.injEq, and_true, true_and] at hv
    obtain ⟨rfl, rfl⟩ := hv
    have hle : n' * size ≤ n * size := Nat.mul_le_mul_right _ hn
    refine ⟨by rw [List.length_take, h1]; omega, .inr ⟨g, cap, cur, rfl, hb, hg, by omega, hm, hs, ?_⟩⟩
    rw [← ht, List.take_take, Nat.min_eq_left hle]
theorem SortI_any (base g cap : Nat) (l : List Int) (w : World) (h : w.ownsRow base 3 1 (.slice (some ⟨g, 0, none⟩) l.length cap) l.length (vals l)) (hz : l.length ≤ 1000000) :
    Calls Try.prog 57 #[.slice (some ⟨g, 0, none⟩) l.length cap] w fun e w' =>
      e = .returned (.tuple #[]) ∧ w'.ownsRow base 3 1 (.slice (some ⟨g, 0, none⟩) l.length cap) l.length (vals (l.mergeSort fun x y => decide (x ≤ y))) ∧ w.grownBy w' (some g) := by
  have hcon := AnyM.slices_Sort_int Try.sortI g 0 cap l w (holdsI (holds_of_owns h)) (h.lt g rfl).2 (by omega)
  change Calls Try.prog 57 _ _ _ at hcon
  refine hcon.mono fun e w' ⟨he, n, os, hw⟩ => ?_
  rw [putRow_enc] at hw
  have hF : (vals (l.mergeSort fun x y => decide (x ≤ y))).toArray.size = l.length * 1 := by simp [vals, List.length_mergeSort]
  subst hw
  exact ⟨he, owns_putRow h _ hF n os, grownBy_putRow w g _ n os⟩
theorem compact_len (l : List Int) : (Lib.compact l).length ≤ l.length := by
  unfold Lib.compact Lib.compactUpTo
  rw [List.length_map]
  exact Nat.le_trans (List.length_filter_le _ _) (by simp)
theorem CompactI_any (base g cap : Nat) (l : List Int) (w : World) (h : w.ownsRow base 3 1 (.slice (some ⟨g, 0, none⟩) l.length cap) l.length (vals l)) (hz : l.length ≤ 1000000) :
    Calls Try.prog 58 #[.slice (some ⟨g, 0, none⟩) l.length cap] w fun e w' =>
      e = .returned (.slice (some ⟨g, 0, none⟩) (Lib.compact l).length cap) ∧ w'.ownsRow base 3 1 (.slice (some ⟨g, 0, none⟩) (Lib.compact l).length cap) (Lib.compact l).length (vals (Lib.compact l)) ∧ w.grownBy w' (some g) := by
  have hcap : l.length ≤ cap := by
    obtain ⟨h1, h2 | ⟨g', cap', cur, hv, hb, hg, hc, hm, hs, ht⟩⟩ := h
    · cases h2.1
    · simp only [Value.slice.injEq, Option.some.injEq, Addr.mk.injEq, and_true, true_and] at hv
      obtain ⟨rfl, rfl⟩ := hv
      exact hc
  have hcon := AnyG.slices_Compact_int Try.compactI g 0 cap l w (holdsI (holds_of_owns h)) (by omega) hcap
  change Calls Try.prog 58 _ _ _ at hcon
  have hlen := compact_len l
  refine hcon.mono fun e w' ⟨he, q, hw⟩ => ?_
  rw [putRow_enc] at hw
  have e1 : putRow id (Sort.ahead w q) g 0 ((Lib.compact l ++ List.replicate (l.length - (Lib.compact l).length) 0).map (Value.int .i64)).toArray = grow (putRow id (Sort.ahead w q) g 0 (vals (Lib.compact l ++ List.replicate (l.length - (Lib.compact l).length) 0)).toArray) #[] := by rw [grow_empty]; rfl
  rw [e1] at hw
  have hF : (vals (Lib.compact l ++ List.replicate (l.length - (Lib.compact l).length) 0)).toArray.size = l.length * 1 := by simp [vals]; omega
  have ho := owns_shrink (owns_putRow h _ hF q #[]) hlen
  rw [Nat.mul_one] at ho
  have e2 : (vals (Lib.compact l ++ List.replicate (l.length - (Lib.compact l).length) 0)).take (Lib.compact l).length = vals (Lib.compact l) := by
    unfold vals
    rw [List.map_append, List.take_left' (by simp)]
  have e3 : (vals (Lib.compact l ++ List.replicate (l.length - (Lib.compact l).length) 0)).toArray.toList = vals (Lib.compact l ++ List.replicate (l.length - (Lib.compact l).length) 0) := rfl
  rw [e3, e2] at ho
  subst hw
  exact ⟨he, ho, grownBy_putRow w g _ q #[]⟩
set_option maxRecDepth 100000 in
set_option maxHeartbeats 1600000 in
theorem JSort_any (A : Option Addr) (l : List Int) (ca : Nat) (w : World) (hl : IntsAt w A l) (hz : l.length ≤ 1000000) :
    Calls Try.prog 35 #[.slice A l.length ca] w (OwnPost w (srtd l)) := by
  obtain ⟨i0, hi, hz0, hz1, hz2⟩ := info_parts info_int
  rcases Nat.eq_zero_or_pos l.length with h0 | h0
  · have HS : Hid (∀ (p : Option Addr) (cap : Nat) (w : World), Calls Try.prog 57 #[.slice p 0 cap] w fun e w' => e = .returned (.tuple #[]) ∧ w = w') :=
      Lib.hid fun p cap w => (AnyM.slices_Sort_int_none Try.sortI p cap w).mono fun _ _ ⟨he, hw⟩ => ⟨he, hw.symm⟩
    have HC : Hid (∀ (p : Option Addr) (cap : Nat) (w : World), Calls Try.prog 58 #[.slice p 0 cap] w fun e w' => e = .returned (.slice p 0 cap) ∧ w = w') :=
      Lib.hid fun p cap w => (AnyG.slices_Compact_int_empty Try.compactI p cap w).mono fun _ _ ⟨he, hw⟩ => ⟨he, hw.symm⟩
    have el : l = [] := List.length_eq_zero_iff.1 h0
    subst el
    have e0 : srtd [] = [] := by simp [srtd, Lib.compact, Lib.compactUpTo]
    rw [e0]
    clear hl e0
    go_enter Try.func35, Try.ntmps35
    go_wp2_with (first
      | (at_builtin; refine wpList_append_nothing rfl (.const (.slice none 0 0)) (.tmp 4) _ rfl Try.underlying53 hi A ca rfl rfl ?_)
      | (go_at_call 57; refine (HS.out _ _ _).mono ?_; rintro e w1 ⟨rfl, rfl⟩)
      | (go_at_call 58; refine (HC.out _ _ _).mono ?_; rintro e w1 ⟨rfl, rfl⟩))
    go_ret
    exact ⟨.slice none 0 0, rfl, World.ownsRow_nil _ _ _ _, Below.refl _ _⟩
  · obtain ⟨b, off, rfl, -⟩ := hl h0
    have HN := Lib.hid hl.news
    have HML := Lib.hid (show (l.mergeSort fun x y => decide (x ≤ y)).length = l.length from List.length_mergeSort l)
    have HSR := Lib.hid (show Lib.compact (l.mergeSort fun x y => decide (x ≤ y)) = srtd l from rfl)
    clear hl
    go_enter Try.func35, Try.ntmps35
    go_wp2_with (first
      | (at_builtin; refine wpList_append_own _ rfl (.const (.slice none 0 0)) (.tmp 4) _ rfl w.heap.size 3 i0 (.int .i64 0) 1 8 Try.underlying53 hi hz0 hz1 hz2 rfl (by decide) _ 0 [] rfl (World.ownsRow_nil _ _ _ _) ⟨b, off, none⟩ l.length ca (vals l) rfl (by rw [vals_len, Nat.mul_one]) HN.out (vals_one l) (by simp only [maxLen]; omega) (by omega) (Nat.le_refl _) ?_; intro v1 w1 hown1 hg1 _; have HG := Lib.hid hg1; clear hg1; rw [Nat.zero_add, List.nil_append] at hown1; obtain ⟨g1, cap1, rfl⟩ := Go.Joins.ownsRow_form hown1 h0; have HO := Lib.hid hown1; clear hown1)
      | (go_at_call 57; refine (SortI_any w.heap.size g1 cap1 l _ HO.out hz).mono ?_; rintro e w2 ⟨rfl, ho2, hg2⟩; rw [← HML.out] at ho2; have HO2 := Lib.hid ho2; have HG2 := Lib.hid hg2; clear ho2 hg2)
      | (go_at_call 58; have hc := CompactI_any w.heap.size g1 cap1 _ _ HO2.out (by rw [HML.out]; exact hz); rw [HML.out, HSR.out] at hc; refine hc.mono ?_; clear hc; rintro e w3 ⟨rfl, ho3, hg3⟩; have HO3 := Lib.hid ho3; have HG3 := Lib.hid hg3; clear ho3 hg3))
    go_ret
    refine ⟨_, rfl, HO3.out, ?_⟩
    have hb1 : Below w.heap.size w w1 := (Below.refl _ _).grown HG.out (Nat.le_refl _) (fun k hk => by cases hk)
    have hg1 := (HO.out.lt g1 rfl).1
    have hb2 := hb1.grown HG2.out hb1.size (fun k hk => by
      obtain rfl : g1 = k := (by simpa using hk)
      exact hg1)
    exact hb2.grown HG3.out hb2.size (fun k hk => by
      obtain rfl : g1 = k := (by simpa using hk)
      exact hg1)

set_option maxRecDepth 100000 in
set_option maxHeartbeats 1600000 in
theorem above1_any (ba bx : Nat) (A : Option Addr) (l : List Int) (ca : Nat) (x : Int) (i : Nat) (W : World) (hi : i < l.length) (_hz : l.length ≤ 1000000)
    (ha : W.cell? ⟨ba, 0, none⟩ = some (.slice A l.length ca)) (hx : W.cell? ⟨bx, 0, none⟩ = some (.int .i64 x)) (hc : IntsAt W A l) :
    Calls Try.prog 80 (#[.int .i64 i] ++ #[.pointer (some ⟨ba, 0, none⟩), .pointer (some ⟨bx, 0, none⟩)]) W fun e w' => e = .returned (.bool (decide (x < l.toArray[i]!))) ∧ ∃ q, w' = W.drewN q := by
  obtain ⟨b, off, y, rfl, hy, c0⟩ := hc.at_ hi
  have e : l.toArray[i]! = y := by
    have h1 := List.getElem?_eq_some_iff.1 hy
    rw [getElem!_pos l.toArray i (by simpa using hi)]
    simpa using h1.2
  rw [e]
  have hiz : (i : Int) < (l.length : Int) := by omega
  clear hc hy e
  go_enter Try.func80, Try.ntmps80
  go_wp2
  go_region
  all_goals go_wp2
  all_goals go_ret
  all_goals exact ⟨by first | rfl | simp, 1, rfl⟩
theorem rise_get {s : List Int} (h : Rise s) {a b : Nat} (hab : a ≤ b) (hb : b < s.length) : s.toArray[a]! ≤ s.toArray[b]! := by
  rw [getElem!_pos s.toArray a (by simp; omega), getElem!_pos s.toArray b (by simpa using hb)]
  rcases Nat.lt_or_ge a b with h1 | h1
  · have := List.pairwise_iff_getElem.1 h a b (by omega) hb h1
    simp; omega
  · have : a = b := by omega
    subst this; exact Int.le_refl _
set_option maxRecDepth 100000 in
set_option maxHeartbeats 1600000 in
theorem above_any (A : Option Addr) (s : List Int) (ca : Nat) (x : Int) (w : World) (hl : IntsAt w A s) (hz : s.length ≤ 1000000) (hs : Rise s) :
    Calls Try.prog 70 #[.slice A s.length ca, .int .i64 x] w fun e w' => e = .returned (.int .i64 (cntLe s x : Nat)) ∧ Below w.heap.size w w' := by
  obtain ⟨W0, hW0⟩ : ∃ W0, W0 = (w.alloc (.cells #[.slice A s.length ca] 53)).alloc (.cells #[.int .i64 x] 3) := ⟨_, rfl⟩
  have hsize : W0.heap.size = w.heap.size + 1 + 1 := by rw [hW0]; simp
  have hB0 : Below w.heap.size w W0 := by rw [hW0]; exact below_allocs (below_allocs (Below.refl _ _) _) _
  have ca0 : W0.cell? ⟨w.heap.size, 0, none⟩ = some (.slice A s.length ca) := by rw [hW0]; exact cell_alloc_sl _ (cell_new_sl w _ _)
  have cx : W0.cell? ⟨w.heap.size + 1, 0, none⟩ = some (.int .i64 x) := by rw [hW0]; have := cell_new_sl (w.alloc (.cells #[.slice A s.length ca] 53)) (.int .i64 x) 3; rwa [World.size_alloc] at this
  have hl0 := hl.below hB0
  have eg : ∀ args w, (callFunc 80 args).run Try.prog w = .ok (.enter 80 args) w := enters_of Try.func80 (by kernel_rfl) rfl
  have hS := Any.sort_Search Try.search 80 #[.pointer (some ⟨w.heap.size, 0, none⟩), .pointer (some ⟨w.heap.size + 1, 0, none⟩)] s.length (fun i => decide (x < s.toArray[i]!)) W0 eg (by omega)
    (fun m os i hi => (above1_any w.heap.size (w.heap.size + 1) A s ca x i _ hi hz (cell_grown (by simp [hsize]; omega) ca0 m os) (cell_grown (by simp [hsize]) cx m os) (hl0.below (below_grown_sl _ W0 m os (Nat.le_refl _)))).mono
      fun _ _ ⟨he, q, hq⟩ => ⟨he, q, #[], by rw [hq, grow_empty]⟩) (fun a b hab hb h => by have := rise_get hs hab hb; simp only [decide_eq_true_eq] at h ⊢; omega)
  have hcnt : (List.range s.length).countP (fun i => !decide (x < s.toArray[i]!)) = cntLe s x := by
    have := Lib.countP_range s.toArray (fun y => !decide (x < y))
    rw [List.size_toArray] at this
    rw [this]
    unfold cntLe
    congr 1
    funext y
    by_cases h : x < y
    · simp [h]
    · simp [h]; omega
  rw [hcnt] at hS
  change Calls Try.prog 79 _ _ _ at hS
  clear hl ca0 cx hs hcnt hl0 eg
  generalize cntLe s x = r at hS ⊢
  have HS := Lib.hid hS
  clear hS
  have hmf : ∀ (fn : Fn) (first cap : Array Value) (w : World), (Instr.makeFunc fn first cap).run Try.prog w = .ok (.func fn first cap) w := fun _ _ _ _ => rfl
  go_enter Try.func70, Try.ntmps70
  go_wp2_with (go_at_call 79; rw [← hW0]; refine HS.out.mono ?_; rintro e w' ⟨rfl, q, os, rfl⟩)
  go_ret
  refine ⟨rfl, ?_⟩
  rw [← hW0]
  exact hB0.trans (below_grown_sl w.heap.size W0 q os (by omega))
end Go.Proofs.Ytfadcmjdlfobhaa
