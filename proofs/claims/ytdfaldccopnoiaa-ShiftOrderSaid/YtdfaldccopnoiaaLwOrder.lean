/- ShiftOrder: the walk of the law. Conditions: none. -/
import Derived.Test.YtdfaldccopnoiaaLwAll
import Derived.Test.YtdfaldccopnoiaaRegN
import Derived.Deep.LoopGhost
import Derived.RegionTactic
import Derived.BigRegion
namespace Go.Proofs.Ytdfaldccopnoiaa
open Go.RowKit

/-- Of two right places, one of which isn't ahead of the other, it isn't behind a shift either, as long as both stay right. -/
theorem order_plain (r c r' c' k a n : Int) (h1 : inB r = true) (h2 : inB c = true) (h3 : inB r' = true) (h4 : inB c' = true) (h : lessB r' c' r c = false)
    (h5 : inB (mv r c k a n).1 = true) (h6 : inB (mv r' c' k a n).1 = true) :
    inB (mv r c k a n).2 = true ∧ inB (mv r' c' k a n).2 = true ∧ lessB (mv r' c' k a n).1 (mv r' c' k a n).2 (mv r c k a n).1 (mv r c k a n).2 = false := by
  have z : inB 0 = true := by decide
  cases hs : rightS k a n
  · have e : ∀ r c, mv r c k a n = (r, c) := fun r c => by unfold mv; rw [if_neg (by simp [hs])]
    rw [e, e]
    exact ⟨h2, h4, h⟩
  · have hb := rightS_true hs
    have hg := gapI_bd (k := k) hb.2.2.1 hb.2.2.2.1
    have h7 : ¬ (r' < r) ∧ (r' = r → ¬ c' < c) := by
      simp [lessB] at h; omega
    have f : ∀ r c : Int, inB r = true → inB c = true → mv r c k a n = if gapI k a ≤ r then (if k = 0 then (r + n, c) else if r < gapI k a + n then (gapI k a, 0) else (r - n, c)) else (r, c) := fun r c h1 h2 => by
      unfold mv
      by_cases hh : gapI k a ≤ r
      · rw [if_pos ⟨h1, h2, hs, hh⟩, if_pos hh]
      · rw [if_neg (by simp [hh]), if_neg hh]
    have b2 := inB_true h2
    have b4 := inB_true h4
    rw [f r c h1 h2, f r' c' h3 h4]
    generalize gapI k a = g at *
    have fin : ∀ x y x' y' : Int, inB y = true → inB y' = true → (¬ x' < x ∧ (x' = x → ¬ y' < y)) → inB y = true ∧ inB y' = true ∧ lessB x' y' x y = false := fun x y x' y' i1 i2 i3 => ⟨i1, i2, by simp [lessB]; omega⟩
    by_cases e1 : g ≤ r <;> by_cases e2 : g ≤ r' <;> by_cases e3 : k = 0 <;> by_cases e4 : r < g + n <;> by_cases e5 : r' < g + n
    all_goals
      simp only [if_pos, if_neg, e1, e2, e3, e4, e5, if_true, if_false]
      refine fin _ _ _ _ ?_ ?_ ?_
      · first | exact h2 | exact z
      · first | exact h4 | exact z
      · omega
theorem RLess_hid (r c r' c' : Int) : Hid (∀ w : World, Calls Try.prog 26 #[posV r c, posV r' c'] w fun e w' => e = .returned (.bool (lessB r c r' c')) ∧ Below w.heap.size w w') := Lib.hid (RLess_any r c r' c')
set_option maxRecDepth 100000 in
set_option maxHeartbeats 1600000 in
theorem ShiftOrder_out (r c r' c' : Int) (A : Option Addr) (len cap : Nat) (w : World) (h : 100 < len ∨ inB r = false ∨ inB c = false ∨ inB r' = false ∨ inB c' = false ∨ lessB r' c' r c = true) :
    Calls Try.prog 8 #[posV r c, posV r' c', .slice A len cap] w fun e w' => e = .returned (.bool true) ∧ Below w.heap.size w w' := by
  have HL := RLess_hid r' c' r c
  generalize lessB r' c' r c = L at *
  unfold posV at *
  by_cases h0 : 100 < len
  · clear h
    go_enter Try.func8, Try.ntmps8
    go_wp2_with (first | (go_at_call 18; refine (Right10_any _ _).mono ?_; rintro e w2 ⟨rfl, rfl⟩) | (go_at_call 26; refine (HL.out _).mono ?_; rintro e w2 ⟨rfl, hb2⟩) | (go_at_call 14; refine (awake10 _).mono ?_; rintro e w3 ⟨rfl, hb3⟩))
    go_ret
    exact ⟨by simp, below_tail (below_allocs (below_allocs (Below.refl _ _) _) _) hb3⟩
  cases h1 : inB r
  · clear h
    go_enter Try.func8, Try.ntmps8
    go_wp2_with (first | (go_at_call 18; refine (Right10_any _ _).mono ?_; rintro e w2 ⟨rfl, rfl⟩) | (go_at_call 26; refine (HL.out _).mono ?_; rintro e w2 ⟨rfl, hb2⟩) | (go_at_call 14; refine (awake10 _).mono ?_; rintro e w3 ⟨rfl, hb3⟩))
    go_ret
    exact ⟨by simp, below_tail (below_allocs (below_allocs (Below.refl _ _) _) _) hb3⟩
  cases h2 : inB c
  · clear h
    go_enter Try.func8, Try.ntmps8
    go_wp2_with (first | (go_at_call 18; refine (Right10_any _ _).mono ?_; rintro e w2 ⟨rfl, rfl⟩) | (go_at_call 26; refine (HL.out _).mono ?_; rintro e w2 ⟨rfl, hb2⟩) | (go_at_call 14; refine (awake10 _).mono ?_; rintro e w3 ⟨rfl, hb3⟩))
    go_ret
    exact ⟨by simp, below_tail (below_allocs (below_allocs (Below.refl _ _) _) _) hb3⟩
  cases h3 : inB r'
  · clear h
    go_enter Try.func8, Try.ntmps8
    go_wp2_with (first | (go_at_call 18; refine (Right10_any _ _).mono ?_; rintro e w2 ⟨rfl, rfl⟩) | (go_at_call 26; refine (HL.out _).mono ?_; rintro e w2 ⟨rfl, hb2⟩) | (go_at_call 14; refine (awake10 _).mono ?_; rintro e w3 ⟨rfl, hb3⟩))
    go_ret
    exact ⟨by simp, below_tail (below_allocs (below_allocs (Below.refl _ _) _) _) hb3⟩
  cases h4 : inB c'
  · clear h
    go_enter Try.func8, Try.ntmps8
    go_wp2_with (first | (go_at_call 18; refine (Right10_any _ _).mono ?_; rintro e w2 ⟨rfl, rfl⟩) | (go_at_call 26; refine (HL.out _).mono ?_; rintro e w2 ⟨rfl, hb2⟩) | (go_at_call 14; refine (awake10 _).mono ?_; rintro e w3 ⟨rfl, hb3⟩))
    go_ret
    exact ⟨by simp, below_tail (below_allocs (below_allocs (Below.refl _ _) _) _) hb3⟩
  cases L
  · exfalso; simp_all; omega
  · clear h
    go_enter Try.func8, Try.ntmps8
    go_wp2_with (first | (go_at_call 18; refine (Right10_any _ _).mono ?_; rintro e w2 ⟨rfl, rfl⟩) | (go_at_call 26; refine (HL.out _).mono ?_; rintro e w2 ⟨rfl, hb2⟩) | (go_at_call 14; refine (awake10 _).mono ?_; rintro e w3 ⟨rfl, hb3⟩))
    go_ret
    exact ⟨by simp, below_tail (below_tail (below_allocs (below_allocs (Below.refl _ _) _) _) hb2) hb3⟩

set_option maxRecDepth 100000 in
set_option maxHeartbeats 3200000 in
theorem ShiftOrder_in (r c r' c' : Int) (A : Option Addr) (l : List Sh) (cap : Nat) (w : World) (hm : l.length ≤ 100) (hl : ShAt w A l) (h1 : inB r = true) (h2 : inB c = true) (h3 : inB r' = true) (h4 : inB c' = true) (h5 : lessB r' c' r c = false) :
    Calls Try.prog 8 #[posV r c, posV r' c', .slice A l.length cap] w fun e w' => e = .returned (.bool true) ∧ Below w.heap.size w w' := by
  have HL := RLess_hid r' c' r c
  have HA := Lib.hid hl
  have H2 := Lib.hid h2
  have H4 := Lib.hid h4
  have H5 := Lib.hid h5
  rw [h5] at HL
  clear hl h5
  unfold posV at *
  go_enter Try.func8, Try.ntmps8
  go_wp2_with (first | (go_at_call 18; refine (Right10_any _ _).mono ?_; rintro e w2 ⟨rfl, rfl⟩) | (go_at_call 26; refine (HL.out _).mono ?_; rintro e w2 ⟨rfl, hb2⟩; have hB := below_tail (show Below w.heap.size w _ from by repeat (first | exact Below.refl _ _ | refine below_allocs ?_ _)) hb2; have p0 := at_new (b := w.heap.size) hb2 (by repeat (first | (refine hp_new ?_; simp; done) | refine hp_old ?_)) 0 (.int .i64 r) rfl; have p1 := at_new (b := w.heap.size) hb2 (by repeat (first | (refine hp_new ?_; simp; done) | refine hp_old ?_)) 1 (.int .i64 c) rfl; have q0 := at_new (b := w.heap.size + 1) hb2 (by repeat (first | (refine hp_new ?_; simp; done) | refine hp_old ?_)) 0 (.int .i64 r') rfl; have q1 := at_new (b := w.heap.size + 1) hb2 (by repeat (first | (refine hp_new ?_; simp; done) | refine hp_old ?_)) 1 (.int .i64 c') rfl))
  have H1 := Lib.hid h1
  have H3 := Lib.hid h3
  clear h1 h2 h3 h4 hb2
  go_loopw [7] (fun i wr => ∃ (k : Nat) (pr pc qr qc : Int), k ≤ l.length ∧ i = .int .i64 k ∧ Below w.heap.size w wr ∧ (inB pr = true ∧ inB pc = true ∧ inB qr = true ∧ inB qc = true ∧ lessB qr qc pr pc = false) ∧ (wr.cell? ⟨w.heap.size, 0, none⟩ = some (.int .i64 pr) ∧ wr.frozen? ⟨w.heap.size, 0, none⟩ = false) ∧ (wr.cell? ⟨w.heap.size, 1, none⟩ = some (.int .i64 pc) ∧ wr.frozen? ⟨w.heap.size, 1, none⟩ = false)
      ∧ (wr.cell? ⟨w.heap.size + 1, 0, none⟩ = some (.int .i64 qr) ∧ wr.frozen? ⟨w.heap.size + 1, 0, none⟩ = false) ∧ (wr.cell? ⟨w.heap.size + 1, 1, none⟩ = some (.int .i64 qc) ∧ wr.frozen? ⟨w.heap.size + 1, 1, none⟩ = false)) (fun i _ => l.length - (intOf i).toNat)
  case atStart => exact ⟨0, r, c, r', c', Nat.zero_le _, rfl, hB, ⟨H1.out, H2.out, H3.out, H4.out, H5.out⟩, p0, p1, q0, q1⟩
  case round =>
    clear hB p0 p1 q0 q1
    obtain ⟨k, pr, pc, qr, qc, hk, rfl, hB, hbs, p0, p1, q0, q1⟩ := hrel
    have Hbs := Lib.hid hbs
    clear hbs
    by_cases hlt : k < l.length
    rotate_left
    · obtain rfl : k = l.length := by omega
      go_wp2_with (go_at_call 14; refine (awake10 _).mono ?_; rintro e w3 ⟨rfl, hb3⟩)
      go_ret
      exact ⟨by simp, below_tail hB hb3⟩
    obtain ⟨b, off, s, hA, hs, c0, c1, c2⟩ := (HA.out).at_ hlt
    replace c0 := holda hB c0
    replace c1 := holda hB c1
    replace c2 := holda hB c2
    subst hA
    clear hs
    have HM := Move_hid pr pc s.k s.a s.n
    have HN := Move_hid qr qc s.k s.a s.n
    have HO : Hid (inB (mv pr pc s.k s.a s.n).1 = true → inB (mv qr qc s.k s.a s.n).1 = true → inB (mv pr pc s.k s.a s.n).2 = true ∧ inB (mv qr qc s.k s.a s.n).2 = true ∧ lessB (mv qr qc s.k s.a s.n).1 (mv qr qc s.k s.a s.n).2 (mv pr pc s.k s.a s.n).1 (mv pr pc s.k s.a s.n).2 = false) :=
      Lib.hid (order_plain pr pc qr qc s.k s.a s.n Hbs.out.1 Hbs.out.2.1 Hbs.out.2.2.1 Hbs.out.2.2.2.1 Hbs.out.2.2.2.2)
    clear Hbs
    unfold posV shV at *
    have z0 := lt_of_cell p0.1
    have z1 := lt_of_cell q0.1
    generalize mv pr pc s.k s.a s.n = m at HM HO
    generalize mv qr qc s.k s.a s.n = m' at HN HO
    obtain ⟨ar, ac⟩ := m
    obtain ⟨br, bc⟩ := m'
    simp only at HM HN HO
    go_upto_region 6 with (fail)
    go_cut [8, 9] (fun s8 s9 w' => ∃ g g', s8 = .pointer (some ⟨g, 0, none⟩) ∧ s9 = .pointer (some ⟨g', 0, none⟩) ∧ wr.heap.size ≤ g ∧ wr.heap.size ≤ g' ∧ Below wr.heap.size wr w' ∧ (w'.cell? ⟨g, 0, none⟩ = some (.int .i64 ar) ∧ w'.cell? ⟨g, 1, none⟩ = some (.int .i64 ac) ∧ w'.cell? ⟨g', 0, none⟩ = some (.int .i64 br) ∧ w'.cell? ⟨g', 1, none⟩ = some (.int .i64 bc)))
    case first =>
      refine wp_region_n 14 (fun w' => Below wr.heap.size wr w' ∧ w'.cell? ⟨b, off + k * 3, none⟩ = some (.int .i64 s.k) ∧ w'.cell? ⟨b, off + k * 3 + 1, none⟩ = some (.int .i64 s.a) ∧ w'.cell? ⟨b, off + k * 3 + 2, none⟩ = some (.int .i64 s.n) ∧ w'.cell? ⟨w.heap.size, 0, none⟩ = some (.int .i64 pr) ∧ w'.cell? ⟨w.heap.size, 1, none⟩ = some (.int .i64 pc) ∧ w'.cell? ⟨w.heap.size + 1, 0, none⟩ = some (.int .i64 qr) ∧ w'.cell? ⟨w.heap.size + 1, 1, none⟩ = some (.int .i64 qc)) (by kernel_rfl) (by kernel_rfl) ?_ ?_ ?_
      · intro w1 w2 hS hb; exact ⟨below_tail hS.1 hb, holda hb hS.2.1, holda hb hS.2.2.1, holda hb hS.2.2.2.1, holda hb hS.2.2.2.2.1, holda hb hS.2.2.2.2.2.1, holda hb hS.2.2.2.2.2.2.1, holda hb hS.2.2.2.2.2.2.2⟩
      · exact ⟨(Below.refl _ _).drew, c0, c1, c2, p0.1, p1.1, q0.1, q1.1⟩
      refine AtN.take (v := ?_) 0 (by kernel_rfl) rfl (by simp) (by kernel_rfl) (by kernel_rfl) ?_ ?_; rotate_left
      · (refine StabN.val (by rfl) ?_; intro w' hS; obtain ⟨_, _⟩ := hS; go_simp; first | done | with_reducible rfl)
      simp only [Act.put, List.setIfInBounds_toArray, List.set_cons_zero, List.set_cons_succ]
      refine AtN.take (v := ?_) 1 (by kernel_rfl) rfl (by simp) (by kernel_rfl) (by kernel_rfl) ?_ ?_; rotate_left
      · (refine StabN.val (by rfl) ?_; intro w' hS; obtain ⟨_, _⟩ := hS; go_simp; first | done | with_reducible rfl)
      simp only [Act.put, List.setIfInBounds_toArray, List.set_cons_zero, List.set_cons_succ]
      refine AtN.take (v := ?_) 2 (by kernel_rfl) rfl (by simp) (by kernel_rfl) (by kernel_rfl) ?_ ?_; rotate_left
      · (refine StabN.val (by rfl) ?_; intro w' hS; obtain ⟨_, _⟩ := hS; go_simp; first | done | with_reducible rfl)
      simp only [Act.put, List.setIfInBounds_toArray, List.set_cons_zero, List.set_cons_succ]
      refine AtN.take (v := ?_) 3 (by kernel_rfl) rfl (by simp) (by kernel_rfl) (by kernel_rfl) ?_ ?_; rotate_left
      · (refine StabN.val (by rfl) ?_; intro w' hS; obtain ⟨_, _⟩ := hS; go_simp; first | done | with_reducible rfl)
      simp only [Act.put, List.setIfInBounds_toArray, List.set_cons_zero, List.set_cons_succ]
      refine AtN.take (v := ?_) 4 (by kernel_rfl) rfl (by simp) (by kernel_rfl) (by kernel_rfl) ?_ ?_; rotate_left
      · (refine StabN.val (by rfl) ?_; intro w' hS; obtain ⟨_, _⟩ := hS; go_simp; first | done | with_reducible rfl)
      simp only [Act.put, List.setIfInBounds_toArray, List.set_cons_zero, List.set_cons_succ]
      refine AtN.take (v := .agg #[.int .i64 ar, .int .i64 ac]) 5 (by kernel_rfl) rfl (by simp) (by kernel_rfl) (by kernel_rfl) ?_ ?_
      · (refine StabN.call1 16 #[.agg #[.int .i64 pr, .int .i64 pc], .agg #[.int .i64 s.k, .int .i64 s.a, .int .i64 s.n]] (.agg #[.int .i64 ar, .int .i64 ac]) (by rfl) ?_ (fun w' hS => HM.out w'); intro w'; go_simp; done)
      simp only [Act.put, List.setIfInBounds_toArray, List.set_cons_zero, List.set_cons_succ]
      refine AtN.take (v := ?_) 6 (by kernel_rfl) rfl (by simp) (by kernel_rfl) (by kernel_rfl) ?_ ?_; rotate_left
      · (refine StabN.val (by rfl) ?_; intro w' hS; obtain ⟨_, _⟩ := hS; go_simp; first | done | with_reducible rfl)
      simp only [Act.put, List.setIfInBounds_toArray, List.set_cons_zero, List.set_cons_succ]
      refine AtN.take (v := ?_) 7 (by kernel_rfl) rfl (by simp) (by kernel_rfl) (by kernel_rfl) ?_ ?_; rotate_left
      · (refine StabN.val (by rfl) ?_; intro w' hS; obtain ⟨_, _⟩ := hS; go_simp; first | done | with_reducible rfl)
      simp only [Act.put, List.setIfInBounds_toArray, List.set_cons_zero, List.set_cons_succ]
      refine AtN.take (v := ?_) 8 (by kernel_rfl) rfl (by simp) (by kernel_rfl) (by kernel_rfl) ?_ ?_; rotate_left
      · (refine StabN.val (by rfl) ?_; intro w' hS; obtain ⟨_, _⟩ := hS; go_simp; first | done | with_reducible rfl)
      simp only [Act.put, List.setIfInBounds_toArray, List.set_cons_zero, List.set_cons_succ]
      refine AtN.take (v := ?_) 9 (by kernel_rfl) rfl (by simp) (by kernel_rfl) (by kernel_rfl) ?_ ?_; rotate_left
      · (refine StabN.val (by rfl) ?_; intro w' hS; obtain ⟨_, _⟩ := hS; go_simp; first | done | with_reducible rfl)
      simp only [Act.put, List.setIfInBounds_toArray, List.set_cons_zero, List.set_cons_succ]
      refine AtN.take (v := ?_) 10 (by kernel_rfl) rfl (by simp) (by kernel_rfl) (by kernel_rfl) ?_ ?_; rotate_left
      · (refine StabN.val (by rfl) ?_; intro w' hS; obtain ⟨_, _⟩ := hS; go_simp; first | done | with_reducible rfl)
      simp only [Act.put, List.setIfInBounds_toArray, List.set_cons_zero, List.set_cons_succ]
      refine AtN.take (v := .agg #[.int .i64 br, .int .i64 bc]) 11 (by kernel_rfl) rfl (by simp) (by kernel_rfl) (by kernel_rfl) ?_ ?_
      · (refine StabN.call1 16 #[.agg #[.int .i64 qr, .int .i64 qc], .agg #[.int .i64 s.k, .int .i64 s.a, .int .i64 s.n]] (.agg #[.int .i64 br, .int .i64 bc]) (by rfl) ?_ (fun w' hS => HN.out w'); intro w'; go_simp; done)
      simp only [Act.put, List.setIfInBounds_toArray, List.set_cons_zero, List.set_cons_succ]
      refine AtN.two 12 13 _ _ _ _ (by simp) (by simp) (by kernel_rfl) rfl rfl (NewP.pers _ _) (NewP.pers _ _) (StabN.alloc wr.heap.size 28 #[.int .i64 0, .int .i64 0] [] (by rfl) ?_ (fun w' hS => hS.1.size) (fun w' hS x hx => by simp at hx)) (StabN.alloc wr.heap.size 28 #[.int .i64 0, .int .i64 0] [] (by rfl) ?_ (fun w' hS => hS.1.size) (fun w' hS x hx => by simp at hx)) ?_ ?_
      · intro w' hS; go_simp; first | done | with_reducible rfl
      · intro w' hS; go_simp; first | done | with_reducible rfl
      · intro v hv
        obtain ⟨g, rfl, hg, -⟩ := hv
        simp only [Act.put, List.setIfInBounds_toArray, List.set_cons_zero, List.set_cons_succ]
        refine AtN.one 13 _ _ (by simp) (by kernel_rfl) rfl (NewP.pers _ _) (StabN.alloc wr.heap.size 28 #[.int .i64 0, .int .i64 0] [g] (by rfl) ?_ (fun w' hS => hS.1.1.size) (fun w' hS x hx => (by have e : x = g := (by simpa using hx); rw [e]; exact lt_of_heap hS.2.at_))) ?_
        · intro w' hS; go_simp; first | done | with_reducible rfl
        intro v hv
        obtain ⟨g', rfl, hg', hav⟩ := hv
        have hne : g' ≠ g := hav g (by simp)
        simp only [Act.put, List.setIfInBounds_toArray, List.set_cons_zero, List.set_cons_succ]
        refine AtN.done (by kernel_rfl) ?_
        rintro w' ⟨⟨hS, hN⟩, hN'⟩
        have a0 := at_new (Below.refl _ _) hN.at_ 0 (.int .i64 0) rfl
        have a1 := at_new (Below.refl _ _) hN.at_ 1 (.int .i64 0) rfl
        have b0 := at_new (Below.refl _ _) hN'.at_ 0 (.int .i64 0) rfl
        have b1 := at_new (Below.refl _ _) hN'.at_ 1 (.int .i64 0) rfl
        have hBw := hS.1
        clear hS hN hN' hav
        have hne' : g ≠ g' := Ne.symm hne
        simp only [List.drop_succ_cons, List.drop_zero]
        go_wp2_with fail
        go_meet
        exact ⟨g, g', rfl, rfl, hg, hg', below_set (below_set (below_set (below_set hBw hg _) hg _) hg' _) hg' _, (hold_set (hold_set (hold_set (set_self a0) (by simp)) (.inl hne)) (.inl hne)).1, (hold_set (hold_set (set_self (hold_set a1 (by simp))) (.inl hne)) (.inl hne)).1, (hold_set (set_self (hold_set (hold_set b0 (.inl hne')) (.inl hne'))) (by simp)).1, (set_self (hold_set (hold_set (hold_set b1 (.inl hne')) (.inl hne')) (by simp))).1⟩
      · intro v hv
        obtain ⟨g, rfl, hg, -⟩ := hv
        simp only [Act.put, List.setIfInBounds_toArray, List.set_cons_zero, List.set_cons_succ]
        refine AtN.one 12 _ _ (by simp) (by kernel_rfl) rfl (NewP.pers _ _) (StabN.alloc wr.heap.size 28 #[.int .i64 0, .int .i64 0] [g] (by rfl) ?_ (fun w' hS => hS.1.1.size) (fun w' hS x hx => (by have e : x = g := (by simpa using hx); rw [e]; exact lt_of_heap hS.2.at_))) ?_
        · intro w' hS; go_simp; first | done | with_reducible rfl
        intro v hv
        obtain ⟨g', rfl, hg', hav⟩ := hv
        have hne : g' ≠ g := hav g (by simp)
        simp only [Act.put, List.setIfInBounds_toArray, List.set_cons_zero, List.set_cons_succ]
        refine AtN.done (by kernel_rfl) ?_
        rintro w' ⟨⟨hS, hN⟩, hN'⟩
        have a0 := at_new (Below.refl _ _) hN.at_ 0 (.int .i64 0) rfl
        have a1 := at_new (Below.refl _ _) hN.at_ 1 (.int .i64 0) rfl
        have b0 := at_new (Below.refl _ _) hN'.at_ 0 (.int .i64 0) rfl
        have b1 := at_new (Below.refl _ _) hN'.at_ 1 (.int .i64 0) rfl
        have hBw := hS.1
        clear hS hN hN' hav
        have hne' : g ≠ g' := Ne.symm hne
        simp only [List.drop_succ_cons, List.drop_zero]
        go_wp2_with fail
        go_meet
        exact ⟨g', g, rfl, rfl, hg', hg, below_set (below_set (below_set (below_set hBw hg' _) hg' _) hg _) hg _, (hold_set (hold_set (hold_set (set_self b0) (by simp)) (.inl hne')) (.inl hne')).1, (hold_set (hold_set (set_self (hold_set b1 (by simp))) (.inl hne')) (.inl hne')).1, (hold_set (set_self (hold_set (hold_set a0 (.inl hne)) (.inl hne))) (by simp)).1, (set_self (hold_set (hold_set (hold_set a1 (.inl hne)) (.inl hne)) (by simp))).1⟩
    case rest =>
      obtain ⟨g, g', rfl, rfl, hg, hg', hB2, hcs⟩ := hcut
      obtain ⟨d0, d1, e0, e1⟩ := hcs
      have hB3 := below_tail hB hB2
      replace p0 := hold hB2 p0
      replace p1 := hold hB2 p1
      replace q0 := hold hB2 q0
      replace q1 := hold hB2 q1
      clear hB c0 c1 c2 HM HN
      have n0 : w.heap.size ≠ g := by omega
      have n1 : w.heap.size ≠ g' := by omega
      have n2 : w.heap.size + 1 ≠ g := by omega
      have n3 : w.heap.size + 1 ≠ g' := by omega
      cases ha : inB ar
      · clear HO
        go_wp2_with (first | (go_at_call 18; refine (Right10_any _ _).mono ?_; rintro e w2 ⟨rfl, rfl⟩) | (go_at_call 14; refine (awake10 _).mono ?_; rintro e w3 ⟨rfl, hb3⟩))
        go_ret
        exact ⟨by simp, below_tail hB3 hb3⟩
      cases hb : inB br
      · clear HO
        go_wp2_with (first | (go_at_call 18; refine (Right10_any _ _).mono ?_; rintro e w2 ⟨rfl, rfl⟩) | (go_at_call 14; refine (awake10 _).mono ?_; rintro e w3 ⟨rfl, hb3⟩))
        go_ret
        exact ⟨by simp, below_tail hB3 hb3⟩
      obtain ⟨f1, f2, f3⟩ := HO.out ha hb
      have HL2 := Less_hid br bc ar ac
      rw [f3] at HL2
      unfold posV at HL2
      have F := Lib.hid (show inB ar = true ∧ inB ac = true ∧ inB br = true ∧ inB bc = true ∧ lessB br bc ar ac = false from ⟨ha, f1, hb, f2, f3⟩)
      clear f1 f2 f3 HO
      go_wp2_with (go_at_call 18; refine (Right10_any _ _).mono ?_; rintro e w2 ⟨rfl, rfl⟩)
      clear ha hb
      have z2 := lt_of_cell p0.1
      have z3 := lt_of_cell q0.1
      have n4 := Ne.symm n0
      have n5 := Ne.symm n1
      have n6 := Ne.symm n2
      have n7 := Ne.symm n3
      go_region
      all_goals
        go_wp2_with (go_at_call 27; refine (HL2.out _).mono ?_; rintro e w4 ⟨rfl, hb4⟩)
        go_roundw
        case rel =>
          refine ⟨k + 1, ar, ac, br, bc, by omega, by go_num, ?_, F.out, ?_, ?_, ?_, ?_⟩
          · exact below_tail (below_set (below_set (below_set (below_set hB3.drew (by omega) _) (by omega) _) (by omega) _) (by omega) _) hb4
          · exact hold hb4 (hold_set (hold_set (hold_set (set_self p0) (by simp)) (by simp)) (by simp))
          · exact hold hb4 (hold_set (hold_set (set_self (hold_set p1 (by simp))) (by simp)) (by simp))
          · exact hold hb4 (hold_set (set_self (hold_set (hold_set q0 (by simp)) (by simp))) (by simp))
          · exact hold hb4 (set_self (hold_set (hold_set (hold_set q1 (by simp)) (by simp)) (by simp)))
        case measure => simp [intOf]; omega

theorem ShiftOrder_walk (r c r' c' : Int) (A : Option Addr) (l : List Sh) (cap : Nat) (w : World) (hl : ShAt w A l) :
    Calls Try.prog 8 #[posV r c, posV r' c', .slice A l.length cap] w fun e w' => e = .returned (.bool true) ∧ Below w.heap.size w w' := by
  by_cases h : 100 < l.length ∨ inB r = false ∨ inB c = false ∨ inB r' = false ∨ inB c' = false ∨ lessB r' c' r c = true
  · exact ShiftOrder_out r c r' c' A l.length cap w h
  · have h0 : l.length ≤ 100 := by omega
    refine ShiftOrder_in r c r' c' A l cap w h0 hl ?_ ?_ ?_ ?_ ?_
    · cases x : inB r <;> simp_all
    · cases x : inB c <;> simp_all
    · cases x : inB r' <;> simp_all
    · cases x : inB c' <;> simp_all
    · cases x : lessB r' c' r c <;> simp_all
end Go.Proofs.Ytdfaldccopnoiaa
