/- DeltaRows: the walk of the law. Conditions: none. -/
import Derived.Test.YtdfaldccopnoiaaRwF
import Derived.Test.YtdfaldccopnoiaaLwParts
import Derived.Deep.CutBlock
namespace Go.Proofs.Ytdfaldccopnoiaa
open Go.RowKit

theorem Great_hid (A : Option Addr) (l : List Rw) (ca : Nat) (hz : l.length ≤ 9223372036854775807) :
    Hid (∀ w : World, RwsAt w A l → Calls Try.prog 30 #[.slice A l.length ca] w (GreatPost l w)) := Lib.hid fun w h => Great_any A l ca w h hz
theorem up_hid (A B : Option Addr) (l m : List Rw) (ca cb : Nat) (hlen : l.length = m.length) (hz : l.length ≤ 400) :
    Hid (∀ (n : Nat) (w : World), n ≤ l.length → RwsAt w A l → RwsAt w B m → Calls Try.prog 31 #[.slice A l.length ca, .slice B m.length cb, .int .i64 n] w fun e w' => e = .returned (.bool (upB (conts l) (conts m) n)) ∧ Below w.heap.size w w') :=
  Lib.hid fun n w hn hl hm => up_any A B l m ca cb n w hl hm hlen hz hn
theorem first_up (L M : List (List Cl)) (h : L.length = M.length) : ∃ mv, mv ≤ L.length ∧ firstUp L M mv := by
  have key : ∀ N, (∃ j, j ≤ N ∧ upB L M j = true) → ∃ mv, mv ≤ N ∧ firstUp L M mv := by
    intro N
    induction N with
    | zero => rintro ⟨j, hj, hu⟩; obtain rfl : j = 0 := by omega
              exact ⟨0, Nat.le_refl _, hu, fun j h => absurd h (by omega)⟩
    | succ N ih =>
      rintro ⟨j, hj, hu⟩
      by_cases hx : ∃ j, j ≤ N ∧ upB L M j = true
      · obtain ⟨mv, h1, h2⟩ := ih hx
        exact ⟨mv, by omega, h2⟩
      · have : j = N + 1 := by
          rcases Nat.lt_or_ge j (N + 1) with h1 | h1
          · exact absurd ⟨j, by omega, hu⟩ hx
          · omega
        refine ⟨N + 1, Nat.le_refl _, this ▸ hu, fun i hi => ?_⟩
        cases hui : upB L M i
        · rfl
        · exact absurd ⟨i, by omega, hui⟩ hx
  exact key _ ⟨_, Nat.le_refl _, upB_all L M h⟩
/-- By how many rows the law finds the one moved up. -/
def MovedIs (l m : List Rw) (mv : Nat) : Prop := (l.length ≠ m.length ∧ mv = 0) ∨ (l.length = m.length ∧ mv ≤ l.length ∧ firstUp (conts l) (conts m) mv)
theorem moved_is (l m : List Rw) : ∃ mv, MovedIs l m mv := by
  by_cases h : l.length = m.length
  · obtain ⟨mv, h1, h2⟩ := first_up (conts l) (conts m) (by rw [conts_len, conts_len, h])
    exact ⟨mv, .inr ⟨h, by rw [conts_len] at h1; exact h1, h2⟩⟩
  · exact ⟨0, .inl ⟨h, rfl⟩⟩

/-- The law's other screen: the rows from one on, and then those ahead of it. -/
def OtherIs (l : List Rw) (kk : Nat) (v : Value) (w : World) : Prop := ∃ (A : Option Addr) (c : Nat), v = .slice A l.length c ∧ l.length ≤ c ∧ (A = none → c = 0) ∧ c ≤ 9223372036854775807 ∧ RwsAt w A (l.drop kk ++ l.take kk)
theorem Moved_is (A B : Option Addr) (l m : List Rw) (ca cb mv : Nat) (W : World) (hl : RwsAt W A l) (hm : RwsAt W B m) (hz : l.length ≤ 400) (hca : l.length ≤ ca) (hcb : m.length ≤ cb) (hA : A = none → ca = 0) (hB : B = none → cb = 0) (h : MovedIs l m mv) :
    Hid (∀ w : World, Below W.heap.size W w → Calls Try.prog 34 #[.slice A l.length ca, .slice B m.length cb] w fun e w' => e = .returned (.int .i64 mv) ∧ Below w.heap.size w w') := by
  refine Lib.hid fun w hb => ?_
  rcases h with ⟨hne, rfl⟩ | ⟨heq, hle, hf⟩
  · exact Moved_other A B l.length m.length ca cb w hne
  · exact Moved_same A B l m ca cb mv w (hl.below hb) (hm.below hb) heq hz hca hcb hA hB hle hf
theorem Moved_oth (A A2 : Option Addr) (l : List Rw) (ca c2 kk : Nat) (W : World) (hl : RwsAt W A l) (hm : RwsAt W A2 (l.drop kk ++ l.take kk)) (hz : l.length ≤ 400) (hk : kk ≤ l.length) (hca : l.length ≤ ca) (hcb : l.length ≤ c2) (hA : A = none → ca = 0) (hB : A2 = none → c2 = 0) :
    ∃ mv2 : Nat, mv2 ≤ kk ∧ Hid (∀ w : World, Below W.heap.size W w → Calls Try.prog 34 #[.slice A l.length ca, .slice A2 l.length c2] w fun e w' => e = .returned (.int .i64 mv2) ∧ Below w.heap.size w w') := by
  have hlen : (l.drop kk ++ l.take kk).length = l.length := by simp; omega
  obtain ⟨mv2, h1, h2⟩ := first_up (conts l) (conts (l.drop kk ++ l.take kk)) (by rw [conts_len, conts_len, hlen])
  rw [conts_len] at h1
  refine ⟨mv2, ?_, Lib.hid fun w hb => ?_⟩
  · rcases Nat.lt_or_ge kk mv2 with hlt | hge
    · have h3 := h2.2 kk hlt
      have h4 : upB (conts l) (conts (l.drop kk ++ l.take kk)) kk = true := by
        unfold upB
        refine decide_eq_true ?_
        rw [conts_len]
        simp only [conts, List.map_append, List.map_drop, List.map_take]
        rw [List.take_left' (by simp)]
      rw [h4] at h3; cases h3
    · exact hge
  · have h3 := Moved_same A A2 l (l.drop kk ++ l.take kk) ca c2 mv2 w (hl.below hb) (hm.below hb) hlen.symm hz hca (by rw [hlen]; exact hcb) hA hB h1 h2
    rw [hlen] at h3
    exact h3
/-- The law's 'want' ahead of round k. -/
def WantSt (W : World) (L M : List (List Cl)) (k : Nat) (v : Value) (w : World) : Prop := w.ownsRow W.heap.size 3 1 v (difs L M k).length (vals (difs L M k)) ∧ Below W.heap.size W w

set_option maxRecDepth 100000 in
set_option maxHeartbeats 3200000 in
theorem DeltaRows_walk (A B : Option Addr) (l m : List Rw) (ca cb : Nat) (n : Int) (w : World) (hl : RwsAt w A l) (hm : RwsAt w B m) (hca : l.length ≤ ca) (hcb : m.length ≤ cb) (hca2 : ca ≤ 9223372036854775807) (hcb2 : cb ≤ 9223372036854775807) (hA : A = none → ca = 0) (hB0 : B = none → cb = 0) (hn : 0 ≤ n) (hn2 : n ≤ 255) :
    Calls Try.prog 10 #[.slice A l.length ca, .slice B m.length cb, .int .u8 n] w fun e w' => e = .returned (.bool true) ∧ Below w.heap.size w w' := by
  obtain ⟨i0, hi, hz0, hz1, hz2⟩ := info_parts info_int
  have HL := Lib.hid hl
  have HM := Lib.hid hm
  have HGA := Great_hid A l ca (by omega)
  have HGB := Great_hid B m cb (by omega)
  have HNA := Lib.hid hA
  have HNB := Lib.hid hB0
  obtain ⟨mv, hmv⟩ := moved_is l m
  have HMV := Lib.hid hmv
  clear hl hm hA hB0 hmv
  go_enter Try.func10, Try.ntmps10
  go_upto_block 0 with (first | (go_at_call 30; refine (HGB.out _ (HM.out.below hb1)).mono ?_; rintro e w2 ⟨b2, rfl, hg2, hb20⟩; have hb2 := below_tail hb1 hb20; clear hb20 hb1; cases b2) | (go_at_call 30; refine (HGA.out _ HL.out).mono ?_; rintro e w1 ⟨b1, rfl, hg1, hb1⟩; cases b1) | (go_at_call 23; refine (awake29 _).mono ?_; rintro e w3 ⟨rfl, hb30⟩; first | have hb3 := below_tail hb2 hb30 | have hb3 := below_tail hb1 hb30))
  rotate_left
  · go_ret
    exact ⟨rfl, hb3⟩
  · go_ret
    exact ⟨rfl, hb3⟩
  have hzl := hg1 trivial
  have hzm := hg2 trivial
  have HL3 := Lib.hid (HL.out.below hb3)
  have HM3 := Lib.hid (HM.out.below hb3)
  clear HGA HGB HL HM hg1 hg2 hb30 hb2
  go_upto_block 0 with fail
  go_cut [7] (fun s7 w' => WantSt w3 (conts l) (conts m) (min l.length m.length) s7 w')
  case first =>
    go_wp2_with fail
    go_loopw [7, 8] (fun s7 s8 wr => ∃ k : Nat, (k ≤ l.length ∧ k ≤ m.length) ∧ s8 = .int .i64 k ∧ WantSt w3 (conts l) (conts m) k s7 wr) (fun _ s8 _ => l.length - (intOf s8).toNat)
    case atStart => exact ⟨0, ⟨Nat.zero_le _, Nat.zero_le _⟩, rfl, World.ownsRow_nil _ _ _ _, Below.refl _ _⟩
    case round =>
      obtain ⟨k, ⟨hk1, hk2⟩, rfl, hown, hB⟩ := hrel
      have HOWN := Lib.hid hown
      have hdl := difs_len (conts l) (conts m) k
      by_cases hlt : k < l.length ∧ k < m.length
      · obtain ⟨hlt1, hlt2⟩ := hlt
        obtain ⟨b, off, x, rfl, hx, cx⟩ := HL3.out.at_ hlt1
        obtain ⟨b', off', y, rfl, hy, cy⟩ := HM3.out.at_ hlt2
        have HXX := Lib.hid hx
        have HYY := Lib.hid hy
        clear hx hy
        replace cx := cx.below hB
        replace cy := cy.below hB
        have HS := Same_hidW x.A y.A x.cs y.cs x.cap y.cap cx.2.2 cy.2.2
        have c0 := cx.1.1
        have d0 := cy.1.1
        have CX := Lib.hid cx.2.1
        have CY := Lib.hid cy.2.1
        clear cx cy
        generalize hD : decide (x.cs = y.cs) = D at HS
        have HD := Lib.hid hD
        clear hD
        go_wp2_with fail
        refine wp_region_u 11 (fun w' => Below wr.heap.size wr w' ∧ w'.cell? ⟨b, off + k * 2, none⟩ = some (.slice x.A x.cs.length x.cap) ∧ w'.cell? ⟨b', off' + k * 2, none⟩ = some (.slice y.A y.cs.length y.cap)) (by kernel_rfl) (by kernel_rfl) ?_ ?_
        · exact ⟨(Below.refl _ _).drew, c0, d0⟩
        simp only [List.take_succ_cons, List.take_zero, List.drop_succ_cons, List.drop_zero]
        repeat (first
          | (refine seqU_val ?_ (by rfl) ?_ ?_; rotate_left; · (intro w' hS; obtain ⟨_, _⟩ := hS; go_simp; first | done | with_reducible rfl)
             simp only [Act.put, List.setIfInBounds_toArray, List.set_cons_zero, List.set_cons_succ])
          | (refine seqU_call 25 #[.slice x.A x.cs.length x.cap, .slice y.A y.cs.length y.cap] (.bool D) (by rfl) ?_ (fun w' hS => (HS.out w' (CX.out.below hS.1) (CY.out.below hS.1)).mono fun e w2 ⟨he, hb⟩ => ⟨he, ⟨below_tail hS.1 hb, holda hb hS.2.1, holda hb hS.2.2⟩⟩) ?_; · (intro w'; go_simp; done)
             simp only [Act.put, List.setIfInBounds_toArray, List.set_cons_zero, List.set_cons_succ]))
        refine seqU_nil (fun w' hS => ?_)
        have hB4 := hS.1
        have HO4 := Lib.hid (owns_below HOWN.out hB4)
        have hs4 := hB4.size
        have hs3 := hB.size
        clear hS HS
        cases D
        · go_wp2_with (at_builtin; refine wpList_append_own _ rfl (.tmp 47) (.tmp 49) _ rfl w3.heap.size 3 i0 (.int .i64 0) 1 8 Try.underlying25 hi hz0 hz1 hz2 rfl (by decide) _ _ _ rfl (HO4.out.alloc _) ⟨w'.heap.size, 0, none⟩ 1 1 [.int .i64 k] rfl rfl (cell_one_new _ _ _) (by simp [Value.oneCell']) (by simp only [maxLen]; omega) (by omega) (by simp; omega) ?_; intro v1 w1 hown1 hg1 _)
          go_roundw
          case rel =>
            refine ⟨k + 1, ⟨hlt1, hlt2⟩, by go_num, ?_, ?_⟩
            · rw [difs_succ_ne (by rw [conts_at HXX.out, conts_at HYY.out]; simpa using of_decide_eq_false HD.out), ← vals_snoc, List.length_append]
              exact hown1
            · have hB1 := below_allocs (below_tail hB hB4) (.cells #[.int .i64 k] 3)
              exact below_grown hB1 (HO4.out.alloc _) hg1 (Nat.le_refl _) hB1.size
          case measure => simp [intOf]; omega
        · go_wp2
          go_roundw
          case rel => exact ⟨k + 1, ⟨hlt1, hlt2⟩, by go_num, by rw [difs_succ_eq (by rw [conts_at HXX.out, conts_at HYY.out, of_decide_eq_true HD.out])]; exact HO4.out, below_tail hB hB4⟩
          case measure => simp [intOf]; omega
      · have hk : k = min l.length m.length := by omega
        have HK := Lib.hid hk
        clear hk
        go_wp2
        all_goals
          go_meet
          rw [← HK.out]
          exact ⟨HOWN.out, hB⟩
  obtain ⟨hown, hBW⟩ := hcut
  have HOWN := Lib.hid hown
  clear hown
  go_upto_block 2 with fail
  go_cut [9] (fun s9 w' => s9 = .int .i64 mv ∧ Below wc.heap.size wc w')
  case first =>
    go_wp2_with fail
    go_loopw [9] (fun s9 wr => ∃ j : Nat, j ≤ mv ∧ s9 = .int .i64 j ∧ Below wc.heap.size wc wr) (fun s9 _ => mv - (intOf s9).toNat)
    case atStart => exact ⟨0, Nat.zero_le _, rfl, Below.refl _ _⟩
    case round =>
      obtain ⟨j, hj, rfl, hB⟩ := hrel
      rcases HMV.out with ⟨hne, h0⟩ | ⟨heq, hle, hf⟩
      · subst h0
        obtain rfl : j = 0 := by omega
        have h' : ((l.length : Int) == (m.length : Int)) = false := by simp; omega
        clear hne
        go_wp2
        all_goals
          go_meet
          exact ⟨rfl, hB⟩
      · have HF := Lib.hid hf
        have h' : ((l.length : Int) == (m.length : Int)) = true := by simp; omega
        have HUP := up_hid A B l m ca cb heq hzl
        have HLr := Lib.hid ((HL3.out.below hBW).below hB)
        have HMr := Lib.hid ((HM3.out.below hBW).below hB)
        clear hf heq
        by_cases hjm : j < mv
        · have HU := HUP.out j wr (by omega) HLr.out HMr.out
          rw [HF.out.2 j hjm] at HU
          go_wp2_with (go_at_call 31; refine HU.mono ?_; rintro e w2 ⟨rfl, hb⟩)
          go_roundw
          case rel => exact ⟨j + 1, by omega, by go_num, below_tail hB hb⟩
          case measure => simp [intOf]; omega
        · obtain rfl : j = mv := by omega
          have HU := HUP.out j wr hle HLr.out HMr.out
          rw [HF.out.1] at HU
          by_cases hjl : j < l.length
          · go_wp2_with (go_at_call 31; refine HU.mono ?_; rintro e w2 ⟨rfl, hb⟩)
            go_meet
            exact ⟨rfl, below_tail hB hb⟩
          · go_wp2
            go_meet
            exact ⟨rfl, hB⟩
  obtain ⟨rfl, hB2⟩ := hcut
  have HOW := Lib.hid (owns_below HOWN.out hB2)
  have HL4 := Lib.hid ((HL3.out.below hBW).below hB2)
  have HM4 := Lib.hid ((HM3.out.below hBW).below hB2)
  have hBw := below_tail (below_tail hb3 hBW) hB2
  clear HL3 HM3 HOWN hBW hB2 hb3
  obtain ⟨kk, hkk, hkl⟩ : ∃ kk : Nat, n.tmod ((l.length : Int) + 1) = (kk : Int) ∧ kk ≤ l.length := by
    have h0 : n.tmod ((l.length : Int) + 1) = n % ((l.length : Int) + 1) := Int.tmod_eq_emod_of_nonneg hn
    have h1 := Int.emod_nonneg n (show (l.length : Int) + 1 ≠ 0 by omega)
    have h2 := Int.emod_lt_of_pos n (show (0 : Int) < (l.length : Int) + 1 by omega)
    exact ⟨(n % ((l.length : Int) + 1)).toNat, by rw [h0]; omega, by omega⟩
  have hnw : IntKind.i64.wrap n = n := IntWalk.i64_in _ (by omega)
  have hlw : IntKind.i64.wrap ((l.length : Int) + 1) = (l.length : Int) + 1 := IntWalk.i64_in _ (by omega)
  have hkw : IntKind.i64.wrap (kk : Int) = (kk : Int) := IntWalk.i64_in _ (by omega)
  have hl0 : ¬ ((l.length : Int) + 1 = 0) := by omega
  go_upto_region 13 with (fail)
  go_cut [11] (fun s11 w' => OtherIs l kk s11 w' ∧ Below wc.heap.size wc w')
  case first =>
    obtain ⟨j0, hj, gz0, gz1, gz2⟩ := info_parts info_row
    rcases Nat.eq_zero_or_pos l.length with h0 | h0
    · obtain rfl : l = [] := List.length_eq_zero_iff.1 h0
      obtain rfl : kk = 0 := by simpa using hkl
      have hw0 : IntKind.i64.wrap 0 = 0 := IntWalk.i64_in _ (by omega)
      clear hkl hkk hkw HL4 HM4
      rcases A with _ | ⟨b, off, sp⟩
      · obtain rfl := HNA.out rfl
        refine wp_region_n 8 (fun w' => Below wc.heap.size wc w') (by kernel_rfl) (by kernel_rfl) ?_ ?_ ?_
        · intro w1 w2 hS hb; exact below_tail hS hb
        · exact (Below.refl _ _).drew
        refine AtN.take (v := ?_) (o := ⟨some 78, .move (.tmp 0), 54, "law.go:130", #[], none⟩) 1 (by kernel_rfl) rfl (by simp) (by kernel_rfl) (by kernel_rfl) ?_ ?_; rotate_left
        · (refine StabN.val (by rfl) ?_; intro w' hS; go_simp; first | done | with_reducible rfl)
        simp only [Act.put, List.setIfInBounds_toArray, List.set_cons_zero, List.set_cons_succ]
        refine AtN.take (v := ?_) (o := ⟨some 79, .move (.tmp 10), 3, "law.go:130", #[], none⟩) 2 (by kernel_rfl) rfl (by simp) (by kernel_rfl) (by kernel_rfl) ?_ ?_; rotate_left
        · (refine StabN.val (by rfl) ?_; intro w' hS; go_simp; first | done | with_reducible rfl)
        simp only [Act.put, List.setIfInBounds_toArray, List.set_cons_zero, List.set_cons_succ]
        refine AtN.take (v := ?_) (o := ⟨some 80, .slice 54 (.tmp 78) (some (.tmp 79)) none none, 54, "law.go:130", #[⟨1, .data⟩, ⟨2, .data⟩], none⟩) 3 (by kernel_rfl) rfl (by simp) (by kernel_rfl) (by kernel_rfl) ?_ ?_; rotate_left
        · (refine StabN.val (by rfl) ?_; intro w' hS; go_simp; first | done | with_reducible rfl)
        simp only [Act.put, List.setIfInBounds_toArray, List.set_cons_zero, List.set_cons_succ]
        refine AtN.take (v := ?_) (o := ⟨some 82, .move (.tmp 0), 54, "law.go:130", #[], none⟩) 5 (by kernel_rfl) rfl (by simp) (by kernel_rfl) (by kernel_rfl) ?_ ?_; rotate_left
        · (refine StabN.val (by rfl) ?_; intro w' hS; go_simp; first | done | with_reducible rfl)
        simp only [Act.put, List.setIfInBounds_toArray, List.set_cons_zero, List.set_cons_succ]
        refine AtN.take (v := ?_) (o := ⟨some 83, .move (.tmp 10), 3, "law.go:130", #[], none⟩) 6 (by kernel_rfl) rfl (by simp) (by kernel_rfl) (by kernel_rfl) ?_ ?_; rotate_left
        · (refine StabN.val (by rfl) ?_; intro w' hS; go_simp; first | done | with_reducible rfl)
        simp only [Act.put, List.setIfInBounds_toArray, List.set_cons_zero, List.set_cons_succ]
        refine AtN.take (v := ?_) (o := ⟨some 84, .slice 54 (.tmp 82) none (some (.tmp 83)) none, 54, "law.go:130", #[⟨5, .data⟩, ⟨6, .data⟩], none⟩) 7 (by kernel_rfl) rfl (by simp) (by kernel_rfl) (by kernel_rfl) ?_ ?_; rotate_left
        · (refine StabN.val (by rfl) ?_; intro w' hS; go_simp; first | done | with_reducible rfl)
        simp only [Act.put, List.setIfInBounds_toArray, List.set_cons_zero, List.set_cons_succ]
        refine AtN.one (o := ⟨some 77, .buildSlice 54 0 #[], 54, "law.go:130", #[], none⟩) 0 (fun v => ∃ g, v = .slice (some ⟨g, 0, none⟩) 0 0) Any (by simp) (by kernel_rfl) rfl Any.pers (StabN.new _ _ (by rfl) (fun w' hS => ⟨.slice (some ⟨w'.heap.size, 0, none⟩) 0 0, w'.alloc (.cells #[] 57), by go_simp, ⟨_, rfl⟩, trivial, below_allocs (Below.refl _ _) _⟩)) ?_
        rintro _ ⟨g, rfl⟩
        simp only [Act.put, List.setIfInBounds_toArray, List.set_cons_zero, List.set_cons_succ]
        refine AtN.one (o := ⟨some 81, .call { callee := .builtin .append, args := #[.tmp 77, .tmp 80], argTypes := #[54, 54] }, 54, "law.go:130", #[⟨0, .data⟩, ⟨3, .data⟩], none⟩) 4 (fun v => ∃ g, v = .slice (some ⟨g, 0, none⟩) 0 0) Any (by simp) (by kernel_rfl) rfl Any.pers (StabN.new _ _ (by rfl) (fun w' hS => ?_)) ?_
        · refine ⟨.slice (some ⟨g, 0, none⟩) 0 0, w', exec_append (.tmp 77) (.tmp 80) 54 rfl (.slice (some ⟨g, 0, none⟩) 0 0) (.slice none 0 0) (.slice (some ⟨g, 0, none⟩) 0 0) rfl rfl ?_, ⟨_, rfl⟩, trivial, Below.refl _ _⟩
          exact append_zero Try.underlying54 hj ⟨g, 0, none⟩ 0 0 (Nat.le_refl _) none 0 w'
        rintro _ ⟨g2, rfl⟩
        simp only [Act.put, List.setIfInBounds_toArray, List.set_cons_zero, List.set_cons_succ]
        refine AtN.done (by kernel_rfl) (fun w' hS => ?_)
        have hB9 := hS.1.1
        clear hS
        simp only [List.drop_succ_cons, List.drop_zero]
        refine wpList_val (.slice (some ⟨g2, 0, none⟩) 0 0) rfl (exec_append (.tmp 81) (.tmp 84) 54 rfl (.slice (some ⟨g2, 0, none⟩) 0 0) (.slice none 0 0) (.slice (some ⟨g2, 0, none⟩) 0 0) rfl rfl (append_zero Try.underlying54 hj ⟨g2, 0, none⟩ 0 0 (Nat.le_refl _) none 0 w')) ?_
        simp only [Act.put, List.setIfInBounds_toArray, List.set_cons_zero, List.set_cons_succ]
        go_wp2
        go_meet
        exact ⟨⟨_, 0, rfl, Nat.le_refl _, fun _ => rfl, Nat.zero_le _, fun h => absurd h (by simp)⟩, hB9⟩

      · skip
        refine wp_region_n 8 (fun w' => Below wc.heap.size wc w') (by kernel_rfl) (by kernel_rfl) ?_ ?_ ?_
        · intro w1 w2 hS hb; exact below_tail hS hb
        · exact (Below.refl _ _).drew
        refine AtN.take (v := ?_) (o := ⟨some 78, .move (.tmp 0), 54, "law.go:130", #[], none⟩) 1 (by kernel_rfl) rfl (by simp) (by kernel_rfl) (by kernel_rfl) ?_ ?_; rotate_left
        · (refine StabN.val (by rfl) ?_; intro w' hS; go_simp; first | done | with_reducible rfl)
        simp only [Act.put, List.setIfInBounds_toArray, List.set_cons_zero, List.set_cons_succ]
        refine AtN.take (v := ?_) (o := ⟨some 79, .move (.tmp 10), 3, "law.go:130", #[], none⟩) 2 (by kernel_rfl) rfl (by simp) (by kernel_rfl) (by kernel_rfl) ?_ ?_; rotate_left
        · (refine StabN.val (by rfl) ?_; intro w' hS; go_simp; first | done | with_reducible rfl)
        simp only [Act.put, List.setIfInBounds_toArray, List.set_cons_zero, List.set_cons_succ]
        refine AtN.take (v := ?_) (o := ⟨some 80, .slice 54 (.tmp 78) (some (.tmp 79)) none none, 54, "law.go:130", #[⟨1, .data⟩, ⟨2, .data⟩], none⟩) 3 (by kernel_rfl) rfl (by simp) (by kernel_rfl) (by kernel_rfl) ?_ ?_; rotate_left
        · (refine StabN.val (by rfl) ?_; intro w' hS; go_simp; first | done | with_reducible rfl)
        simp only [Act.put, List.setIfInBounds_toArray, List.set_cons_zero, List.set_cons_succ]
        refine AtN.take (v := ?_) (o := ⟨some 82, .move (.tmp 0), 54, "law.go:130", #[], none⟩) 5 (by kernel_rfl) rfl (by simp) (by kernel_rfl) (by kernel_rfl) ?_ ?_; rotate_left
        · (refine StabN.val (by rfl) ?_; intro w' hS; go_simp; first | done | with_reducible rfl)
        simp only [Act.put, List.setIfInBounds_toArray, List.set_cons_zero, List.set_cons_succ]
        refine AtN.take (v := ?_) (o := ⟨some 83, .move (.tmp 10), 3, "law.go:130", #[], none⟩) 6 (by kernel_rfl) rfl (by simp) (by kernel_rfl) (by kernel_rfl) ?_ ?_; rotate_left
        · (refine StabN.val (by rfl) ?_; intro w' hS; go_simp; first | done | with_reducible rfl)
        simp only [Act.put, List.setIfInBounds_toArray, List.set_cons_zero, List.set_cons_succ]
        refine AtN.take (v := ?_) (o := ⟨some 84, .slice 54 (.tmp 82) none (some (.tmp 83)) none, 54, "law.go:130", #[⟨5, .data⟩, ⟨6, .data⟩], none⟩) 7 (by kernel_rfl) rfl (by simp) (by kernel_rfl) (by kernel_rfl) ?_ ?_; rotate_left
        · (refine StabN.val (by rfl) ?_; intro w' hS; go_simp; first | done | with_reducible rfl)
        simp only [Act.put, List.setIfInBounds_toArray, List.set_cons_zero, List.set_cons_succ]
        refine AtN.one (o := ⟨some 77, .buildSlice 54 0 #[], 54, "law.go:130", #[], none⟩) 0 (fun v => ∃ g, v = .slice (some ⟨g, 0, none⟩) 0 0) Any (by simp) (by kernel_rfl) rfl Any.pers (StabN.new _ _ (by rfl) (fun w' hS => ⟨.slice (some ⟨w'.heap.size, 0, none⟩) 0 0, w'.alloc (.cells #[] 57), by go_simp, ⟨_, rfl⟩, trivial, below_allocs (Below.refl _ _) _⟩)) ?_
        rintro _ ⟨g, rfl⟩
        simp only [Act.put, List.setIfInBounds_toArray, List.set_cons_zero, List.set_cons_succ]
        refine AtN.one (o := ⟨some 81, .call { callee := .builtin .append, args := #[.tmp 77, .tmp 80], argTypes := #[54, 54] }, 54, "law.go:130", #[⟨0, .data⟩, ⟨3, .data⟩], none⟩) 4 (fun v => ∃ g, v = .slice (some ⟨g, 0, none⟩) 0 0) Any (by simp) (by kernel_rfl) rfl Any.pers (StabN.new _ _ (by rfl) (fun w' hS => ?_)) ?_
        · refine ⟨.slice (some ⟨g, 0, none⟩) 0 0, w', exec_append (.tmp 77) (.tmp 80) 54 rfl (.slice (some ⟨g, 0, none⟩) 0 0) (.slice (some ⟨b, off, sp⟩) 0 ca) (.slice (some ⟨g, 0, none⟩) 0 0) rfl rfl ?_, ⟨_, rfl⟩, trivial, Below.refl _ _⟩
          exact append_zero Try.underlying54 hj ⟨g, 0, none⟩ 0 0 (Nat.le_refl _) _ ca w'
        rintro _ ⟨g2, rfl⟩
        simp only [Act.put, List.setIfInBounds_toArray, List.set_cons_zero, List.set_cons_succ]
        refine AtN.done (by kernel_rfl) (fun w' hS => ?_)
        have hB9 := hS.1.1
        clear hS
        simp only [List.drop_succ_cons, List.drop_zero]
        refine wpList_val (.slice (some ⟨g2, 0, none⟩) 0 0) rfl (exec_append (.tmp 81) (.tmp 84) 54 rfl (.slice (some ⟨g2, 0, none⟩) 0 0) (.slice (some ⟨b, off, sp⟩) 0 ca) (.slice (some ⟨g2, 0, none⟩) 0 0) rfl rfl (append_zero Try.underlying54 hj ⟨g2, 0, none⟩ 0 0 (Nat.le_refl _) (some ⟨b, off, sp⟩) ca w')) ?_
        simp only [Act.put, List.setIfInBounds_toArray, List.set_cons_zero, List.set_cons_succ]
        go_wp2
        go_meet
        exact ⟨⟨_, 0, rfl, Nat.le_refl _, fun _ => rfl, Nat.zero_le _, fun h => absurd h (by simp)⟩, hB9⟩

    · have hrows : ∀ r ∈ l, ClsAt wc r.A r.cs ∧ r.cs.length ≤ 9223372036854775807 := by
        intro r hr
        obtain ⟨b, off, e, hc⟩ := HL4.out h0
        obtain ⟨i, hi⟩ := List.mem_iff_getElem?.1 hr
        exact (hc i r hi).2
      obtain ⟨b, off, rfl, -⟩ := HL4.out h0
      have hkc : kk ≤ ca := by omega
      refine wp_region_n 8 (fun w' => Below wc.heap.size wc w') (by kernel_rfl) (by kernel_rfl) ?_ ?_ ?_
      · intro w1 w2 hS hb; exact below_tail hS hb
      · exact (Below.refl _ _).drew
      refine AtN.take (v := ?_) (o := ⟨some 78, .move (.tmp 0), 54, "law.go:130", #[], none⟩) 1 (by kernel_rfl) rfl (by simp) (by kernel_rfl) (by kernel_rfl) ?_ ?_; rotate_left
      · (refine StabN.val (by rfl) ?_; intro w' hS; go_simp; first | done | with_reducible rfl)
      simp only [Act.put, List.setIfInBounds_toArray, List.set_cons_zero, List.set_cons_succ]
      refine AtN.take (v := ?_) (o := ⟨some 79, .move (.tmp 10), 3, "law.go:130", #[], none⟩) 2 (by kernel_rfl) rfl (by simp) (by kernel_rfl) (by kernel_rfl) ?_ ?_; rotate_left
      · (refine StabN.val (by rfl) ?_; intro w' hS; go_simp; first | done | with_reducible rfl)
      simp only [Act.put, List.setIfInBounds_toArray, List.set_cons_zero, List.set_cons_succ]
      refine AtN.take (v := ?_) (o := ⟨some 80, .slice 54 (.tmp 78) (some (.tmp 79)) none none, 54, "law.go:130", #[⟨1, .data⟩, ⟨2, .data⟩], none⟩) 3 (by kernel_rfl) rfl (by simp) (by kernel_rfl) (by kernel_rfl) ?_ ?_; rotate_left
      · (refine StabN.val (by rfl) ?_; intro w' hS; go_simp; first | done | with_reducible rfl)
      simp only [Act.put, List.setIfInBounds_toArray, List.set_cons_zero, List.set_cons_succ]
      refine AtN.take (v := ?_) (o := ⟨some 82, .move (.tmp 0), 54, "law.go:130", #[], none⟩) 5 (by kernel_rfl) rfl (by simp) (by kernel_rfl) (by kernel_rfl) ?_ ?_; rotate_left
      · (refine StabN.val (by rfl) ?_; intro w' hS; go_simp; first | done | with_reducible rfl)
      simp only [Act.put, List.setIfInBounds_toArray, List.set_cons_zero, List.set_cons_succ]
      refine AtN.take (v := ?_) (o := ⟨some 83, .move (.tmp 10), 3, "law.go:130", #[], none⟩) 6 (by kernel_rfl) rfl (by simp) (by kernel_rfl) (by kernel_rfl) ?_ ?_; rotate_left
      · (refine StabN.val (by rfl) ?_; intro w' hS; go_simp; first | done | with_reducible rfl)
      simp only [Act.put, List.setIfInBounds_toArray, List.set_cons_zero, List.set_cons_succ]
      refine AtN.take (v := ?_) (o := ⟨some 84, .slice 54 (.tmp 82) none (some (.tmp 83)) none, 54, "law.go:130", #[⟨5, .data⟩, ⟨6, .data⟩], none⟩) 7 (by kernel_rfl) rfl (by simp) (by kernel_rfl) (by kernel_rfl) ?_ ?_; rotate_left
      · (refine StabN.val (by rfl) ?_; intro w' hS; go_simp; first | done | with_reducible rfl)
      simp only [Act.put, List.setIfInBounds_toArray, List.set_cons_zero, List.set_cons_succ]
      refine AtN.one (o := ⟨some 77, .buildSlice 54 0 #[], 54, "law.go:130", #[], none⟩) 0 (fun _ => True) (fun v w' => ∃ g, v = .slice (some ⟨g, 0, none⟩) 0 0 ∧ wc.heap.size ≤ g ∧ w'.heap[g]? = some (.cells #[] 57 (0, 0))) (by simp) (by kernel_rfl) rfl (fun v w1 w2 ⟨g, h1, h2, h3⟩ hb => ⟨g, h1, h2, (hb.block g (lt_of_heap h3)).trans h3⟩) (StabN.new _ _ (by rfl) (fun w' hS => ⟨.slice (some ⟨w'.heap.size, 0, none⟩) 0 0, w'.alloc (.cells #[] 57), by go_simp, trivial, ⟨_, rfl, hS.size, hp_new rfl⟩, below_allocs (Below.refl _ _) _⟩)) ?_
      rintro v77 -
      simp only [Act.put, List.setIfInBounds_toArray, List.set_cons_zero, List.set_cons_succ]
      refine AtN.one (o := ⟨some 81, .call { callee := .builtin .append, args := #[.tmp 77, .tmp 80], argTypes := #[54, 54] }, 54, "law.go:130", #[⟨0, .data⟩, ⟨3, .data⟩], none⟩) 4 (fun _ => True) (fun v w' => w'.ownsRow wc.heap.size 57 2 v (l.length - kk) (rowCells (l.drop kk))) (by simp) (by kernel_rfl) rfl (fun v w1 w2 h hb => owns_below h hb) (StabN.new _ _ (by rfl) (fun w' hS => ?_)) ?_
      · obtain ⟨hS1, g, hv, hg1, hg2⟩ := hS
        subst hv
        obtain ⟨v', w2, hr, ho, hb⟩ := append_first (P := Try.prog) (w := w') wc.heap.size 2 32 Try.underlying54 hj gz0 gz1 gz2 rfl (by decide) g hg1 hg2 (if ca = kk then some ⟨b, off, none⟩ else some ⟨b, off + kk * 2, none⟩) (l.length - kk) (ca - kk) (rowCells (l.drop kk)) (fun hpos => (by
          have h3 := (HL4.out.below hS1).drop hca (n := kk)
          rw [if_neg (by omega)] at h3 ⊢
          exact ⟨_, rfl, rows_news h3⟩)) (by rw [rowCells_len, List.length_drop]) (rowCells_one _) (by simp only [maxLen]; omega) (by omega) hS1.size (ty := 54)
        exact ⟨v', w2, exec_append (.tmp 77) (.tmp 80) _ rfl _ _ _ rfl rfl hr, trivial, ho, hb⟩
      rintro v81 -
      simp only [Act.put, List.setIfInBounds_toArray, List.set_cons_zero, List.set_cons_succ]
      refine AtN.done (by kernel_rfl) (fun w' hS => ?_)
      obtain ⟨⟨hB9, -⟩, hown9⟩ := hS
      simp only [List.drop_succ_cons, List.drop_zero]
      have hnews : ∀ j u, (rowCells (l.take kk))[j]? = some u → w'.cell? ((⟨b, off, none⟩ : Addr).add j) = some u := rows_news ((HL4.out.below hB9).take kk)
      refine wpList_append_own _ rfl (.tmp 81) (.tmp 84) _ rfl wc.heap.size 57 j0 (.agg #[.slice none 0 0, .bool false]) 2 32 Try.underlying54 hj gz0 gz1 gz2 rfl (by decide) v81 (l.length - kk) (rowCells (l.drop kk)) rfl hown9 ⟨b, off, none⟩ kk ca (rowCells (l.take kk)) rfl (by rw [rowCells_len, List.length_take]; omega) hnews (rowCells_one _) (by simp only [maxLen]; omega) (by omega) hB9.size ?_
      intro v1 w1 hown1 hg1 _
      have hB10 : Below wc.heap.size wc w1 := below_grown hB9 hown9 hg1 (Nat.le_refl _) hB9.size
      rw [rowCells_append] at hown1
      have hOI : OtherIs l kk v1 w1 := by
        have h5 := rws_of_owns hown1 (by simp; omega) hB10 (fun r hr => hrows r (by
          rcases List.mem_append.1 hr with h | h
          · exact List.mem_of_mem_drop h
          · exact List.mem_of_mem_take h))
        rw [show (l.drop kk ++ l.take kk).length = l.length from by simp; omega] at h5
        exact h5
      simp only [Act.put, List.setIfInBounds_toArray, List.set_cons_zero, List.set_cons_succ]
      generalize (if ca = kk then some (⟨b, off, none⟩ : Addr) else some ⟨b, off + kk * 2, none⟩) = XX
      go_wp2
      go_meet
      exact ⟨hOI, hB10⟩

  obtain ⟨⟨A2, c2, rfl, hc2, hAn, hc3, hrs⟩, hB5⟩ := hcut
  have HOW5 := Lib.hid (owns_below HOW.out hB5)
  have HL5 := Lib.hid (HL4.out.below hB5)
  have HM5 := Lib.hid (HM4.out.below hB5)
  have HO5 := Lib.hid hrs
  have hBw5 := below_tail hBw hB5
  clear HL4 HM4 HOW hrs hBw hB5
  have HRW := Lib.hid (DRows_any A B l m ca cb _ HL5.out HM5.out hzl hzm)
  have HMA := Moved_is A B l m ca cb mv _ HL5.out HM5.out hzl hca hcb HNA.out HNB.out HMV.out
  obtain ⟨mv2, hmk, HMB⟩ := Moved_oth A A2 l ca c2 kk _ HL5.out HO5.out hzl hkl hca hc2 HNA.out hAn
  have hmk2 : (mv2 : Int) ≤ (kk : Int) := by omega
  have hdl := difs_len (conts l) (conts m) (min l.length m.length)
  have HDL := Lib.hid (show (difs (conts l) (conts m) (min l.length m.length)).length ≤ 1000 by omega)
  clear hdl hAn HL5 HM5 HO5 HMV HNA HNB hmk hc3
  go_wp2_with (first
    | (go_at_call 33; refine HRW.out.mono ?_; rintro e w6 ⟨v6, rfl, ho6, hb6⟩; have HO6 := Lib.hid ho6; clear ho6)
    | (go_at_call 32; refine (Ints_same _ _ _ _ _ _ HO6.out (owns_below HOW5.out hb6) HDL.out).mono ?_; rintro e w7 ⟨rfl, hb70⟩; have hb7 := below_tail hb6 hb70; clear hb70)
    | (go_at_call 34; refine (HMB.out _ hb8).mono ?_; rintro e w9 ⟨rfl, hb90⟩; have hb9 := below_tail hb8 hb90; clear hb90)
    | (go_at_call 34; refine (HMA.out _ hb7).mono ?_; rintro e w8 ⟨rfl, hb80⟩; have hb8 := below_tail hb7 hb80; clear hb80))
  go_ret
  exact ⟨by simp, below_tail hBw5 hb9⟩
end Go.Proofs.Ytdfaldccopnoiaa
