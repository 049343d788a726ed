/- PointBounds: the walk of the law. Conditions: as stated. -/
import Derived.Test.YtfadcmjdlfobhaaPsD
namespace Go.Proofs.Ytfadcmjdlfobhaa
open Go.RowKit Go.Sort

set_option maxRecDepth 100000 in
set_option maxHeartbeats 3200000 in
theorem PointBounds_walk (m : Int) (A : Option Addr) (l : List Ov) (ca : Nat) (r c : Int) (w : World) (h0 : 0 ≤ m) (h1 : m ≤ 255) (hz : l.length ≤ 9223372036854775807) (hl : GrAt encO 6 w A l) :
    Calls Try.prog 4 #[.int .u8 m, .slice A l.length ca, .agg #[.int .i64 r, .int .i64 c]] w (TruePost w) := by
  have HL := Lib.hid hl
  have HAW := Lib.hid (fun w => awake20 w)
  clear hl
  by_cases hbig : 60 < l.length
  · go_enter Try.func4, Try.ntmps4
    go_wp2_with (go_at_call 14; refine (HAW.out _).mono ?_; rintro e w1 ⟨rfl, hb1⟩)
    go_ret
    exact ⟨rfl, below_tail (below_allocs (Below.refl _ _) _) hb1⟩
  · obtain ⟨mo, hmo⟩ : ∃ mo : Nat, (mo : Int) = 1 + m % 30 := ⟨(1 + m % 30).toNat, by omega⟩
    have HMD := Lib.hid (fun w => made20 m h0 h1 mo hmo w)
    have hmo1 : 1 ≤ mo := by omega
    have hmo2 : mo ≤ 30 := by omega
    have hm30 : 0 ≤ m % 30 ∧ m % 30 ≤ 29 := by omega
    have HMO := Lib.hid hmo
    have HP : Hid (∀ w1 : World, Below (w.alloc (.cells #[.int .i64 r, .int .i64 c] 30)).heap.size (w.alloc (.cells #[.int .i64 r, .int .i64 c] 30)) w1 → w1.cell? ⟨w.heap.size, 0, none⟩ = some (.int .i64 r) ∧ w1.cell? ⟨w.heap.size, 1, none⟩ = some (.int .i64 c)) :=
      Lib.hid fun w1 hb => ⟨(hold hb (at_new (Below.refl _ _) (hp_new rfl) 0 _ rfl)).1, (hold hb (at_new (Below.refl _ _) (hp_new rfl) 1 _ rfl)).1⟩
    clear hmo
    go_enter Try.func4, Try.ntmps4
    go_wp2_with (first
      | (go_at_call 14; refine (HAW.out _).mono ?_; rintro e w1 ⟨rfl, hb1⟩; have HBA := Lib.hid hb1; have HB1 := Lib.hid (below_tail (below_allocs (Below.refl w.heap.size w) _) hb1); clear hb1)
      | (go_at_call 15; refine (HMD.out _).mono ?_; rintro e w2 ⟨p, q, rfl, hbo⟩; have HBO := Lib.hid hbo; clear hbo))
    have HPP := Lib.hid (HP.out _ HBA.out)
    have hsz1 : w.heap.size < w1.heap.size := by have := HBA.out.size; simp at this; omega
    clear HP HBA
    go_loopw [9] (fun s9 wr => ∃ (i : Nat) (L : List P2), i ≤ l.length ∧ s9 = .int .i64 i ∧ Bo w1.heap.size p q mo i L w1 wr) (fun s9 _ => l.length - (intOf s9).toNat)
    case atStart => exact ⟨0, [], Nat.zero_le _, rfl, HBO.out⟩
    case round =>
      obtain ⟨i, L, hi, rfl, hbo⟩ := hrel
      have hB1 : Below w1.heap.size w1 wr := by obtain ⟨_, _, _, hb, _⟩ := hbo; exact hb
      have hB : Below w.heap.size w wr := below_tail HB1.out hB1
      have HBO2 := Lib.hid hbo
      clear hbo
      by_cases hlt : i < l.length
      rotate_left
      · obtain rfl : i = l.length := by omega
        obtain ⟨next, M, ⟨F, G, hpt, -, -, hF, -⟩, -, -, -, hl3, -⟩ := HBO2.out
        have p0 := holda hB1 HPP.out.1
        have p1 := holda hB1 HPP.out.2
        have HFX : Hid (w.heap.size ∉ F) := Lib.hid (fun h => by have := hF _ h; omega)
        have HADD := Lib.hid (PtAdd_any p F mo L r c wr hpt (by omega) (by omega) (by omega))
        have HK : Hid (∀ w', Mod F wr w' → Below w.heap.size w w' ∧ w'.cell? ⟨w.heap.size, 0, none⟩ = some (.int .i64 r) ∧ w'.cell? ⟨w.heap.size, 1, none⟩ = some (.int .i64 c)) := Lib.hid (fun w' hm => ⟨hB.trans (hm.below (fun g hg => by have := hF g hg; omega) hB.size), hm.cell HFX.out p0, hm.cell HFX.out p1⟩)
        have hadl := addL_len (most := mo) (L := L) (p := (r, c)) (by omega) (by omega)
        have HPL : Hid (∀ F' w', PtSt w' p F' mo (addL mo L (r, c)) → Calls Try.prog 21 #[.pointer (some ⟨p, 0, none⟩)] w' (PosPost w' (addL mo L (r, c)))) := Lib.hid (fun F' w' h => PtPlaces_any p F' mo _ w' h (by omega))
        have HR1 := Lib.hid (fun w => Right10_any r w)
        have HR2 := Lib.hid (fun w => Right10_any c w)
        generalize hr1 : inB r = r1 at HR1
        generalize hr2 : inB c = r2 at HR2
        have HAL : Hid (r1 = true → r2 = true → ∃ X : List P2, addL mo L (r, c) = X ++ [(r, c)]) := Lib.hid (fun e1 e2 => ⟨_, by unfold addL rightP; rw [hr1, hr2, e1, e2]; rfl⟩)
        generalize addL mo L (r, c) = L' at HADD hadl HPL HAL
        have hadl2 : (L'.length : Int) ≤ 1 + m % 30 := by rw [← HMO.out]; exact hadl
        clear hr1 hr2 hpt hF hB hB1 hl3 hadl
        cases r1 with
        | false =>
          go_wp2_with (first
            | (go_at_call 23; refine HADD.out.mono ?_; rintro e w3 ⟨rfl, F', hp2, hm2, -⟩; obtain ⟨hb2, p0', p1'⟩ := HK.out _ hm2; have HP2 := Lib.hid hp2; have HB2 := Lib.hid hb2; clear hp2 hm2 hb2)
            | (go_at_call 21; refine (HPL.out _ _ HP2.out).mono ?_; rintro e w4 ⟨v, rfl, ho, hb4⟩; have HB4 := Lib.hid (below_tail HB2.out hb4); replace p0' := holda hb4 p0'; replace p1' := holda hb4 p1'; clear hb4 ho)
            | (go_at_call 24; refine (HR1.out _).mono ?_; rintro e w5 ⟨rfl, rfl⟩))
          go_ret
          exact ⟨rfl, HB4.out⟩
        | true => cases r2 with
          | false =>
            go_wp2_with (first
              | (go_at_call 23; refine HADD.out.mono ?_; rintro e w3 ⟨rfl, F', hp2, hm2, -⟩; obtain ⟨hb2, p0', p1'⟩ := HK.out _ hm2; have HP2 := Lib.hid hp2; have HB2 := Lib.hid hb2; clear hp2 hm2 hb2)
              | (go_at_call 21; refine (HPL.out _ _ HP2.out).mono ?_; rintro e w4 ⟨v, rfl, ho, hb4⟩; have HB4 := Lib.hid (below_tail HB2.out hb4); replace p0' := holda hb4 p0'; replace p1' := holda hb4 p1'; clear hb4 ho)
              | (go_at_call 24; refine (HR1.out _).mono ?_; rintro e w5 ⟨rfl, rfl⟩)
              | (go_at_call 24; refine (HR2.out _).mono ?_; rintro e w5 ⟨rfl, rfl⟩))
            go_ret
            exact ⟨rfl, HB4.out⟩
          | true =>
            obtain ⟨X, hX⟩ := HAL.out rfl rfl
            have hlx : L'.length = X.length + 1 := by rw [hX]; simp
            have HX := Lib.hid (show L'[X.length]? = some (r, c) by rw [hX]; simp)
            generalize hn : X.length = n at hlx HX
            have HLX := Lib.hid hlx
            clear hX hn hlx
            go_upto_region 16 with (first
              | (go_at_call 23; refine HADD.out.mono ?_; rintro e w3 ⟨rfl, F', hp2, hm2, -⟩; obtain ⟨hb2, p0', p1'⟩ := HK.out _ hm2; have HP2 := Lib.hid hp2; have HB2 := Lib.hid hb2; clear hp2 hm2 hb2)
              | (go_at_call 21; refine (HPL.out _ _ HP2.out).mono ?_; rintro e w4 ⟨v, rfl, ho, hb4⟩; have HB4 := Lib.hid (below_tail HB2.out hb4); replace p0' := holda hb4 p0'; replace p1' := holda hb4 p1'; obtain ⟨A4, c4, rfl, -, -, -, hg⟩ := gr_of_owns encP_len ho rfl; have HG4 := Lib.hid hg; clear hb4 ho hg)
              | (go_at_call 24; refine (HR1.out _).mono ?_; rintro e w5 ⟨rfl, rfl⟩)
              | (go_at_call 24; refine (HR2.out _).mono ?_; rintro e w5 ⟨rfl, rfl⟩))
            obtain ⟨b, off, x, rfl, hx, cx⟩ := HG4.out.at_ (show n < L'.length by have := HLX.out; omega)
            obtain rfl : (r, c) = x := Option.some.inj (HX.out.symm.trans hx)
            have c0 := cx 0 _ rfl
            have c1 := cx 1 _ rfl
            simp only [Nat.add_zero] at c0
            have hlx := HLX.out
            clear HLX
            generalize L'.length = N at hlx hadl2 ⊢
            have hw1 : IntKind.i64.wrap ((N : Int) - 1) = (n : Int) := by rw [IntWalk.i64_in _ (by omega)]; omega
            have hw2 : ((n : Int)).toNat = n := by simp
            have hpos : 0 < N := by omega
            have hnN : n < N := by omega
            have hd1 : decide (0 < N) = true := by simpa using hpos
            have hle : decide ((N : Int) ≤ 1 + m % 30) = true := by simpa using hadl2
            have ht : m.tmod 30 = m % 30 := Int.tmod_eq_emod_of_nonneg h0
            have hwu : IntKind.u8.wrap (m % 30) = m % 30 := by simp [IntKind.wrap, IntKind.bits, IntKind.signed]; omega
            have hwi : IntKind.i64.wrap (m % 30) = m % 30 := IntWalk.i64_in _ (by omega)
            have hwj : IntKind.i64.wrap (1 + m % 30) = 1 + m % 30 := IntWalk.i64_in _ (by omega)
            clear cx hx hlx
            refine wp_region_u 22 (fun w' => Below w4.heap.size w4 w' ∧ w'.cell? ⟨w.heap.size, 0, none⟩ = some (.int .i64 r) ∧ w'.cell? ⟨w.heap.size, 1, none⟩ = some (.int .i64 c) ∧ w'.cell? ⟨b, off + n * 2, none⟩ = some (.int .i64 r) ∧ w'.cell? ⟨b, off + n * 2 + 1, none⟩ = some (.int .i64 c)) (by kernel_rfl) (by kernel_rfl) ?_ ?_
            · exact ⟨(Below.refl _ _).drew, p0', p1', c0, c1⟩
            simp only [List.take_succ_cons, List.take_zero, List.drop_succ_cons, List.drop_zero]
            repeat (first
              | (refine seqU_skip (by rfl) ?_; simp only [Act.put, List.setIfInBounds_toArray, List.set_cons_zero, List.set_cons_succ])
              | (refine seqU_val ?_ (by rfl) ?_ ?_; rotate_left; · (intro w' hS; obtain ⟨_, _⟩ := hS; go_simp; first | done | with_reducible rfl)
                 simp only [Act.put, List.setIfInBounds_toArray, List.set_cons_zero, List.set_cons_succ]))
            refine seqU_nil (fun w' hS => ?_)
            have hb6 := below_tail HB4.out hS.1
            clear hS
            go_wp2
            go_ret
            exact ⟨by simp, hb6⟩
      · obtain ⟨b, off, o, rfl, ho, co⟩ := (HL.out.below hB).at_ hlt
        have HD := Lib.hid (does20 _ p q mo i L w1 wr o HBO2.out hmo1 hmo2 (by omega))
        have hlen2 := stepL_len (mo := mo) (L := L) o hmo1 (by obtain ⟨_, _, _, _, _, _, h, _⟩ := HBO2.out; exact h)
        obtain ⟨mvb, r', c', k, a, n⟩ := o
        have c0 : wr.cell? ⟨b, off + i * 6, none⟩ = some (.bool mvb) := co 0 _ rfl
        have c1 := co 1 _ rfl
        have c2 := co 2 _ rfl
        have c3 := co 3 _ rfl
        have c4 := co 4 _ rfl
        have c5 := co 5 _ rfl
        generalize stepL mo L _ = L2 at HD hlen2
        have hle : (L2.length : Int) ≤ 1 + m % 30 := by rw [← HMO.out]; omega
        have hne : ((L2.length : Int) != (L2.length : Int)) = false := by simp
        clear co ho hB HBO2 HBO hB1
        go_wp2_with (first
          | (go_at_call 16; refine HD.out.mono ?_; rintro e w3 ⟨rfl, hbo⟩; have HB3 := Lib.hid hbo; have HA := Lib.hid (hbo.answers hmo2 (by omega)); clear hbo)
          | (go_at_call 17; (with_reducible refine (HA.out.len _ (Below.refl _ _)).mono ?_); rintro e w4 ⟨rfl, hb4⟩)
          | (go_at_call 21; (with_reducible refine (HA.out.places _ hb4).mono ?_); rintro e w5 ⟨v, rfl, ⟨⟨X1, x1, rfl⟩, -⟩, hb5⟩)
          | (go_at_call 17; (with_reducible refine (HA.out.len _ (below_tail hb4 hb5)).mono ?_); rintro e w6 ⟨rfl, hb6⟩))
        go_roundw
        case rel => exact ⟨i + 1, L2, by omega, by go_num, HB3.out.below (below_tail (below_tail hb4 hb5) hb6) HB3.out.size⟩
        case measure => simp [intOf]; omega
end Go.Proofs.Ytfadcmjdlfobhaa
