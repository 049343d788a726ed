/- BlockTiles: the walk of the law. Conditions: as stated. -/
import Derived.Test.YtgfaincejebogaaLwBl1
import Derived.Test.YtgfaincejebogaaBsN
import Derived.Test.YtgfaincejebogaaRegW
namespace Go.Proofs.Ytgfaincejebogaa
open Go.RowKit

/-- What the law's second part needs of the list. -/
structure TlSt (w wL : World) (p : Nat) (b off n : Nat) (lb : List Bk) (r c : Int) : Prop where
  len : lb.length = n + 1
  tiles : Tiles lb (r, c)
  gr : GrAt bkCells 17 wL (some ⟨b, off, none⟩) lb
  h0 : wL.cell? ⟨w.heap.size, 0, none⟩ = some (.int .i64 r)
  h1 : wL.cell? ⟨w.heap.size, 1, none⟩ = some (.int .i64 c)
  below : Below w.heap.size w wL
set_option maxRecDepth 100000 in
set_option maxHeartbeats 12800000 in
theorem BlockTiles_walk (m : Int) (A : Option Addr) (l : List Bop) (ca : Nat) (r c : Int) (w : World) (h0 : 0 ≤ m) (h1 : m ≤ 255) (hz : l.length ≤ 9223372036854775807) (hl : GrAt encB 9 w A l) :
    Calls Try.prog 3 #[.int .u8 m, .slice A l.length ca, .agg #[.int .i64 r, .int .i64 c]] w (TruePost w) := by
  have HL := Lib.hid hl
  have HAW := Lib.hid (fun w => awake19 w)
  have HR1 := Lib.hid (fun w => Right10_any r w)
  have HR2 := Lib.hid (fun w => Right10_any c w)
  have HP : Hid (∀ w1 : World, Below (w.alloc (.cells #[.int .i64 r, .int .i64 c] 24)).heap.size (w.alloc (.cells #[.int .i64 r, .int .i64 c] 24)) w1 → w1.cell? ⟨w.heap.size, 0, none⟩ = some (.int .i64 r) ∧ w1.cell? ⟨w.heap.size, 1, none⟩ = some (.int .i64 c)) :=
    Lib.hid fun w1 hb => ⟨(hold hb (at_new (Below.refl _ _) (hp_new rfl) 0 _ rfl)).1, (hold hb (at_new (Below.refl _ _) (hp_new rfl) 1 _ rfl)).1⟩
  have HB0 := Lib.hid (below_allocs (Below.refl w.heap.size w) (.cells #[.int .i64 r, .int .i64 c] 24))
  clear hl
  by_cases hbig : 60 < l.length
  · go_enter Try.func3, Try.ntmps3
    go_wp2_with (go_at_call 6; refine (HAW.out _).mono ?_; rintro e w1 ⟨rfl, hb1⟩)
    go_ret
    exact ⟨rfl, below_tail HB0.out hb1⟩
  cases hr1 : inB r with
  | false =>
    rw [hr1] at HR1
    clear hr1
    go_enter Try.func3, Try.ntmps3
    go_wp2_with (first | (go_at_call 6; refine (HAW.out _).mono ?_; rintro e w1 ⟨rfl, hb1⟩) | (go_at_call 5; refine (HR1.out _).mono ?_; rintro e w1 ⟨rfl, rfl⟩))
    go_ret
    exact ⟨rfl, below_tail HB0.out hb1⟩
  | true => cases hr2 : inB c with
    | false =>
      rw [hr1] at HR1
      rw [hr2] at HR2
      clear hr1 hr2
      go_enter Try.func3, Try.ntmps3
      go_wp2_with (first | (go_at_call 6; refine (HAW.out _).mono ?_; rintro e w1 ⟨rfl, hb1⟩) | (go_at_call 5; refine (HR1.out _).mono ?_; rintro e w1 ⟨rfl, rfl⟩) | (go_at_call 5; refine (HR2.out _).mono ?_; rintro e w1 ⟨rfl, rfl⟩))
      go_ret
      exact ⟨rfl, below_tail HB0.out hb1⟩
    | true =>
      rw [hr1] at HR1
      rw [hr2] at HR2
      have HI := Lib.hid (show 0 ≤ r ∧ 0 ≤ c from ⟨(inB_true hr1).1, (inB_true hr2).1⟩)
      obtain ⟨mo, hmo⟩ : ∃ mo : Nat, (mo : Int) = 1 + m % 30 := ⟨(1 + m % 30).toNat, by omega⟩
      have HMD := Lib.hid (fun w => made19 m h0 h1 mo hmo w)
      have hmo1 : 1 ≤ mo := by omega
      have hmo2 : mo ≤ 30 := by omega
      have hm30 : 0 ≤ m % 30 ∧ m % 30 ≤ 29 := by omega
      have HMO := Lib.hid hmo
      clear hmo hr1 hr2
      go_enter Try.func3, Try.ntmps3
      go_wp2_with (first
        | (go_at_call 5; refine (HR1.out _).mono ?_; rintro e w1 ⟨rfl, rfl⟩)
        | (go_at_call 5; refine (HR2.out _).mono ?_; rintro e w1 ⟨rfl, rfl⟩)
        | (go_at_call 6; refine (HAW.out _).mono ?_; rintro e w1 ⟨rfl, hb1⟩; have HPP := Lib.hid (HP.out _ hb1); have HS1 := Lib.hid hb1.size; have HB1 := Lib.hid (below_tail HB0.out hb1); clear hb1)
        | (go_at_call 7; refine (HMD.out _).mono ?_; rintro e w2 ⟨p, q, rfl, hbo, hb2⟩; have HBO := Lib.hid hbo; have HB2 := Lib.hid hb2; clear hbo hb2))
      clear HP HR1 HR2 HMD
      go_loopw [9] (fun s9 wr => ∃ (i : Nat) (S : Bs), i ≤ l.length ∧ s9 = .int .i64 i ∧ Bt w1.heap.size p q mo i S wr ∧ Below w1.heap.size w1 wr ∧ BsInv mo i S ∧ TInv i S) (fun s9 _ => l.length - (intOf s9).toNat)
      case atStart => exact ⟨0, _, Nat.zero_le _, rfl, HBO.out, HB2.out, bsInv0 mo, tInv0⟩
      case round =>
        obtain ⟨i, S, hi, rfl, hbt, hB1, hinv, htv⟩ := hrel
        have hB : Below w.heap.size w wr := below_tail HB1.out hB1
        by_cases hlt : i < l.length
        rotate_left
        · obtain rfl : i = l.length := by omega
          have HLS := Lib.hid (hbt.list r c (by have := hinv.len; omega))
          have HTL := Lib.hid (listB_tiles htv (p := (r, c)) HI.out.1 HI.out.2)
          have hln := listB_len S.es (r, c)
          have hes := hinv.len
          generalize listB S.es (r, c) = lb at HLS HTL hln
          generalize S.es.length = n at hln hes
          have HLN := Lib.hid hln
          have p0 := holda hB1 HPP.out.1
          have p1 := holda hB1 HPP.out.2
          have HB := Lib.hid hB
          clear hbt hB1 hinv htv hB hln
          go_upto_region 13 with (go_at_call 10; refine HLS.out.mono ?_; rintro e w5 ⟨va, rfl, hown, hb5⟩; obtain ⟨A5, cap5, hv, -, -, -, hg⟩ := gr_of_owns bkCells_len hown rfl; subst hv; have HG := Lib.hid hg; have HB5 := Lib.hid hb5; clear hg hb5 hown)
          rw [HLN.out]
          obtain ⟨b5, off5, x0, rfl, hx0, cx0⟩ := HG.out.at_ (show 0 < lb.length by rw [HLN.out]; omega)
          have TL := Lib.hid (show TlSt w w5 p b5 off5 n lb r c from ⟨HLN.out, HTL.out, HG.out, holda HB5.out p0, holda HB5.out p1, below_tail HB.out HB5.out⟩)
          obtain ⟨f0, f1, f2⟩ := HTL.out.first x0 hx0
          have d2 := cx0 2 _ rfl
          have d3 := cx0 3 _ rfl
          have d0 := cx0 0 _ rfl
          simp only [Nat.zero_mul, Nat.add_zero] at d0 d2 d3
          rw [f0] at d2
          rw [f1] at d3
          rw [f2] at d0
          have hne : ¬ ((n : Int) + 1 = 0) := by omega
          have hne2 : (((n + 1 : Nat) : Int) == 0) = false := beq_eq_false_iff_ne.2 (by omega)
          have hlt0 : (0 : Int) < (n : Int) + 1 := by omega
          clear hx0 cx0 f0 f1 f2 p0 p1 HG HLS HTL HLN
          go_upto_block 2 with fail
          go_wp2_with fail
          go_loopw [11] (fun s11 wr => ∃ j : Nat, j ≤ n + 1 ∧ s11 = .int .i64 j ∧ Below w5.heap.size w5 wr) (fun s11 _ => n + 1 - (intOf s11).toNat)
          case atStart => exact ⟨0, Nat.zero_le _, rfl, Below.refl _ _⟩
          case round =>
            obtain ⟨j, hj, rfl, hb⟩ := hrel
            have HB6 := Lib.hid hb
            have HG6 := Lib.hid (TL.out.gr.below hb)
            have HBW6 := Lib.hid (below_tail TL.out.below hb)
            have hn2 : (n : Int) ≤ 30 := by omega
            by_cases hjl : j < n + 1
            rotate_left
            · obtain rfl : j = n + 1 := by omega
              have hge : ¬ (((n + 1 : Nat) : Int) < (n : Int) + 1) := by omega
              have hge2 : ¬ ((n : Int) + 1 < (n : Int) + 1) := by omega
              obtain ⟨b7, off7, d, hA7, hd, cd⟩ := HG6.out.at_ (show n < lb.length by rw [TL.out.len]; omega)
              simp only [Option.some.injEq, Addr.mk.injEq, and_true] at hA7
              obtain ⟨rfl, rfl⟩ := hA7
              have hla := TL.out.tiles.last d (by rw [TL.out.len, Nat.add_sub_cancel]; exact hd)
              have HO5 : Hid (∀ w', Calls Try.prog 11 #[.agg #[.int .i64 d.tr, .int .i64 d.tc], .agg #[.int .i64 r, .int .i64 c]] w' fun e w'' => e = .returned (.bool false) ∧ Below w'.heap.size w' w'') := Lib.hid (fun w' => by have := RLess_any d.tr d.tc r c w'; rwa [hla] at this)
              have g10 : wr.cell? ⟨b5, off5 + n * 17 + 10, none⟩ = some (.int .i64 d.tr) := cd 10 _ rfl
              have g11 : wr.cell? ⟨b5, off5 + n * 17 + 10 + 1, none⟩ = some (.int .i64 d.tc) := cd 11 _ rfl
              have p0 := holda hb TL.out.h0
              have p1 := holda hb TL.out.h1
              have hnw : IntKind.i64.wrap (n : Int) = (n : Int) := IntWalk.i64_in _ (by omega)
              have hnl : (n : Int) < (n : Int) + 1 := by omega
              have hnl2 : n < n + 1 := by omega
              clear cd hd hla hb
              go_wp2_with fail
              refine wp_region_u 10 (fun w' => Below wr.heap.size wr w' ∧ w'.cell? ⟨w.heap.size, 0, none⟩ = some (.int .i64 r) ∧ w'.cell? ⟨w.heap.size, 1, none⟩ = some (.int .i64 c) ∧ w'.cell? ⟨b5, off5 + n * 17 + 10, none⟩ = some (.int .i64 d.tr) ∧ w'.cell? ⟨b5, off5 + n * 17 + 10 + 1, none⟩ = some (.int .i64 d.tc)) (by kernel_rfl) (by kernel_rfl) ?_ ?_
              · exact ⟨(Below.refl _ _).drew, p0, p1, g10, g11⟩
              simp only [List.take_succ_cons, List.take_zero, List.drop_succ_cons, List.drop_zero]
              repeat (first
                | (refine seqU_skip (by rfl) ?_; simp only [Act.put, List.setIfInBounds_toArray, List.set_cons_zero, List.set_cons_succ])
                | (refine seqU_val ?_ (by rfl) ?_ ?_; rotate_left; · (intro w' hS; obtain ⟨_, _, _, _, _⟩ := hS; go_simp; first | done | with_reducible rfl)
                   simp only [Act.put, List.setIfInBounds_toArray, List.set_cons_zero, List.set_cons_succ])
                | (refine seqU_call 11 #[.agg #[.int .i64 d.tr, .int .i64 d.tc], .agg #[.int .i64 r, .int .i64 c]] (.bool false) (by rfl) ?_ (fun w' hS => (HO5.out w').mono fun e w2 ⟨he, hb⟩ => ⟨he, ⟨below_tail hS.1 hb, holda hb hS.2.1, holda hb hS.2.2.1, holda hb hS.2.2.2.1, holda hb hS.2.2.2.2⟩⟩) ?_; · (intro w'; go_simp; done)
                   simp only [Act.put, List.setIfInBounds_toArray, List.set_cons_zero, List.set_cons_succ]))
              refine seqU_nil (fun w' hS => ?_)
              have HB13 := Lib.hid hS.1
              clear hS p0 p1 g10 g11
              go_wp2
              go_ret
              exact ⟨rfl, below_tail HBW6.out HB13.out⟩
            · obtain ⟨b6, off6, x, hA6, hx, cx⟩ := HG6.out.at_ (show j < lb.length by rw [TL.out.len]; omega)
              simp only [Option.some.injEq, Addr.mk.injEq, and_true] at hA6
              obtain ⟨rfl, rfl⟩ := hA6
              have HTX := Lib.hid (TL.out.tiles.at_ j x hx)
              have HR := Lib.hid (show wr.rangeAt b5 (off5 + j * 17) (bkCells x) from cx)
              have hjI : (j : Int) < (n : Int) + 1 := by omega
              have hjN : j < n + 1 := hjl
              have HTN := Lib.hid (there_new (cs := (bkCells zeroBk).toArray) (w := wr.alloc (.cells (bkCells zeroBk).toArray 43)) (g := wr.heap.size) (hp_new rfl))
              have HX := Lib.hid hx
              clear cx hx hb
              go_upto_region 18 with fail
              refine wp_region_lit ?_
              refine wpList_val (.slice (some ⟨b5, off5, none⟩) (n + 1) cap5) (by rfl) (by rfl) ?_
              simp only [Act.put, List.setIfInBounds_toArray, List.set_cons_zero, List.set_cons_succ]
              refine wpList_val (.int .i64 (j : Int)) (by rfl) (by rfl) ?_
              simp only [Act.put, List.setIfInBounds_toArray, List.set_cons_zero, List.set_cons_succ]
              refine wpList_val (.pointer (some ⟨b5, off5 + j * 17, none⟩)) (by rfl) (by go_simp) ?_
              simp only [Act.put, List.setIfInBounds_toArray, List.set_cons_zero, List.set_cons_succ]
              refine wpList_load_mid rfl 43 (.tmp 88) rfl b5 (off5 + j * 17) rfl (bkCells x) _ HR.out Try.underlying43 rfl info_block ?_
              simp only [Act.put, List.setIfInBounds_toArray, List.set_cons_zero, List.set_cons_succ]
              go_upto_region 19 with (refine wpList_store_mid (op := ⟨none, .store 43 (.tmp 12) (.tmp 89), _, _, _, _⟩) rfl 43 (.tmp 12) (.tmp 89) rfl wr.heap.size 0 (bkCells x).toArray rfl rfl HTN.out info_block (one_arr x) ?_)
              generalize hW7 : World.setCells _ _ _ _ = W7
              have HR7 : W7.rangeAt wr.heap.size 0 (bkCells x) := by rw [← hW7]; exact World.rangeAt_setCells_same _ _ _ _ HTN.out
              have hB7 : Below wr.heap.size wr W7 := by rw [← hW7]; exact below_setCells (below_allocs (Below.refl _ _) _) (Nat.le_refl _) _ _
              have HC : Hid (∀ w', Below W7.heap.size W7 w' → w'.cell? ⟨wr.heap.size, 2, none⟩ = some (.int .i64 x.sr) ∧ w'.cell? ⟨wr.heap.size, 3, none⟩ = some (.int .i64 x.sc) ∧ w'.cell? ⟨wr.heap.size, 4, none⟩ = some (.int .i64 x.ir) ∧ w'.cell? ⟨wr.heap.size, 5, none⟩ = some (.int .i64 x.ic) ∧ w'.cell? ⟨wr.heap.size, 6, none⟩ = some (.int .i64 x.pr) ∧ w'.cell? ⟨wr.heap.size, 7, none⟩ = some (.int .i64 x.pc) ∧ w'.cell? ⟨wr.heap.size, 8, none⟩ = some (.int .i64 x.dr) ∧ w'.cell? ⟨wr.heap.size, 9, none⟩ = some (.int .i64 x.dc) ∧ w'.cell? ⟨wr.heap.size, 10, none⟩ = some (.int .i64 x.tr) ∧ w'.cell? ⟨wr.heap.size, 11, none⟩ = some (.int .i64 x.tc) ∧ w'.cell? ⟨wr.heap.size, 0, none⟩ = some (.int .u64 x.id)) :=
                Lib.hid (fun w' hb => by
                  have hh := range_below HR7 hb
                  have hg : ∀ (i : Nat) (v : Value), (bkCells x)[i]? = some v → w'.cell? ⟨wr.heap.size, i, none⟩ = some v := fun i v hv => by have := hh i v hv; rwa [Nat.zero_add] at this
                  exact ⟨hg 2 _ rfl, hg 3 _ rfl, hg 4 _ rfl, hg 5 _ rfl, hg 6 _ rfl, hg 7 _ rfl, hg 8 _ rfl, hg 9 _ rfl, hg 10 _ rfl, hg 11 _ rfl, hg 0 _ rfl⟩)
              have HB7 := Lib.hid hB7
              have HO1 : Hid (∀ w', Calls Try.prog 11 #[.agg #[.int .i64 x.ir, .int .i64 x.ic], .agg #[.int .i64 x.sr, .int .i64 x.sc]] w' fun e w'' => e = .returned (.bool false) ∧ Below w'.heap.size w' w'') := Lib.hid (fun w' => by have := RLess_any x.ir x.ic x.sr x.sc w'; rwa [HTX.out.o1] at this)
              have HO2 : Hid (∀ w', Calls Try.prog 11 #[.agg #[.int .i64 x.pr, .int .i64 x.pc], .agg #[.int .i64 x.ir, .int .i64 x.ic]] w' fun e w'' => e = .returned (.bool false) ∧ Below w'.heap.size w' w'') := Lib.hid (fun w' => by have := RLess_any x.pr x.pc x.ir x.ic w'; rwa [HTX.out.o2] at this)
              have HO3 : Hid (∀ w', Calls Try.prog 11 #[.agg #[.int .i64 x.dr, .int .i64 x.dc], .agg #[.int .i64 x.pr, .int .i64 x.pc]] w' fun e w'' => e = .returned (.bool false) ∧ Below w'.heap.size w' w'') := Lib.hid (fun w' => by have := RLess_any x.dr x.dc x.pr x.pc w'; rwa [HTX.out.o3] at this)
              have HO4 : Hid (∀ w', Calls Try.prog 11 #[.agg #[.int .i64 x.tr, .int .i64 x.tc], .agg #[.int .i64 x.dr, .int .i64 x.dc]] w' fun e w'' => e = .returned (.bool false) ∧ Below w'.heap.size w' w'') := Lib.hid (fun w' => by have := RLess_any x.tr x.tc x.dr x.dc w'; rwa [HTX.out.o4] at this)
              obtain ⟨e2, e3, e4, e5, e6, e7, e8, e9, e10, e11, e0⟩ := HC.out _ (Below.refl _ _)
              clear hW7 HR7 hB7 HR HTN
              go_upto_region 21 with (go_at_call 11; first
                | (have hpv := HB10.out; clear hpv; refine (HO4.out _).mono ?_; rintro e w11 ⟨rfl, hb⟩; have HB11 := Lib.hid (HB10.out.trans (hb.mono HB10.out.size)); clear hb e2 e3 e4 e5 e6 e7 e8 e9 e10 e11 e0; obtain ⟨e2, e3, e4, e5, e6, e7, e8, e9, e10, e11, e0⟩ := HC.out _ HB11.out)
                | (have hpv := HB9.out; clear hpv; refine (HO3.out _).mono ?_; rintro e w10 ⟨rfl, hb⟩; have HB10 := Lib.hid (HB9.out.trans (hb.mono HB9.out.size)); clear hb e2 e3 e4 e5 e6 e7 e8 e9 e10 e11 e0; obtain ⟨e2, e3, e4, e5, e6, e7, e8, e9, e10, e11, e0⟩ := HC.out _ HB10.out)
                | (have hpv := HB8.out; clear hpv; refine (HO2.out _).mono ?_; rintro e w9 ⟨rfl, hb⟩; have HB9 := Lib.hid (HB8.out.trans (hb.mono HB8.out.size)); clear hb e2 e3 e4 e5 e6 e7 e8 e9 e10 e11 e0; obtain ⟨e2, e3, e4, e5, e6, e7, e8, e9, e10, e11, e0⟩ := HC.out _ HB9.out)
                | (refine (HO1.out _).mono ?_; rintro e w8 ⟨rfl, hb⟩; have HB8 := Lib.hid hb; clear hb e2 e3 e4 e5 e6 e7 e8 e9 e10 e11 e0; obtain ⟨e2, e3, e4, e5, e6, e7, e8, e9, e10, e11, e0⟩ := HC.out _ HB8.out))
              have HB12 := Lib.hid (show Below wr.heap.size wr w11 from below_tail HB7.out HB11.out)
              clear HC HO1 HO2 HO3 HO4 e4 e5 e6 e7 e8 e9 e10 e11
              rcases Nat.eq_zero_or_pos j with hj0 | hj0
              · have hj1 : ¬ ((0 : Int) < (j : Int)) := by omega
                refine wp_region_u 23 (fun w' => Below w11.heap.size w11 w' ∧ True) (by kernel_rfl) (by kernel_rfl) ?_ ?_
                · exact ⟨(Below.refl _ _).drew, trivial⟩
                simp only [List.take_succ_cons, List.take_zero, List.drop_succ_cons, List.drop_zero]
                repeat (first
                  | (refine seqU_skip (by rfl) ?_; simp only [Act.put, List.setIfInBounds_toArray, List.set_cons_zero, List.set_cons_succ])
                  | (refine seqU_val ?_ (by rfl) ?_ ?_; rotate_left; · (intro w' hS; obtain ⟨_, _⟩ := hS; go_simp; first | done | with_reducible rfl)
                     simp only [Act.put, List.setIfInBounds_toArray, List.set_cons_zero, List.set_cons_succ]))
                refine seqU_nil (fun w' hS => ?_)
                have HB13 := Lib.hid hS.1
                clear hS e2 e3 e0
                go_wp2
                go_roundw
                case rel => exact ⟨j + 1, by omega, by go_num, below_tail HB6.out (below_tail HB12.out HB13.out)⟩
                case measure => simp [intOf]; try omega
              · obtain ⟨k, rfl⟩ : ∃ k, j = k + 1 := ⟨j - 1, by omega⟩
                obtain ⟨b7, off7, d, hA7, hd, cd⟩ := HG6.out.at_ (show k < lb.length by rw [TL.out.len]; omega)
                simp only [Option.some.injEq, Addr.mk.injEq, and_true] at hA7
                obtain ⟨rfl, rfl⟩ := hA7
                obtain ⟨q1, q2, q3⟩ := HTX.out.prev d (by omega) (by rw [Nat.add_sub_cancel]; exact hd)
                have g0 : wr.cell? ⟨b5, off5 + k * 17, none⟩ = some (.int .u64 d.id) := cd 0 _ rfl
                have g10 : wr.cell? ⟨b5, off5 + k * 17 + 10, none⟩ = some (.int .i64 d.tr) := cd 10 _ rfl
                have g11 : wr.cell? ⟨b5, off5 + k * 17 + 10 + 1, none⟩ = some (.int .i64 d.tc) := cd 11 _ rfl
                replace g0 := holda HB12.out g0
                replace g10 := holda HB12.out g10
                replace g11 := holda HB12.out g11
                rw [q1] at e2
                rw [q2] at e3
                have q4 : ¬ (x.id ≤ d.id) := by omega
                have hk0 : (0 : Int) < ((k + 1 : Nat) : Int) := by omega
                have hk1 : (0 : Int) < (k : Int) + 1 := by omega
                have hkw : IntKind.i64.wrap (k : Int) = (k : Int) := IntWalk.i64_in _ (by omega)
                have hkl : (k : Int) < (n : Int) + 1 := by omega
                have hkl2 : k < n + 1 := by omega
                clear cd hd q1 q2 q3
                refine wp_region_u 23 (fun w' => Below w11.heap.size w11 w' ∧ w'.cell? ⟨wr.heap.size, 2, none⟩ = some (.int .i64 d.tr) ∧ w'.cell? ⟨wr.heap.size, 3, none⟩ = some (.int .i64 d.tc) ∧ w'.cell? ⟨wr.heap.size, 0, none⟩ = some (.int .u64 x.id) ∧ w'.cell? ⟨b5, off5 + k * 17, none⟩ = some (.int .u64 d.id) ∧ w'.cell? ⟨b5, off5 + k * 17 + 10, none⟩ = some (.int .i64 d.tr) ∧ w'.cell? ⟨b5, off5 + k * 17 + 10 + 1, none⟩ = some (.int .i64 d.tc)) (by kernel_rfl) (by kernel_rfl) ?_ ?_
                · exact ⟨(Below.refl _ _).drew, e2, e3, e0, g0, g10, g11⟩
                simp only [List.take_succ_cons, List.take_zero, List.drop_succ_cons, List.drop_zero]
                repeat (first
                  | (refine seqU_skip (by rfl) ?_; simp only [Act.put, List.setIfInBounds_toArray, List.set_cons_zero, List.set_cons_succ])
                  | (refine seqU_val ?_ (by rfl) ?_ ?_; rotate_left; · (intro w' hS; obtain ⟨_, _, _, _, _, _, _⟩ := hS; go_simp; first | done | with_reducible rfl)
                     simp only [Act.put, List.setIfInBounds_toArray, List.set_cons_zero, List.set_cons_succ]))
                refine seqU_nil (fun w' hS => ?_)
                have HB13 := Lib.hid hS.1
                clear hS e2 e3 e0 g0 g10 g11
                go_wp2
                go_roundw
                case rel => exact ⟨k + 2, by omega, by go_num, below_tail HB6.out (below_tail HB12.out HB13.out)⟩
                case measure => simp [intOf]; omega
        · obtain ⟨b, off, o, rfl, ho, co⟩ := (HL.out.below hB).at_ hlt
          have hlen1 := hinv.len
          have hids0 := hinv.lo
          have hids1 := hinv.hi
          have HD := Lib.hid (does19 w1.heap.size p q mo i S w1 wr o hbt hB1 hmo1 hmo2 (by omega) hlen1 hids0 hids1)
          have HD2 : Hid (∀ w3, Below wr.heap.size wr w3 → Calls _ _ _ w3 _) := Lib.hid (fun w3 hb => does19 w1.heap.size p q mo i S w1 w3 o (BtAll.below hbt hb) (hB1.trans (hb.mono hbt.size)) hmo1 hmo2 (by omega) hlen1 hids0 hids1)
          have HINV := Lib.hid (hinv.step hmo1 o).1
          have HTV : Hid (nearB o = true → TInv (i + 1) (stepB mo S o)) := Lib.hid (fun hn => htv.step hids0 (by omega) o hn)
          have HNR := Lib.hid (fun w => near19 o w)
          generalize stepB mo S o = S' at HD HD2 HINV HTV
          have c0 : wr.cell? ⟨b, off + i * 9, none⟩ = some (.int .i64 o.s.k) := co 0 _ rfl
          have c1 : wr.cell? ⟨b, off + i * 9 + 1, none⟩ = some (.int .i64 o.s.code) := co 1 _ rfl
          have c2 : wr.cell? ⟨b, off + i * 9 + 2, none⟩ = some (.bool o.s.has) := co 2 _ rfl
          have c3 : wr.cell? ⟨b, off + i * 9 + 3, none⟩ = some (.string o.s.text) := co 3 _ rfl
          have c4 : wr.cell? ⟨b, off + i * 9 + 4, none⟩ = some (.int .i64 o.r) := co 4 _ rfl
          have c5 : wr.cell? ⟨b, off + i * 9 + 5, none⟩ = some (.int .i64 o.c) := co 5 _ rfl
          have c6 : wr.cell? ⟨b, off + i * 9 + 6, none⟩ = some (.int .i64 o.k) := co 6 _ rfl
          have c7 : wr.cell? ⟨b, off + i * 9 + 7, none⟩ = some (.int .i64 o.a) := co 7 _ rfl
          have c8 : wr.cell? ⟨b, off + i * 9 + 8, none⟩ = some (.int .i64 o.n) := co 8 _ rfl
          have HB := Lib.hid hB
          have HC := Lib.hid co
          clear ho hbt hB1 hinv hB hlen1 hids0 hids1 htv
          cases hn : nearB o with
          | false =>
            rw [hn] at HNR
            clear hn co
            go_wp2_with (go_at_call 8; refine (HNR.out _).mono ?_; rintro e w3 ⟨rfl, hb3⟩)
            go_ret
            exact ⟨rfl, below_tail HB.out hb3⟩
          | true =>
            rw [hn] at HNR
            have HTI := Lib.hid (HTV.out hn)
            clear hn co
            go_wp2_with (first
              | (go_at_call 8; refine (HNR.out _).mono ?_; rintro e w3 ⟨rfl, hb3⟩; have HB3 := Lib.hid hb3; replace c0 := holda hb3 c0; replace c1 := holda hb3 c1; replace c2 := holda hb3 c2; replace c3 := holda hb3 c3; replace c4 := holda hb3 c4; replace c5 := holda hb3 c5; replace c6 := holda hb3 c6; replace c7 := holda hb3 c7; replace c8 := holda hb3 c8; clear hb3)
              | (go_at_call 9; refine (HD2.out _ HB3.out).mono ?_; rintro e w4 ⟨rfl, hbt, hb4⟩; have HBT := Lib.hid hbt; have HB4 := Lib.hid hb4; clear hbt hb4))
            go_roundw
            case rel => exact ⟨i + 1, S', by omega, by go_num, HBT.out, HB4.out, HINV.out, HTI.out⟩
            case measure => simp [intOf]; omega
end Go.Proofs.Ytgfaincejebogaa
