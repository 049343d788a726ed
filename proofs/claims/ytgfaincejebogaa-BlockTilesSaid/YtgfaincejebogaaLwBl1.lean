/- BlockBounds: the walk of the law. Conditions: as stated. -/
import Derived.Test.YtgfaincejebogaaBsC
import Derived.Test.YtgfaincejebogaaBsD
namespace Go.Proofs.Ytgfaincejebogaa
open Go.RowKit

theorem Bt.list {B p q mo N : Nat} {S : Bs} {w : World} (h : Bt B p q mo N S w) (r c : Int) (hz : S.es.length ≤ 1000) :
    Calls Try.prog 10 #[.pointer (some ⟨p, 0, none⟩), .agg #[.int .i64 r, .int .i64 c]] w (BksPost w (listB S.es (r, c))) := by
  obtain ⟨v, L, vM, vF, M, F, ids, dir, h1, h2, -⟩ := h
  have := bllist_any r c w h1 (by rw [← List.length_map (f := (·.2)), h2]; exact hz)
  rwa [h2] at this
theorem Bt.len {B p q mo N : Nat} {S : Bs} {w : World} (h : Bt B p q mo N S w) :
    Calls Try.prog 13 #[.pointer (some ⟨p, 0, none⟩)] w fun e w' => e = .returned (.int .i64 (S.es.length : Nat)) ∧ w = w' := by
  obtain ⟨v, L, vM, vF, M, F, ids, dir, h1, h2, -⟩ := h
  have := blLen_any w h1
  rwa [← List.length_map (f := (·.2)), h2] at this
theorem Bt.last {B p q mo N : Nat} {S : Bs} {w : World} (h : Bt B p q mo N S w) :
    Calls Try.prog 12 #[.pointer (some ⟨p, 0, none⟩)] w fun e w' => e = .returned (.int .u64 S.ids) ∧ w = w' := by
  obtain ⟨v, L, vM, vF, M, F, ids, dir, h1, h2, -⟩ := h
  exact blLast_any w h1
set_option maxRecDepth 100000 in
set_option maxHeartbeats 3200000 in
theorem BlockBounds_walk (m : Int) (A : Option Addr) (l : List Bop) (ca : Nat) (w : World) (h0 : 0 ≤ m) (h1 : m ≤ 255) (hz : l.length ≤ 9223372036854775807) (hl : GrAt encB 9 w A l) :
    Calls Try.prog 4 #[.int .u8 m, .slice A l.length ca] w (TruePost w) := by
  have HL := Lib.hid hl
  have HAW := Lib.hid (fun w => awake19 w)
  clear hl
  by_cases hbig : 60 < l.length
  · go_enter Try.func4, Try.ntmps4
    go_wp2_with (go_at_call 6; refine (HAW.out _).mono ?_; rintro e w1 ⟨rfl, hb1⟩)
    go_ret
    exact ⟨rfl, hb1⟩
  · obtain ⟨mo, hmo⟩ : ∃ mo : Nat, (mo : Int) = 1 + m % 30 := ⟨(1 + m % 30).toNat, by omega⟩
    have HMD := Lib.hid (fun w => made19 m h0 h1 mo hmo w)
    have hmo1 : 1 ≤ mo := by omega
    have hmo2 : mo ≤ 30 := by omega
    have hm30 : 0 ≤ m % 30 ∧ m % 30 ≤ 29 := by omega
    have HMO := Lib.hid hmo
    clear hmo
    go_enter Try.func4, Try.ntmps4
    go_wp2_with (first
      | (go_at_call 6; refine (HAW.out _).mono ?_; rintro e w1 ⟨rfl, hb1⟩; have HB1 := Lib.hid hb1; clear hb1)
      | (go_at_call 7; refine (HMD.out _).mono ?_; rintro e w2 ⟨p, q, rfl, hbo, hb2⟩; have HBO := Lib.hid hbo; have HB2 := Lib.hid hb2; clear hbo hb2))
    go_loopw [7] (fun s7 wr => ∃ (i : Nat) (S : Bs), i ≤ l.length ∧ s7 = .int .i64 i ∧ Bt w1.heap.size p q mo i S wr ∧ Below w1.heap.size w1 wr ∧ BsInv mo i S) (fun s7 _ => l.length - (intOf s7).toNat)
    case atStart => exact ⟨0, _, Nat.zero_le _, rfl, HBO.out, HB2.out, bsInv0 mo⟩
    case round =>
      obtain ⟨i, S, hi, rfl, hbt, hB1, hinv⟩ := hrel
      have hB : Below w.heap.size w wr := below_tail HB1.out hB1
      by_cases hlt : i < l.length
      rotate_left
      · obtain rfl : i = l.length := by omega
        have HB := Lib.hid hB
        clear hbt hB1 hinv hB
        go_wp2
        go_ret
        exact ⟨rfl, HB.out⟩
      · obtain ⟨b, off, o, rfl, ho, co⟩ := (HL.out.below hB).at_ hlt
        have HLA := Lib.hid hbt.last
        have hlen1 := hinv.len
        have hids0 := hinv.lo
        have hids1 := hinv.hi
        have HD := Lib.hid (does19 w1.heap.size p q mo i S w1 wr o hbt hB1 hmo1 hmo2 (by omega) hlen1 hids0 hids1)
        obtain ⟨hinv2, hone⟩ := hinv.step hmo1 o
        have hlen2 := hinv2.len
        have hids2 := hinv2.lo
        have hids3 := hinv2.hi
        have HINV := Lib.hid hinv2
        have HLS : Hid (∀ w', Bt w1.heap.size p q mo (i + 1) (stepB mo S o) w' → Calls Try.prog 10 #[.pointer (some ⟨p, 0, none⟩), .agg #[.int .i64 0, .int .i64 0]] w' (BksPost w' (listB (stepB mo S o).es (0, 0)))) := Lib.hid (fun w' h => h.list 0 0 (by omega))
        generalize stepB mo S o = S' at HD hone hlen2 hids2 hids3 HINV HLS
        have c0 : wr.cell? ⟨b, off + i * 9, none⟩ = some (.int .i64 o.s.k) := co 0 _ rfl
        have c1 : wr.cell? ⟨b, off + i * 9 + 1, none⟩ = some (.int .i64 o.s.code) := co 1 _ rfl
        have c2 : wr.cell? ⟨b, off + i * 9 + 2, none⟩ = some (.bool o.s.has) := co 2 _ rfl
        have c3 : wr.cell? ⟨b, off + i * 9 + 3, none⟩ = some (.string o.s.text) := co 3 _ rfl
        have c4 : wr.cell? ⟨b, off + i * 9 + 4, none⟩ = some (.int .i64 o.r) := co 4 _ rfl
        have c5 : wr.cell? ⟨b, off + i * 9 + 5, none⟩ = some (.int .i64 o.c) := co 5 _ rfl
        have c6 : wr.cell? ⟨b, off + i * 9 + 6, none⟩ = some (.int .i64 o.k) := co 6 _ rfl
        have c7 : wr.cell? ⟨b, off + i * 9 + 7, none⟩ = some (.int .i64 o.a) := co 7 _ rfl
        have c8 : wr.cell? ⟨b, off + i * 9 + 8, none⟩ = some (.int .i64 o.n) := co 8 _ rfl
        have HMO2 := Lib.hid HMO.out
        have hgt : ¬ (1 + m % 30 < (S'.es.length : Int)) := by have := HMO.out; omega
        have hids4 : ¬ (S'.ids < S.ids) := by unfold OneOn at hone; omega
        have hids5 : ¬ (S.ids + 1 < S'.ids) := by unfold OneOn at hone; omega
        have HB := Lib.hid hB
        have HB1R := Lib.hid hB1
        clear co ho hbt hB1 hinv hB hinv2 hone hlen1
        go_upto_region 12 with (first
          | (go_at_call 12; refine HLA.out.mono ?_; rintro e w3 ⟨rfl, rfl⟩)
          | (go_at_call 9; refine HD.out.mono ?_; rintro e w4 ⟨rfl, hbt, hb4⟩; have HBT := Lib.hid hbt; have HB4 := Lib.hid hb4; clear hbt hb4)
          | (go_at_call 10; refine (HLS.out _ HBT.out).mono ?_; rintro e w5 ⟨va, rfl, hown, hb5⟩; obtain ⟨A5, cap5, hv, -, -, -, hg⟩ := gr_of_owns bkCells_len hown rfl; subst hv; have HG := Lib.hid hg; have HB5 := Lib.hid hb5; clear hg hb5 hown))
        have HBT5 := Lib.hid (show Bt w1.heap.size p q mo (i + 1) S' w5 from BtAll.below HBT.out HB5.out)
        have HBW5 := Lib.hid (show Below w1.heap.size w1 w5 from HB4.out.trans (HB5.out.mono HBT.out.size))
        have HLN : Hid (∀ w', Below w5.heap.size w5 w' → Calls Try.prog 13 #[.pointer (some ⟨p, 0, none⟩)] w' fun e w'' => e = .returned (.int .i64 (S'.es.length : Nat)) ∧ w' = w'') := Lib.hid (fun w' hb => Bt.len (BtAll.below HBT5.out hb))
        have HLT : Hid (∀ w', Below w5.heap.size w5 w' → Calls Try.prog 12 #[.pointer (some ⟨p, 0, none⟩)] w' fun e w'' => e = .returned (.int .u64 S'.ids) ∧ w' = w'') := Lib.hid (fun w' hb => Bt.last (BtAll.below HBT5.out hb))
        have HR5 := Lib.hid (Below.refl w5.heap.size w5)
        have HLB := Lib.hid (listB_len S'.es (0, 0))
        have HLA2 : Hid (∀ E, S'.es.getLast? = some E → ∃ c, (listB S'.es (0, 0))[S'.es.length]? = some c ∧ c.id = S'.ids) := Lib.hid (fun E hE => by
          obtain ⟨c, k1, k2⟩ := listB_last (p := (0, 0)) hE
          exact ⟨c, k1, by rw [k2]; exact HINV.out.last E hE⟩)
        have HNO : Hid (S'.es.length = 0 → S'.ids = 0) := Lib.hid (fun h => HINV.out.none (List.length_eq_zero_iff.1 h))
        have HSO : Hid (0 < S'.es.length → ∃ E, S'.es.getLast? = some E) := Lib.hid (fun h => by
          cases hg : S'.es.getLast? with
          | none => rw [List.getLast?_eq_none_iff.1 hg] at h; simp at h
          | some E => exact ⟨E, rfl⟩)
        generalize listB S'.es (0, 0) = lb at HG HLB HLA2 ⊢
        rw [HLB.out]
        generalize S'.es.length = n at HLN HLB HLA2 HNO HSO hlen2 hgt ⊢
        have hn1 : (n : Int) ≤ 30 := by omega
        have hn2 : IntKind.i64.wrap ((n : Int) + 1) = (n : Int) + 1 := IntWalk.i64_in _ (by omega)
        clear c0 c1 c2 c3 c4 c5 c6 c7 c8
        rcases Nat.eq_zero_or_pos n with hn0 | hn0
        · subst hn0
          have hz0 := HNO.out rfl
          rw [hz0] at HLT hids4 hids5
          have HIZ := Lib.hid hz0
          clear hz0
          go_upto_region 14 with (first
            | (go_at_call 13; refine (HLN.out _ HR5.out).mono ?_; rintro e w6 ⟨rfl, rfl⟩)
            | (go_at_call 12; refine (HLT.out _ HR5.out).mono ?_; rintro e w6 ⟨rfl, rfl⟩))
          refine wp_region_u 24 (fun w' => Below w5.heap.size w5 w' ∧ True) (by kernel_rfl) (by kernel_rfl) ?_ ?_
          · exact ⟨(Below.refl _ _).drew, trivial⟩
          simp only [List.take_succ_cons, List.take_zero, List.drop_succ_cons, List.drop_zero]
          repeat (first
            | (refine seqU_skip (by rfl) ?_; simp only [Act.put, List.setIfInBounds_toArray, List.set_cons_zero, List.set_cons_succ])
            | (refine seqU_val ?_ (by rfl) ?_ ?_; rotate_left; · (intro w' hS; obtain ⟨_, _⟩ := hS; go_simp; first | done | with_reducible rfl)
               simp only [Act.put, List.setIfInBounds_toArray, List.set_cons_zero, List.set_cons_succ])
            | (refine seqU_call 13 #[.pointer (some ⟨p, 0, none⟩)] (.int .i64 ((0 : Nat) : Int)) (by rfl) ?_ (fun w' hS => (HLN.out w' hS.1).mono fun e w2 ⟨he, hb⟩ => ⟨he, hb ▸ hS⟩) ?_; · (intro w'; go_simp; done)
               simp only [Act.put, List.setIfInBounds_toArray, List.set_cons_zero, List.set_cons_succ])
            | (refine seqU_call 12 #[.pointer (some ⟨p, 0, none⟩)] (.int .u64 0) (by rfl) ?_ (fun w' hS => (HLT.out w' hS.1).mono fun e w2 ⟨he, hb⟩ => ⟨he, hb ▸ hS⟩) ?_; · (intro w'; go_simp; done)
               simp only [Act.put, List.setIfInBounds_toArray, List.set_cons_zero, List.set_cons_succ]))
          refine seqU_nil (fun w' hS => ?_)
          have hB6 := Lib.hid hS.1
          clear hS
          go_wp2
          go_roundw
          case rel => exact ⟨i + 1, S', by omega, by go_num, BtAll.below HBT5.out hB6.out, HBW5.out.trans (hB6.out.mono HBT5.out.size), HINV.out⟩
          case measure => simp [intOf]; omega
        · obtain ⟨E, hE⟩ := HSO.out hn0
          obtain ⟨c, hc, hcid⟩ := HLA2.out E hE
          obtain ⟨b5, off5, x5, rfl, hx5, cx5⟩ := HG.out.at_ (show n < lb.length by have := HLB.out; omega)
          obtain rfl : x5 = c := Option.some.inj (hx5.symm.trans hc)
          have d0 : w5.cell? ⟨b5, off5 + n * 17, none⟩ = some (.int .u64 S'.ids) := by rw [← hcid]; exact cx5 0 _ rfl
          have hn3 : (0 : Int) < (n : Int) := by omega
          have hn4 : IntKind.i64.wrap (((n + 1 : Nat) : Int) - 1) = (n : Int) := by rw [IntWalk.i64_in _ (by omega)]; omega
          have hn5 : n < n + 1 := by omega
          have hn7 : (n : Int) < (n : Int) + 1 := by omega
          have hn8 : ((n : Int) == 0) = false := beq_eq_false_iff_ne.2 (by omega)
          have hn9 : ¬ (n : Int) = 0 := by omega
          have hn10 : ¬ n = 0 := by omega
          have hn6 : IntKind.i64.wrap (n : Int) = (n : Int) := IntWalk.i64_in _ (by omega)
          clear hE hc hcid hx5 cx5
          go_upto_region 14 with (first
            | (go_at_call 13; refine (HLN.out _ HR5.out).mono ?_; rintro e w6 ⟨rfl, rfl⟩)
            | (go_at_call 12; refine (HLT.out _ HR5.out).mono ?_; rintro e w6 ⟨rfl, rfl⟩))
          refine wp_region_u 24 (fun w' => Below w5.heap.size w5 w' ∧ w'.cell? ⟨b5, off5 + n * 17, none⟩ = some (.int .u64 S'.ids)) (by kernel_rfl) (by kernel_rfl) ?_ ?_
          · exact ⟨(Below.refl _ _).drew, d0⟩
          simp only [List.take_succ_cons, List.take_zero, List.drop_succ_cons, List.drop_zero]
          repeat (first
            | (refine seqU_skip (by rfl) ?_; simp only [Act.put, List.setIfInBounds_toArray, List.set_cons_zero, List.set_cons_succ])
            | (refine seqU_val ?_ (by rfl) ?_ ?_; rotate_left; · (intro w' hS; obtain ⟨_, _⟩ := hS; go_simp; first | done | with_reducible rfl)
               simp only [Act.put, List.setIfInBounds_toArray, List.set_cons_zero, List.set_cons_succ])
            | (refine seqU_call 13 #[.pointer (some ⟨p, 0, none⟩)] (.int .i64 (n : Int)) (by rfl) ?_ (fun w' hS => (HLN.out w' hS.1).mono fun e w2 ⟨he, hb⟩ => ⟨he, hb ▸ hS⟩) ?_; · (intro w'; go_simp; done)
               simp only [Act.put, List.setIfInBounds_toArray, List.set_cons_zero, List.set_cons_succ])
            | (refine seqU_call 12 #[.pointer (some ⟨p, 0, none⟩)] (.int .u64 S'.ids) (by rfl) ?_ (fun w' hS => (HLT.out w' hS.1).mono fun e w2 ⟨he, hb⟩ => ⟨he, hb ▸ hS⟩) ?_; · (intro w'; go_simp; done)
               simp only [Act.put, List.setIfInBounds_toArray, List.set_cons_zero, List.set_cons_succ]))
          refine seqU_nil (fun w' hS => ?_)
          have hB6 := Lib.hid hS.1
          clear hS
          go_wp2
          go_roundw
          case rel => exact ⟨i + 1, S', by omega, by go_num, BtAll.below HBT5.out hB6.out, HBW5.out.trans (hB6.out.mono HBT5.out.size), HINV.out⟩
          case measure => simp [intOf]; omega
end Go.Proofs.Ytgfaincejebogaa
