/- PointPlays: the walk of the law. Conditions: as stated. -/
import Derived.Test.YtfadcmjdlfobhaaPsD
namespace Go.Proofs.Ytfadcmjdlfobhaa
open Go.RowKit Go.Sort

set_option maxRecDepth 100000 in
set_option maxHeartbeats 3200000 in
theorem PointPlays_walk (m : Int) (A : Option Addr) (l : List Ov) (ca : Nat) (w : World) (h0 : 0 ≤ m) (h1 : m ≤ 255) (hz : l.length ≤ 9223372036854775807) (hl : GrAt encO 6 w A l) :
    Calls Try.prog 3 #[.int .u8 m, .slice A l.length ca] w (TruePost w) := by
  have HL := Lib.hid hl
  have HAW := Lib.hid (fun w => awake20 w)
  clear hl
  by_cases hbig : 60 < l.length
  · go_enter Try.func3, Try.ntmps3
    go_wp2_with (go_at_call 14; refine (HAW.out _).mono ?_; rintro e w1 ⟨rfl, hb1⟩)
    go_ret
    exact ⟨rfl, hb1⟩
  · obtain ⟨mo, hmo⟩ : ∃ mo : Nat, (mo : Int) = 1 + m % 30 := ⟨(1 + m % 30).toNat, by omega⟩
    have HMD := Lib.hid (fun w => made20 m h0 h1 mo hmo w)
    have hmo1 : 1 ≤ mo := by omega
    have hmo2 : mo ≤ 30 := by omega
    clear hmo h0 h1
    go_enter Try.func3, Try.ntmps3
    go_wp2_with (first
      | (go_at_call 14; refine (HAW.out _).mono ?_; rintro e w1 ⟨rfl, hb1⟩; have HB1 := Lib.hid hb1; clear hb1)
      | (go_at_call 15; refine (HMD.out _).mono ?_; rintro e w2 ⟨p, q, rfl, hbo⟩; have HBO := Lib.hid hbo; clear hbo))
    go_loopw [7] (fun s7 wr => ∃ (i : Nat) (L : List P2), i ≤ l.length ∧ s7 = .int .i64 i ∧ Bo w1.heap.size p q mo i L w1 wr) (fun s7 _ => l.length - (intOf s7).toNat)
    case atStart => exact ⟨0, [], Nat.zero_le _, rfl, HBO.out⟩
    case round =>
      obtain ⟨i, L, hi, rfl, hbo⟩ := hrel
      have hB : Below w.heap.size w wr := below_tail HB1.out (by obtain ⟨_, _, _, hb, _⟩ := hbo; exact hb)
      have HBO2 := Lib.hid hbo
      clear hbo
      by_cases hlt : i < l.length
      rotate_left
      · obtain rfl : i = l.length := by omega
        have HB := Lib.hid hB
        clear hB
        go_wp2
        go_ret
        exact ⟨rfl, HB.out⟩
      · obtain ⟨b, off, o, rfl, ho, co⟩ := (HL.out.below hB).at_ hlt
        have HD := Lib.hid (does20 _ p q mo i L w1 wr o HBO2.out hmo1 hmo2 (by omega))
        obtain ⟨mvb, r, c, k, a, n⟩ := o
        have c0 : wr.cell? ⟨b, off + i * 6, none⟩ = some (.bool mvb) := co 0 _ rfl
        have c1 := co 1 _ rfl
        have c2 := co 2 _ rfl
        have c3 := co 3 _ rfl
        have c4 := co 4 _ rfl
        have c5 := co 5 _ rfl
        generalize stepL mo L _ = L2 at HD
        clear co ho hB HBO2 HBO
        go_upto_region 10 with (go_at_call 16; refine HD.out.mono ?_; rintro e w3 ⟨rfl, hbo⟩; have HB3 := Lib.hid hbo; clear hbo)
        have ha := HB3.out.answers hmo2 (by omega)
        obtain ⟨A3, ca3, hq2⟩ := ha.cell
        have hL30 : L2.length ≤ 30 := by obtain ⟨_, _, _, _, _, _, h, _⟩ := HB3.out; omega
        have HA := Lib.hid ha
        have HSL := Lib.hid (sortP_len L2)
        have HL30 := Lib.hid (show L2.length ≤ 1000000 by omega)
        have hne : ((L2.length : Int) != (L2.length : Int)) = false := by simp
        clear ha c0 c1 c2 c3 c4 c5
        refine wp_region_n 23 (fun w' => Below w3.heap.size w3 w' ∧ w'.cell? ⟨q, 2, none⟩ = some (.slice A3 L2.length ca3)) (by kernel_rfl) (by kernel_rfl) ?_ ?_ ?_
        · exact fun w1 w2 hS hb => ⟨below_tail hS.1 hb, holda hb hS.2⟩
        · exact ⟨(Below.refl _ _).drew, hq2⟩
        clear hq2
        refine AtN.take 0 (o := ⟨_, _, _, _, _, _⟩) (v := ?_) (by kernel_rfl) rfl (by simp) (by kernel_rfl) (by kernel_rfl) ?_ ?_; rotate_left
        · first | exact StabN.skip (by rfl) | (refine StabN.val (by rfl) ?_; intro w' hS; obtain ⟨_, _⟩ := hS; go_simp; first | done | with_reducible rfl)
        simp only [Act.put, List.setIfInBounds_toArray, List.set_cons_zero, List.set_cons_succ]
        refine AtN.take 2 (o := ⟨_, _, _, _, _, _⟩) (v := ?_) (by kernel_rfl) rfl (by simp) (by kernel_rfl) (by kernel_rfl) ?_ ?_; rotate_left
        · first | exact StabN.skip (by rfl) | (refine StabN.val (by rfl) ?_; intro w' hS; obtain ⟨_, _⟩ := hS; go_simp; first | done | with_reducible rfl)
        simp only [Act.put, List.setIfInBounds_toArray, List.set_cons_zero, List.set_cons_succ]
        refine AtN.take 3 (o := ⟨_, _, _, _, _, _⟩) (v := ?_) (by kernel_rfl) rfl (by simp) (by kernel_rfl) (by kernel_rfl) ?_ ?_; rotate_left
        · first | exact StabN.skip (by rfl) | (refine StabN.val (by rfl) ?_; intro w' hS; obtain ⟨_, _⟩ := hS; go_simp; first | done | with_reducible rfl)
        simp only [Act.put, List.setIfInBounds_toArray, List.set_cons_zero, List.set_cons_succ]
        refine AtN.take 4 (o := ⟨_, _, _, _, _, _⟩) (v := ?_) (by kernel_rfl) rfl (by simp) (by kernel_rfl) (by kernel_rfl) ?_ ?_; rotate_left
        · first | exact StabN.skip (by rfl) | (refine StabN.val (by rfl) ?_; intro w' hS; obtain ⟨_, _⟩ := hS; go_simp; first | done | with_reducible rfl)
        simp only [Act.put, List.setIfInBounds_toArray, List.set_cons_zero, List.set_cons_succ]
        refine AtN.take 5 (o := ⟨_, _, _, _, _, _⟩) (v := ?_) (by kernel_rfl) rfl (by simp) (by kernel_rfl) (by kernel_rfl) ?_ ?_; rotate_left
        · first | exact StabN.skip (by rfl) | (refine StabN.val (by rfl) ?_; intro w' hS; obtain ⟨_, _⟩ := hS; go_simp; first | done | with_reducible rfl)
        simp only [Act.put, List.setIfInBounds_toArray, List.set_cons_zero, List.set_cons_succ]
        refine AtN.take 6 (o := ⟨_, _, _, _, _, _⟩) (v := ?_) (by kernel_rfl) rfl (by simp) (by kernel_rfl) (by kernel_rfl) ?_ ?_; rotate_left
        · first | exact StabN.skip (by rfl) | (refine StabN.val (by rfl) ?_; intro w' hS; obtain ⟨_, _⟩ := hS; go_simp; first | done | with_reducible rfl)
        simp only [Act.put, List.setIfInBounds_toArray, List.set_cons_zero, List.set_cons_succ]
        refine AtN.take 1 (o := ⟨_, _, _, _, _, _⟩) (v := .int .i64 (L2.length : Nat)) (by kernel_rfl) rfl (by simp) (by kernel_rfl) (by kernel_rfl) (StabN.call1 17 #[.pointer (some ⟨p, 0, none⟩)] (.int .i64 (L2.length : Nat)) (by rfl) (by intro w'; go_simp; done) (fun w' hS => HA.out.len w' hS.1)) ?_
        simp only [Act.put, List.setIfInBounds_toArray, List.set_cons_zero, List.set_cons_succ]
        refine AtN.take 7 (o := ⟨_, _, _, _, _, _⟩) (v := ?_) (by kernel_rfl) rfl (by simp) (by kernel_rfl) (by kernel_rfl) ?_ ?_; rotate_left
        · first | exact StabN.skip (by rfl) | (refine StabN.val (by rfl) ?_; intro w' hS; obtain ⟨_, _⟩ := hS; go_simp; first | done | with_reducible rfl)
        simp only [Act.put, List.setIfInBounds_toArray, List.set_cons_zero, List.set_cons_succ]
        refine AtN.take 8 (o := ⟨_, _, _, _, _, _⟩) (v := ?_) (by kernel_rfl) rfl (by simp) (by kernel_rfl) (by kernel_rfl) ?_ ?_; rotate_left
        · first | exact StabN.skip (by rfl) | (refine StabN.val (by rfl) ?_; intro w' hS; obtain ⟨_, _⟩ := hS; go_simp; first | done | with_reducible rfl)
        simp only [Act.put, List.setIfInBounds_toArray, List.set_cons_zero, List.set_cons_succ]
        refine AtN.take 9 (o := ⟨_, _, _, _, _, _⟩) (v := ?_) (by kernel_rfl) rfl (by simp) (by kernel_rfl) (by kernel_rfl) ?_ ?_; rotate_left
        · first | exact StabN.skip (by rfl) | (refine StabN.val (by rfl) ?_; intro w' hS; obtain ⟨_, _⟩ := hS; go_simp; first | done | with_reducible rfl)
        simp only [Act.put, List.setIfInBounds_toArray, List.set_cons_zero, List.set_cons_succ]
        refine AtN.take 11 (o := ⟨_, _, _, _, _, _⟩) (v := ?_) (by kernel_rfl) rfl (by simp) (by kernel_rfl) (by kernel_rfl) ?_ ?_; rotate_left
        · first | exact StabN.skip (by rfl) | (refine StabN.val (by rfl) ?_; intro w' hS; obtain ⟨_, _⟩ := hS; go_simp; first | done | with_reducible rfl)
        simp only [Act.put, List.setIfInBounds_toArray, List.set_cons_zero, List.set_cons_succ]
        refine AtN.one 10 (o := ⟨_, _, _, _, _, _⟩) (IsRow L2.length) (GrV (sortP L2)) (by simp) (by kernel_rfl) rfl (GrV.pers _) (StabN.call 19 #[.pointer (some ⟨p, 0, none⟩)] _ _ (by rfl) (by intro w'; go_simp; done) (fun w' hS => HA.out.list w' hS.1)) ?_
        rintro _ ⟨X1, x1, rfl⟩
        simp only [Act.put, List.setIfInBounds_toArray, List.set_cons_zero, List.set_cons_succ]
        refine AtN.one 12 (o := ⟨_, _, _, _, _, _⟩) (IsRow L2.length) (GrV (sortP L2)) (by simp) (by kernel_rfl) rfl (GrV.pers _) (StabN.call 20 #[.pointer (some ⟨q, 0, none⟩)] _ _ (by rfl) (by intro w'; go_simp; done) (fun w' hS => HA.out.rlist w' hS.1.1)) ?_
        rintro _ ⟨X2, x2, rfl⟩
        simp only [Act.put, List.setIfInBounds_toArray, List.set_cons_zero, List.set_cons_succ]
        refine AtN.take 13 (o := ⟨_, _, _, _, _, _⟩) (v := .bool true) (by kernel_rfl) rfl (by simp) (by kernel_rfl) (by kernel_rfl) (StabN.call1 18 #[.slice X1 L2.length x1, .slice X2 L2.length x2] (.bool true) (by rfl) (by intro w'; go_simp; done) (fun w' hS => places_rows _ _ _ _ _ _ _ hS.1.2 hS.2 HSL.out HL30.out)) ?_
        simp only [Act.put, List.setIfInBounds_toArray, List.set_cons_zero, List.set_cons_succ]
        refine AtN.take 14 (o := ⟨_, _, _, _, _, _⟩) (v := ?_) (by kernel_rfl) rfl (by simp) (by kernel_rfl) (by kernel_rfl) ?_ ?_; rotate_left
        · first | exact StabN.skip (by rfl) | (refine StabN.val (by rfl) ?_; intro w' hS; obtain ⟨_, _⟩ := hS; go_simp; first | done | with_reducible rfl)
        simp only [Act.put, List.setIfInBounds_toArray, List.set_cons_zero, List.set_cons_succ]
        refine AtN.take 15 (o := ⟨_, _, _, _, _, _⟩) (v := ?_) (by kernel_rfl) rfl (by simp) (by kernel_rfl) (by kernel_rfl) ?_ ?_; rotate_left
        · first | exact StabN.skip (by rfl) | (refine StabN.val (by rfl) ?_; intro w' hS; obtain ⟨_, _⟩ := hS; go_simp; first | done | with_reducible rfl)
        simp only [Act.put, List.setIfInBounds_toArray, List.set_cons_zero, List.set_cons_succ]
        refine AtN.take 16 (o := ⟨_, _, _, _, _, _⟩) (v := ?_) (by kernel_rfl) rfl (by simp) (by kernel_rfl) (by kernel_rfl) ?_ ?_; rotate_left
        · first | exact StabN.skip (by rfl) | (refine StabN.val (by rfl) ?_; intro w' hS; obtain ⟨_, _⟩ := hS; go_simp; first | done | with_reducible rfl)
        simp only [Act.put, List.setIfInBounds_toArray, List.set_cons_zero, List.set_cons_succ]
        refine AtN.take 17 (o := ⟨_, _, _, _, _, _⟩) (v := ?_) (by kernel_rfl) rfl (by simp) (by kernel_rfl) (by kernel_rfl) ?_ ?_; rotate_left
        · first | exact StabN.skip (by rfl) | (refine StabN.val (by rfl) ?_; intro w' hS; obtain ⟨_, _⟩ := hS; go_simp; first | done | with_reducible rfl)
        simp only [Act.put, List.setIfInBounds_toArray, List.set_cons_zero, List.set_cons_succ]
        refine AtN.take 19 (o := ⟨_, _, _, _, _, _⟩) (v := ?_) (by kernel_rfl) rfl (by simp) (by kernel_rfl) (by kernel_rfl) ?_ ?_; rotate_left
        · first | exact StabN.skip (by rfl) | (refine StabN.val (by rfl) ?_; intro w' hS; obtain ⟨_, _⟩ := hS; go_simp; first | done | with_reducible rfl)
        simp only [Act.put, List.setIfInBounds_toArray, List.set_cons_zero, List.set_cons_succ]
        refine AtN.one 18 (o := ⟨_, _, _, _, _, _⟩) (IsRow L2.length) (GrV L2) (by simp) (by kernel_rfl) rfl (GrV.pers _) (StabN.call 21 #[.pointer (some ⟨p, 0, none⟩)] _ _ (by rfl) (by intro w'; go_simp; done) (fun w' hS => HA.out.places w' hS.1.1.1)) ?_
        rintro _ ⟨X3, x3, rfl⟩
        simp only [Act.put, List.setIfInBounds_toArray, List.set_cons_zero, List.set_cons_succ]
        refine AtN.one 20 (o := ⟨_, _, _, _, _, _⟩) (IsRow L2.length) (GrV L2) (by simp) (by kernel_rfl) rfl (GrV.pers _) (StabN.call 22 #[.pointer (some ⟨q, 0, none⟩)] _ _ (by rfl) (by intro w'; go_simp; done) (fun w' hS => HA.out.rplaces w' hS.1.1.1.1)) ?_
        rintro _ ⟨X4, x4, rfl⟩
        simp only [Act.put, List.setIfInBounds_toArray, List.set_cons_zero, List.set_cons_succ]
        refine AtN.take 21 (o := ⟨_, _, _, _, _, _⟩) (v := .bool true) (by kernel_rfl) rfl (by simp) (by kernel_rfl) (by kernel_rfl) (StabN.call1 18 #[.slice X3 L2.length x3, .slice X4 L2.length x4] (.bool true) (by rfl) (by intro w'; go_simp; done) (fun w' hS => places_rows _ _ _ _ _ _ _ hS.1.2 hS.2 rfl HL30.out)) ?_
        simp only [Act.put, List.setIfInBounds_toArray, List.set_cons_zero, List.set_cons_succ]
        refine AtN.take 22 (o := ⟨_, _, _, _, _, _⟩) (v := ?_) (by kernel_rfl) rfl (by simp) (by kernel_rfl) (by kernel_rfl) ?_ ?_; rotate_left
        · first | exact StabN.skip (by rfl) | (refine StabN.val (by rfl) ?_; intro w' hS; obtain ⟨_, _⟩ := hS; go_simp; first | done | with_reducible rfl)
        simp only [Act.put, List.setIfInBounds_toArray, List.set_cons_zero, List.set_cons_succ]
        refine AtN.done (by kernel_rfl) (fun w' hS => ?_)
        have HBS := Lib.hid hS.1.1.1.1.1
        clear hS
        go_wp2_with fail
        go_roundw
        case rel => exact ⟨i + 1, L2, by omega, by go_num, HB3.out.below HBS.out HB3.out.size⟩
        case measure => simp [intOf]; omega
end Go.Proofs.Ytfadcmjdlfobhaa
