/- PointAsks: the walk of the law. Conditions: as stated. -/
import Derived.Test.YtfadcmjdlfobhaaPsD
namespace Go.Proofs.Ytfadcmjdlfobhaa
open Go.RowKit Go.Sort

/-- What the loop over the document's list keeps: the next one, the one ahead. -/
def AskSt (wb : World) (g h : Nat) (o s : Option P2) (wr : World) : Prop :=
  Mod [g, h] wb wr ∧ (HoldAt wr g 0 (.int .i64 (o.getD (0, 0)).1) ∧ HoldAt wr g 1 (.int .i64 (o.getD (0, 0)).2)) ∧ HoldAt wr h 0 (.int .i64 (s.getD (0, 0)).1) ∧ HoldAt wr h 1 (.int .i64 (s.getD (0, 0)).2)
theorem HoldAt.below {w w' : World} {b i : Nat} {v : Value} (h : HoldAt w b i v) (hb : Below w.heap.size w w') : HoldAt w' b i v := hold hb h
theorem AskSt.below {wb wr w' : World} {g h : Nat} {o s : Option P2} (k : AskSt wb g h o s wr) (hb : Below wr.heap.size wr w') : AskSt wb g h o s w' := by
  obtain ⟨k1, ⟨k2, k3⟩, k4, k5⟩ := k
  exact ⟨k1.then_below hb, ⟨k2.below hb, k3.below hb⟩, k4.below hb, k5.below hb⟩
theorem hold_other {W : World} {b b' i j : Nat} {u v : Value} (h : HoldAt W b i v) (hne : b ≠ b') : HoldAt (W.setCell ⟨b', j, none⟩ u) b i v :=
  ⟨(World.cell?_setCell_other W _ _ _ (fun e => by injection e with e1 e2; exact hne e1.symm)).trans h.1, by rw [World.frozen?_setCell]; exact h.2⟩
theorem AskSt.setG {wb wr : World} {g h : Nat} {o s : Option P2} (k : AskSt wb g h o s wr) (hne : g ≠ h) (x : P2) : AskSt wb g h (some x) s ((wr.setCell ⟨g, 0, none⟩ (.int .i64 x.1)).setCell ⟨g, 1, none⟩ (.int .i64 x.2)) := by
  obtain ⟨k1, ⟨k2, k3⟩, k4, k5⟩ := k
  obtain ⟨q0, q1⟩ := set_two (u' := .int .i64 x.1) (v' := .int .i64 x.2) k2 k3
  exact ⟨(k1.setCell (.inl (by simp)) _).setCell (.inl (by simp)) _, ⟨q0, q1⟩, hold_other (hold_other k4 (Ne.symm hne)) (Ne.symm hne), hold_other (hold_other k5 (Ne.symm hne)) (Ne.symm hne)⟩
theorem AskSt.setH {wb wr : World} {g h : Nat} {o s : Option P2} (k : AskSt wb g h o s wr) (hne : g ≠ h) (x : P2) : AskSt wb g h o (some x) ((wr.setCell ⟨h, 0, none⟩ (.int .i64 x.1)).setCell ⟨h, 1, none⟩ (.int .i64 x.2)) := by
  obtain ⟨k1, ⟨k2, k3⟩, k4, k5⟩ := k
  obtain ⟨q0, q1⟩ := set_two (u' := .int .i64 x.1) (v' := .int .i64 x.2) k4 k5
  exact ⟨(k1.setCell (.inl (by simp)) _).setCell (.inl (by simp)) _, ⟨hold_other (hold_other k2 hne) hne, hold_other (hold_other k3 hne) hne⟩, q0, q1⟩
theorem find_take {T : P2 → Bool} {S : List P2} {k : Nat} {x : P2} (hx : S[k]? = some x) : (S.take (k + 1)).find? T = match (S.take k).find? T with | some p => some p | none => if T x then some x else none := by
  rw [take_snoc hx, find_snoc]
  rfl
theorem last_take {T : P2 → Bool} {S : List P2} {k : Nat} {x : P2} (hx : S[k]? = some x) : lastF T (S.take (k + 1)) = if T x then some x else lastF T (S.take k) := by
  rw [take_snoc hx, lastF_snoc]
set_option maxRecDepth 100000 in
set_option maxHeartbeats 3200000 in
theorem PointAsks_walk (m : Int) (A : Option Addr) (l : List Ov) (ca : Nat) (r c : Int) (w : World) (h0 : 0 ≤ m) (h1 : m ≤ 255) (hz : l.length ≤ 9223372036854775807) (hl : GrAt encO 6 w A l) :
    Calls Try.prog 6 #[.int .u8 m, .slice A l.length ca, .agg #[.int .i64 r, .int .i64 c]] w (TruePost w) := by
  have HL := Lib.hid hl
  have HAW := Lib.hid (fun w => awake20 w)
  clear hl
  by_cases hbig : 60 < l.length
  · go_enter Try.func6, Try.ntmps6
    go_wp2_with (go_at_call 14; refine (HAW.out _).mono ?_; rintro e w1 ⟨rfl, hb1⟩)
    go_ret
    exact ⟨rfl, below_tail (below_allocs (Below.refl _ _) _) hb1⟩
  · obtain ⟨mo, hmo⟩ : ∃ mo : Nat, (mo : Int) = 1 + m % 30 := ⟨(1 + m % 30).toNat, by omega⟩
    have HMD := Lib.hid (fun w => made20 m h0 h1 mo hmo w)
    have hmo1 : 1 ≤ mo := by omega
    have hmo2 : mo ≤ 30 := by omega
    have HP : Hid (∀ w1 : World, Below (w.alloc (.cells #[.int .i64 r, .int .i64 c] 30)).heap.size (w.alloc (.cells #[.int .i64 r, .int .i64 c] 30)) w1 → w1.cell? ⟨w.heap.size, 0, none⟩ = some (.int .i64 r) ∧ w1.cell? ⟨w.heap.size, 1, none⟩ = some (.int .i64 c)) :=
      Lib.hid fun w1 hb => ⟨(hold hb (at_new (Below.refl _ _) (hp_new rfl) 0 _ rfl)).1, (hold hb (at_new (Below.refl _ _) (hp_new rfl) 1 _ rfl)).1⟩
    clear hmo h0 h1
    go_enter Try.func6, Try.ntmps6
    go_wp2_with (first
      | (go_at_call 14; refine (HAW.out _).mono ?_; rintro e w1 ⟨rfl, hb1⟩; have HBA := Lib.hid hb1; have HB1 := Lib.hid (below_tail (below_allocs (Below.refl w.heap.size w) _) hb1); clear hb1)
      | (go_at_call 15; refine (HMD.out _).mono ?_; rintro e w2 ⟨p, q, rfl, hbo⟩; have HBO := Lib.hid hbo; clear hbo))
    have HPP := Lib.hid (HP.out _ HBA.out)
    have hsz1 : w.heap.size < w1.heap.size := by have := HBA.out.size; simp at this; omega
    clear HP HBA
    go_loopw [9] (fun s9 wr => ∃ (i : Nat) (L : List P2), i ≤ l.length ∧ s9 = .int .i64 i ∧ Bo w1.heap.size p q mo i L w1 wr) (fun s9 _ => l.length - (intOf s9).toNat)
    case atStart => exact ⟨0, [], Nat.zero_le _, rfl, HBO.out⟩
    case round =>
      obtain ⟨i, L, hi, rfl, hbo⟩ := hrel
      have hB1 : Below w1.heap.size w1 wr := by obtain ⟨_, _, _, hb, _⟩ := hbo; exact hb
      have hB : Below w.heap.size w wr := below_tail HB1.out hB1
      have HBO2 := Lib.hid hbo
      clear hbo
      by_cases hlt : i < l.length
      rotate_left
      · obtain rfl : i = l.length := by omega
        obtain ⟨next, M, ⟨F, G, hpt, hpr, -, hF, -⟩, -, hp, -, hl3, -⟩ := HBO2.out
        have hML := hp.len
        have p0 := holda hB1 HPP.out.1
        have p1 := holda hB1 HPP.out.2
        have hwr := lt_of_cell p0
        have hlist := hp.list
        have HRL : Hid (∀ w', Below wr.heap.size wr w' → Calls Try.prog 20 #[.pointer (some ⟨q, 0, none⟩)] w' (PosPost w' (sortP L))) := Lib.hid (fun w' hb => by
          have := PrList_any q G mo next M w' (hpr.below hb) (by omega)
          rw [hlist] at this
          exact this)
        have HPT := Lib.hid hpt
        have HNX : Hid (∀ w', PtSt w' p F mo L → Calls Try.prog 28 #[.pointer (some ⟨p, 0, none⟩), .agg #[.int .i64 r, .int .i64 c]] w' (BestPost w' ((sortP L).find? (fun x => ltP (r, c) x)))) := Lib.hid (fun w' h => by rw [← next_same]; exact PtNext_any p F mo L r c w' h (by omega))
        have HAX : Hid (∀ w', PtSt w' p F mo L → Calls Try.prog 29 #[.pointer (some ⟨p, 0, none⟩), .agg #[.int .i64 r, .int .i64 c]] w' (BestPost w' (lastF (fun x => ltP x (r, c)) (sortP L)))) := Lib.hid (fun w' h => by rw [← ahead_same]; exact PtAhead_any p F mo L r c w' h (by omega))
        have HFL : Hid (∀ g ∈ F, g < wr.heap.size) := Lib.hid hpt.lt
        have hsl : (sortP L).length ≤ 30 := by rw [sortP_len]; omega
        have HB := Lib.hid hB
        clear hpt hpr hF hp hl3 hlist hML hB hB1
        generalize sortP L = S at HRL HNX HAX hsl
        go_wp2_with (go_at_call 20; refine (HRL.out _ (below_allocs (below_allocs (Below.refl _ _) _) _)).mono ?_; rintro e w4 ⟨v, rfl, ho, hb4⟩; obtain ⟨X, x4, rfl, -, -, -, hg⟩ := gr_of_owns encP_len ho rfl; have HO := Lib.hid ho; have hB := below_tail (show Below wr.heap.size wr _ from by repeat (first | exact Below.refl _ _ | refine below_allocs ?_ _ | refine below_drewNs ?_ _ | refine Below.drew ?_)) hb4; have a0 := at_new (b := wr.heap.size) hb4 (by repeat (first | (refine hp_new ?_; simp; done) | refine hp_old ?_ | refine hp_drewN ?_ | refine hp_drew ?_)) 0 (.int .i64 0) rfl; have a1 := at_new (b := wr.heap.size) hb4 (by repeat (first | (refine hp_new ?_; simp; done) | refine hp_old ?_ | refine hp_drewN ?_ | refine hp_drew ?_)) 1 (.int .i64 0) rfl; have b0 := at_new (b := wr.heap.size + 1) hb4 (by repeat (first | (refine hp_new ?_; simp; done) | refine hp_old ?_ | refine hp_drewN ?_ | refine hp_drew ?_)) 0 (.int .i64 0) rfl; have b1 := at_new (b := wr.heap.size + 1) hb4 (by repeat (first | (refine hp_new ?_; simp; done) | refine hp_old ?_ | refine hp_drewN ?_ | refine hp_drew ?_)) 1 (.int .i64 0) rfl; clear ho hg)
        have HC : Hid (∀ k, k < S.length → ∃ b off x, X = some ⟨b, off, none⟩ ∧ S[k]? = some x ∧ ∀ wx, Mod [wr.heap.size, wr.heap.size + 1] w4 wx → wx.cell? ⟨b, off + k * 2, none⟩ = some (.int .i64 x.1) ∧ wx.cell? ⟨b, off + k * 2 + 1, none⟩ = some (.int .i64 x.2)) := Lib.hid (fun k hk => by
          obtain ⟨A', c', e, -, -, -, hg⟩ := gr_of_owns encP_len HO.out rfl
          simp only [Value.slice.injEq] at e
          obtain ⟨b, off, x, e2, hx, cx⟩ := hg.at_ hk
          rw [← e.1] at e2
          have hlt := (HO.out.lt b (by rw [e2]; rfl)).1
          simp at hlt
          have hb : b ∉ [wr.heap.size, wr.heap.size + 1] := fun h => by simp at h; omega
          exact ⟨b, off, x, e2, hx, fun wx hm => ⟨hm.cell hb (cx 0 _ rfl), hm.cell hb (cx 1 _ rfl)⟩⟩)
        have HPW : Hid (∀ wx, Mod [wr.heap.size, wr.heap.size + 1] w4 wx → wx.cell? ⟨w.heap.size, 0, none⟩ = some (.int .i64 r) ∧ wx.cell? ⟨w.heap.size, 1, none⟩ = some (.int .i64 c)) := Lib.hid (fun wx hm => ⟨hm.cell (by simp; omega) (holda hB p0), hm.cell (by simp; omega) (holda hB p1)⟩)
        have HST0 : Hid (AskSt w4 wr.heap.size (wr.heap.size + 1) none none w4) := Lib.hid ⟨Mod.refl _ _, ⟨a0, a1⟩, b0, b1⟩
        have HB4 := Lib.hid hB
        have hs4 : wr.heap.size + 1 < w4.heap.size := lt_of_cell b0.1
        clear p0 p1 a0 a1 b0 b1 hB HO hb4
        obtain ⟨wo, hwo⟩ : ∃ wo : World, wo = wr := ⟨_, rfl⟩
        rw [← hwo] at HST0 HPW HC HPT HFL HB HB4 hs4 hwr ⊢
        clear hwo HBO2 HRL
        go_loopw [12, 13, 15] (fun s12 s13 s15 wx => ∃ k : Nat, k ≤ S.length ∧ s15 = .int .i64 k ∧ s12 = .bool ((S.take k).find? (fun x => ltP (r, c) x)).isSome ∧ s13 = .bool (lastF (fun x => ltP x (r, c)) (S.take k)).isSome ∧ AskSt w4 wo.heap.size (wo.heap.size + 1) ((S.take k).find? (fun x => ltP (r, c) x)) (lastF (fun x => ltP x (r, c)) (S.take k)) wx) (fun _ _ s15 _ => S.length - (intOf s15).toNat)
        case atStart => exact ⟨0, Nat.zero_le _, rfl, rfl, rfl, HST0.out⟩
        case round =>
          obtain ⟨k, hk, rfl, rfl, rfl, hst⟩ := hrel
          by_cases hlt2 : k < S.length
          rotate_left
          · obtain rfl : k = S.length := by omega
            rw [List.take_length] at hst ⊢
            obtain ⟨p0, p1⟩ := HPW.out _ hst.1
            obtain ⟨hm, ⟨k2, k3⟩, k4, k5⟩ := hst
            have HPT5 : PtSt wr p F mo L := (HPT.out.below HB4.out).mod hm (fun g hg hx => by have := HFL.out g hg; simp at hx; omega)
            have HPT6 := Lib.hid HPT5
            have HBR := Lib.hid (show Below w.heap.size w wr from below_tail HB.out (HB4.out.trans (hm.below (fun g hg => by simp at hg; omega) HB4.out.size)))
            have c2 := k2.1
            have c3 := k3.1
            have c4 := k4.1
            have c5 := k5.1
            have HN6 := Lib.hid (HNX.out _ HPT6.out)
            clear hm k2 k3 k4 k5 HPT5 HPT HNX HC HPW HST0 HB4 HB
            generalize S.find? (fun x => ltP (r, c) x) = o at c2 c3 HN6 ⊢
            generalize lastF (fun x => ltP x (r, c)) S = s at c4 c5 HAX ⊢
            unfold BestPost at HN6 HAX
            generalize (o.getD (0, 0)).1 = o1 at c2 HN6
            generalize (o.getD (0, 0)).2 = o2 at c3 HN6
            generalize o.isSome = o3 at HN6 ⊢
            generalize (s.getD (0, 0)).1 = s1 at c4 HAX
            generalize (s.getD (0, 0)).2 = s2 at c5 HAX
            generalize s.isSome = s3 at HAX ⊢
            go_wp2_with (first
              | (go_at_call 28; refine HN6.out.mono ?_; rintro e w5 ⟨rfl, hb5⟩; replace p0 := holda hb5 p0; replace p1 := holda hb5 p1; replace c2 := holda hb5 c2; replace c3 := holda hb5 c3; replace c4 := holda hb5 c4; replace c5 := holda hb5 c5; have HB5 := Lib.hid (below_tail HBR.out hb5); have HPT7 := Lib.hid (HPT6.out.below hb5); have hw5 := lt_of_cell p0; clear hb5)
              | (go_at_call 29; refine (HAX.out _ (HPT7.out.below (below_allocs (Below.refl _ _) _))).mono ?_; rintro e w6 ⟨rfl, hb6⟩; have q0 := holda hb6 (at_ (hp_new rfl) 0 _ rfl).1; have q1 := holda hb6 (at_ (hp_new rfl) 1 _ rfl).1; have hb56 := below_tail (below_allocs (Below.refl w5.heap.size w5) _) hb6; replace c2 := holda hb56 c2; replace c3 := holda hb56 c3; replace c4 := holda hb56 c4; replace c5 := holda hb56 c5; have hq6 := lt_of_cell q0; have hc6 := lt_of_cell c2; have hd6 := lt_of_cell c4; clear hb6))
            go_ret
            exact ⟨by simp, below_tail (below_tail HB5.out hb56) (below_allocs (Below.refl _ _) _)⟩
          · skip
            obtain ⟨b, off, x, hX, hx, hcx⟩ := HC.out k hlt2
            obtain ⟨x1, x2⟩ := x
            subst hX
            have HFT := Lib.hid (find_take (T := fun x => ltP (r, c) x) hx)
            have HLT := Lib.hid (last_take (T := fun x => ltP x (r, c)) hx)
            have HCX : Hid (∀ wx, Mod [wo.heap.size, wo.heap.size + 1] w4 wx → wx.cell? ⟨b, off + k * 2, none⟩ = some (.int .i64 x1) ∧ wx.cell? ⟨b, off + k * 2 + 1, none⟩ = some (.int .i64 x2)) := Lib.hid hcx
            have HL2 : Hid (∀ w' : World, Calls Try.prog 27 #[.agg #[.int .i64 x1, .int .i64 x2], .agg #[.int .i64 r, .int .i64 c]] w' fun e w'' => e = .returned (.bool (ltP (x1, x2) (r, c))) ∧ Below w'.heap.size w' w'') := Lib.hid fun w' => RLess_any x1 x2 r c w'
            have HL1 : Hid (∀ w' : World, Calls Try.prog 27 #[.agg #[.int .i64 r, .int .i64 c], .agg #[.int .i64 x1, .int .i64 x2]] w' fun e w'' => e = .returned (.bool (ltP (r, c) (x1, x2))) ∧ Below w'.heap.size w' w'') := Lib.hid fun w' => RLess_any r c x1 x2 w'
            generalize hb1 : ltP (r, c) (x1, x2) = b1 at HL1
            generalize hb2 : ltP (x1, x2) (r, c) = b2 at HL2
            have HT1 := Lib.hid hb1
            have HT2 := Lib.hid hb2
            generalize (S.take k).find? (fun x => ltP (r, c) x) = o at hst HFT ⊢
            generalize lastF (fun x => ltP x (r, c)) (S.take k) = s at hst HLT ⊢
            obtain ⟨p0, p1⟩ := HPW.out _ hst.1
            obtain ⟨c0, c1⟩ := HCX.out _ hst.1
            have HST := Lib.hid hst
            have hgh : wo.heap.size ≠ wo.heap.size + 1 := by omega
            clear hst hx hb1 hb2 hcx
            go_wp2_with fail
            refine wp_region_u 5 (fun w' => Below wr.heap.size wr w' ∧ w'.cell? ⟨w.heap.size, 0, none⟩ = some (.int .i64 r) ∧ w'.cell? ⟨w.heap.size, 1, none⟩ = some (.int .i64 c) ∧ w'.cell? ⟨b, off + k * 2, none⟩ = some (.int .i64 x1) ∧ w'.cell? ⟨b, off + k * 2 + 1, none⟩ = some (.int .i64 x2)) (by kernel_rfl) (by kernel_rfl) ?_ ?_
            · exact ⟨(Below.refl _ _).drew, p0, p1, c0, c1⟩
            simp only [List.take_succ_cons, List.take_zero, List.drop_succ_cons, List.drop_zero]
            repeat (refine seqU_val ?_ (by rfl) ?_ ?_; rotate_left; · (intro w' hS; obtain ⟨_, _⟩ := hS; go_simp; first | done | with_reducible rfl)
                    simp only [Act.put, List.setIfInBounds_toArray, List.set_cons_zero, List.set_cons_succ])
            refine seqU_nil (fun w' hS => ?_)
            have hB1' := hS.1
            have HST1 := Lib.hid (HST.out.below hB1')
            clear hS p0 p1 c0 c1 hB1' HST
            cases b2 with
            | true =>
              go_upto_region 18 with (go_at_call 27; refine (HL2.out _).mono ?_; rintro e w3 ⟨rfl, hb3⟩; obtain ⟨_, ⟨-, -⟩, ⟨h0, h0f⟩, ⟨h1, h1f⟩⟩ := HST1.out.below hb3; obtain ⟨p0, p1⟩ := HPW.out _ (HST1.out.below hb3).1; obtain ⟨c0, c1⟩ := HCX.out _ (HST1.out.below hb3).1; have HST3 := Lib.hid (HST1.out.below hb3); clear hb3)
              generalize hW4 : World.setCell (World.setCell _ _ _) _ _ = W4
              have HST4 := Lib.hid (show AskSt w4 wo.heap.size (wo.heap.size + 1) o (some (x1, x2)) W4 from by rw [← hW4]; exact HST3.out.setH hgh (x1, x2))
              have HL3 := Lib.hid (show lastF (fun x => ltP x (r, c)) (S.take (k + 1)) = some (x1, x2) from by rw [HLT.out]; simp [HT2.out])
              clear hW4 HST3 h0 h0f h1 h1f p0 p1 c0 c1
              obtain ⟨p0, p1⟩ := HPW.out _ HST4.out.1
              obtain ⟨c0, c1⟩ := HCX.out _ HST4.out.1
              clear HST1 HLT HT2 HL2
              cases o with
              | some o =>
                have HF3 := Lib.hid (show (S.take (k + 1)).find? (fun x => ltP (r, c) x) = some o from by rw [HFT.out])
                simp only [Option.isSome_some]
                refine wp_region_u 9 (fun w' => Below W4.heap.size W4 w' ∧ w'.cell? ⟨w.heap.size, 0, none⟩ = some (.int .i64 r) ∧ w'.cell? ⟨w.heap.size, 1, none⟩ = some (.int .i64 c) ∧ w'.cell? ⟨b, off + k * 2, none⟩ = some (.int .i64 x1) ∧ w'.cell? ⟨b, off + k * 2 + 1, none⟩ = some (.int .i64 x2)) (by kernel_rfl) (by kernel_rfl) ?_ ?_
                · exact ⟨(Below.refl _ _).drew, p0, p1, c0, c1⟩
                simp only [List.take_succ_cons, List.take_zero, List.drop_succ_cons, List.drop_zero]
                repeat (first
                  | (refine seqU_skip (by rfl) ?_; simp only [Act.put, List.setIfInBounds_toArray, List.set_cons_zero, List.set_cons_succ])
                  | (refine seqU_val ?_ (by rfl) ?_ ?_; rotate_left; · (intro w' hS; obtain ⟨_, _⟩ := hS; go_simp; first | done | with_reducible rfl)
                     simp only [Act.put, List.setIfInBounds_toArray, List.set_cons_zero, List.set_cons_succ])
                  | (refine seqU_call 27 #[.agg #[.int .i64 r, .int .i64 c], .agg #[.int .i64 x1, .int .i64 x2]] (.bool b1) (by rfl) ?_ (fun w' hS => (HL1.out w').mono fun e w2 ⟨he, hb⟩ => ⟨he, ⟨below_tail hS.1 hb, holda hb hS.2.1, holda hb hS.2.2.1, holda hb hS.2.2.2.1, holda hb hS.2.2.2.2⟩⟩) ?_; · (intro w'; go_simp; done)
                     simp only [Act.put, List.setIfInBounds_toArray, List.set_cons_zero, List.set_cons_succ]))
                refine seqU_nil (fun w' hS => ?_)
                have HST5 := Lib.hid (HST4.out.below hS.1)
                clear hS p0 p1 c0 c1 HST4
                go_wp2_with fail
                go_roundw
                case rel => exact ⟨k + 1, by omega, by go_num, by rw [HF3.out] <;> rfl, by rw [HL3.out] <;> rfl, by rw [HF3.out, HL3.out]; exact HST5.out⟩
                case measure => simp [intOf]; omega
              | none =>
                simp only [Option.isSome_none]
                cases b1 with
                | false =>
                  have HF3 := Lib.hid (show (S.take (k + 1)).find? (fun x => ltP (r, c) x) = none from by rw [HFT.out]; simp [HT1.out])
                  refine wp_region_u 9 (fun w' => Below W4.heap.size W4 w' ∧ w'.cell? ⟨w.heap.size, 0, none⟩ = some (.int .i64 r) ∧ w'.cell? ⟨w.heap.size, 1, none⟩ = some (.int .i64 c) ∧ w'.cell? ⟨b, off + k * 2, none⟩ = some (.int .i64 x1) ∧ w'.cell? ⟨b, off + k * 2 + 1, none⟩ = some (.int .i64 x2)) (by kernel_rfl) (by kernel_rfl) ?_ ?_
                  · exact ⟨(Below.refl _ _).drew, p0, p1, c0, c1⟩
                  simp only [List.take_succ_cons, List.take_zero, List.drop_succ_cons, List.drop_zero]
                  repeat (first
                    | (refine seqU_skip (by rfl) ?_; simp only [Act.put, List.setIfInBounds_toArray, List.set_cons_zero, List.set_cons_succ])
                    | (refine seqU_val ?_ (by rfl) ?_ ?_; rotate_left; · (intro w' hS; obtain ⟨_, _⟩ := hS; go_simp; first | done | with_reducible rfl)
                       simp only [Act.put, List.setIfInBounds_toArray, List.set_cons_zero, List.set_cons_succ])
                    | (refine seqU_call 27 #[.agg #[.int .i64 r, .int .i64 c], .agg #[.int .i64 x1, .int .i64 x2]] (.bool false) (by rfl) ?_ (fun w' hS => (HL1.out w').mono fun e w2 ⟨he, hb⟩ => ⟨he, ⟨below_tail hS.1 hb, holda hb hS.2.1, holda hb hS.2.2.1, holda hb hS.2.2.2.1, holda hb hS.2.2.2.2⟩⟩) ?_; · (intro w'; go_simp; done)
                       simp only [Act.put, List.setIfInBounds_toArray, List.set_cons_zero, List.set_cons_succ]))
                  refine seqU_nil (fun w' hS => ?_)
                  have HST5 := Lib.hid (HST4.out.below hS.1)
                  clear hS p0 p1 c0 c1 HST4
                  go_wp2_with fail
                  go_roundw
                  case rel => exact ⟨k + 1, by omega, by go_num, by rw [HF3.out] <;> rfl, by rw [HL3.out] <;> rfl, by rw [HF3.out, HL3.out]; exact HST5.out⟩
                  case measure => simp [intOf]; omega
                | true =>
                  have HF3 := Lib.hid (show (S.take (k + 1)).find? (fun x => ltP (r, c) x) = some (x1, x2) from by rw [HFT.out]; simp [HT1.out])
                  refine wp_region_u 9 (fun w' => Below W4.heap.size W4 w' ∧ w'.cell? ⟨w.heap.size, 0, none⟩ = some (.int .i64 r) ∧ w'.cell? ⟨w.heap.size, 1, none⟩ = some (.int .i64 c) ∧ w'.cell? ⟨b, off + k * 2, none⟩ = some (.int .i64 x1) ∧ w'.cell? ⟨b, off + k * 2 + 1, none⟩ = some (.int .i64 x2)) (by kernel_rfl) (by kernel_rfl) ?_ ?_
                  · exact ⟨(Below.refl _ _).drew, p0, p1, c0, c1⟩
                  simp only [List.take_succ_cons, List.take_zero, List.drop_succ_cons, List.drop_zero]
                  repeat (first
                    | (refine seqU_skip (by rfl) ?_; simp only [Act.put, List.setIfInBounds_toArray, List.set_cons_zero, List.set_cons_succ])
                    | (refine seqU_val ?_ (by rfl) ?_ ?_; rotate_left; · (intro w' hS; obtain ⟨_, _⟩ := hS; go_simp; first | done | with_reducible rfl)
                       simp only [Act.put, List.setIfInBounds_toArray, List.set_cons_zero, List.set_cons_succ])
                    | (refine seqU_call 27 #[.agg #[.int .i64 r, .int .i64 c], .agg #[.int .i64 x1, .int .i64 x2]] (.bool true) (by rfl) ?_ (fun w' hS => (HL1.out w').mono fun e w2 ⟨he, hb⟩ => ⟨he, ⟨below_tail hS.1 hb, holda hb hS.2.1, holda hb hS.2.2.1, holda hb hS.2.2.2.1, holda hb hS.2.2.2.2⟩⟩) ?_; · (intro w'; go_simp; done)
                       simp only [Act.put, List.setIfInBounds_toArray, List.set_cons_zero, List.set_cons_succ]))
                  refine seqU_nil (fun w' hS => ?_)
                  have HST5 := Lib.hid (HST4.out.below hS.1)
                  clear hS p0 p1 c0 c1 HST4
                  obtain ⟨_, ⟨⟨g0, g0f⟩, ⟨g1, g1f⟩⟩, -, -⟩ := HST5.out
                  obtain ⟨c0, c1⟩ := HCX.out _ HST5.out.1
                  go_wp2_with fail
                  go_roundw
                  case rel => exact ⟨k + 1, by omega, by go_num, by rw [HF3.out] <;> rfl, by rw [HL3.out] <;> rfl, by rw [HF3.out, HL3.out]; exact HST5.out.setG hgh (x1, x2)⟩
                  case measure => simp [intOf]; omega
            | false =>
              go_upto_region 18 with (go_at_call 27; refine (HL2.out _).mono ?_; rintro e W4 ⟨rfl, hb3⟩; have HST4 := Lib.hid (HST1.out.below hb3); clear hb3)
              have HL3 := Lib.hid (show lastF (fun x => ltP x (r, c)) (S.take (k + 1)) = s from by rw [HLT.out]; simp [HT2.out])
              obtain ⟨p0, p1⟩ := HPW.out _ HST4.out.1
              obtain ⟨c0, c1⟩ := HCX.out _ HST4.out.1
              clear HST1 HLT HT2 HL2
              cases o with
              | some o =>
                have HF3 := Lib.hid (show (S.take (k + 1)).find? (fun x => ltP (r, c) x) = some o from by rw [HFT.out])
                simp only [Option.isSome_some]
                refine wp_region_u 9 (fun w' => Below W4.heap.size W4 w' ∧ w'.cell? ⟨w.heap.size, 0, none⟩ = some (.int .i64 r) ∧ w'.cell? ⟨w.heap.size, 1, none⟩ = some (.int .i64 c) ∧ w'.cell? ⟨b, off + k * 2, none⟩ = some (.int .i64 x1) ∧ w'.cell? ⟨b, off + k * 2 + 1, none⟩ = some (.int .i64 x2)) (by kernel_rfl) (by kernel_rfl) ?_ ?_
                · exact ⟨(Below.refl _ _).drew, p0, p1, c0, c1⟩
                simp only [List.take_succ_cons, List.take_zero, List.drop_succ_cons, List.drop_zero]
                repeat (first
                  | (refine seqU_skip (by rfl) ?_; simp only [Act.put, List.setIfInBounds_toArray, List.set_cons_zero, List.set_cons_succ])
                  | (refine seqU_val ?_ (by rfl) ?_ ?_; rotate_left; · (intro w' hS; obtain ⟨_, _⟩ := hS; go_simp; first | done | with_reducible rfl)
                     simp only [Act.put, List.setIfInBounds_toArray, List.set_cons_zero, List.set_cons_succ])
                  | (refine seqU_call 27 #[.agg #[.int .i64 r, .int .i64 c], .agg #[.int .i64 x1, .int .i64 x2]] (.bool b1) (by rfl) ?_ (fun w' hS => (HL1.out w').mono fun e w2 ⟨he, hb⟩ => ⟨he, ⟨below_tail hS.1 hb, holda hb hS.2.1, holda hb hS.2.2.1, holda hb hS.2.2.2.1, holda hb hS.2.2.2.2⟩⟩) ?_; · (intro w'; go_simp; done)
                     simp only [Act.put, List.setIfInBounds_toArray, List.set_cons_zero, List.set_cons_succ]))
                refine seqU_nil (fun w' hS => ?_)
                have HST5 := Lib.hid (HST4.out.below hS.1)
                clear hS p0 p1 c0 c1 HST4
                go_wp2_with fail
                go_roundw
                case rel => exact ⟨k + 1, by omega, by go_num, by rw [HF3.out] <;> rfl, by rw [HL3.out] <;> rfl, by rw [HF3.out, HL3.out]; exact HST5.out⟩
                case measure => simp [intOf]; omega
              | none =>
                simp only [Option.isSome_none]
                cases b1 with
                | false =>
                  have HF3 := Lib.hid (show (S.take (k + 1)).find? (fun x => ltP (r, c) x) = none from by rw [HFT.out]; simp [HT1.out])
                  refine wp_region_u 9 (fun w' => Below W4.heap.size W4 w' ∧ w'.cell? ⟨w.heap.size, 0, none⟩ = some (.int .i64 r) ∧ w'.cell? ⟨w.heap.size, 1, none⟩ = some (.int .i64 c) ∧ w'.cell? ⟨b, off + k * 2, none⟩ = some (.int .i64 x1) ∧ w'.cell? ⟨b, off + k * 2 + 1, none⟩ = some (.int .i64 x2)) (by kernel_rfl) (by kernel_rfl) ?_ ?_
                  · exact ⟨(Below.refl _ _).drew, p0, p1, c0, c1⟩
                  simp only [List.take_succ_cons, List.take_zero, List.drop_succ_cons, List.drop_zero]
                  repeat (first
                    | (refine seqU_skip (by rfl) ?_; simp only [Act.put, List.setIfInBounds_toArray, List.set_cons_zero, List.set_cons_succ])
                    | (refine seqU_val ?_ (by rfl) ?_ ?_; rotate_left; · (intro w' hS; obtain ⟨_, _⟩ := hS; go_simp; first | done | with_reducible rfl)
                       simp only [Act.put, List.setIfInBounds_toArray, List.set_cons_zero, List.set_cons_succ])
                    | (refine seqU_call 27 #[.agg #[.int .i64 r, .int .i64 c], .agg #[.int .i64 x1, .int .i64 x2]] (.bool false) (by rfl) ?_ (fun w' hS => (HL1.out w').mono fun e w2 ⟨he, hb⟩ => ⟨he, ⟨below_tail hS.1 hb, holda hb hS.2.1, holda hb hS.2.2.1, holda hb hS.2.2.2.1, holda hb hS.2.2.2.2⟩⟩) ?_; · (intro w'; go_simp; done)
                       simp only [Act.put, List.setIfInBounds_toArray, List.set_cons_zero, List.set_cons_succ]))
                  refine seqU_nil (fun w' hS => ?_)
                  have HST5 := Lib.hid (HST4.out.below hS.1)
                  clear hS p0 p1 c0 c1 HST4
                  go_wp2_with fail
                  go_roundw
                  case rel => exact ⟨k + 1, by omega, by go_num, by rw [HF3.out] <;> rfl, by rw [HL3.out] <;> rfl, by rw [HF3.out, HL3.out]; exact HST5.out⟩
                  case measure => simp [intOf]; omega
                | true =>
                  have HF3 := Lib.hid (show (S.take (k + 1)).find? (fun x => ltP (r, c) x) = some (x1, x2) from by rw [HFT.out]; simp [HT1.out])
                  refine wp_region_u 9 (fun w' => Below W4.heap.size W4 w' ∧ w'.cell? ⟨w.heap.size, 0, none⟩ = some (.int .i64 r) ∧ w'.cell? ⟨w.heap.size, 1, none⟩ = some (.int .i64 c) ∧ w'.cell? ⟨b, off + k * 2, none⟩ = some (.int .i64 x1) ∧ w'.cell? ⟨b, off + k * 2 + 1, none⟩ = some (.int .i64 x2)) (by kernel_rfl) (by kernel_rfl) ?_ ?_
                  · exact ⟨(Below.refl _ _).drew, p0, p1, c0, c1⟩
                  simp only [List.take_succ_cons, List.take_zero, List.drop_succ_cons, List.drop_zero]
                  repeat (first
                    | (refine seqU_skip (by rfl) ?_; simp only [Act.put, List.setIfInBounds_toArray, List.set_cons_zero, List.set_cons_succ])
                    | (refine seqU_val ?_ (by rfl) ?_ ?_; rotate_left; · (intro w' hS; obtain ⟨_, _⟩ := hS; go_simp; first | done | with_reducible rfl)
                       simp only [Act.put, List.setIfInBounds_toArray, List.set_cons_zero, List.set_cons_succ])
                    | (refine seqU_call 27 #[.agg #[.int .i64 r, .int .i64 c], .agg #[.int .i64 x1, .int .i64 x2]] (.bool true) (by rfl) ?_ (fun w' hS => (HL1.out w').mono fun e w2 ⟨he, hb⟩ => ⟨he, ⟨below_tail hS.1 hb, holda hb hS.2.1, holda hb hS.2.2.1, holda hb hS.2.2.2.1, holda hb hS.2.2.2.2⟩⟩) ?_; · (intro w'; go_simp; done)
                       simp only [Act.put, List.setIfInBounds_toArray, List.set_cons_zero, List.set_cons_succ]))
                  refine seqU_nil (fun w' hS => ?_)
                  have HST5 := Lib.hid (HST4.out.below hS.1)
                  clear hS p0 p1 c0 c1 HST4
                  obtain ⟨_, ⟨⟨g0, g0f⟩, ⟨g1, g1f⟩⟩, -, -⟩ := HST5.out
                  obtain ⟨c0, c1⟩ := HCX.out _ HST5.out.1
                  go_wp2_with fail
                  go_roundw
                  case rel => exact ⟨k + 1, by omega, by go_num, by rw [HF3.out] <;> rfl, by rw [HL3.out] <;> rfl, by rw [HF3.out, HL3.out]; exact HST5.out.setG hgh (x1, x2)⟩
                  case measure => simp [intOf]; omega
      · obtain ⟨b, off, o, rfl, ho, co⟩ := (HL.out.below hB).at_ hlt
        have HD := Lib.hid (does20 _ p q mo i L w1 wr o HBO2.out hmo1 hmo2 (by omega))
        obtain ⟨mvb, r', c', k, a, n⟩ := o
        have c0 : wr.cell? ⟨b, off + i * 6, none⟩ = some (.bool mvb) := co 0 _ rfl
        have c1 := co 1 _ rfl
        have c2 := co 2 _ rfl
        have c3 := co 3 _ rfl
        have c4 := co 4 _ rfl
        have c5 := co 5 _ rfl
        generalize stepL mo L _ = L2 at HD
        clear co ho hB HBO2 HBO hB1
        go_wp2_with (go_at_call 16; refine HD.out.mono ?_; rintro e w3 ⟨rfl, hbo⟩; have HB3 := Lib.hid hbo; clear hbo)
        go_roundw
        case rel => exact ⟨i + 1, L2, by omega, by go_num, HB3.out⟩
        case measure => simp [intOf]; omega
end Go.Proofs.Ytfadcmjdlfobhaa
