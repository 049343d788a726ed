/- ShiftSorts: the walk of the law. Conditions: none. -/
import Derived.Test.YtdfaldccopnoiaaShSort
import Derived.Test.YtdfaldccopnoiaaShD
import Derived.Test.YtdfaldccopnoiaaRegU
import Derived.Deep.DeepCutAuto
import Derived.Deep.QuietTactic
import Derived.BigQuiet
namespace Go.Proofs.Ytdfaldccopnoiaa
open Go.RowKit

theorem GrAt.pos {w : World} {A : Option Addr} {l : List P2} (h : GrAt encP 2 w A l) {i : Nat} (hi : i < l.length) :
    ∃ b off p, A = some ⟨b, off, none⟩ ∧ l[i]? = some p ∧ w.cell? ⟨b, off + i * 2, none⟩ = some (.int .i64 p.1) ∧ w.cell? ⟨b, off + i * 2 + 1, none⟩ = some (.int .i64 p.2) := by
  obtain ⟨b, off, p, hA, hp, hc⟩ := h.at_ hi
  exact ⟨b, off, p, hA, hp, hc 0 _ rfl, hc 1 _ rfl⟩
def cntT (l : List P2) (k : Nat) (p : P2) : Nat := (l.take k).count p
theorem cntT_zero (l : List P2) (p : P2) : cntT l 0 p = 0 := by simp [cntT]
theorem cntT_same {l : List P2} {k : Nat} {p : P2} (h : l[k]? = some p) : cntT l (k + 1) p = cntT l k p + 1 := by
  have hk := (List.getElem?_eq_some_iff.1 h)
  unfold cntT
  rw [List.take_succ_eq_append_getElem hk.1, List.count_append, hk.2]; simp
theorem cntT_other {l : List P2} {k : Nat} {x p : P2} (h : l[k]? = some x) (hne : x ≠ p) : cntT l (k + 1) p = cntT l k p := by
  have hk := (List.getElem?_eq_some_iff.1 h)
  unfold cntT
  rw [List.take_succ_eq_append_getElem hk.1, List.count_append, hk.2]; simp [hne]
theorem cntT_le (l : List P2) (k : Nat) (p : P2) : cntT l k p ≤ l.length := by
  unfold cntT
  exact Nat.le_trans List.count_le_length (by simp; omega)
theorem cntT_all (l : List P2) (p : P2) : cntT l l.length p = l.count p := by simp [cntT]
/-- What the count is behind one more place of both lists. -/
theorem cnt_step {s l : List P2} {q : Nat} {p x y : P2} (hx : s[q]? = some x) (hy : l[q]? = some y) : (cntT s (q + 1) p : Int) - cntT l (q + 1) p = (cntT s q p : Int) - cntT l q p + (if x = p then 1 else 0) - (if y = p then 1 else 0) := by
  by_cases h1 : x = p <;> by_cases h2 : y = p
  · subst h1; rw [cntT_same hx, if_pos rfl, if_pos h2]; subst h2; rw [cntT_same hy]; omega
  · subst h1; rw [cntT_same hx, if_pos rfl, if_neg h2, cntT_other hy h2]; omega
  · subst h2; rw [cntT_same hy, if_pos rfl, if_neg h1, cntT_other hx h1]; omega
  · rw [if_neg h1, if_neg h2, cntT_other hx h1, cntT_other hy h2]; omega
theorem pos_cases (a b c d : Int) : (c = a ∧ d = b) ∨ ((a == c) = false ∧ ((a, b) : P2) ≠ (c, d)) ∨ (c = a ∧ (b == d) = false ∧ ((a, b) : P2) ≠ (c, d)) := by
  by_cases h1 : c = a
  · by_cases h2 : d = b
    · exact .inl ⟨h1, h2⟩
    · exact .inr (.inr ⟨h1, by simpa using fun e => h2 (Eq.symm e), fun e => h2 (by injection e with e1 e2; exact e2.symm)⟩)
  · exact .inr (.inl ⟨by simpa using fun e => h1 (Eq.symm e), fun e => h1 (by injection e with e1 e2; exact e1.symm)⟩)
theorem RLess_hid (r c r' c' : Int) : Hid (∀ w : World, Calls Try.prog 26 #[.agg #[.int .i64 r, .int .i64 c], .agg #[.int .i64 r', .int .i64 c']] w fun e w' => e = .returned (.bool (lessB r c r' c')) ∧ Below w.heap.size w w') := Lib.hid (RLess_any r c r' c')

set_option maxRecDepth 100000 in
set_option maxHeartbeats 3200000 in
theorem ShiftSorts_walk (A : Option Addr) (l : List P2) (cap : Nat) (w : World) (hm : l.length ≤ 9223372036854775807) (hl : GrAt encP 2 w A l) :
    Calls Try.prog 13 #[.slice A l.length cap] w fun e w' => e = .returned (.bool true) ∧ Below w.heap.size w w' := by
  by_cases hbig : 80 < l.length
  · clear hl
    go_enter Try.func13, Try.ntmps13
    go_wp2_with (go_at_call 14; refine (awake10 _).mono ?_; rintro e w3 ⟨rfl, hb3⟩)
    go_ret
    exact ⟨by simp, hb3⟩
  · have HL := Lib.hid hl
    have hz : l.length ≤ 80 := by omega
    have HS := Lib.hid (Sort_any A l cap w hl (by omega))
    have hasc := Lib.hid (sortP_asc l)
    have hperm := Lib.hid (sortP_perm l)
    have hlen := Lib.hid (sortP_len l)
    generalize sortP l = s at HS hasc hperm hlen
    clear hl hm
    go_enter Try.func13, Try.ntmps13
    go_wp2_with (go_at_call 42; refine HS.out.mono ?_; rintro e w1 ⟨v, rfl, ho, hb1⟩; obtain ⟨A2, c2, hv, -, -, -, hg⟩ := gr_of_owns encP_len ho hlen.out.symm; rw [hlen.out] at hv; subst hv; have HG := Lib.hid hg; have HL1 := Lib.hid (HL.out.below hb1); have HB1 := Lib.hid hb1; clear ho hg hb1)
    go_loopw [4] (fun i wr => ∃ k : Nat, k ≤ l.length ∧ i = .int .i64 k ∧ Below w1.heap.size w1 wr) (fun i _ => l.length - (intOf i).toNat)
    case atStart => exact ⟨0, Nat.zero_le _, rfl, Below.refl _ _⟩
    case round =>
      obtain ⟨k, hk, rfl, hB⟩ := hrel
      by_cases hlt : k < l.length
      rotate_left
      · obtain rfl : k = l.length := by omega
        go_wp2_with (go_at_call 14; refine (awake10 _).mono ?_; rintro e w3 ⟨rfl, hb3⟩)
        go_ret
        exact ⟨by simp, below_tail (below_tail HB1.out hB) hb3⟩
      obtain ⟨b, off, p, hA, hp, c0, c1⟩ := HG.out.pos (i := k) (by rw [hlen.out]; exact hlt)
      replace c0 := holda hB c0
      replace c1 := holda hB c1
      subst hA
      have HP := Lib.hid hp
      clear hp
      go_upto_region 9 with (fail)
      go_cut [37] (fun s37 w' => s37 = .bool false ∧ Below wr.heap.size wr w')
      case first =>
        rcases Nat.eq_zero_or_pos k with h0 | h0
        · subst h0
          have hd : decide ((0 : Int) < ((0 : Nat) : Int)) = false := by simp
          go_quiet (fail)
          go_wp2
          go_meet
          exact ⟨rfl, by repeat (first | exact Below.refl _ _ | refine below_drewNs ?_ _ | refine Below.drew ?_)⟩
        · obtain ⟨q, hq⟩ : ∃ q, k = q + 1 := ⟨k - 1, by omega⟩
          have hd : decide (0 < k) = true := by simp; omega
          have hw : IntKind.i64.wrap ((k : Int) - 1) = (q : Int) := by rw [IntWalk.i64_in _ (by omega)]; omega
          have hq1 : (q : Int) < (l.length : Int) := by omega
          obtain ⟨b', off', p', hA', hp', d0, d1⟩ := HG.out.pos (i := q) (by rw [hlen.out]; omega)
          obtain ⟨rfl, rfl⟩ : b = b' ∧ off = off' := by simpa using hA'
          replace d0 := holda hB d0
          replace d1 := holda hB d1
          have HR := RLess_hid p.1 p.2 p'.1 p'.2
          have hno : lessB p.1 p.2 p'.1 p'.2 = false := by
            have e1 := List.getElem?_eq_some_iff.1 HP.out
            have e2 := List.getElem?_eq_some_iff.1 hp'
            have := List.pairwise_iff_getElem.1 hasc.out q k e2.1 e1.1 (by omega)
            rw [e1.2, e2.2] at this
            exact this
          rw [hno] at HR
          clear hno hp' hA' hq h0
          refine wp_region_u 13 (fun w' => Below wr.heap.size wr w' ∧ w'.cell? ⟨b, off + k * 2, none⟩ = some (.int .i64 p.1) ∧ w'.cell? ⟨b, off + k * 2 + 1, none⟩ = some (.int .i64 p.2) ∧ w'.cell? ⟨b, off + q * 2, none⟩ = some (.int .i64 p'.1) ∧ w'.cell? ⟨b, off + q * 2 + 1, none⟩ = some (.int .i64 p'.2)) (by kernel_rfl) (by kernel_rfl) ?_ ?_
          · exact ⟨(Below.refl _ _).drew, c0, c1, d0, d1⟩
          simp only [List.take_succ_cons, List.take_zero, List.drop_succ_cons, List.drop_zero]
          repeat (first
            | (refine seqU_skip (by rfl) ?_; simp only [Act.put, List.setIfInBounds_toArray, List.set_cons_zero, List.set_cons_succ])
            | (refine seqU_val ?_ (by rfl) ?_ ?_; rotate_left; · (intro w' hS; obtain ⟨_, _⟩ := hS; go_simp; first | done | with_reducible rfl)
               simp only [Act.put, List.setIfInBounds_toArray, List.set_cons_zero, List.set_cons_succ])
            | (refine seqU_call 26 #[.agg #[.int .i64 p.1, .int .i64 p.2], .agg #[.int .i64 p'.1, .int .i64 p'.2]] (.bool false) (by rfl) ?_ (fun w' hS => (HR.out w').mono fun e w2 ⟨he, hb⟩ => ⟨he, ⟨below_tail hS.1 hb, holda hb hS.2.1, holda hb hS.2.2.1, holda hb hS.2.2.2.1, holda hb hS.2.2.2.2⟩⟩) ?_; · (intro w'; go_simp; done)
               simp only [Act.put, List.setIfInBounds_toArray, List.set_cons_zero, List.set_cons_succ]))
          refine seqU_nil (fun w' hS => ?_)
          have hB2 := hS.1
          clear hS
          go_wp2
          go_meet
          exact ⟨rfl, hB2⟩
      obtain ⟨rfl, hBc⟩ := hcut
      replace hBc := below_tail hB hBc
      clear c0 c1 hB
      go_wp2_with fail
      go_loopw [5, 6] (fun n kk wI => ∃ (q : Nat) (m : Int), q ≤ l.length ∧ kk = .int .i64 q ∧ n = .int .i64 m ∧ m = (cntT s q p : Int) - cntT l q p ∧ Below w1.heap.size w1 wI) (fun _ kk _ => l.length - (intOf kk).toNat)
      case atStart => exact ⟨0, 0, Nat.zero_le _, rfl, rfl, by simp [cntT_zero], hBc⟩
      case round =>
        clear hBc
        obtain ⟨q, m, hq, rfl, rfl, hm, hB⟩ := hrel
        have hm1 : -81 < m ∧ m < 81 := by
          have h1 := cntT_le s q p
          have h2 := cntT_le l q p
          rw [hlen.out] at h1
          omega
        obtain ⟨hm2, hm3⟩ := hm1
        have HM := Lib.hid hm
        clear hm
        by_cases hql : q < l.length
        rotate_left
        · have hm0 : m = 0 := by
            have e : q = l.length := by omega
            have h1 := HM.out
            rw [e] at h1
            have h2 : cntT s l.length p = cntT l l.length p := by
              have h3 := cntT_all s p
              rw [hlen.out] at h3
              rw [h3, cntT_all]
              exact hperm.out.count_eq p
            omega
          subst hm0
          go_wp2
          go_roundw
          case rel => exact ⟨k + 1, by omega, by go_num, hB⟩
          case measure => simp [intOf]; omega
        obtain ⟨b1, off1, x, hA1, hx, d0, d1⟩ := HG.out.pos (i := q) (by rw [hlen.out]; exact hql)
        obtain ⟨rfl, rfl⟩ : b = b1 ∧ off = off1 := by simpa using hA1
        obtain ⟨b2, off2, y, hA2, hy, e0, e1⟩ := HL1.out.pos (i := q) hql
        obtain ⟨b3, off3, p3, hA3, hp3, c0, c1⟩ := HG.out.pos (i := k) (by rw [hlen.out]; exact hlt)
        obtain ⟨rfl, rfl⟩ : b = b3 ∧ off = off3 := by simpa using hA3
        obtain rfl : p = p3 := by have := HP.out; rw [hp3] at this; exact (Option.some.inj this).symm
        replace d0 := holda hB d0
        replace d1 := holda hB d1
        replace e0 := holda hB e0
        replace e1 := holda hB e1
        replace c0 := holda hB c0
        replace c1 := holda hB c1
        subst hA2
        have HSTEP := Lib.hid (cnt_step (p := p) hx hy)
        clear hx hy hp3 hA1 hA3
        obtain ⟨pr, pc⟩ := p
        obtain ⟨xr, xc⟩ := x
        obtain ⟨yr, yc⟩ := y
        simp only at c0 c1 d0 d1 e0 e1
        rcases pos_cases xr xc pr pc with ⟨rfl, rfl⟩ | ⟨hx1, hxn⟩ | ⟨rfl, hx1, hxn⟩ <;> rcases pos_cases yr yc pr pc with ⟨rfl, rfl⟩ | ⟨hy1, hyn⟩ | ⟨rfl, hy1, hyn⟩
        all_goals
          first | (have HXN := Lib.hid hxn; clear hxn) | skip
          first | (have HYN := Lib.hid hyn; clear hyn) | skip
          go_wp2_with fail
          go_quiet (fail)
          go_wp2_with fail
          go_quiet (fail)
          go_wp2
          go_roundw
          case rel =>
            refine ⟨q + 1, _, by omega, by go_num, rfl, ?_, by repeat (first | exact hB | refine below_drewNs ?_ _ | refine Below.drew ?_)⟩
            rw [HSTEP.out, ← HM.out]
            first | simp only [if_neg HXN.out] | simp only [if_true]
            first | simp only [if_neg HYN.out] | simp only [if_true] | skip
            omega
          case measure => simp [intOf]; omega
end Go.Proofs.Ytdfaldccopnoiaa
