/- JumpNext: the walk of the law. Conditions: none. -/
import Derived.Test.YtfadcmjdlfobhaaJuH
namespace Go.Proofs.Ytfadcmjdlfobhaa
open Go.RowKit Go.Sort

/-- The best so far of the first k. -/
def NearSt (l : List Int) (t : Int) (k : Nat) (b : Int) : Prop := (k = 0 ∧ b = 0) ∨ (0 < k ∧ IsNear (l.take k) t b)
theorem nearSt_one {l : List Int} {t x : Int} (hx : l[0]? = some x) : NearSt l t 1 x := by
  refine .inr ⟨by omega, ?_⟩
  have hk := List.getElem?_eq_some_iff.1 hx
  rw [show (1 : Nat) = 0 + 1 from rfl, List.take_succ_eq_append_getElem hk.1, hk.2]
  exact IsNear.one t x
theorem nearSt_on {l : List Int} {t x b : Int} {k : Nat} (h : NearSt l t k b) (hk0 : 0 < k) (hx : l[k]? = some x) (hn : nearer t b x = true) : NearSt l t (k + 1) x := by
  rcases h with ⟨h0, -⟩ | ⟨-, h⟩
  · omega
  · have hk := List.getElem?_eq_some_iff.1 hx
    refine .inr ⟨by omega, ?_⟩
    have := h.snoc x
    rw [if_pos hn] at this
    rw [List.take_succ_eq_append_getElem hk.1, hk.2]; exact this
theorem nearSt_off {l : List Int} {t x b : Int} {k : Nat} (h : NearSt l t k b) (hk0 : 0 < k) (hx : l[k]? = some x) (hn : nearer t b x = false) : NearSt l t (k + 1) b := by
  rcases h with ⟨h0, -⟩ | ⟨-, h⟩
  · omega
  · have hk := List.getElem?_eq_some_iff.1 hx
    refine .inr ⟨by omega, ?_⟩
    have := h.snoc x
    rw [if_neg (by rw [hn]; simp)] at this
    rw [List.take_succ_eq_append_getElem hk.1, hk.2]; exact this
theorem nearSt_end {l : List Int} {t b : Int} (h : NearSt l t l.length b) : b = (nearO l t).getD 0 ∧ (nearO l t).isSome = decide (0 < l.length) := by
  rcases h with ⟨h0, rfl⟩ | ⟨h0, h⟩
  · obtain rfl : l = [] := List.length_eq_zero_iff.1 h0
    rw [nearO_nil]; simp
  · have hne : l ≠ [] := fun e => by rw [e] at h0; simp at h0
    obtain ⟨c, hc⟩ := nearO_some (t := t) hne
    rw [List.take_length] at h
    rw [hc]
    exact ⟨h.uniq (nearO_is hc), by simp [h0]⟩
set_option maxRecDepth 100000 in
set_option maxHeartbeats 3200000 in
theorem JumpNext_walk (A : Option Addr) (l : List Int) (ca : Nat) (a : Int) (w : World) (hm : l.length ≤ 9223372036854775807) (hl : IntsAt w A l) (hok : ∀ y ∈ l, okI y) (ha : okI a) :
    Calls Try.prog 10 #[.slice A l.length ca, .int .i64 a] w fun e w' => e = .returned (.bool true) ∧ Below w.heap.size w w' := by
  have HL := Lib.hid hl
  have HK := Lib.hid hok
  have HA := Lib.hid ha
  clear hl hok ha
  by_cases hbig : 100 < l.length
  · clear HK HA
    go_enter Try.func10, Try.ntmps10
    go_wp2_with (go_at_call 30; refine (awake25 _).mono ?_; rintro e w3 ⟨rfl, hb3⟩)
    go_ret
    exact ⟨by simp, hb3⟩
  · have HN : Hid (∀ W : World, IntsAt W A l → Calls Try.prog 37 #[.slice A l.length ca, .int .i64 a] W fun e w' => e = .returned (optI (nxt l a)) ∧ Below W.heap.size W w') := Lib.hid fun W h => Next_any A l ca a W h (by omega)
    have HH : Hid (∀ W : World, IntsAt W A l → Calls Try.prog 38 #[.slice A l.length ca, .int .i64 a] W fun e w' => e = .returned (optI (ahd l a)) ∧ Below W.heap.size W w') := Lib.hid fun W h => Ahead_any A l ca a W h (by omega)
    have HE : Hid (∀ W : World, IntsAt W A l → Calls Try.prog 39 #[.slice A l.length ca, .int .i64 a] W fun e w' => e = .returned (optI (nearO l a)) ∧ Below W.heap.size W w') := Lib.hid fun W h => Nearest_any A l ca a W h (by omega) HK.out HA.out
    have HRN : Hid (∀ W : World, IntsAt W A l → Calls Try.prog 31 #[.slice A l.length ca, .int .i64 a] W fun e w' => e = .returned (optI (nxt l a)) ∧ W = w') := Lib.hid fun W h => RNext_any A l ca a W h (by omega)
    have HRA : Hid (∀ W : World, IntsAt W A l → Calls Try.prog 32 #[.slice A l.length ca, .int .i64 a] W fun e w' => e = .returned (optI (ahd l a)) ∧ W = w') := Lib.hid fun W h => RAhead_any A l ca a W h (by omega)
    have HEND := Lib.hid (fun b => nearSt_end (l := l) (t := a) (b := b))
    generalize nxt l a = o1 at HN HRN
    generalize ahd l a = o2 at HH HRA
    generalize nearO l a = o3 at HE HEND
    unfold optI at HN HH HE HRN HRA
    generalize o1.getD 0 = x1 at HN HRN
    generalize o1.isSome = f1 at HN HRN
    generalize o2.getD 0 = x2 at HH HRA
    generalize o2.isSome = f2 at HH HRA
    generalize o3.getD 0 = x3 at HE HEND
    generalize o3.isSome = f3 at HE HEND
    go_enter Try.func10, Try.ntmps10
    go_wp2_with (first
      | (go_at_call 30; refine (awake25 _).mono ?_; rintro e w1 ⟨rfl, hb1⟩; have H1 := Lib.hid (HL.out.below hb1))
      | (go_at_call 37; refine (HN.out _ H1.out).mono ?_; rintro e w2 ⟨rfl, hb2⟩; have H2 := Lib.hid (H1.out.below hb2))
      | (go_at_call 38; refine (HH.out _ H2.out).mono ?_; rintro e w3 ⟨rfl, hb3⟩; have H3 := Lib.hid (H2.out.below hb3))
      | (go_at_call 39; refine (HE.out _ H3.out).mono ?_; rintro e w4 ⟨rfl, hb4⟩; have H4 := Lib.hid (H3.out.below hb4); have hb5 := below_tail hb1 (below_tail hb2 (below_tail hb3 hb4)))
      | (go_at_call 31; refine (HRN.out _ H4.out).mono ?_; rintro e w5 ⟨rfl, rfl⟩)
      | (go_at_call 32; refine (HRA.out _ H4.out).mono ?_; rintro e w6 ⟨rfl, rfl⟩))
    have HB := Lib.hid hb5
    clear hb1 hb2 hb3 hb4 hb5 H1 H2 H3 HN HH HE HRN HRA HL
    go_loop [15, 16] (fun b i => ∃ (k : Nat) (bv : Int), k ≤ l.length ∧ i = .int .i64 k ∧ b = .int .i64 bv ∧ NearSt l a k bv) (fun _ i => l.length - (intOf i).toNat)
    case atStart => exact ⟨0, 0, Nat.zero_le _, rfl, rfl, .inl ⟨rfl, rfl⟩⟩
    case round =>
      obtain ⟨k, bv, hk, rfl, rfl, hst⟩ := hrel
      have HST := Lib.hid hst
      clear hst
      by_cases hlt : k < l.length
      rotate_left
      · obtain rfl : k = l.length := by omega
        obtain ⟨rfl, rfl⟩ := HEND.out _ HST.out
        clear HEND HST HK
        go_wp2
        all_goals go_ret
        all_goals exact ⟨by simp, HB.out⟩
      · obtain ⟨b, off, x, rfl, hx, c0⟩ := H4.out.at_ hlt
        have HX := Lib.hid hx
        clear hx
        have hlt' : (k : Int) < (l.length : Int) := by omega
        rcases Nat.eq_zero_or_pos k with h0 | h0
        · have heq : ((k : Int) == 0) = true := by simp [h0]
          have HZ := Lib.hid h0
          clear h0
          go_wp2
          go_round
          case rel => exact ⟨k + 1, x, by omega, by go_num, rfl, by have h0 := HZ.out; have hx := HX.out; rw [h0] at hx ⊢; exact nearSt_one hx⟩
          case measure => simp [intOf]; omega
        · have hne : ((k : Int) == 0) = false := by simp; omega
          have hkb : okI bv := by
            rcases HST.out with ⟨h, -⟩ | ⟨-, h⟩
            · omega
            · exact HK.out _ (List.mem_of_mem_take h.1)
          have HFX := Lib.hid (fun w => RFar_any x a w (HK.out _ (List.mem_of_getElem? HX.out)) HA.out)
          have HFB := Lib.hid (fun w => RFar_any bv a w hkb HA.out)
          have HNE := Lib.hid (show nearer a bv x = (decide (dist x a < dist bv a) || (dist x a == dist bv a && decide (x < bv))) from rfl)
          clear hkb
          generalize dist x a = dx at HFX HNE
          generalize dist bv a = db at HFB HNE
          by_cases h1 : dx < db
          · go_wp2_with (first
              | (go_at_call 40; (with_reducible refine (HFX.out _).mono ?_); rintro e w6 ⟨rfl, rfl⟩)
              | (go_at_call 40; (with_reducible refine (HFB.out _).mono ?_); rintro e w7 ⟨rfl, rfl⟩))
            go_round
            case rel => exact ⟨k + 1, x, by omega, by go_num, rfl, nearSt_on HST.out h0 HX.out (by rw [HNE.out]; simp [h1])⟩
            case measure => simp [intOf]; omega
          · by_cases h2 : dx = db
            · subst h2
              by_cases h3 : x < bv
              · go_wp2_with (first
                  | (go_at_call 40; (with_reducible refine (HFX.out _).mono ?_); rintro e w6 ⟨rfl, rfl⟩)
                  | (go_at_call 40; (with_reducible refine (HFB.out _).mono ?_); rintro e w7 ⟨rfl, rfl⟩))
                go_round
                case rel => exact ⟨k + 1, x, by omega, by go_num, rfl, nearSt_on HST.out h0 HX.out (by rw [HNE.out]; simp [h3])⟩
                case measure => simp [intOf]; omega
              · go_wp2_with (first
                  | (go_at_call 40; (with_reducible refine (HFX.out _).mono ?_); rintro e w6 ⟨rfl, rfl⟩)
                  | (go_at_call 40; (with_reducible refine (HFB.out _).mono ?_); rintro e w7 ⟨rfl, rfl⟩))
                go_round
                case rel => exact ⟨k + 1, bv, by omega, by go_num, rfl, nearSt_off HST.out h0 HX.out (by rw [HNE.out]; simp; omega)⟩
                case measure => simp [intOf]; omega
            · have h2' : (dx == db) = false := by simpa using h2
              clear h2
              go_wp2_with (first
                | (go_at_call 40; (with_reducible refine (HFX.out _).mono ?_); rintro e w6 ⟨rfl, rfl⟩)
                | (go_at_call 40; (with_reducible refine (HFB.out _).mono ?_); rintro e w7 ⟨rfl, rfl⟩))
              go_round
              case rel => exact ⟨k + 1, bv, by omega, by go_num, rfl, nearSt_off HST.out h0 HX.out (by rw [HNE.out, h2']; simp; omega)⟩
              case measure => simp [intOf]; omega
end Go.Proofs.Ytfadcmjdlfobhaa
