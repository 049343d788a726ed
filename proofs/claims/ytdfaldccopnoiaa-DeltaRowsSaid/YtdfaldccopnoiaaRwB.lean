/- Walks on screens, read-only: Great, up. Conditions: none. -/
import Derived.Test.YtdfaldccopnoiaaRwA
import Derived.Test.YtdfaldccopnoiaaClB
import Derived.Test.YtdfaldccopnoiaaRegN
namespace Go.Proofs.Ytdfaldccopnoiaa
open Go.RowKit

def GreatPost (l : List Rw) (w : World) (e : Ending) (w' : World) : Prop := ∃ b : Bool, e = .returned (.bool b) ∧ (b = false → l.length ≤ 400) ∧ Below w.heap.size w w'
def GreatSt (L k : Nat) (s : Int) : Prop := (k = 0 ∧ s = (L : Int)) ∨ L ≤ 400
set_option maxRecDepth 100000 in
set_option maxHeartbeats 1600000 in
theorem Great_any (A : Option Addr) (l : List Rw) (ca : Nat) (w : World) (hl : RwsAt w A l) (hz : l.length ≤ 9223372036854775807) :
    Calls Try.prog 30 #[.slice A l.length ca] w (GreatPost l w) := by
  have HL := Lib.hid hl
  clear hl
  go_enter Try.func30, Try.ntmps30
  go_wp2_with fail
  go_loopw [3, 4] (fun n i wr => ∃ (k : Nat) (s : Int), k ≤ l.length ∧ i = .int .i64 k ∧ n = .int .i64 s ∧ GreatSt l.length k s ∧ Below w.heap.size w wr) (fun _ i _ => l.length - (intOf i).toNat)
  case atStart => exact ⟨0, _, Nat.zero_le _, rfl, rfl, .inl ⟨rfl, rfl⟩, Below.refl _ _⟩
  case round =>
    obtain ⟨k, s, hk, rfl, rfl, hs, hB⟩ := hrel
    by_cases hlt : k < l.length
    rotate_left
    · go_wp2
      go_ret
      exact ⟨_, rfl, fun h => by have h := of_decide_eq_false h; unfold GreatSt at hs; omega, hB⟩
    · by_cases hg : s ≤ 400
      · obtain ⟨b, off, r, rfl, hr, cr, cc, cz⟩ := HL.out.at_ hlt
        have c0 := holda hB cr.1
        clear hr cr cc
        have hs' : l.length ≤ 400 := by unfold GreatSt at hs; omega
        go_wp2
        go_roundw
        case rel => exact ⟨k + 1, _, by omega, by go_num, rfl, .inr hs', hB⟩
        case measure => simp [intOf]; omega
      · go_wp2
        go_ret
        exact ⟨_, rfl, fun h => absurd h (by simp), hB⟩

theorem conts_at {l : List Rw} {k : Nat} {r : Rw} (h : l[k]? = some r) : (conts l)[k]? = some r.cs := by simp [conts, h]
theorem conts_len (l : List Rw) : (conts l).length = l.length := by simp [conts]
theorem Same_hidW (A B : Option Addr) (l m : List Cl) (ca cb : Nat) (hz : l.length ≤ 9223372036854775807) (hz2 : m.length ≤ 9223372036854775807) :
    Hid (∀ w : World, ClsAt w A l → ClsAt w B m → Calls Try.prog 25 #[.slice A l.length ca, .slice B m.length cb] w fun e w' => e = .returned (.bool (decide (l = m))) ∧ Below w.heap.size w w') :=
  Lib.hid fun w hl hm => SameCells_any A B l m ca cb w hl hm (by omega) (by omega)
/-- Is each row of the one that so many behind it of the other? -/
def upB (L M : List (List Cl)) (n : Nat) : Bool := decide (L.drop n = M.take (L.length - n))
theorem up_step {L M : List (List Cl)} {n k : Nat} {x y : List Cl} (hx : L[k + n]? = some x) (hy : M[k]? = some y) (h : (L.drop n).take k = M.take k) (e : x = y) : (L.drop n).take (k + 1) = M.take (k + 1) :=
  take_eq_succ (by rw [List.getElem?_drop, Nat.add_comm n k]; exact hx) hy h e

set_option maxRecDepth 100000 in
set_option maxHeartbeats 1600000 in
theorem up_any (A B : Option Addr) (l m : List Rw) (ca cb n : Nat) (w : World) (hl : RwsAt w A l) (hm : RwsAt w B m) (hlen : l.length = m.length) (hz : l.length ≤ 400) (hn : n ≤ l.length) :
    Calls Try.prog 31 #[.slice A l.length ca, .slice B m.length cb, .int .i64 n] w fun e w' => e = .returned (.bool (upB (conts l) (conts m) n)) ∧ Below w.heap.size w w' := by
  have HL := Lib.hid hl
  have HM := Lib.hid hm
  have HE := Lib.hid hlen
  have hle : l.length ≤ m.length := by omega
  have hge : m.length ≤ l.length := by omega
  clear hl hm hlen
  generalize hX : upB (conts l) (conts m) n = X
  have HX := Lib.hid hX
  clear hX
  go_enter Try.func31, Try.ntmps31
  go_wp2_with fail
  go_loopw [7] (fun i wr => ∃ k : Nat, k ≤ l.length - n ∧ i = .int .i64 k ∧ Below w.heap.size w wr ∧ ((conts l).drop n).take k = (conts m).take k) (fun i _ => l.length - (intOf i).toNat)
  case atStart => exact ⟨0, Nat.zero_le _, rfl, Below.refl _ _, rfl⟩
  case round =>
    obtain ⟨k, hk, rfl, hB, htk⟩ := hrel
    have HT := Lib.hid htk
    clear htk
    obtain ⟨q, hq⟩ : ∃ q, q = k + n := ⟨_, rfl⟩
    have hw : IntKind.i64.wrap ((k : Int) + n) = (q : Int) := (IntWalk.i64_in _ (by omega)).trans (by omega)
    by_cases hlt : q < l.length
    rotate_left
    · go_wp2
      go_ret
      refine ⟨?_, hB⟩
      obtain rfl : k = l.length - n := by omega
      have h1 := HT.out
      rw [List.take_of_length_le (by rw [List.length_drop, conts_len]; exact Nat.le_refl _)] at h1
      rw [← HX.out, upB, conts_len, h1]; simp
    · have hltm : k < m.length := by omega
      obtain ⟨b, off, x, rfl, hx, cx⟩ := HL.out.at_ hlt
      obtain ⟨b', off', y, rfl, hy, cy⟩ := HM.out.at_ hltm
      have HXX := Lib.hid hx
      have HYY := Lib.hid hy
      clear hx hy
      replace cx := cx.below hB
      replace cy := cy.below hB
      have HS := Same_hidW x.A y.A x.cs y.cs x.cap y.cap cx.2.2 cy.2.2
      have c0 := cx.1.1
      have d0 := cy.1.1
      have CX := Lib.hid cx.2.1
      have CY := Lib.hid cy.2.1
      clear cx cy
      generalize hD : decide (x.cs = y.cs) = D at HS
      have HD := Lib.hid hD
      clear hD
      go_wp2_with fail
      have hkn : (k : Int) + (n : Int) = (q : Int) := by omega
      have hwq : IntKind.i64.wrap (q : Int) = (q : Int) := IntWalk.i64_in _ (by omega)
      have HQ := Lib.hid hq
      clear hq
      refine wp_region_u 13 (fun w' => Below wr.heap.size wr w' ∧ w'.cell? ⟨b, off + q * 2, none⟩ = some (.slice x.A x.cs.length x.cap) ∧ w'.cell? ⟨b', off' + k * 2, none⟩ = some (.slice y.A y.cs.length y.cap)) (by kernel_rfl) (by kernel_rfl) ?_ ?_
      · exact ⟨(Below.refl _ _).drew, c0, d0⟩
      simp only [List.take_succ_cons, List.take_zero, List.drop_succ_cons, List.drop_zero]
      repeat (first
        | (refine seqU_val (.int .i64 (q : Int)) (by rfl) ?_ ?_; · (intro w' hS; go_simp; done)
           simp only [Act.put, List.setIfInBounds_toArray, List.set_cons_zero, List.set_cons_succ])
        | (refine seqU_val ?_ (by rfl) ?_ ?_; rotate_left; · (intro w' hS; obtain ⟨_, _⟩ := hS; go_simp; first | done | with_reducible rfl)
           simp only [Act.put, List.setIfInBounds_toArray, List.set_cons_zero, List.set_cons_succ])
        | (refine seqU_call 25 #[.slice x.A x.cs.length x.cap, .slice y.A y.cs.length y.cap] (.bool D) (by rfl) ?_ (fun w' hS => (HS.out w' (CX.out.below hS.1) (CY.out.below hS.1)).mono fun e w2 ⟨he, hb⟩ => ⟨he, ⟨below_tail hS.1 hb, holda hb hS.2.1, holda hb hS.2.2⟩⟩) ?_; · (intro w'; go_simp; done)
           simp only [Act.put, List.setIfInBounds_toArray, List.set_cons_zero, List.set_cons_succ]))
      refine seqU_nil (fun w' hS => ?_)
      have hB4 := hS.1
      clear hS HS
      cases D
      · go_wp2
        go_ret
        refine ⟨?_, below_tail hB hB4⟩
        have hne : ((conts l).drop n)[k]? ≠ ((conts m).take (l.length - n))[k]? := by
          rw [List.getElem?_drop, List.getElem?_take_of_lt (by omega), Nat.add_comm n k, ← HQ.out, conts_at HXX.out, conts_at HYY.out]
          have := of_decide_eq_false HD.out
          simpa using this
        obtain rfl : X = false := by
          rw [← HX.out, upB, conts_len, decide_eq_false_iff_not]
          intro h
          rw [h] at hne
          exact hne rfl
        rfl
      · go_wp2
        go_roundw
        case rel => exact ⟨k + 1, by omega, by go_num, below_tail hB hB4, up_step (HQ.out ▸ conts_at HXX.out) (conts_at HYY.out) HT.out (of_decide_eq_true HD.out)⟩
        case measure => simp [intOf]; omega
end Go.Proofs.Ytdfaldccopnoiaa
