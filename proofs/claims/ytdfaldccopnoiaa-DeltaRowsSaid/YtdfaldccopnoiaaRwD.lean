/- Walks on screens, read-only: fits, Moved. Conditions: none. -/
import Derived.Test.YtdfaldccopnoiaaRwC
namespace Go.Proofs.Ytdfaldccopnoiaa
open Go.RowKit

theorem RwsAt.drop {w : World} {b off : Nat} {l : List Rw} {ca n : Nat} (h : RwsAt w (some ⟨b, off, none⟩) l) (hca : l.length ≤ ca) : RwsAt w (if ca = n then some ⟨b, off, none⟩ else some ⟨b, off + n * 2, none⟩) (l.drop n) := by
  intro h0
  rw [List.length_drop] at h0
  rw [if_neg (by omega)]
  obtain ⟨b1, off1, e, hc⟩ := h (by omega)
  simp only [Option.some.injEq, Addr.mk.injEq] at e
  obtain ⟨rfl, rfl, -⟩ := e
  refine ⟨b, off + n * 2, rfl, fun i r hr => ?_⟩
  rw [List.getElem?_drop] at hr
  have := hc _ r hr
  rw [show off + n * 2 + i * 2 = off + (n + i) * 2 from by omega]
  exact this
theorem RwsAt.take {w : World} {A : Option Addr} {l : List Rw} (q : Nat) (h : RwsAt w A l) : RwsAt w A (l.take q) := by
  intro h0
  rw [List.length_take] at h0
  obtain ⟨b1, off1, e, hc⟩ := h (by omega)
  refine ⟨b1, off1, e, fun i r hr => hc i r ?_⟩
  rw [List.getElem?_take] at hr
  split at hr
  · exact hr
  · cases hr

set_option maxRecDepth 100000 in
set_option maxHeartbeats 1600000 in
theorem fits_some (b off b' off' : Nat) (l m : List Rw) (ca cb n : Nat) (w : World) (hl : RwsAt w (some ⟨b, off, none⟩) l) (hm : RwsAt w (some ⟨b', off', none⟩) m) (hlen : l.length = m.length) (hz : l.length ≤ 400) (hn : n ≤ l.length) (hca : l.length ≤ ca) (hcb : m.length ≤ cb) :
    Calls Try.prog 51 #[.slice (some ⟨b, off, none⟩) l.length ca, .slice (some ⟨b', off', none⟩) m.length cb, .int .i64 n] w fun e w' => e = .returned (.bool (upB (conts l) (conts m) n)) ∧ Below w.heap.size w w' := by
  obtain ⟨q, hq⟩ : ∃ q, q + n = m.length := ⟨m.length - n, by omega⟩
  have hqm : q ≤ m.length := by omega
  have hqc : q ≤ cb := by omega
  have hnc : n ≤ ca := by omega
  have hkn : (m.length : Int) - (n : Int) = (q : Int) := by omega
  have hwq : IntKind.i64.wrap (q : Int) = (q : Int) := IntWalk.i64_in _ (by omega)
  have e1 : (l.drop n).length = l.length - n := by simp
  have e2 : (m.take q).length = q := by simp; omega
  have HQ := Lib.hid hq
  have HE := Lib.hid hlen
  clear hq hlen
  go_enter Try.func51, Try.ntmps51
  go_wp2_with fail
  refine wp_region_u 10 (fun w' => Below w.heap.size w w') (by kernel_rfl) (by kernel_rfl) ?_ ?_
  · exact (Below.refl _ _).drew
  simp only [List.take_succ_cons, List.take_zero, List.drop_succ_cons, List.drop_zero]
  repeat (refine seqU_val ?_ (by rfl) ?_ ?_; rotate_left; · (intro w' hS; go_simp; first | done | with_reducible rfl)
          simp only [Act.put, List.setIfInBounds_toArray, List.set_cons_zero, List.set_cons_succ])
  have HEF : ∀ w' : World, Below w.heap.size w w' → Calls Try.prog 63 #[.slice (if ca = n then some ⟨b, off, none⟩ else some ⟨b, off + n * 2, none⟩) (l.length - n) (ca - n), .slice (some ⟨b', off', none⟩) q cb, .func (.func 64) #[] #[]] w' fun e w2 => e = .returned (.bool (upB (conts l) (conts m) n)) ∧ Below w.heap.size w w2 := by
    intro w' hB
    have h1 := EqualFunc_any _ _ (l.drop n) (m.take q) (ca - n) cb w' ((hl.drop hca (n := n)).below hB) ((hm.take q).below hB) (by have := HQ.out; have := HE.out; omega) (by omega)
    rw [e1, e2] at h1
    refine h1.mono fun e w2 ⟨he, hb⟩ => ⟨?_, below_tail hB hb⟩
    rw [he]
    unfold upB
    refine congrArg (fun b => Ending.returned (.bool b)) (decide_eq_decide.2 ?_)
    rw [conts_len, show l.length - n = q from by have := HQ.out; have := HE.out; omega]
    simp only [conts, List.map_drop, List.map_take]
  refine seqU_call 63 #[.slice (if ca = n then some ⟨b, off, none⟩ else some ⟨b, off + n * 2, none⟩) (l.length - n) (ca - n), .slice (some ⟨b', off', none⟩) q cb, .func (.func 64) #[] #[]] (.bool (upB (conts l) (conts m) n)) (by rfl) ?_ HEF ?_
  · intro w'; go_simp; done
  simp only [Act.put, List.setIfInBounds_toArray, List.set_cons_zero, List.set_cons_succ]
  refine seqU_nil (fun w' hS => ?_)
  go_wp2
  all_goals
    go_ret
    exact ⟨rfl, hS⟩

theorem fits_nil_args (A B : Option Addr) (ca cb : Nat) (w w' : World) (hB : Below w.heap.size w w') : Calls Try.prog 63 #[.slice A 0 ca, .slice B 0 cb, .func (.func 64) #[] #[]] w' fun e w2 => e = .returned (.bool true) ∧ Below w.heap.size w w2 :=
  (EqualFunc_any A B [] [] ca cb w' (RwsAt.nil _ _) (RwsAt.nil _ _) rfl (by simp)).mono fun e w2 ⟨he, hb⟩ => ⟨by rw [he]; simp, below_tail hB hb⟩
set_option maxRecDepth 100000 in
set_option maxHeartbeats 1600000 in
theorem fits_nil (A B : Option Addr) (ca cb : Nat) (w : World) (hA : A = none → ca = 0) (hB : B = none → cb = 0) :
    Calls Try.prog 51 #[.slice A 0 ca, .slice B 0 cb, .int .i64 0] w fun e w' => e = .returned (.bool true) ∧ Below w.heap.size w w' := by
  have H := fun A B ca cb w' hB => fits_nil_args A B ca cb w w' hB
  have hw0 : IntKind.i64.wrap 0 = 0 := IntWalk.i64_in _ (by omega)
  have HA := Lib.hid hA
  have HB := Lib.hid hB
  clear hA hB
  rcases A with _ | ⟨b, off, sp⟩ <;> rcases B with _ | ⟨b', off', sp'⟩
  all_goals
    try (obtain rfl := HA.out rfl)
    try (obtain rfl := HB.out rfl)
    go_enter Try.func51, Try.ntmps51
    go_wp2_with fail
    refine wp_region_u 10 (fun w' => Below w.heap.size w w') (by kernel_rfl) (by kernel_rfl) ?_ ?_
    · exact (Below.refl _ _).drew
    simp only [List.take_succ_cons, List.take_zero, List.drop_succ_cons, List.drop_zero]
    repeat (refine seqU_val ?_ (by rfl) ?_ ?_; rotate_left; · (intro w' hS; go_simp; first | done | with_reducible rfl)
            simp only [Act.put, List.setIfInBounds_toArray, List.set_cons_zero, List.set_cons_succ])
    refine seqU_call 63 #[.slice ?_ 0 ?_, .slice ?_ 0 ?_, .func (.func 64) #[] #[]] (.bool true) (by rfl) ?_ (H _ _ _ _) ?_
    rotate_left 4
    · intro w'; go_simp; first | done | (refine ⟨⟨?_, ?_⟩, ?_, ?_⟩ <;> rfl)
    simp only [Act.put, List.setIfInBounds_toArray, List.set_cons_zero, List.set_cons_succ]
    refine seqU_nil (fun w' hS => ?_)
    go_wp2
    all_goals
      go_ret
      exact ⟨rfl, hS⟩

def firstUp (L M : List (List Cl)) (n : Nat) : Prop := upB L M n = true ∧ ∀ j, j < n → upB L M j = false
theorem upB_all (L M : List (List Cl)) (h : L.length = M.length) : upB L M L.length = true := by simp [upB]
theorem fits_any (A B : Option Addr) (l m : List Rw) (ca cb n : Nat) (w : World) (hl : RwsAt w A l) (hm : RwsAt w B m) (hlen : l.length = m.length) (hz : l.length ≤ 400) (hn : n ≤ l.length) (hca : l.length ≤ ca) (hcb : m.length ≤ cb) (hA : A = none → ca = 0) (hB : B = none → cb = 0) :
    Calls Try.prog 51 #[.slice A l.length ca, .slice B m.length cb, .int .i64 n] w fun e w' => e = .returned (.bool (upB (conts l) (conts m) n)) ∧ Below w.heap.size w w' := by
  rcases Nat.eq_zero_or_pos l.length with h0 | h0
  · obtain rfl : l = [] := List.length_eq_zero_iff.1 h0
    obtain rfl : m = [] := List.length_eq_zero_iff.1 (by omega)
    obtain rfl : n = 0 := by omega
    exact fits_nil A B ca cb w hA hB
  · obtain ⟨b, off, rfl, -⟩ := hl h0
    obtain ⟨b', off', rfl, -⟩ := hm (by omega)
    exact fits_some b off b' off' l m ca cb n w hl hm hlen hz hn hca hcb
set_option maxRecDepth 100000 in
set_option maxHeartbeats 1600000 in
theorem Moved_same (A B : Option Addr) (l m : List Rw) (ca cb mv : Nat) (w : World) (hl : RwsAt w A l) (hm : RwsAt w B m) (hlen : l.length = m.length) (hz : l.length ≤ 400) (hca : l.length ≤ ca) (hcb : m.length ≤ cb) (hA : A = none → ca = 0) (hB : B = none → cb = 0) (hmv : mv ≤ l.length) (hf : firstUp (conts l) (conts m) mv) :
    Calls Try.prog 34 #[.slice A l.length ca, .slice B m.length cb] w fun e w' => e = .returned (.int .i64 mv) ∧ Below w.heap.size w w' := by
  have HF : Hid (∀ (n : Nat) (w' : World), n ≤ l.length → Below w.heap.size w w' → Calls Try.prog 51 #[.slice A l.length ca, .slice B m.length cb, .int .i64 n] w' fun e w2 => e = .returned (.bool (upB (conts l) (conts m) n)) ∧ Below w'.heap.size w' w2) :=
    Lib.hid fun n w' hn hB' => fits_any A B l m ca cb n w' (hl.below hB') (hm.below hB') hlen hz hn hca hcb hA hB
  have h' : ((l.length : Int) != (m.length : Int)) = false := by simp; omega
  have HP := Lib.hid hf
  have hle : l.length ≤ m.length := by omega
  clear hl hm hlen hA hB hf
  go_enter Try.func34, Try.ntmps34
  go_wp2_with fail
  go_loopw [5] (fun i wr => ∃ k : Nat, k ≤ mv ∧ i = .int .i64 k ∧ Below w.heap.size w wr) (fun i _ => mv - (intOf i).toNat)
  case atStart => exact ⟨0, Nat.zero_le _, rfl, Below.refl _ _⟩
  case round =>
    obtain ⟨k, hk, rfl, hB⟩ := hrel
    by_cases hlt : k < mv
    · have HK := HF.out k wr (by omega) hB
      rw [HP.out.2 k hlt] at HK
      go_wp2_with (go_at_call 51; refine HK.mono ?_; rintro e w1 ⟨rfl, hb⟩)
      go_roundw
      case rel => exact ⟨k + 1, by omega, by go_num, below_tail hB hb⟩
      case measure => simp [intOf]; omega
    · obtain rfl : k = mv := by omega
      have HK := HF.out k wr (by omega) hB
      rw [HP.out.1] at HK
      go_wp2_with (go_at_call 51; refine HK.mono ?_; rintro e w1 ⟨rfl, hb⟩)
      go_ret
      exact ⟨rfl, below_tail hB hb⟩
set_option maxRecDepth 100000 in
set_option maxHeartbeats 1600000 in
theorem Moved_other (A B : Option Addr) (n m ca cb : Nat) (w : World) (hn : n ≠ m) :
    Calls Try.prog 34 #[.slice A n ca, .slice B m cb] w fun e w' => e = .returned (.int .i64 0) ∧ Below w.heap.size w w' := by
  have h' : ((n : Int) != (m : Int)) = true := by simp; omega
  clear hn
  go_enter Try.func34, Try.ntmps34
  go_wp2
  go_ret
  exact ⟨rfl, Below.refl _ _⟩
end Go.Proofs.Ytdfaldccopnoiaa
