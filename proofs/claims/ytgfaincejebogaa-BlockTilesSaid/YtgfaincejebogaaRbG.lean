/- The document's blocks: Take. Conditions: as stated. -/
import Derived.Test.YtgfaincejebogaaRbF
namespace Go.Proofs.Ytgfaincejebogaa
open Go.RowKit

set_option maxRecDepth 100000 in
set_option maxHeartbeats 3200000 in
theorem rtake_out {q : Nat} {vM vF : Value} {M : List Mk} {F : List Fc} {mo N : Nat} {ids : Int} {dir : ByteArray} (x : Sg) (r c : Int) (w : World) (h : RbO w q vM vF M F mo ids dir) (hi : RInv M F ids) (hl : F.length ≤ mo) (hm : M.length ≤ 4 * N) (hi0 : 0 ≤ ids) (hiN : ids ≤ N) (hin : (inB r && inB c) = false) :
    Calls Try.prog 19 #[.pointer (some ⟨q, 0, none⟩), .agg #[.int .i64 x.k, .int .i64 x.code, .bool x.has, .string x.text], .agg #[.int .i64 r, .int .i64 c]] w (RkPost w q vM vF mo (N + 1)) := by
  have HR1 := Lib.hid (fun w => Right10_any r w)
  have HR2 := Lib.hid (fun w => Right10_any c w)
  obtain ⟨W0, hW0⟩ : ∃ W0, W0 = (w.alloc (.cells #[.int .i64 x.k, .int .i64 x.code, .bool x.has, .string x.text] 33)).alloc (.cells #[.int .i64 r, .int .i64 c] 24) := ⟨_, rfl⟩
  have hb0 : Below w.heap.size w W0 := by rw [hW0]; exact below_allocs (below_allocs (Below.refl _ _) _) _
  have ht0 : TkSt W0 w.heap.size x (r, c) := by
    rw [hW0]
    exact ⟨(at_ (hp_old (hp_new rfl)) 0 _ rfl).1, (at_ (hp_old (hp_new rfl)) 1 _ rfl).1, (at_ (hp_old (hp_new rfl)) 2 _ rfl).1, (at_ (hp_old (hp_new rfl)) 3 _ rfl).1, (at_ (hp_new (by simp)) 0 _ rfl).1, (at_ (hp_new (by simp)) 1 _ rfl).1⟩
  have HW0 := Lib.hid hW0
  generalize hr1 : inB r = b1 at HR1 hin
  generalize hr2 : inB c = b2 at HR2 hin
  have HSAME : Hid (∀ w1, Below W0.heap.size W0 w1 → RkPost w q vM vF mo (N + 1) (.returned (.tuple #[])) w1) := Lib.hid (fun w1 hb => RkPost.same h hi hl hm hi0 hiN (below_tail hb0 hb))
  obtain ⟨q0, q1, q2, q3, q4, q5⟩ := ht0
  clear h hi hb0 hr1 hr2 q0 q1 q2 q3
  cases b1 with
  | false =>
    go_enter Try.func19, Try.ntmps19
    go_upto_region 1 with fail
    rw [← HW0.out]
    clear hW0
    go_wp2_with (go_at_call 5; refine (HR1.out _).mono ?_; rintro e w2 ⟨rfl, hw2⟩; subst hw2)
    go_end0
    exact HSAME.out _ (Below.refl _ _)
  | true =>
    obtain rfl : b2 = false := by simpa using hin
    go_enter Try.func19, Try.ntmps19
    go_upto_region 1 with fail
    rw [← HW0.out]
    clear hW0
    go_wp2_with (first | (go_at_call 5; refine (HR1.out _).mono ?_; rintro e w2 ⟨rfl, hw2⟩; subst hw2) | (go_at_call 5; refine (HR2.out _).mono ?_; rintro e w2 ⟨rfl, hw2⟩; subst hw2))
    go_end0
    exact HSAME.out _ (Below.refl _ _)
theorem rtake_any {q : Nat} {vM vF : Value} {M : List Mk} {F : List Fc} {mo N : Nat} {ids : Int} {dir : ByteArray} (x : Sg) (r c : Int) (w : World) (h : RbO w q vM vF M F mo ids dir) (hi : RInv M F ids) (hmo : 1 ≤ mo) (hmo2 : mo ≤ 30) (hl : F.length ≤ mo) (hm : M.length ≤ 4 * N) (hi0 : 0 ≤ ids) (hiN : ids ≤ N) (hN : N ≤ 100) :
    Calls Try.prog 19 #[.pointer (some ⟨q, 0, none⟩), .agg #[.int .i64 x.k, .int .i64 x.code, .bool x.has, .string x.text], .agg #[.int .i64 r, .int .i64 c]] w (RkPost w q vM vF mo (N + 1)) := by
  cases hin : (inB r && inB c) with
  | false => exact rtake_out x r c w h hi hl hm hi0 hiN hin
  | true =>
    rw [Bool.and_eq_true] at hin
    by_cases hM : M = []
    · subst hM
      exact rtake_none x r c w h hi hmo hmo2 hl hi0 hiN hN
    · exact rtake_last x r c w h hi hM hmo hmo2 hl hm hi0 hiN hN hin.1 hin.2
end Go.Proofs.Ytgfaincejebogaa
