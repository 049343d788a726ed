/- JumpSorts, JumpSteps, JumpNext, JumpBack: the walks of the laws. Conditions: none. -/
import Derived.Test.YtfadcmjdlfobhaaJuH
namespace Go.Proofs.Ytfadcmjdlfobhaa
open Go.RowKit Go.Sort

set_option maxRecDepth 100000 in
set_option maxHeartbeats 3200000 in
theorem JumpSorts_walk (A : Option Addr) (l : List Int) (ca : Nat) (w : World) (hm : l.length ≤ 9223372036854775807) (hl : IntsAt w A l) (hok : ∀ y ∈ l, okI y) :
    Calls Try.prog 8 #[.slice A l.length ca] w fun e w' => e = .returned (.bool true) ∧ Below w.heap.size w w' := by
  have HL := Lib.hid hl
  have HK := Lib.hid (fun x hx => (hok x hx).1)
  have hsl := srtd_len l
  clear hl hok
  by_cases hbig : 100 < l.length
  · go_enter Try.func8, Try.ntmps8
    go_wp2_with (go_at_call 30; refine (awake25 _).mono ?_; rintro e w3 ⟨rfl, hb3⟩)
    go_ret
    exact ⟨by simp, hb3⟩
  · have HS : Hid (∀ W : World, IntsAt W A l → Calls Try.prog 35 #[.slice A l.length ca] W (OwnPost W (srtd l))) := Lib.hid fun W h => JSort_any A l ca W h (by omega)
    have HR : Hid (∀ W : World, IntsAt W A l → Calls Try.prog 36 #[.slice A l.length ca] W (OwnPost W (srtd l))) := Lib.hid fun W h => Sorted_any A l ca W h (by omega) HK.out
    clear HK
    generalize srtd l = s at HS HR hsl
    go_enter Try.func8, Try.ntmps8
    go_wp2_with (first
      | (go_at_call 30; refine (awake25 _).mono ?_; rintro e w1 ⟨rfl, hb1⟩)
      | (go_at_call 35; refine (HS.out _ (HL.out.below hb1)).mono ?_; rintro e w2 ⟨v2, rfl, ho2, hb2⟩; have HO2 := Lib.hid ho2; clear ho2)
      | (go_at_call 36; refine (HR.out _ (HL.out.below (below_tail hb1 hb2))).mono ?_; rintro e w3 ⟨v3, rfl, ho3, hb3⟩; have HO3 := Lib.hid ho3; clear ho3)
      | (go_at_call 34; refine (Ints_same _ _ _ _ s _ (owns_below HO2.out hb3) HO3.out (by omega)).mono ?_; rintro e w4 ⟨rfl, hb4⟩))
    go_ret
    exact ⟨by simp, below_tail hb1 (below_tail hb2 (below_tail hb3 hb4))⟩
end Go.Proofs.Ytfadcmjdlfobhaa
