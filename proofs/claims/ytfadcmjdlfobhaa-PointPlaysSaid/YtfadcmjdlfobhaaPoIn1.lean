/- The laws of chapter 20: the walks, at operations as they come in. Conditions: as stated. -/
import Derived.Test.YtfadcmjdlfobhaaLwPo1
import Derived.Test.YtfadcmjdlfobhaaOpenO2
namespace Go.Proofs.Ytfadcmjdlfobhaa
open Go.RowKit
theorem PointPlays_in (m : Int) (A : Option Addr) (l : List Oq) (ca : Nat) (w : World) (hu : (Lit.int .u8 m).wf = true) (hz : l.length ≤ 9223372036854775807) (hl : GrAt encOq 6 w A l) :
    Calls Try.prog 3 #[.int .u8 m, .slice A l.length ca] w (TruePost w) := by
  have := PointPlays_walk m A (l.map toOv) ca w (u8_of_wf hu).1 (u8_of_wf hu).2 (by simpa using hz) (gr_ov hl)
  simpa using this
end Go.Proofs.Ytfadcmjdlfobhaa
