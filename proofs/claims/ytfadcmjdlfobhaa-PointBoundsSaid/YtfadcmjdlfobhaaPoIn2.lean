/- PointBounds: the walk, at operations as they come in. Conditions: as stated. -/
import Derived.Test.YtfadcmjdlfobhaaLwPo2
import Derived.Test.YtfadcmjdlfobhaaOpenO2
namespace Go.Proofs.Ytfadcmjdlfobhaa
open Go.RowKit
theorem PointBounds_in (m : Int) (A : Option Addr) (l : List Oq) (ca : Nat) (r c : Int) (w : World) (hu : (Lit.int .u8 m).wf = true) (hz : l.length ≤ 9223372036854775807) (hl : GrAt encOq 6 w A l) :
    Calls Try.prog 4 #[.int .u8 m, .slice A l.length ca, .agg #[.int .i64 r, .int .i64 c]] w (TruePost w) := by
  have := PointBounds_walk m A (l.map toOv) ca r c w (u8_of_wf hu).1 (u8_of_wf hu).2 (by simpa using hz) (gr_ov hl)
  simpa using this
end Go.Proofs.Ytfadcmjdlfobhaa
