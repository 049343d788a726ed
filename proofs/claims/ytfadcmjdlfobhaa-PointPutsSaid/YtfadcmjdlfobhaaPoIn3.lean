/- PointPuts: the walk, at operations and places as they come in. Conditions: as stated. -/
import Derived.Test.YtfadcmjdlfobhaaLwPo3
import Derived.Test.YtfadcmjdlfobhaaOpenO2
namespace Go.Proofs.Ytfadcmjdlfobhaa
open Go.RowKit
theorem PointPuts_in (m : Int) (A : Option Addr) (l : List Oq) (ca : Nat) (B : Option Addr) (pl : List Ps) (cp : Nat) (w : World) (hu : (Lit.int .u8 m).wf = true) (hz : l.length ≤ 9223372036854775807) (hl : GrAt encOq 6 w A l)
    (hz2 : pl.length ≤ 9223372036854775807) (hpl : GrAt encPs 2 w B pl) (hcp : pl.length ≤ cp) :
    Calls Try.prog 5 #[.int .u8 m, .slice A l.length ca, .slice B pl.length cp] w (TruePost w) := by
  have := PointPuts_walk m A (l.map toOv) ca B (pl.map fun p => (p.r, p.c)) cp w (u8_of_wf hu).1 (u8_of_wf hu).2 (by simpa using hz) (gr_ov hl) (by simpa using hz2) (gr_map (fun p : Ps => (p.r, p.c)) (fun _ => rfl) hpl) (by simpa using hcp)
  simpa using this
end Go.Proofs.Ytfadcmjdlfobhaa
