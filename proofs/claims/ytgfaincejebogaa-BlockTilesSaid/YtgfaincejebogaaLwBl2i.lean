/- BlockTiles: the walk, at operations as they come in. Conditions: as stated. -/
import Derived.Test.YtgfaincejebogaaLwBl2
import Derived.Test.YtgfaincejebogaaLwBl1i
namespace Go.Proofs.Ytgfaincejebogaa
open Go.RowKit

theorem BlockTiles_in (m : Int) (A : Option Addr) (l : List Oq) (ca : Nat) (r c : Int) (w : World) (hu : (Lit.int .u8 m).wf = true) (hz : l.length ≤ 9223372036854775807) (hl : GrAt encOq 9 w A l) :
    Calls Try.prog 3 #[.int .u8 m, .slice A l.length ca, .agg #[.int .i64 r, .int .i64 c]] w (TruePost w) := by
  have := BlockTiles_walk m A (l.map toBop) ca r c w (u8_of_wf hu).1 (u8_of_wf hu).2 (by simpa using hz) (gr_bop hl)
  simpa using this
end Go.Proofs.Ytgfaincejebogaa
