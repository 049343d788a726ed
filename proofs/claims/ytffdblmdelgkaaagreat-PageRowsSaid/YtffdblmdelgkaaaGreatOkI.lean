/- What a number of a machine's width may be. Conditions: none. -/
import Derived.Test.YtffdblmdelgkaaaGreatLawKit
namespace Go.Proofs.YtffdblmdelgkaaaGreat
def okI (x : Int) : Prop := -9223372036854775808 ≤ x ∧ x ≤ 9223372036854775807
theorem okI_of_wf {x : Int} (h : (Lit.int .i64 x).wf = true) : okI x := by
  unfold okI
  simp [Lit.wf, IntKind.min, IntKind.max, IntKind.signed, IntKind.bits] at h
  omega
theorem u8_of_wf {x : Int} (h : (Lit.int .u8 x).wf = true) : 0 ≤ x ∧ x ≤ 255 := by
  simp [Lit.wf, IntKind.min, IntKind.max, IntKind.signed, IntKind.bits] at h
  omega
end Go.Proofs.YtffdblmdelgkaaaGreat
