/-
  No cell of these rows narrows 'for every input' (looked for: loops, veiled, ifaces, maps, wideKeys, modest, calm, conditions, laid).
  DERIVED. THE GIVEN ROWS OF THIS SEAT. 4 by the template 'for every input the law returns true; each argument reads behind the call as it read before'; 0 by the template 'total and deterministic' (their statements: YtffdblmdelgkaaaGreatTotals.lean).
  GIVEN WITH THE SEED: the statements are not yours to turn. If you find one false, say at which input.
  Laid BY PROGRAM, IN A SANDBOX (cutbox-rows.mjs): the forced cells as the released guide's own fill.sh prints them over the translation e1d5107e6573d87f… (all of the seat's roots in one cut). By AI agents, Wed Nov 11 2026. No macro, syntax, notation, axiom, sorry.
-/
import Derived.Test.YtffdblmdelgkaaaGreatChecked
import GoSem.Claim
import GoSem.ClaimJoined
import GoSem.ClaimMapViews
import Derived.JoinedTies
import Derived.KernelRfl
namespace Go.Proofs.YtffdblmdelgkaaaGreat
/- THE CELL 'sum', in the pinned program and in every row, IS THE sha256 OF THE DUMP (.gsa) THAT YtffdblmdelgkaaaGreatProg.lean LOADS. Nothing in Lean hashes anything: it is a label: what it is worth is what the hold of that sum in a sandbox is worth. -/
noncomputable def Tryz.pinned : Pinned := { name := "ytffdblmdelgkaaagreat", sum := "e1d5107e6573d87f029b9869ddd076ef2e94278a48490adc5ec3b3cb9b132c98", checked := Tryz.checked }
namespace Rows
def none {H : Type} : Left H := { results := [], args := [] }

/-- 'marqueelaw13.PagePlays': WHATEVER THE INPUT: true; the input reads as it did. -/
def pagePlaysSpec : ChangeSpec := { name := "pagePlays", fn := fun _ => fun
  | [d1, d2] => { results := [.lit (.bool true)], args := [d1, d2] }
  | _ => none }
def pagePlaysRow : OpenClaim := { program := "ytffdblmdelgkaaagreat", sum := "e1d5107e6573d87f029b9869ddd076ef2e94278a48490adc5ec3b3cb9b132c98", func := "marquee/marqueelaw13.PagePlays", spec := "pagePlays", unfollowed := true, recurses := true, apart := false }
def PagePlaysSaid : Prop := pagePlaysRow.holds Tryz.pinned (OpenSpec.ofChange pagePlaysSpec)

/-- ITS FALSE NEIGHBOUR: 'it returns false'. Refute it at one input. -/
def pagePlaysWrong : ChangeSpec := { name := "pagePlays", fn := fun _ => fun
  | [d1, d2] => { results := [.lit (.bool false)], args := [d1, d2] }
  | _ => none }
def PagePlaysWrongFalsely : Prop := pagePlaysRow.holds Tryz.pinned (OpenSpec.ofChange pagePlaysWrong)

/-- 'marqueelaw13.PageRows': WHATEVER THE INPUT: true; the input reads as it did. -/
def pageRowsSpec : ChangeSpec := { name := "pageRows", fn := fun _ => fun
  | [d1, d2, d3] => { results := [.lit (.bool true)], args := [d1, d2, d3] }
  | _ => none }
def pageRowsRow : OpenClaim := { program := "ytffdblmdelgkaaagreat", sum := "e1d5107e6573d87f029b9869ddd076ef2e94278a48490adc5ec3b3cb9b132c98", func := "marquee/marqueelaw13.PageRows", spec := "pageRows", unfollowed := true, recurses := true, apart := false }
def PageRowsSaid : Prop := pageRowsRow.holds Tryz.pinned (OpenSpec.ofChange pageRowsSpec)

/-- ITS FALSE NEIGHBOUR: 'it returns false'. Refute it at one input. -/
def pageRowsWrong : ChangeSpec := { name := "pageRows", fn := fun _ => fun
  | [d1, d2, d3] => { results := [.lit (.bool false)], args := [d1, d2, d3] }
  | _ => none }
def PageRowsWrongFalsely : Prop := pageRowsRow.holds Tryz.pinned (OpenSpec.ofChange pageRowsWrong)

/-- 'marqueelaw13.PageKeeps': WHATEVER THE INPUT: true; the input reads as it did. -/
def pageKeepsSpec : ChangeSpec := { name := "pageKeeps", fn := fun _ => fun
  | [d1, d2, d3] => { results := [.lit (.bool true)], args := [d1, d2, d3] }
  | _ => none }
def pageKeepsRow : OpenClaim := { program := "ytffdblmdelgkaaagreat", sum := "e1d5107e6573d87f029b9869ddd076ef2e94278a48490adc5ec3b3cb9b132c98", func := "marquee/marqueelaw13.PageKeeps", spec := "pageKeeps", unfollowed := true, recurses := true, apart := false }
def PageKeepsSaid : Prop := pageKeepsRow.holds Tryz.pinned (OpenSpec.ofChange pageKeepsSpec)

/-- ITS FALSE NEIGHBOUR: 'it returns false'. Refute it at one input. -/
def pageKeepsWrong : ChangeSpec := { name := "pageKeeps", fn := fun _ => fun
  | [d1, d2, d3] => { results := [.lit (.bool false)], args := [d1, d2, d3] }
  | _ => none }
def PageKeepsWrongFalsely : Prop := pageKeepsRow.holds Tryz.pinned (OpenSpec.ofChange pageKeepsWrong)

/-- 'marqueelaw13.PageResizes': WHATEVER THE INPUT: true; the input reads as it did. -/
def pageResizesSpec : ChangeSpec := { name := "pageResizes", fn := fun _ => fun
  | [d1, d2, d3] => { results := [.lit (.bool true)], args := [d1, d2, d3] }
  | _ => none }
def pageResizesRow : OpenClaim := { program := "ytffdblmdelgkaaagreat", sum := "e1d5107e6573d87f029b9869ddd076ef2e94278a48490adc5ec3b3cb9b132c98", func := "marquee/marqueelaw13.PageResizes", spec := "pageResizes", unfollowed := true, recurses := true, apart := false }
def PageResizesSaid : Prop := pageResizesRow.holds Tryz.pinned (OpenSpec.ofChange pageResizesSpec)

/-- ITS FALSE NEIGHBOUR: 'it returns false'. Refute it at one input. -/
def pageResizesWrong : ChangeSpec := { name := "pageResizes", fn := fun _ => fun
  | [d1, d2, d3] => { results := [.lit (.bool false)], args := [d1, d2, d3] }
  | _ => none }
def PageResizesWrongFalsely : Prop := pageResizesRow.holds Tryz.pinned (OpenSpec.ofChange pageResizesWrong)

/- THE SECOND FORM. 'bulk': how many values and letters a reading holds, each counted each time it is reached (what is shared counts as often as it is met; a slice's spare places count too). A statement '..UptoSaid' is the law's where the arguments, and the package variables that the reading takes, are together of bulk at most 1048576: NARROWER than '..Said'. Prove '..Said' where nothing that the law and all that it calls make is longer than what came in: it says more and counts as full. Else prove '..UptoSaid'. A law counts once. -/
mutual
def uptoBulk {H : Type} : DataW H → Nat
  | .lit (.string bytes) => bytes.length + 1
  | .lit _ => 1
  | .nil => 1
  | .ptr d => uptoBulk d + 1
  | .slice elems spare => uptoBulkAll elems + uptoBulkAll spare + 1
  | .agg parts => uptoBulkAll parts + 1
  | .iface _ d => uptoBulk d + 1
  | .map entries => uptoBulkEntries entries + 1
  | .held _ => 1
def uptoBulkAll {H : Type} : List (DataW H) → Nat
  | [] => 0
  | d :: r => uptoBulk d + uptoBulkAll r
def uptoBulkEntries {H : Type} : List (Lit × DataW H) → Nat
  | [] => 0
  | x :: r => uptoBulkEntry x + uptoBulkEntries r
def uptoBulkEntry {H : Type} : Lit × DataW H → Nat
  | (.string bytes, d) => bytes.length + uptoBulk d + 1
  | (_, d) => uptoBulk d + 1
 end
def uptoSmall : (H : Type) → List (DataW H) → Bool := fun _ ds => decide (uptoBulkAll ds ≤ 1048576)
def OpenSpec.upto (s : _root_.Go.ChangeSpec) : _root_.Go.OpenSpec := { _root_.Go.OpenSpec.ofChange s with cond := some uptoSmall }

/-- 'marqueelaw13.PagePlays', WHERE WHAT IT READS IS OF BULK AT MOST 1048576: true; the input reads as it did. -/
def pagePlaysUptoRow : OpenClaim := { program := "ytffdblmdelgkaaagreat", sum := "e1d5107e6573d87f029b9869ddd076ef2e94278a48490adc5ec3b3cb9b132c98", func := "marquee/marqueelaw13.PagePlays", spec := "pagePlays", unfollowed := true, recurses := true, apart := false, narrowed := true }
def PagePlaysUptoSaid : Prop := pagePlaysUptoRow.holds Tryz.pinned (OpenSpec.upto pagePlaysSpec)

/-- 'marqueelaw13.PageRows', WHERE WHAT IT READS IS OF BULK AT MOST 1048576: true; the input reads as it did. -/
def pageRowsUptoRow : OpenClaim := { program := "ytffdblmdelgkaaagreat", sum := "e1d5107e6573d87f029b9869ddd076ef2e94278a48490adc5ec3b3cb9b132c98", func := "marquee/marqueelaw13.PageRows", spec := "pageRows", unfollowed := true, recurses := true, apart := false, narrowed := true }
def PageRowsUptoSaid : Prop := pageRowsUptoRow.holds Tryz.pinned (OpenSpec.upto pageRowsSpec)

/-- 'marqueelaw13.PageKeeps', WHERE WHAT IT READS IS OF BULK AT MOST 1048576: true; the input reads as it did. -/
def pageKeepsUptoRow : OpenClaim := { program := "ytffdblmdelgkaaagreat", sum := "e1d5107e6573d87f029b9869ddd076ef2e94278a48490adc5ec3b3cb9b132c98", func := "marquee/marqueelaw13.PageKeeps", spec := "pageKeeps", unfollowed := true, recurses := true, apart := false, narrowed := true }
def PageKeepsUptoSaid : Prop := pageKeepsUptoRow.holds Tryz.pinned (OpenSpec.upto pageKeepsSpec)

/-- 'marqueelaw13.PageResizes', WHERE WHAT IT READS IS OF BULK AT MOST 1048576: true; the input reads as it did. -/
def pageResizesUptoRow : OpenClaim := { program := "ytffdblmdelgkaaagreat", sum := "e1d5107e6573d87f029b9869ddd076ef2e94278a48490adc5ec3b3cb9b132c98", func := "marquee/marqueelaw13.PageResizes", spec := "pageResizes", unfollowed := true, recurses := true, apart := false, narrowed := true }
def PageResizesUptoSaid : Prop := pageResizesUptoRow.holds Tryz.pinned (OpenSpec.upto pageResizesSpec)

end Rows
end Go.Proofs.YtffdblmdelgkaaaGreat
