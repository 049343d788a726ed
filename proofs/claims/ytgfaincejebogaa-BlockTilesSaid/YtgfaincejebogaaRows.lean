/-
  No cell of these rows narrows 'for every input' (looked for: loops, veiled, ifaces, maps, wideKeys, modest, calm, conditions, laid).
  DERIVED. THE GIVEN ROWS OF THIS SEAT. 2 by the template 'for every input the law returns true; each argument reads behind the call as it read before'; 0 by the template 'total and deterministic' (their statements: YtgfaincejebogaaTotals.lean).
  GIVEN WITH THE SEED: the statements are not yours to turn. If you find one false, say at which input.
  Laid BY PROGRAM, IN A SANDBOX (cutbox-rows.mjs): the forced cells as the released guide's own fill.sh prints them over the translation a316c2d9cc9aba80… (all of the seat's roots in one cut). By AI agents, Wed Nov 11 2026. No macro, syntax, notation, axiom, sorry.
-/
import Derived.Test.YtgfaincejebogaaChecked
import GoSem.Claim
import GoSem.ClaimJoined
import GoSem.ClaimMapViews
import Derived.JoinedTies
import Derived.KernelRfl
namespace Go.Proofs.Ytgfaincejebogaa
/- THE CELL 'sum', in the pinned program and in every row, IS THE sha256 OF THE DUMP (.gsa) THAT YtgfaincejebogaaProg.lean LOADS. Nothing in Lean hashes anything: it is a label: what it is worth is what the hold of that sum in a sandbox is worth. -/
noncomputable def Try.pinned : Pinned := { name := "ytgfaincejebogaa", sum := "a316c2d9cc9aba807e444d93d8e9ca176377990a87360561f0d092c88ff9cf90", checked := Try.checked }
namespace Rows
def none {H : Type} : Left H := { results := [], args := [] }

/-- 'marqueelaw19.BlockTiles': WHATEVER THE INPUT: true; the input reads as it did. -/
def blockTilesSpec : ChangeSpec := { name := "blockTiles", fn := fun _ => fun
  | [d1, d2, d3] => { results := [.lit (.bool true)], args := [d1, d2, d3] }
  | _ => none }
def blockTilesRow : OpenClaim := { program := "ytgfaincejebogaa", sum := "a316c2d9cc9aba807e444d93d8e9ca176377990a87360561f0d092c88ff9cf90", func := "marquee/marqueelaw19.BlockTiles", spec := "blockTiles", apart := false }
def BlockTilesSaid : Prop := blockTilesRow.holds Try.pinned (OpenSpec.ofChange blockTilesSpec)

/-- ITS FALSE NEIGHBOUR: 'it returns false'. Refute it at one input. -/
def blockTilesWrong : ChangeSpec := { name := "blockTiles", fn := fun _ => fun
  | [d1, d2, d3] => { results := [.lit (.bool false)], args := [d1, d2, d3] }
  | _ => none }
def BlockTilesWrongFalsely : Prop := blockTilesRow.holds Try.pinned (OpenSpec.ofChange blockTilesWrong)

/-- 'marqueelaw19.BlockBounds': WHATEVER THE INPUT: true; the input reads as it did. -/
def blockBoundsSpec : ChangeSpec := { name := "blockBounds", fn := fun _ => fun
  | [d1, d2] => { results := [.lit (.bool true)], args := [d1, d2] }
  | _ => none }
def blockBoundsRow : OpenClaim := { program := "ytgfaincejebogaa", sum := "a316c2d9cc9aba807e444d93d8e9ca176377990a87360561f0d092c88ff9cf90", func := "marquee/marqueelaw19.BlockBounds", spec := "blockBounds", apart := false }
def BlockBoundsSaid : Prop := blockBoundsRow.holds Try.pinned (OpenSpec.ofChange blockBoundsSpec)

/-- ITS FALSE NEIGHBOUR: 'it returns false'. Refute it at one input. -/
def blockBoundsWrong : ChangeSpec := { name := "blockBounds", fn := fun _ => fun
  | [d1, d2] => { results := [.lit (.bool false)], args := [d1, d2] }
  | _ => none }
def BlockBoundsWrongFalsely : Prop := blockBoundsRow.holds Try.pinned (OpenSpec.ofChange blockBoundsWrong)

/- THE SECOND FORM. 'bulk': how many values and letters a reading holds, each counted each time it is reached (what is shared counts as often as it is met; a slice's spare places count too). A statement '..UptoSaid' is the law's where the arguments, and the package variables that the reading takes, are together of bulk at most 1048576: NARROWER than '..Said'. Prove '..Said' where nothing that the law and all that it calls make is longer than what came in: it says more and counts as full. Else prove '..UptoSaid'. A law counts once. -/
mutual
def uptoBulk {H : Type} : DataW H → Nat
  | .lit (.string bytes) => bytes.length + 1
  | .lit _ => 1
  | .nil => 1
  | .ptr d => uptoBulk d + 1
  | .slice elems spare => uptoBulkAll elems + uptoBulkAll spare + 1
  | .agg parts => uptoBulkAll parts + 1
  | .iface _ d => uptoBulk d + 1
  | .map entries => uptoBulkEntries entries + 1
  | .held _ => 1
def uptoBulkAll {H : Type} : List (DataW H) → Nat
  | [] => 0
  | d :: r => uptoBulk d + uptoBulkAll r
def uptoBulkEntries {H : Type} : List (Lit × DataW H) → Nat
  | [] => 0
  | x :: r => uptoBulkEntry x + uptoBulkEntries r
def uptoBulkEntry {H : Type} : Lit × DataW H → Nat
  | (.string bytes, d) => bytes.length + uptoBulk d + 1
  | (_, d) => uptoBulk d + 1
 end
def uptoSmall : (H : Type) → List (DataW H) → Bool := fun _ ds => decide (uptoBulkAll ds ≤ 1048576)
def OpenSpec.upto (s : _root_.Go.ChangeSpec) : _root_.Go.OpenSpec := { _root_.Go.OpenSpec.ofChange s with cond := some uptoSmall }

/-- 'marqueelaw19.BlockTiles', WHERE WHAT IT READS IS OF BULK AT MOST 1048576: true; the input reads as it did. -/
def blockTilesUptoRow : OpenClaim := { program := "ytgfaincejebogaa", sum := "a316c2d9cc9aba807e444d93d8e9ca176377990a87360561f0d092c88ff9cf90", func := "marquee/marqueelaw19.BlockTiles", spec := "blockTiles", apart := false, narrowed := true }
def BlockTilesUptoSaid : Prop := blockTilesUptoRow.holds Try.pinned (OpenSpec.upto blockTilesSpec)

/-- 'marqueelaw19.BlockBounds', WHERE WHAT IT READS IS OF BULK AT MOST 1048576: true; the input reads as it did. -/
def blockBoundsUptoRow : OpenClaim := { program := "ytgfaincejebogaa", sum := "a316c2d9cc9aba807e444d93d8e9ca176377990a87360561f0d092c88ff9cf90", func := "marquee/marqueelaw19.BlockBounds", spec := "blockBounds", apart := false, narrowed := true }
def BlockBoundsUptoSaid : Prop := blockBoundsUptoRow.holds Try.pinned (OpenSpec.upto blockBoundsSpec)

end Rows
end Go.Proofs.Ytgfaincejebogaa
