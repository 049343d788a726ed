/-
  DERIVED. GIVEN WITH THE SEED: THE CARDS: each row of YtbllhchcccflkaaDoorRows.lean that lists a variable, with what it lists TIED to the program's text (the seventh form; the later family's looks); each row that meets fmt, with fmt's text TOLD by the authors' own Lean function (tested against real Go, not proved from fmt's source: count such statements apart). THE CARD IS WHAT COUNTS. Prove the row's statement (the work); the ties are given (YtbllhchcccflkaaDoorTie.lean); close each card by the builder's one call (the guide's Derived/Test/ToyasCard.lean, 'card_holds'). Laid BY PROGRAM, IN A SANDBOX (cutbox-door.mjs). By AI agents, Wed Nov 11 2026. No macro, syntax, notation, axiom, sorry.
-/
import Derived.Test.YtbllhchcccflkaaDoorRows
import GoSem.ClaimSeven
namespace Go.Proofs.YtbllhchcccflkaaDoor
namespace Rows

/-- THE TIED CARD OF 'marqueelaw29.DeltaSame'. -/
def deltaSameCard : Claim7 := { stood := { row := deltaSameRow, standIns := [], harness := (true, "b3224b7831fdd9a4f0cfe1821c01e2e7f213df596a91895695018664c7618fe1"), looks := false }, kinds := [], alts := [], laidByText := true, laidKinds := [.data, .data, .data], laidTests := true, laidLooks := .later }
def DeltaSameCardSaid : Prop := Claim7.holds Tryd.pinned (.plain (OpenSpec.ofChange deltaSameSpec)) deltaSameCard

/-- THE SECOND FORM's CARD OF 'marqueelaw29.DeltaSame'. -/
def deltaSameUptoCard : Claim7 := { stood := { row := deltaSameUptoRow, standIns := [], harness := (true, "b3224b7831fdd9a4f0cfe1821c01e2e7f213df596a91895695018664c7618fe1"), looks := false }, kinds := [], alts := [], laidByText := true, laidKinds := [.data, .data, .data], laidTests := true, laidLooks := .later }
def DeltaSameUptoCardSaid : Prop := Claim7.holds Tryd.pinned (.plain (OpenSpec.upto deltaSameSpec)) deltaSameUptoCard
end Rows
end Go.Proofs.YtbllhchcccflkaaDoor
