/-
  DERIVED. GIVEN WITH THE SEED: THE CARDS: each row of YtaefcahblmopfaaGreatDoorRows.lean that lists a variable, with what it lists TIED to the program's text (the seventh form; the later family's looks); each row that meets fmt, with fmt's text TOLD by the authors' own Lean function (tested against real Go, not proved from fmt's source: count such statements apart). THE CARD IS WHAT COUNTS. Prove the row's statement (the work); the ties are given (YtaefcahblmopfaaGreatDoorTie.lean); close each card by the builder's one call (the guide's Derived/Test/ToyasCard.lean, 'card_holds'). Laid BY PROGRAM, IN A SANDBOX (cutbox-door.mjs). By AI agents, Wed Nov 11 2026. No macro, syntax, notation, axiom, sorry.
-/
import Derived.Test.YtaefcahblmopfaaGreatDoorRows
import GoSem.ClaimSeven
namespace Go.Proofs.YtaefcahblmopfaaGreatDoor
namespace Rows

/-- THE TIED CARD OF 'marqueelaw18.TermNone'. -/
def termNoneCard : Claim7 := { stood := { row := termNoneRow, standIns := [], harness := (true, "815eb328fcad13ceeaf16d8e9dd3f27940b4b0f96b1710a88f6e049ca50b32e9"), looks := true }, kinds := [], alts := [], laidByText := true, laidKinds := [.data, .data, .data, .data, .sentinel, .sentinel, .pinned], laidTests := true, laidLooks := .later }
def TermNoneCardSaid : Prop := Claim7.holds Tryz.pinned (.plain (OpenSpec.ofChange termNoneSpec)) termNoneCard

/-- THE TIED CARD OF 'marqueelaw28.DrawRight'. -/
def drawRightCard : Claim7 := { stood := { row := drawRightRow, standIns := [], harness := (true, "815eb328fcad13ceeaf16d8e9dd3f27940b4b0f96b1710a88f6e049ca50b32e9"), looks := true }, kinds := [], alts := [], laidByText := true, laidKinds := [.data, .data, .data, .data, .sentinel, .sentinel, .pinned], laidTests := true, laidLooks := .later }
def DrawRightCardSaid : Prop := Claim7.holds Tryz.pinned (.plain (OpenSpec.ofChange drawRightSpec)) drawRightCard

/-- THE TIED CARD OF 'marqueelaw28.DrawPlain'. -/
def drawPlainCard : Claim7 := { stood := { row := drawPlainRow, standIns := [], harness := (true, "815eb328fcad13ceeaf16d8e9dd3f27940b4b0f96b1710a88f6e049ca50b32e9"), looks := true }, kinds := [], alts := [], laidByText := true, laidKinds := [.data, .data, .data, .data, .sentinel, .sentinel, .pinned], laidTests := true, laidLooks := .later }
def DrawPlainCardSaid : Prop := Claim7.holds Tryz.pinned (.plain (OpenSpec.ofChange drawPlainSpec)) drawPlainCard

/-- THE TIED CARD OF 'marqueelaw28.DrawFlat'. -/
def drawFlatCard : Claim7 := { stood := { row := drawFlatRow, standIns := [], harness := (true, "815eb328fcad13ceeaf16d8e9dd3f27940b4b0f96b1710a88f6e049ca50b32e9"), looks := true }, kinds := [], alts := [], laidByText := true, laidKinds := [.data, .data, .data, .data, .sentinel, .sentinel, .pinned], laidTests := true, laidLooks := .later }
def DrawFlatCardSaid : Prop := Claim7.holds Tryz.pinned (.plain (OpenSpec.ofChange drawFlatSpec)) drawFlatCard

/-- THE SECOND FORM's CARD OF 'marqueelaw18.TermNone'. -/
def termNoneUptoCard : Claim7 := { stood := { row := termNoneUptoRow, standIns := [], harness := (true, "815eb328fcad13ceeaf16d8e9dd3f27940b4b0f96b1710a88f6e049ca50b32e9"), looks := true }, kinds := [], alts := [], laidByText := true, laidKinds := [.data, .data, .data, .data, .sentinel, .sentinel, .pinned], laidTests := true, laidLooks := .later }
def TermNoneUptoCardSaid : Prop := Claim7.holds Tryz.pinned (.plain (OpenSpec.upto termNoneSpec)) termNoneUptoCard

/-- THE SECOND FORM's CARD OF 'marqueelaw28.DrawRight'. -/
def drawRightUptoCard : Claim7 := { stood := { row := drawRightUptoRow, standIns := [], harness := (true, "815eb328fcad13ceeaf16d8e9dd3f27940b4b0f96b1710a88f6e049ca50b32e9"), looks := true }, kinds := [], alts := [], laidByText := true, laidKinds := [.data, .data, .data, .data, .sentinel, .sentinel, .pinned], laidTests := true, laidLooks := .later }
def DrawRightUptoCardSaid : Prop := Claim7.holds Tryz.pinned (.plain (OpenSpec.upto drawRightSpec)) drawRightUptoCard

/-- THE SECOND FORM's CARD OF 'marqueelaw28.DrawPlain'. -/
def drawPlainUptoCard : Claim7 := { stood := { row := drawPlainUptoRow, standIns := [], harness := (true, "815eb328fcad13ceeaf16d8e9dd3f27940b4b0f96b1710a88f6e049ca50b32e9"), looks := true }, kinds := [], alts := [], laidByText := true, laidKinds := [.data, .data, .data, .data, .sentinel, .sentinel, .pinned], laidTests := true, laidLooks := .later }
def DrawPlainUptoCardSaid : Prop := Claim7.holds Tryz.pinned (.plain (OpenSpec.upto drawPlainSpec)) drawPlainUptoCard

/-- THE SECOND FORM's CARD OF 'marqueelaw28.DrawFlat'. -/
def drawFlatUptoCard : Claim7 := { stood := { row := drawFlatUptoRow, standIns := [], harness := (true, "815eb328fcad13ceeaf16d8e9dd3f27940b4b0f96b1710a88f6e049ca50b32e9"), looks := true }, kinds := [], alts := [], laidByText := true, laidKinds := [.data, .data, .data, .data, .sentinel, .sentinel, .pinned], laidTests := true, laidLooks := .later }
def DrawFlatUptoCardSaid : Prop := Claim7.holds Tryz.pinned (.plain (OpenSpec.upto drawFlatSpec)) drawFlatUptoCard
end Rows
end Go.Proofs.YtaefcahblmopfaaGreatDoor
