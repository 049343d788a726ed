/-
  DERIVED. GIVEN WITH THE SEED: THE CARDS: each row of YtjcpdcncfjkejaaGreatDoorRows.lean that lists a variable, with what it lists TIED to the program's text (the seventh form; the later family's looks); each row that meets fmt, with fmt's text TOLD by the authors' own Lean function (tested against real Go, not proved from fmt's source: count such statements apart). THE CARD IS WHAT COUNTS. Prove the row's statement (the work); the ties are given (YtjcpdcncfjkejaaGreatDoorTie.lean); close each card by the builder's one call (the guide's Derived/Test/ToyasCard.lean, 'card_holds'). Laid BY PROGRAM, IN A SANDBOX (cutbox-door.mjs). By AI agents, Wed Nov 11 2026. No macro, syntax, notation, axiom, sorry.
-/
import Derived.Test.YtjcpdcncfjkejaaGreatDoorRows
import GoSem.ClaimSeven
namespace Go.Proofs.YtjcpdcncfjkejaaGreatDoor
namespace Rows

/-- THE TIED CARD OF 'marqueelaw14.ScreenStays'. -/
def screenStaysCard : Claim7 := { stood := { row := screenStaysRow, standIns := [], harness := (true, "b0d5342d0257f62884e54d3b5535674ba3a46c98c013651b497374f15ed47f48"), looks := false }, kinds := [], alts := [], laidByText := true, laidKinds := [.data], laidTests := true, laidLooks := .later }
def ScreenStaysCardSaid : Prop := Claim7.holds Tryz.pinned (.plain (OpenSpec.ofChange screenStaysSpec)) screenStaysCard

/-- THE TIED CARD OF 'marqueelaw14.ScreenKeeps'. -/
def screenKeepsCard : Claim7 := { stood := { row := screenKeepsRow, standIns := [], harness := (true, "b0d5342d0257f62884e54d3b5535674ba3a46c98c013651b497374f15ed47f48"), looks := false }, kinds := [], alts := [], laidByText := true, laidKinds := [.data], laidTests := true, laidLooks := .later }
def ScreenKeepsCardSaid : Prop := Claim7.holds Tryz.pinned (.plain (OpenSpec.ofChange screenKeepsSpec)) screenKeepsCard

/-- THE TIED CARD OF 'marqueelaw14.ScreenPlays'. -/
def screenPlaysCard : Claim7 := { stood := { row := screenPlaysRow, standIns := [], harness := (true, "b0d5342d0257f62884e54d3b5535674ba3a46c98c013651b497374f15ed47f48"), looks := false }, kinds := [], alts := [], laidByText := true, laidKinds := [.data], laidTests := true, laidLooks := .later }
def ScreenPlaysCardSaid : Prop := Claim7.holds Tryz.pinned (.plain (OpenSpec.ofChange screenPlaysSpec)) screenPlaysCard

/-- THE TIED CARD OF 'marqueelaw14.ScreenFollows'. -/
def screenFollowsCard : Claim7 := { stood := { row := screenFollowsRow, standIns := [], harness := (true, "b0d5342d0257f62884e54d3b5535674ba3a46c98c013651b497374f15ed47f48"), looks := false }, kinds := [], alts := [], laidByText := true, laidKinds := [.data], laidTests := true, laidLooks := .later }
def ScreenFollowsCardSaid : Prop := Claim7.holds Tryz.pinned (.plain (OpenSpec.ofChange screenFollowsSpec)) screenFollowsCard

/-- THE TIED CARD OF 'marqueelaw14.ScreenNone'. -/
def screenNoneCard : Claim7 := { stood := { row := screenNoneRow, standIns := [], harness := (true, "b0d5342d0257f62884e54d3b5535674ba3a46c98c013651b497374f15ed47f48"), looks := false }, kinds := [], alts := [], laidByText := true, laidKinds := [.data], laidTests := true, laidLooks := .later }
def ScreenNoneCardSaid : Prop := Claim7.holds Tryz.pinned (.plain (OpenSpec.ofChange screenNoneSpec)) screenNoneCard

/-- THE TIED CARD OF 'marqueelaw14.ScreenResizes'. -/
def screenResizesCard : Claim7 := { stood := { row := screenResizesRow, standIns := [], harness := (true, "b0d5342d0257f62884e54d3b5535674ba3a46c98c013651b497374f15ed47f48"), looks := false }, kinds := [], alts := [], laidByText := true, laidKinds := [.data], laidTests := true, laidLooks := .later }
def ScreenResizesCardSaid : Prop := Claim7.holds Tryz.pinned (.plain (OpenSpec.ofChange screenResizesSpec)) screenResizesCard

/-- THE SECOND FORM's CARD OF 'marqueelaw14.ScreenStays'. -/
def screenStaysUptoCard : Claim7 := { stood := { row := screenStaysUptoRow, standIns := [], harness := (true, "b0d5342d0257f62884e54d3b5535674ba3a46c98c013651b497374f15ed47f48"), looks := false }, kinds := [], alts := [], laidByText := true, laidKinds := [.data], laidTests := true, laidLooks := .later }
def ScreenStaysUptoCardSaid : Prop := Claim7.holds Tryz.pinned (.plain (OpenSpec.upto screenStaysSpec)) screenStaysUptoCard

/-- THE SECOND FORM's CARD OF 'marqueelaw14.ScreenKeeps'. -/
def screenKeepsUptoCard : Claim7 := { stood := { row := screenKeepsUptoRow, standIns := [], harness := (true, "b0d5342d0257f62884e54d3b5535674ba3a46c98c013651b497374f15ed47f48"), looks := false }, kinds := [], alts := [], laidByText := true, laidKinds := [.data], laidTests := true, laidLooks := .later }
def ScreenKeepsUptoCardSaid : Prop := Claim7.holds Tryz.pinned (.plain (OpenSpec.upto screenKeepsSpec)) screenKeepsUptoCard

/-- THE SECOND FORM's CARD OF 'marqueelaw14.ScreenPlays'. -/
def screenPlaysUptoCard : Claim7 := { stood := { row := screenPlaysUptoRow, standIns := [], harness := (true, "b0d5342d0257f62884e54d3b5535674ba3a46c98c013651b497374f15ed47f48"), looks := false }, kinds := [], alts := [], laidByText := true, laidKinds := [.data], laidTests := true, laidLooks := .later }
def ScreenPlaysUptoCardSaid : Prop := Claim7.holds Tryz.pinned (.plain (OpenSpec.upto screenPlaysSpec)) screenPlaysUptoCard

/-- THE SECOND FORM's CARD OF 'marqueelaw14.ScreenFollows'. -/
def screenFollowsUptoCard : Claim7 := { stood := { row := screenFollowsUptoRow, standIns := [], harness := (true, "b0d5342d0257f62884e54d3b5535674ba3a46c98c013651b497374f15ed47f48"), looks := false }, kinds := [], alts := [], laidByText := true, laidKinds := [.data], laidTests := true, laidLooks := .later }
def ScreenFollowsUptoCardSaid : Prop := Claim7.holds Tryz.pinned (.plain (OpenSpec.upto screenFollowsSpec)) screenFollowsUptoCard

/-- THE SECOND FORM's CARD OF 'marqueelaw14.ScreenNone'. -/
def screenNoneUptoCard : Claim7 := { stood := { row := screenNoneUptoRow, standIns := [], harness := (true, "b0d5342d0257f62884e54d3b5535674ba3a46c98c013651b497374f15ed47f48"), looks := false }, kinds := [], alts := [], laidByText := true, laidKinds := [.data], laidTests := true, laidLooks := .later }
def ScreenNoneUptoCardSaid : Prop := Claim7.holds Tryz.pinned (.plain (OpenSpec.upto screenNoneSpec)) screenNoneUptoCard

/-- THE SECOND FORM's CARD OF 'marqueelaw14.ScreenResizes'. -/
def screenResizesUptoCard : Claim7 := { stood := { row := screenResizesUptoRow, standIns := [], harness := (true, "b0d5342d0257f62884e54d3b5535674ba3a46c98c013651b497374f15ed47f48"), looks := false }, kinds := [], alts := [], laidByText := true, laidKinds := [.data], laidTests := true, laidLooks := .later }
def ScreenResizesUptoCardSaid : Prop := Claim7.holds Tryz.pinned (.plain (OpenSpec.upto screenResizesSpec)) screenResizesUptoCard
end Rows
end Go.Proofs.YtjcpdcncfjkejaaGreatDoor
