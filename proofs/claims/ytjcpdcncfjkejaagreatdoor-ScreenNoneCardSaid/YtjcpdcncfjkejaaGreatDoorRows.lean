/-
  NARROWER THAN 'FOR EVERY INPUT', by the rows' own cells (each row's printed sentence says how): ScreenStays: laid · ScreenKeeps: laid · ScreenPlays: laid · ScreenFollows: laid · ScreenNone: laid · ScreenResizes: laid.
  DERIVED. THE GIVEN ROWS OF THIS SEAT. 6 by the template 'for every input the law returns true; each argument reads behind the call as it read before'; 0 by the template 'total and deterministic' (their statements: YtjcpdcncfjkejaaGreatDoorTotals.lean).
  GIVEN WITH THE SEED: the statements are not yours to turn. If you find one false, say at which input.
  Laid BY PROGRAM, IN A SANDBOX (cutbox-rows.mjs): the forced cells as the released guide's own fill.sh prints them over the translation 699af7946b391af3… (all of the seat's roots in one cut). By AI agents, Wed Nov 11 2026. No macro, syntax, notation, axiom, sorry.
-/
import Derived.Test.YtjcpdcncfjkejaaGreatDoorChecked
import GoSem.Claim
import GoSem.ClaimJoined
import GoSem.ClaimMapViews
import Derived.JoinedTies
import Derived.KernelRfl
namespace Go.Proofs.YtjcpdcncfjkejaaGreatDoor
/- THE CELL 'sum', in the pinned program and in every row, IS THE sha256 OF THE DUMP (.gsa) THAT YtjcpdcncfjkejaaGreatDoorProg.lean LOADS. Nothing in Lean hashes anything: it is a label: what it is worth is what the hold of that sum in a sandbox is worth. -/
noncomputable def Tryz.pinned : Pinned := { name := "ytjcpdcncfjkejaagreatdoor", sum := "699af7946b391af3b79f3341de2e8786faeb7f403feb7774515de638b3cf1f6d", checked := Tryz.checked }
namespace Rows
def none {H : Type} : Left H := { results := [], args := [] }

/- WHAT THE LISTED PACKAGE-LEVEL VARIABLES READ AS WHEN THE CALL BEGINS. Each datum BY PROGRAM (the guide's laid-datum.mjs) off the statement by which the dump's own 'gosem.cut.vars' lays the variable. In a bare row this is a premise. The card (YtjcpdcncfjkejaaGreatDoorCards.lean) ties it to the program's text. -/
def laid_math_bits_deBruijn64tab {H : Type} : DataW H := .agg [.lit (.int .u8 0), .lit (.int .u8 1), .lit (.int .u8 56), .lit (.int .u8 2), .lit (.int .u8 57), .lit (.int .u8 49), .lit (.int .u8 28), .lit (.int .u8 3), .lit (.int .u8 61), .lit (.int .u8 58), .lit (.int .u8 42), .lit (.int .u8 50), .lit (.int .u8 38), .lit (.int .u8 29), .lit (.int .u8 17), .lit (.int .u8 4), .lit (.int .u8 62), .lit (.int .u8 47), .lit (.int .u8 59), .lit (.int .u8 36), .lit (.int .u8 45), .lit (.int .u8 43), .lit (.int .u8 51), .lit (.int .u8 22), .lit (.int .u8 53), .lit (.int .u8 39), .lit (.int .u8 33), .lit (.int .u8 30), .lit (.int .u8 24), .lit (.int .u8 18), .lit (.int .u8 12), .lit (.int .u8 5), .lit (.int .u8 63), .lit (.int .u8 55), .lit (.int .u8 48), .lit (.int .u8 27), .lit (.int .u8 60), .lit (.int .u8 41), .lit (.int .u8 37), .lit (.int .u8 16), .lit (.int .u8 46), .lit (.int .u8 35), .lit (.int .u8 44), .lit (.int .u8 21), .lit (.int .u8 52), .lit (.int .u8 32), .lit (.int .u8 23), .lit (.int .u8 11), .lit (.int .u8 54), .lit (.int .u8 26), .lit (.int .u8 40), .lit (.int .u8 15), .lit (.int .u8 34), .lit (.int .u8 20), .lit (.int .u8 31), .lit (.int .u8 10), .lit (.int .u8 25), .lit (.int .u8 14), .lit (.int .u8 19), .lit (.int .u8 9), .lit (.int .u8 13), .lit (.int .u8 8), .lit (.int .u8 7), .lit (.int .u8 6)]

/-- 'marqueelaw14.ScreenStays': WHATEVER THE INPUT: true; the input reads as it did. -/
def screenStaysSpec : ChangeSpec := { name := "screenStays", fn := fun _ => fun
  | [d1, d2] => { results := [.lit (.bool true)], args := [d1, d2] }
  | _ => none }
def screenStaysRow : OpenClaim := { program := "ytjcpdcncfjkejaagreatdoor", sum := "699af7946b391af3b79f3341de2e8786faeb7f403feb7774515de638b3cf1f6d", func := "marquee/marqueelaw14.ScreenStays", spec := "screenStays", unfollowed := true, recurses := true, named := ["math/bits.deBruijn64tab"], apart := false, laid := [("math/bits.deBruijn64tab", laid_math_bits_deBruijn64tab)] }
def ScreenStaysSaid : Prop := screenStaysRow.holds Tryz.pinned (OpenSpec.ofChange screenStaysSpec)

/-- ITS FALSE NEIGHBOUR: 'it returns false'. Refute it at one input. -/
def screenStaysWrong : ChangeSpec := { name := "screenStays", fn := fun _ => fun
  | [d1, d2] => { results := [.lit (.bool false)], args := [d1, d2] }
  | _ => none }
def ScreenStaysWrongFalsely : Prop := screenStaysRow.holds Tryz.pinned (OpenSpec.ofChange screenStaysWrong)

/-- 'marqueelaw14.ScreenKeeps': WHATEVER THE INPUT: true; the input reads as it did. -/
def screenKeepsSpec : ChangeSpec := { name := "screenKeeps", fn := fun _ => fun
  | [d1, d2, d3] => { results := [.lit (.bool true)], args := [d1, d2, d3] }
  | _ => none }
def screenKeepsRow : OpenClaim := { program := "ytjcpdcncfjkejaagreatdoor", sum := "699af7946b391af3b79f3341de2e8786faeb7f403feb7774515de638b3cf1f6d", func := "marquee/marqueelaw14.ScreenKeeps", spec := "screenKeeps", unfollowed := true, recurses := true, named := ["math/bits.deBruijn64tab"], apart := false, laid := [("math/bits.deBruijn64tab", laid_math_bits_deBruijn64tab)] }
def ScreenKeepsSaid : Prop := screenKeepsRow.holds Tryz.pinned (OpenSpec.ofChange screenKeepsSpec)

/-- ITS FALSE NEIGHBOUR: 'it returns false'. Refute it at one input. -/
def screenKeepsWrong : ChangeSpec := { name := "screenKeeps", fn := fun _ => fun
  | [d1, d2, d3] => { results := [.lit (.bool false)], args := [d1, d2, d3] }
  | _ => none }
def ScreenKeepsWrongFalsely : Prop := screenKeepsRow.holds Tryz.pinned (OpenSpec.ofChange screenKeepsWrong)

/-- 'marqueelaw14.ScreenPlays': WHATEVER THE INPUT: true; the input reads as it did. -/
def screenPlaysSpec : ChangeSpec := { name := "screenPlays", fn := fun _ => fun
  | [d1, d2] => { results := [.lit (.bool true)], args := [d1, d2] }
  | _ => none }
def screenPlaysRow : OpenClaim := { program := "ytjcpdcncfjkejaagreatdoor", sum := "699af7946b391af3b79f3341de2e8786faeb7f403feb7774515de638b3cf1f6d", func := "marquee/marqueelaw14.ScreenPlays", spec := "screenPlays", unfollowed := true, recurses := true, named := ["math/bits.deBruijn64tab"], apart := false, laid := [("math/bits.deBruijn64tab", laid_math_bits_deBruijn64tab)] }
def ScreenPlaysSaid : Prop := screenPlaysRow.holds Tryz.pinned (OpenSpec.ofChange screenPlaysSpec)

/-- ITS FALSE NEIGHBOUR: 'it returns false'. Refute it at one input. -/
def screenPlaysWrong : ChangeSpec := { name := "screenPlays", fn := fun _ => fun
  | [d1, d2] => { results := [.lit (.bool false)], args := [d1, d2] }
  | _ => none }
def ScreenPlaysWrongFalsely : Prop := screenPlaysRow.holds Tryz.pinned (OpenSpec.ofChange screenPlaysWrong)

/-- 'marqueelaw14.ScreenFollows': WHATEVER THE INPUT: true; the input reads as it did. -/
def screenFollowsSpec : ChangeSpec := { name := "screenFollows", fn := fun _ => fun
  | [d1, d2, d3] => { results := [.lit (.bool true)], args := [d1, d2, d3] }
  | _ => none }
def screenFollowsRow : OpenClaim := { program := "ytjcpdcncfjkejaagreatdoor", sum := "699af7946b391af3b79f3341de2e8786faeb7f403feb7774515de638b3cf1f6d", func := "marquee/marqueelaw14.ScreenFollows", spec := "screenFollows", unfollowed := true, recurses := true, named := ["math/bits.deBruijn64tab"], apart := false, laid := [("math/bits.deBruijn64tab", laid_math_bits_deBruijn64tab)] }
def ScreenFollowsSaid : Prop := screenFollowsRow.holds Tryz.pinned (OpenSpec.ofChange screenFollowsSpec)

/-- ITS FALSE NEIGHBOUR: 'it returns false'. Refute it at one input. -/
def screenFollowsWrong : ChangeSpec := { name := "screenFollows", fn := fun _ => fun
  | [d1, d2, d3] => { results := [.lit (.bool false)], args := [d1, d2, d3] }
  | _ => none }
def ScreenFollowsWrongFalsely : Prop := screenFollowsRow.holds Tryz.pinned (OpenSpec.ofChange screenFollowsWrong)

/-- 'marqueelaw14.ScreenNone': WHATEVER THE INPUT: true; the input reads as it did. -/
def screenNoneSpec : ChangeSpec := { name := "screenNone", fn := fun _ => fun
  | [d1, d2, d3] => { results := [.lit (.bool true)], args := [d1, d2, d3] }
  | _ => none }
def screenNoneRow : OpenClaim := { program := "ytjcpdcncfjkejaagreatdoor", sum := "699af7946b391af3b79f3341de2e8786faeb7f403feb7774515de638b3cf1f6d", func := "marquee/marqueelaw14.ScreenNone", spec := "screenNone", unfollowed := true, recurses := true, named := ["math/bits.deBruijn64tab"], apart := false, laid := [("math/bits.deBruijn64tab", laid_math_bits_deBruijn64tab)] }
def ScreenNoneSaid : Prop := screenNoneRow.holds Tryz.pinned (OpenSpec.ofChange screenNoneSpec)

/-- ITS FALSE NEIGHBOUR: 'it returns false'. Refute it at one input. -/
def screenNoneWrong : ChangeSpec := { name := "screenNone", fn := fun _ => fun
  | [d1, d2, d3] => { results := [.lit (.bool false)], args := [d1, d2, d3] }
  | _ => none }
def ScreenNoneWrongFalsely : Prop := screenNoneRow.holds Tryz.pinned (OpenSpec.ofChange screenNoneWrong)

/-- 'marqueelaw14.ScreenResizes': WHATEVER THE INPUT: true; the input reads as it did. -/
def screenResizesSpec : ChangeSpec := { name := "screenResizes", fn := fun _ => fun
  | [d1, d2, d3] => { results := [.lit (.bool true)], args := [d1, d2, d3] }
  | _ => none }
def screenResizesRow : OpenClaim := { program := "ytjcpdcncfjkejaagreatdoor", sum := "699af7946b391af3b79f3341de2e8786faeb7f403feb7774515de638b3cf1f6d", func := "marquee/marqueelaw14.ScreenResizes", spec := "screenResizes", unfollowed := true, recurses := true, named := ["math/bits.deBruijn64tab"], apart := false, laid := [("math/bits.deBruijn64tab", laid_math_bits_deBruijn64tab)] }
def ScreenResizesSaid : Prop := screenResizesRow.holds Tryz.pinned (OpenSpec.ofChange screenResizesSpec)

/-- ITS FALSE NEIGHBOUR: 'it returns false'. Refute it at one input. -/
def screenResizesWrong : ChangeSpec := { name := "screenResizes", fn := fun _ => fun
  | [d1, d2, d3] => { results := [.lit (.bool false)], args := [d1, d2, d3] }
  | _ => none }
def ScreenResizesWrongFalsely : Prop := screenResizesRow.holds Tryz.pinned (OpenSpec.ofChange screenResizesWrong)

/- THE SECOND FORM. 'bulk': how many values and letters a reading holds, each counted each time it is reached (what is shared counts as often as it is met; a slice's spare places count too). A statement '..UptoSaid' is the law's where the arguments, and the package variables that the reading takes, are together of bulk at most 1048576: NARROWER than '..Said'. Prove '..Said' where nothing that the law and all that it calls make is longer than what came in: it says more and counts as full. Else prove '..UptoSaid'. A law counts once. -/
mutual
def uptoBulk {H : Type} : DataW H → Nat
  | .lit (.string bytes) => bytes.length + 1
  | .lit _ => 1
  | .nil => 1
  | .ptr d => uptoBulk d + 1
  | .slice elems spare => uptoBulkAll elems + uptoBulkAll spare + 1
  | .agg parts => uptoBulkAll parts + 1
  | .iface _ d => uptoBulk d + 1
  | .map entries => uptoBulkEntries entries + 1
  | .held _ => 1
def uptoBulkAll {H : Type} : List (DataW H) → Nat
  | [] => 0
  | d :: r => uptoBulk d + uptoBulkAll r
def uptoBulkEntries {H : Type} : List (Lit × DataW H) → Nat
  | [] => 0
  | x :: r => uptoBulkEntry x + uptoBulkEntries r
def uptoBulkEntry {H : Type} : Lit × DataW H → Nat
  | (.string bytes, d) => bytes.length + uptoBulk d + 1
  | (_, d) => uptoBulk d + 1
 end
def uptoSmall : (H : Type) → List (DataW H) → Bool := fun _ ds => decide (uptoBulkAll ds ≤ 1048576)
def OpenSpec.upto (s : _root_.Go.ChangeSpec) : _root_.Go.OpenSpec := { _root_.Go.OpenSpec.ofChange s with cond := some uptoSmall }

/-- 'marqueelaw14.ScreenStays', WHERE WHAT IT READS IS OF BULK AT MOST 1048576: true; the input reads as it did. -/
def screenStaysUptoRow : OpenClaim := { program := "ytjcpdcncfjkejaagreatdoor", sum := "699af7946b391af3b79f3341de2e8786faeb7f403feb7774515de638b3cf1f6d", func := "marquee/marqueelaw14.ScreenStays", spec := "screenStays", unfollowed := true, recurses := true, named := ["math/bits.deBruijn64tab"], apart := false, laid := [("math/bits.deBruijn64tab", laid_math_bits_deBruijn64tab)], narrowed := true }
def ScreenStaysUptoSaid : Prop := screenStaysUptoRow.holds Tryz.pinned (OpenSpec.upto screenStaysSpec)

/-- 'marqueelaw14.ScreenKeeps', WHERE WHAT IT READS IS OF BULK AT MOST 1048576: true; the input reads as it did. -/
def screenKeepsUptoRow : OpenClaim := { program := "ytjcpdcncfjkejaagreatdoor", sum := "699af7946b391af3b79f3341de2e8786faeb7f403feb7774515de638b3cf1f6d", func := "marquee/marqueelaw14.ScreenKeeps", spec := "screenKeeps", unfollowed := true, recurses := true, named := ["math/bits.deBruijn64tab"], apart := false, laid := [("math/bits.deBruijn64tab", laid_math_bits_deBruijn64tab)], narrowed := true }
def ScreenKeepsUptoSaid : Prop := screenKeepsUptoRow.holds Tryz.pinned (OpenSpec.upto screenKeepsSpec)

/-- 'marqueelaw14.ScreenPlays', WHERE WHAT IT READS IS OF BULK AT MOST 1048576: true; the input reads as it did. -/
def screenPlaysUptoRow : OpenClaim := { program := "ytjcpdcncfjkejaagreatdoor", sum := "699af7946b391af3b79f3341de2e8786faeb7f403feb7774515de638b3cf1f6d", func := "marquee/marqueelaw14.ScreenPlays", spec := "screenPlays", unfollowed := true, recurses := true, named := ["math/bits.deBruijn64tab"], apart := false, laid := [("math/bits.deBruijn64tab", laid_math_bits_deBruijn64tab)], narrowed := true }
def ScreenPlaysUptoSaid : Prop := screenPlaysUptoRow.holds Tryz.pinned (OpenSpec.upto screenPlaysSpec)

/-- 'marqueelaw14.ScreenFollows', WHERE WHAT IT READS IS OF BULK AT MOST 1048576: true; the input reads as it did. -/
def screenFollowsUptoRow : OpenClaim := { program := "ytjcpdcncfjkejaagreatdoor", sum := "699af7946b391af3b79f3341de2e8786faeb7f403feb7774515de638b3cf1f6d", func := "marquee/marqueelaw14.ScreenFollows", spec := "screenFollows", unfollowed := true, recurses := true, named := ["math/bits.deBruijn64tab"], apart := false, laid := [("math/bits.deBruijn64tab", laid_math_bits_deBruijn64tab)], narrowed := true }
def ScreenFollowsUptoSaid : Prop := screenFollowsUptoRow.holds Tryz.pinned (OpenSpec.upto screenFollowsSpec)

/-- 'marqueelaw14.ScreenNone', WHERE WHAT IT READS IS OF BULK AT MOST 1048576: true; the input reads as it did. -/
def screenNoneUptoRow : OpenClaim := { program := "ytjcpdcncfjkejaagreatdoor", sum := "699af7946b391af3b79f3341de2e8786faeb7f403feb7774515de638b3cf1f6d", func := "marquee/marqueelaw14.ScreenNone", spec := "screenNone", unfollowed := true, recurses := true, named := ["math/bits.deBruijn64tab"], apart := false, laid := [("math/bits.deBruijn64tab", laid_math_bits_deBruijn64tab)], narrowed := true }
def ScreenNoneUptoSaid : Prop := screenNoneUptoRow.holds Tryz.pinned (OpenSpec.upto screenNoneSpec)

/-- 'marqueelaw14.ScreenResizes', WHERE WHAT IT READS IS OF BULK AT MOST 1048576: true; the input reads as it did. -/
def screenResizesUptoRow : OpenClaim := { program := "ytjcpdcncfjkejaagreatdoor", sum := "699af7946b391af3b79f3341de2e8786faeb7f403feb7774515de638b3cf1f6d", func := "marquee/marqueelaw14.ScreenResizes", spec := "screenResizes", unfollowed := true, recurses := true, named := ["math/bits.deBruijn64tab"], apart := false, laid := [("math/bits.deBruijn64tab", laid_math_bits_deBruijn64tab)], narrowed := true }
def ScreenResizesUptoSaid : Prop := screenResizesUptoRow.holds Tryz.pinned (OpenSpec.upto screenResizesSpec)

end Rows
end Go.Proofs.YtjcpdcncfjkejaaGreatDoor
