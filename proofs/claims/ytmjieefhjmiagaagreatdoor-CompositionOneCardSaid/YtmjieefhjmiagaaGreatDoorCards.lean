/-
  DERIVED. GIVEN WITH THE SEED: THE CARDS: each row of YtmjieefhjmiagaaGreatDoorRows.lean that lists a variable, with what it lists TIED to the program's text (the seventh form; the later family's looks); each row that meets fmt, with fmt's text TOLD by the authors' own Lean function (tested against real Go, not proved from fmt's source: count such statements apart). THE CARD IS WHAT COUNTS. Prove the row's statement (the work); the ties are given (YtmjieefhjmiagaaGreatDoorTie.lean); close each card by the builder's one call (the guide's Derived/Test/ToyasCard.lean, 'card_holds'). Laid BY PROGRAM, IN A SANDBOX (cutbox-door.mjs). By AI agents, Wed Nov 11 2026. No macro, syntax, notation, axiom, sorry.
-/
import Derived.Test.YtmjieefhjmiagaaGreatDoorRows
import GoSem.ClaimSeven
namespace Go.Proofs.YtmjieefhjmiagaaGreatDoor
namespace Rows

/-- THE TIED CARD OF 'pentaglotlaw05.CompositionMiddle'. -/
def compositionMiddleCard : Claim7 := { stood := { row := compositionMiddleRow, standIns := [], harness := (true, "16dc36bfdf79750cae8abf94bc380b3c54ee53e91ec856a0fed0661b7c39b46b"), looks := false }, kinds := [], alts := [], laidByText := true, laidKinds := [.data, .pinned], laidTests := true, laidLooks := .later }
def CompositionMiddleCardSaid : Prop := Claim7.holds Tryz.pinned (.plain (OpenSpec.ofChange compositionMiddleSpec)) compositionMiddleCard

/-- THE TIED CARD OF 'pentaglotlaw05.CompositionGiven'. -/
def compositionGivenCard : Claim7 := { stood := { row := compositionGivenRow, standIns := [], harness := (true, "16dc36bfdf79750cae8abf94bc380b3c54ee53e91ec856a0fed0661b7c39b46b"), looks := false }, kinds := [], alts := [], laidByText := true, laidKinds := [.data, .pinned], laidTests := true, laidLooks := .later }
def CompositionGivenCardSaid : Prop := Claim7.holds Tryz.pinned (.plain (OpenSpec.ofChange compositionGivenSpec)) compositionGivenCard

/-- THE TIED CARD OF 'pentaglotlaw05.CompositionBetween'. -/
def compositionBetweenCard : Claim7 := { stood := { row := compositionBetweenRow, standIns := [], harness := (true, "16dc36bfdf79750cae8abf94bc380b3c54ee53e91ec856a0fed0661b7c39b46b"), looks := false }, kinds := [], alts := [], laidByText := true, laidKinds := [.data, .pinned], laidTests := true, laidLooks := .later }
def CompositionBetweenCardSaid : Prop := Claim7.holds Tryz.pinned (.plain (OpenSpec.ofChange compositionBetweenSpec)) compositionBetweenCard

/-- THE TIED CARD OF 'pentaglotlaw05.CompositionRestrict'. -/
def compositionRestrictCard : Claim7 := { stood := { row := compositionRestrictRow, standIns := [], harness := (true, "16dc36bfdf79750cae8abf94bc380b3c54ee53e91ec856a0fed0661b7c39b46b"), looks := false }, kinds := [], alts := [], laidByText := true, laidKinds := [.data, .pinned], laidTests := true, laidLooks := .later }
def CompositionRestrictCardSaid : Prop := Claim7.holds Tryz.pinned (.plain (OpenSpec.ofChange compositionRestrictSpec)) compositionRestrictCard

/-- THE TIED CARD OF 'pentaglotlaw05.CompositionOne'. -/
def compositionOneCard : Claim7 := { stood := { row := compositionOneRow, standIns := [], harness := (true, "16dc36bfdf79750cae8abf94bc380b3c54ee53e91ec856a0fed0661b7c39b46b"), looks := false }, kinds := [], alts := [], laidByText := true, laidKinds := [.data, .pinned], laidTests := true, laidLooks := .later }
def CompositionOneCardSaid : Prop := Claim7.holds Tryz.pinned (.plain (OpenSpec.ofChange compositionOneSpec)) compositionOneCard

/-- THE SECOND FORM's CARD OF 'pentaglotlaw05.CompositionMiddle'. -/
def compositionMiddleUptoCard : Claim7 := { stood := { row := compositionMiddleUptoRow, standIns := [], harness := (true, "16dc36bfdf79750cae8abf94bc380b3c54ee53e91ec856a0fed0661b7c39b46b"), looks := false }, kinds := [], alts := [], laidByText := true, laidKinds := [.data, .pinned], laidTests := true, laidLooks := .later }
def CompositionMiddleUptoCardSaid : Prop := Claim7.holds Tryz.pinned (.plain (OpenSpec.upto compositionMiddleSpec)) compositionMiddleUptoCard

/-- THE SECOND FORM's CARD OF 'pentaglotlaw05.CompositionGiven'. -/
def compositionGivenUptoCard : Claim7 := { stood := { row := compositionGivenUptoRow, standIns := [], harness := (true, "16dc36bfdf79750cae8abf94bc380b3c54ee53e91ec856a0fed0661b7c39b46b"), looks := false }, kinds := [], alts := [], laidByText := true, laidKinds := [.data, .pinned], laidTests := true, laidLooks := .later }
def CompositionGivenUptoCardSaid : Prop := Claim7.holds Tryz.pinned (.plain (OpenSpec.upto compositionGivenSpec)) compositionGivenUptoCard

/-- THE SECOND FORM's CARD OF 'pentaglotlaw05.CompositionBetween'. -/
def compositionBetweenUptoCard : Claim7 := { stood := { row := compositionBetweenUptoRow, standIns := [], harness := (true, "16dc36bfdf79750cae8abf94bc380b3c54ee53e91ec856a0fed0661b7c39b46b"), looks := false }, kinds := [], alts := [], laidByText := true, laidKinds := [.data, .pinned], laidTests := true, laidLooks := .later }
def CompositionBetweenUptoCardSaid : Prop := Claim7.holds Tryz.pinned (.plain (OpenSpec.upto compositionBetweenSpec)) compositionBetweenUptoCard

/-- THE SECOND FORM's CARD OF 'pentaglotlaw05.CompositionRestrict'. -/
def compositionRestrictUptoCard : Claim7 := { stood := { row := compositionRestrictUptoRow, standIns := [], harness := (true, "16dc36bfdf79750cae8abf94bc380b3c54ee53e91ec856a0fed0661b7c39b46b"), looks := false }, kinds := [], alts := [], laidByText := true, laidKinds := [.data, .pinned], laidTests := true, laidLooks := .later }
def CompositionRestrictUptoCardSaid : Prop := Claim7.holds Tryz.pinned (.plain (OpenSpec.upto compositionRestrictSpec)) compositionRestrictUptoCard

/-- THE SECOND FORM's CARD OF 'pentaglotlaw05.CompositionOne'. -/
def compositionOneUptoCard : Claim7 := { stood := { row := compositionOneUptoRow, standIns := [], harness := (true, "16dc36bfdf79750cae8abf94bc380b3c54ee53e91ec856a0fed0661b7c39b46b"), looks := false }, kinds := [], alts := [], laidByText := true, laidKinds := [.data, .pinned], laidTests := true, laidLooks := .later }
def CompositionOneUptoCardSaid : Prop := Claim7.holds Tryz.pinned (.plain (OpenSpec.upto compositionOneSpec)) compositionOneUptoCard
end Rows
end Go.Proofs.YtmjieefhjmiagaaGreatDoor
