/-
  DERIVED. GIVEN WITH THE SEED: THE CARDS: each row of YtfepjcmjkaolgaaGreatDoorRows.lean that lists a variable, with what it lists TIED to the program's text (the seventh form; the later family's looks); each row that meets fmt, with fmt's text TOLD by the authors' own Lean function (tested against real Go, not proved from fmt's source: count such statements apart). THE CARD IS WHAT COUNTS. Prove the row's statement (the work); the ties are given (YtfepjcmjkaolgaaGreatDoorTie.lean); close each card by the builder's one call (the guide's Derived/Test/ToyasCard.lean, 'card_holds'). Laid BY PROGRAM, IN A SANDBOX (cutbox-door.mjs). By AI agents, Wed Nov 11 2026. No macro, syntax, notation, axiom, sorry.
-/
import Derived.Test.YtfepjcmjkaolgaaGreatDoorRows
import GoSem.ClaimSeven
namespace Go.Proofs.YtfepjcmjkaolgaaGreatDoor
namespace Rows

/-- THE TIED CARD OF 'pentaglotlaw03.TransducerOutputs'. -/
def transducerOutputsCard : Claim7 := { stood := { row := transducerOutputsRow, standIns := [], harness := (true, "f1384d23b6fc7c77f7a4f3c355add41f01147e8a1db8ae5475613cc76d1e75a7"), looks := false }, kinds := [], alts := [], laidByText := true, laidKinds := [.data, .pinned], laidTests := true, laidLooks := .later }
def TransducerOutputsCardSaid : Prop := Claim7.holds Tryz.pinned (.plain (OpenSpec.ofChange transducerOutputsSpec)) transducerOutputsCard

/-- THE TIED CARD OF 'pentaglotlaw03.TransducerShortest'. -/
def transducerShortestCard : Claim7 := { stood := { row := transducerShortestRow, standIns := [], harness := (true, "f1384d23b6fc7c77f7a4f3c355add41f01147e8a1db8ae5475613cc76d1e75a7"), looks := false }, kinds := [], alts := [], laidByText := true, laidKinds := [.data, .pinned], laidTests := true, laidLooks := .later }
def TransducerShortestCardSaid : Prop := Claim7.holds Tryz.pinned (.plain (OpenSpec.ofChange transducerShortestSpec)) transducerShortestCard

/-- THE SECOND FORM's CARD OF 'pentaglotlaw03.TransducerOutputs'. -/
def transducerOutputsUptoCard : Claim7 := { stood := { row := transducerOutputsUptoRow, standIns := [], harness := (true, "f1384d23b6fc7c77f7a4f3c355add41f01147e8a1db8ae5475613cc76d1e75a7"), looks := false }, kinds := [], alts := [], laidByText := true, laidKinds := [.data, .pinned], laidTests := true, laidLooks := .later }
def TransducerOutputsUptoCardSaid : Prop := Claim7.holds Tryz.pinned (.plain (OpenSpec.upto transducerOutputsSpec)) transducerOutputsUptoCard

/-- THE SECOND FORM's CARD OF 'pentaglotlaw03.TransducerShortest'. -/
def transducerShortestUptoCard : Claim7 := { stood := { row := transducerShortestUptoRow, standIns := [], harness := (true, "f1384d23b6fc7c77f7a4f3c355add41f01147e8a1db8ae5475613cc76d1e75a7"), looks := false }, kinds := [], alts := [], laidByText := true, laidKinds := [.data, .pinned], laidTests := true, laidLooks := .later }
def TransducerShortestUptoCardSaid : Prop := Claim7.holds Tryz.pinned (.plain (OpenSpec.upto transducerShortestSpec)) transducerShortestUptoCard
end Rows
end Go.Proofs.YtfepjcmjkaolgaaGreatDoor
