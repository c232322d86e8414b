/-
  DERIVED. GIVEN WITH THE SEED: THE CARDS: each row of YtfepjcmjkaolgaaDoorRows.lean that lists a variable, with what it lists TIED to the program's text (the seventh form; the later family's looks); each row that meets fmt, with fmt's text TOLD by the authors' own Lean function (tested against real Go, not proved from fmt's source: count such statements apart). THE CARD IS WHAT COUNTS. Prove the row's statement (the work); the ties are given (YtfepjcmjkaolgaaDoorTie.lean); close each card by the builder's one call (the guide's Derived/Test/ToyasCard.lean, 'card_holds'). Laid BY PROGRAM, IN A SANDBOX (cutbox-door.mjs). By AI agents, Wed Nov 11 2026. No macro, syntax, notation, axiom, sorry.
-/
import Derived.Test.YtfepjcmjkaolgaaDoorRows
import GoSem.ClaimSeven
namespace Go.Proofs.YtfepjcmjkaolgaaDoor
namespace Rows

/-- THE TIED CARD OF 'pentaglotlaw03.TransducerRelates'. -/
def transducerRelatesCard : Claim7 := { stood := { row := transducerRelatesRow, standIns := [], harness := (true, "035beac27bb513dbc2d968bc340404574a74f61a54cf153216acd79aa4444186"), looks := false }, kinds := [], alts := [], laidByText := true, laidKinds := [.data, .pinned], laidTests := true, laidLooks := .later }
def TransducerRelatesCardSaid : Prop := Claim7.holds Tryd.pinned (.plain (OpenSpec.ofChange transducerRelatesSpec)) transducerRelatesCard

/-- THE SECOND FORM's CARD OF 'pentaglotlaw03.TransducerRelates'. -/
def transducerRelatesUptoCard : Claim7 := { stood := { row := transducerRelatesUptoRow, standIns := [], harness := (true, "035beac27bb513dbc2d968bc340404574a74f61a54cf153216acd79aa4444186"), looks := false }, kinds := [], alts := [], laidByText := true, laidKinds := [.data, .pinned], laidTests := true, laidLooks := .later }
def TransducerRelatesUptoCardSaid : Prop := Claim7.holds Tryd.pinned (.plain (OpenSpec.upto transducerRelatesSpec)) transducerRelatesUptoCard
end Rows
end Go.Proofs.YtfepjcmjkaolgaaDoor
