/-
  DERIVED. GIVEN WITH THE SEED: THE CARDS: each row of YtmjieefhjmiagaaDoorRows.lean that lists a variable, with what it lists TIED to the program's text (the seventh form; the later family's looks); each row that meets fmt, with fmt's text TOLD by the authors' own Lean function (tested against real Go, not proved from fmt's source: count such statements apart). THE CARD IS WHAT COUNTS. Prove the row's statement (the work); the ties are given (YtmjieefhjmiagaaDoorTie.lean); close each card by the builder's one call (the guide's Derived/Test/ToyasCard.lean, 'card_holds'). Laid BY PROGRAM, IN A SANDBOX (cutbox-door.mjs). By AI agents, Wed Nov 11 2026. No macro, syntax, notation, axiom, sorry.
-/
import Derived.Test.YtmjieefhjmiagaaDoorRows
import GoSem.ClaimSeven
namespace Go.Proofs.YtmjieefhjmiagaaDoor
namespace Rows

/-- THE TIED CARD OF 'pentaglotlaw05.CompositionCompose'. -/
def compositionComposeCard : Claim7 := { stood := { row := compositionComposeRow, standIns := [], harness := (true, "932bda2d749316f23d17011e6cf13aeb389b53526aea5f20b32e499c9858dea6"), looks := false }, kinds := [], alts := [], laidByText := true, laidKinds := [.data, .pinned], laidTests := true, laidLooks := .later }
def CompositionComposeCardSaid : Prop := Claim7.holds Tryd.pinned (.plain (OpenSpec.ofChange compositionComposeSpec)) compositionComposeCard

/-- THE TIED CARD OF 'pentaglotlaw05.CompositionThrough'. -/
def compositionThroughCard : Claim7 := { stood := { row := compositionThroughRow, standIns := [], harness := (true, "932bda2d749316f23d17011e6cf13aeb389b53526aea5f20b32e499c9858dea6"), looks := false }, kinds := [], alts := [], laidByText := true, laidKinds := [.data, .pinned], laidTests := true, laidLooks := .later }
def CompositionThroughCardSaid : Prop := Claim7.holds Tryd.pinned (.plain (OpenSpec.ofChange compositionThroughSpec)) compositionThroughCard

/-- THE TIED CARD OF 'pentaglotlaw05.CompositionAssociates'. -/
def compositionAssociatesCard : Claim7 := { stood := { row := compositionAssociatesRow, standIns := [], harness := (true, "932bda2d749316f23d17011e6cf13aeb389b53526aea5f20b32e499c9858dea6"), looks := false }, kinds := [], alts := [], laidByText := true, laidKinds := [.data, .pinned], laidTests := true, laidLooks := .later }
def CompositionAssociatesCardSaid : Prop := Claim7.holds Tryd.pinned (.plain (OpenSpec.ofChange compositionAssociatesSpec)) compositionAssociatesCard

/-- THE TIED CARD OF 'pentaglotlaw05.CompositionChain'. -/
def compositionChainCard : Claim7 := { stood := { row := compositionChainRow, standIns := [], harness := (true, "932bda2d749316f23d17011e6cf13aeb389b53526aea5f20b32e499c9858dea6"), looks := false }, kinds := [], alts := [], laidByText := true, laidKinds := [.data, .pinned], laidTests := true, laidLooks := .later }
def CompositionChainCardSaid : Prop := Claim7.holds Tryd.pinned (.plain (OpenSpec.ofChange compositionChainSpec)) compositionChainCard

/-- THE TIED CARD OF 'pentaglotlaw05.CompositionRelates'. -/
def compositionRelatesCard : Claim7 := { stood := { row := compositionRelatesRow, standIns := [], harness := (true, "932bda2d749316f23d17011e6cf13aeb389b53526aea5f20b32e499c9858dea6"), looks := false }, kinds := [], alts := [], laidByText := true, laidKinds := [.data, .pinned], laidTests := true, laidLooks := .later }
def CompositionRelatesCardSaid : Prop := Claim7.holds Tryd.pinned (.plain (OpenSpec.ofChange compositionRelatesSpec)) compositionRelatesCard

/-- THE TIED CARD OF 'pentaglotlaw05.CompositionFunctional'. -/
def compositionFunctionalCard : Claim7 := { stood := { row := compositionFunctionalRow, standIns := [], harness := (true, "932bda2d749316f23d17011e6cf13aeb389b53526aea5f20b32e499c9858dea6"), looks := false }, kinds := [], alts := [], laidByText := true, laidKinds := [.data, .pinned], laidTests := true, laidLooks := .later }
def CompositionFunctionalCardSaid : Prop := Claim7.holds Tryd.pinned (.plain (OpenSpec.ofChange compositionFunctionalSpec)) compositionFunctionalCard

/-- THE TIED CARD OF 'pentaglotlaw05.CompositionInverts'. -/
def compositionInvertsCard : Claim7 := { stood := { row := compositionInvertsRow, standIns := [], harness := (true, "932bda2d749316f23d17011e6cf13aeb389b53526aea5f20b32e499c9858dea6"), looks := false }, kinds := [], alts := [], laidByText := true, laidKinds := [.data, .pinned], laidTests := true, laidLooks := .later }
def CompositionInvertsCardSaid : Prop := Claim7.holds Tryd.pinned (.plain (OpenSpec.ofChange compositionInvertsSpec)) compositionInvertsCard

/-- THE SECOND FORM's CARD OF 'pentaglotlaw05.CompositionCompose'. -/
def compositionComposeUptoCard : Claim7 := { stood := { row := compositionComposeUptoRow, standIns := [], harness := (true, "932bda2d749316f23d17011e6cf13aeb389b53526aea5f20b32e499c9858dea6"), looks := false }, kinds := [], alts := [], laidByText := true, laidKinds := [.data, .pinned], laidTests := true, laidLooks := .later }
def CompositionComposeUptoCardSaid : Prop := Claim7.holds Tryd.pinned (.plain (OpenSpec.upto compositionComposeSpec)) compositionComposeUptoCard

/-- THE SECOND FORM's CARD OF 'pentaglotlaw05.CompositionThrough'. -/
def compositionThroughUptoCard : Claim7 := { stood := { row := compositionThroughUptoRow, standIns := [], harness := (true, "932bda2d749316f23d17011e6cf13aeb389b53526aea5f20b32e499c9858dea6"), looks := false }, kinds := [], alts := [], laidByText := true, laidKinds := [.data, .pinned], laidTests := true, laidLooks := .later }
def CompositionThroughUptoCardSaid : Prop := Claim7.holds Tryd.pinned (.plain (OpenSpec.upto compositionThroughSpec)) compositionThroughUptoCard

/-- THE SECOND FORM's CARD OF 'pentaglotlaw05.CompositionAssociates'. -/
def compositionAssociatesUptoCard : Claim7 := { stood := { row := compositionAssociatesUptoRow, standIns := [], harness := (true, "932bda2d749316f23d17011e6cf13aeb389b53526aea5f20b32e499c9858dea6"), looks := false }, kinds := [], alts := [], laidByText := true, laidKinds := [.data, .pinned], laidTests := true, laidLooks := .later }
def CompositionAssociatesUptoCardSaid : Prop := Claim7.holds Tryd.pinned (.plain (OpenSpec.upto compositionAssociatesSpec)) compositionAssociatesUptoCard

/-- THE SECOND FORM's CARD OF 'pentaglotlaw05.CompositionChain'. -/
def compositionChainUptoCard : Claim7 := { stood := { row := compositionChainUptoRow, standIns := [], harness := (true, "932bda2d749316f23d17011e6cf13aeb389b53526aea5f20b32e499c9858dea6"), looks := false }, kinds := [], alts := [], laidByText := true, laidKinds := [.data, .pinned], laidTests := true, laidLooks := .later }
def CompositionChainUptoCardSaid : Prop := Claim7.holds Tryd.pinned (.plain (OpenSpec.upto compositionChainSpec)) compositionChainUptoCard

/-- THE SECOND FORM's CARD OF 'pentaglotlaw05.CompositionRelates'. -/
def compositionRelatesUptoCard : Claim7 := { stood := { row := compositionRelatesUptoRow, standIns := [], harness := (true, "932bda2d749316f23d17011e6cf13aeb389b53526aea5f20b32e499c9858dea6"), looks := false }, kinds := [], alts := [], laidByText := true, laidKinds := [.data, .pinned], laidTests := true, laidLooks := .later }
def CompositionRelatesUptoCardSaid : Prop := Claim7.holds Tryd.pinned (.plain (OpenSpec.upto compositionRelatesSpec)) compositionRelatesUptoCard

/-- THE SECOND FORM's CARD OF 'pentaglotlaw05.CompositionFunctional'. -/
def compositionFunctionalUptoCard : Claim7 := { stood := { row := compositionFunctionalUptoRow, standIns := [], harness := (true, "932bda2d749316f23d17011e6cf13aeb389b53526aea5f20b32e499c9858dea6"), looks := false }, kinds := [], alts := [], laidByText := true, laidKinds := [.data, .pinned], laidTests := true, laidLooks := .later }
def CompositionFunctionalUptoCardSaid : Prop := Claim7.holds Tryd.pinned (.plain (OpenSpec.upto compositionFunctionalSpec)) compositionFunctionalUptoCard

/-- THE SECOND FORM's CARD OF 'pentaglotlaw05.CompositionInverts'. -/
def compositionInvertsUptoCard : Claim7 := { stood := { row := compositionInvertsUptoRow, standIns := [], harness := (true, "932bda2d749316f23d17011e6cf13aeb389b53526aea5f20b32e499c9858dea6"), looks := false }, kinds := [], alts := [], laidByText := true, laidKinds := [.data, .pinned], laidTests := true, laidLooks := .later }
def CompositionInvertsUptoCardSaid : Prop := Claim7.holds Tryd.pinned (.plain (OpenSpec.upto compositionInvertsSpec)) compositionInvertsUptoCard
end Rows
end Go.Proofs.YtmjieefhjmiagaaDoor
