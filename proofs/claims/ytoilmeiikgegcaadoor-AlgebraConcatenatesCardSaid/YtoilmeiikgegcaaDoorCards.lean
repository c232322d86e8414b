/-
  DERIVED. GIVEN WITH THE SEED: THE CARDS: each row of YtoilmeiikgegcaaDoorRows.lean that lists a variable, with what it lists TIED to the program's text (the seventh form; the later family's looks); each row that meets fmt, with fmt's text TOLD by the authors' own Lean function (tested against real Go, not proved from fmt's source: count such statements apart). THE CARD IS WHAT COUNTS. Prove the row's statement (the work); the ties are given (YtoilmeiikgegcaaDoorTie.lean); close each card by the builder's one call (the guide's Derived/Test/ToyasCard.lean, 'card_holds'). Laid BY PROGRAM, IN A SANDBOX (cutbox-door.mjs). By AI agents, Wed Nov 11 2026. No macro, syntax, notation, axiom, sorry.
-/
import Derived.Test.YtoilmeiikgegcaaDoorRows
import GoSem.ClaimSeven
namespace Go.Proofs.YtoilmeiikgegcaaDoor
namespace Rows

/-- THE TIED CARD OF 'pentaglotlaw04.AlgebraPairs'. -/
def algebraPairsCard : Claim7 := { stood := { row := algebraPairsRow, standIns := [], harness := (true, "a0af61fcb6d8acb704c3b9a10158e9363b2f4ce9ad95f543fbdcd9f649e9b96f"), looks := false }, kinds := [], alts := [], laidByText := true, laidKinds := [.data, .pinned], laidTests := true, laidLooks := .later }
def AlgebraPairsCardSaid : Prop := Claim7.holds Tryd.pinned (.plain (OpenSpec.ofChange algebraPairsSpec)) algebraPairsCard

/-- THE TIED CARD OF 'pentaglotlaw04.AlgebraLists'. -/
def algebraListsCard : Claim7 := { stood := { row := algebraListsRow, standIns := [], harness := (true, "a0af61fcb6d8acb704c3b9a10158e9363b2f4ce9ad95f543fbdcd9f649e9b96f"), looks := false }, kinds := [], alts := [], laidByText := true, laidKinds := [.data, .pinned], laidTests := true, laidLooks := .later }
def AlgebraListsCardSaid : Prop := Claim7.holds Tryd.pinned (.plain (OpenSpec.ofChange algebraListsSpec)) algebraListsCard

/-- THE TIED CARD OF 'pentaglotlaw04.AlgebraUnites'. -/
def algebraUnitesCard : Claim7 := { stood := { row := algebraUnitesRow, standIns := [], harness := (true, "a0af61fcb6d8acb704c3b9a10158e9363b2f4ce9ad95f543fbdcd9f649e9b96f"), looks := false }, kinds := [], alts := [], laidByText := true, laidKinds := [.data, .pinned], laidTests := true, laidLooks := .later }
def AlgebraUnitesCardSaid : Prop := Claim7.holds Tryd.pinned (.plain (OpenSpec.ofChange algebraUnitesSpec)) algebraUnitesCard

/-- THE TIED CARD OF 'pentaglotlaw04.AlgebraRepeats'. -/
def algebraRepeatsCard : Claim7 := { stood := { row := algebraRepeatsRow, standIns := [], harness := (true, "a0af61fcb6d8acb704c3b9a10158e9363b2f4ce9ad95f543fbdcd9f649e9b96f"), looks := false }, kinds := [], alts := [], laidByText := true, laidKinds := [.data, .pinned], laidTests := true, laidLooks := .later }
def AlgebraRepeatsCardSaid : Prop := Claim7.holds Tryd.pinned (.plain (OpenSpec.ofChange algebraRepeatsSpec)) algebraRepeatsCard

/-- THE TIED CARD OF 'pentaglotlaw04.AlgebraLabels'. -/
def algebraLabelsCard : Claim7 := { stood := { row := algebraLabelsRow, standIns := [], harness := (true, "a0af61fcb6d8acb704c3b9a10158e9363b2f4ce9ad95f543fbdcd9f649e9b96f"), looks := false }, kinds := [], alts := [], laidByText := true, laidKinds := [.data, .pinned], laidTests := true, laidLooks := .later }
def AlgebraLabelsCardSaid : Prop := Claim7.holds Tryd.pinned (.plain (OpenSpec.ofChange algebraLabelsSpec)) algebraLabelsCard

/-- THE TIED CARD OF 'pentaglotlaw04.AlgebraTurns'. -/
def algebraTurnsCard : Claim7 := { stood := { row := algebraTurnsRow, standIns := [], harness := (true, "a0af61fcb6d8acb704c3b9a10158e9363b2f4ce9ad95f543fbdcd9f649e9b96f"), looks := false }, kinds := [], alts := [], laidByText := true, laidKinds := [.data, .pinned], laidTests := true, laidLooks := .later }
def AlgebraTurnsCardSaid : Prop := Claim7.holds Tryd.pinned (.plain (OpenSpec.ofChange algebraTurnsSpec)) algebraTurnsCard

/-- THE TIED CARD OF 'pentaglotlaw04.AlgebraInverts'. -/
def algebraInvertsCard : Claim7 := { stood := { row := algebraInvertsRow, standIns := [], harness := (true, "a0af61fcb6d8acb704c3b9a10158e9363b2f4ce9ad95f543fbdcd9f649e9b96f"), looks := false }, kinds := [], alts := [], laidByText := true, laidKinds := [.data, .pinned], laidTests := true, laidLooks := .later }
def AlgebraInvertsCardSaid : Prop := Claim7.holds Tryd.pinned (.plain (OpenSpec.ofChange algebraInvertsSpec)) algebraInvertsCard

/-- THE TIED CARD OF 'pentaglotlaw04.AlgebraJoins'. -/
def algebraJoinsCard : Claim7 := { stood := { row := algebraJoinsRow, standIns := [], harness := (true, "a0af61fcb6d8acb704c3b9a10158e9363b2f4ce9ad95f543fbdcd9f649e9b96f"), looks := false }, kinds := [], alts := [], laidByText := true, laidKinds := [.data, .pinned], laidTests := true, laidLooks := .later }
def AlgebraJoinsCardSaid : Prop := Claim7.holds Tryd.pinned (.plain (OpenSpec.ofChange algebraJoinsSpec)) algebraJoinsCard

/-- THE TIED CARD OF 'pentaglotlaw04.AlgebraConcatenates'. -/
def algebraConcatenatesCard : Claim7 := { stood := { row := algebraConcatenatesRow, standIns := [], harness := (true, "a0af61fcb6d8acb704c3b9a10158e9363b2f4ce9ad95f543fbdcd9f649e9b96f"), looks := false }, kinds := [], alts := [], laidByText := true, laidKinds := [.data, .pinned], laidTests := true, laidLooks := .later }
def AlgebraConcatenatesCardSaid : Prop := Claim7.holds Tryd.pinned (.plain (OpenSpec.ofChange algebraConcatenatesSpec)) algebraConcatenatesCard

/-- THE TIED CARD OF 'pentaglotlaw04.AlgebraProjects'. -/
def algebraProjectsCard : Claim7 := { stood := { row := algebraProjectsRow, standIns := [], harness := (true, "a0af61fcb6d8acb704c3b9a10158e9363b2f4ce9ad95f543fbdcd9f649e9b96f"), looks := false }, kinds := [], alts := [], laidByText := true, laidKinds := [.data, .pinned], laidTests := true, laidLooks := .later }
def AlgebraProjectsCardSaid : Prop := Claim7.holds Tryd.pinned (.plain (OpenSpec.ofChange algebraProjectsSpec)) algebraProjectsCard

/-- THE TIED CARD OF 'pentaglotlaw04.AlgebraIdentities'. -/
def algebraIdentitiesCard : Claim7 := { stood := { row := algebraIdentitiesRow, standIns := [], harness := (true, "a0af61fcb6d8acb704c3b9a10158e9363b2f4ce9ad95f543fbdcd9f649e9b96f"), looks := false }, kinds := [], alts := [], laidByText := true, laidKinds := [.data, .pinned], laidTests := true, laidLooks := .later }
def AlgebraIdentitiesCardSaid : Prop := Claim7.holds Tryd.pinned (.plain (OpenSpec.ofChange algebraIdentitiesSpec)) algebraIdentitiesCard

/-- THE SECOND FORM's CARD OF 'pentaglotlaw04.AlgebraPairs'. -/
def algebraPairsUptoCard : Claim7 := { stood := { row := algebraPairsUptoRow, standIns := [], harness := (true, "a0af61fcb6d8acb704c3b9a10158e9363b2f4ce9ad95f543fbdcd9f649e9b96f"), looks := false }, kinds := [], alts := [], laidByText := true, laidKinds := [.data, .pinned], laidTests := true, laidLooks := .later }
def AlgebraPairsUptoCardSaid : Prop := Claim7.holds Tryd.pinned (.plain (OpenSpec.upto algebraPairsSpec)) algebraPairsUptoCard

/-- THE SECOND FORM's CARD OF 'pentaglotlaw04.AlgebraLists'. -/
def algebraListsUptoCard : Claim7 := { stood := { row := algebraListsUptoRow, standIns := [], harness := (true, "a0af61fcb6d8acb704c3b9a10158e9363b2f4ce9ad95f543fbdcd9f649e9b96f"), looks := false }, kinds := [], alts := [], laidByText := true, laidKinds := [.data, .pinned], laidTests := true, laidLooks := .later }
def AlgebraListsUptoCardSaid : Prop := Claim7.holds Tryd.pinned (.plain (OpenSpec.upto algebraListsSpec)) algebraListsUptoCard

/-- THE SECOND FORM's CARD OF 'pentaglotlaw04.AlgebraUnites'. -/
def algebraUnitesUptoCard : Claim7 := { stood := { row := algebraUnitesUptoRow, standIns := [], harness := (true, "a0af61fcb6d8acb704c3b9a10158e9363b2f4ce9ad95f543fbdcd9f649e9b96f"), looks := false }, kinds := [], alts := [], laidByText := true, laidKinds := [.data, .pinned], laidTests := true, laidLooks := .later }
def AlgebraUnitesUptoCardSaid : Prop := Claim7.holds Tryd.pinned (.plain (OpenSpec.upto algebraUnitesSpec)) algebraUnitesUptoCard

/-- THE SECOND FORM's CARD OF 'pentaglotlaw04.AlgebraRepeats'. -/
def algebraRepeatsUptoCard : Claim7 := { stood := { row := algebraRepeatsUptoRow, standIns := [], harness := (true, "a0af61fcb6d8acb704c3b9a10158e9363b2f4ce9ad95f543fbdcd9f649e9b96f"), looks := false }, kinds := [], alts := [], laidByText := true, laidKinds := [.data, .pinned], laidTests := true, laidLooks := .later }
def AlgebraRepeatsUptoCardSaid : Prop := Claim7.holds Tryd.pinned (.plain (OpenSpec.upto algebraRepeatsSpec)) algebraRepeatsUptoCard

/-- THE SECOND FORM's CARD OF 'pentaglotlaw04.AlgebraLabels'. -/
def algebraLabelsUptoCard : Claim7 := { stood := { row := algebraLabelsUptoRow, standIns := [], harness := (true, "a0af61fcb6d8acb704c3b9a10158e9363b2f4ce9ad95f543fbdcd9f649e9b96f"), looks := false }, kinds := [], alts := [], laidByText := true, laidKinds := [.data, .pinned], laidTests := true, laidLooks := .later }
def AlgebraLabelsUptoCardSaid : Prop := Claim7.holds Tryd.pinned (.plain (OpenSpec.upto algebraLabelsSpec)) algebraLabelsUptoCard

/-- THE SECOND FORM's CARD OF 'pentaglotlaw04.AlgebraTurns'. -/
def algebraTurnsUptoCard : Claim7 := { stood := { row := algebraTurnsUptoRow, standIns := [], harness := (true, "a0af61fcb6d8acb704c3b9a10158e9363b2f4ce9ad95f543fbdcd9f649e9b96f"), looks := false }, kinds := [], alts := [], laidByText := true, laidKinds := [.data, .pinned], laidTests := true, laidLooks := .later }
def AlgebraTurnsUptoCardSaid : Prop := Claim7.holds Tryd.pinned (.plain (OpenSpec.upto algebraTurnsSpec)) algebraTurnsUptoCard

/-- THE SECOND FORM's CARD OF 'pentaglotlaw04.AlgebraInverts'. -/
def algebraInvertsUptoCard : Claim7 := { stood := { row := algebraInvertsUptoRow, standIns := [], harness := (true, "a0af61fcb6d8acb704c3b9a10158e9363b2f4ce9ad95f543fbdcd9f649e9b96f"), looks := false }, kinds := [], alts := [], laidByText := true, laidKinds := [.data, .pinned], laidTests := true, laidLooks := .later }
def AlgebraInvertsUptoCardSaid : Prop := Claim7.holds Tryd.pinned (.plain (OpenSpec.upto algebraInvertsSpec)) algebraInvertsUptoCard

/-- THE SECOND FORM's CARD OF 'pentaglotlaw04.AlgebraJoins'. -/
def algebraJoinsUptoCard : Claim7 := { stood := { row := algebraJoinsUptoRow, standIns := [], harness := (true, "a0af61fcb6d8acb704c3b9a10158e9363b2f4ce9ad95f543fbdcd9f649e9b96f"), looks := false }, kinds := [], alts := [], laidByText := true, laidKinds := [.data, .pinned], laidTests := true, laidLooks := .later }
def AlgebraJoinsUptoCardSaid : Prop := Claim7.holds Tryd.pinned (.plain (OpenSpec.upto algebraJoinsSpec)) algebraJoinsUptoCard

/-- THE SECOND FORM's CARD OF 'pentaglotlaw04.AlgebraConcatenates'. -/
def algebraConcatenatesUptoCard : Claim7 := { stood := { row := algebraConcatenatesUptoRow, standIns := [], harness := (true, "a0af61fcb6d8acb704c3b9a10158e9363b2f4ce9ad95f543fbdcd9f649e9b96f"), looks := false }, kinds := [], alts := [], laidByText := true, laidKinds := [.data, .pinned], laidTests := true, laidLooks := .later }
def AlgebraConcatenatesUptoCardSaid : Prop := Claim7.holds Tryd.pinned (.plain (OpenSpec.upto algebraConcatenatesSpec)) algebraConcatenatesUptoCard

/-- THE SECOND FORM's CARD OF 'pentaglotlaw04.AlgebraProjects'. -/
def algebraProjectsUptoCard : Claim7 := { stood := { row := algebraProjectsUptoRow, standIns := [], harness := (true, "a0af61fcb6d8acb704c3b9a10158e9363b2f4ce9ad95f543fbdcd9f649e9b96f"), looks := false }, kinds := [], alts := [], laidByText := true, laidKinds := [.data, .pinned], laidTests := true, laidLooks := .later }
def AlgebraProjectsUptoCardSaid : Prop := Claim7.holds Tryd.pinned (.plain (OpenSpec.upto algebraProjectsSpec)) algebraProjectsUptoCard

/-- THE SECOND FORM's CARD OF 'pentaglotlaw04.AlgebraIdentities'. -/
def algebraIdentitiesUptoCard : Claim7 := { stood := { row := algebraIdentitiesUptoRow, standIns := [], harness := (true, "a0af61fcb6d8acb704c3b9a10158e9363b2f4ce9ad95f543fbdcd9f649e9b96f"), looks := false }, kinds := [], alts := [], laidByText := true, laidKinds := [.data, .pinned], laidTests := true, laidLooks := .later }
def AlgebraIdentitiesUptoCardSaid : Prop := Claim7.holds Tryd.pinned (.plain (OpenSpec.upto algebraIdentitiesSpec)) algebraIdentitiesUptoCard
end Rows
end Go.Proofs.YtoilmeiikgegcaaDoor
