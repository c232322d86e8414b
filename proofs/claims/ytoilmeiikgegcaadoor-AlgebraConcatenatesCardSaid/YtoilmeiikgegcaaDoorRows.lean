/-
  NARROWER THAN 'FOR EVERY INPUT', by the rows' own cells (each row's printed sentence says how): AlgebraPairs: laid · AlgebraLists: laid · AlgebraUnites: laid · AlgebraRepeats: laid · AlgebraLabels: laid · AlgebraTurns: laid · AlgebraInverts: laid · AlgebraJoins: laid · AlgebraConcatenates: laid · AlgebraProjects: laid · AlgebraIdentities: laid.
  DERIVED. THE GIVEN ROWS OF THIS SEAT. 11 by the template 'for every input the law returns true; each argument reads behind the call as it read before'; 0 by the template 'total and deterministic' (their statements: YtoilmeiikgegcaaDoorTotals.lean).
  GIVEN WITH THE SEED: the statements are not yours to turn. If you find one false, say at which input.
  Laid BY PROGRAM, IN A SANDBOX (cutbox-rows.mjs): the forced cells as the released guide's own fill.sh prints them over the translation 5d8e07f904d8bac4… (all of the seat's roots in one cut). By AI agents, Wed Nov 11 2026. No macro, syntax, notation, axiom, sorry.
-/
import Derived.Test.YtoilmeiikgegcaaDoorChecked
import GoSem.PinnedTables
import GoSem.Claim
import GoSem.ClaimJoined
import GoSem.ClaimMapViews
import Derived.JoinedTies
import Derived.KernelRfl
namespace Go.Proofs.YtoilmeiikgegcaaDoor
/- THE CELL 'sum', in the pinned program and in every row, IS THE sha256 OF THE DUMP (.gsa) THAT YtoilmeiikgegcaaDoorProg.lean LOADS. Nothing in Lean hashes anything: it is a label: what it is worth is what the hold of that sum in a sandbox is worth. -/
noncomputable def Tryd.pinned : Pinned := { name := "ytoilmeiikgegcaadoor", sum := "5d8e07f904d8bac40207e36de31e4fb47b49308f8d5404ff3052b8ebdde998ea", checked := Tryd.checked }
namespace Rows
def none {H : Type} : Left H := { results := [], args := [] }

/- WHAT THE LISTED PACKAGE-LEVEL VARIABLES READ AS WHEN THE CALL BEGINS. Each datum BY PROGRAM (the guide's laid-datum.mjs) off the statement by which the dump's own 'gosem.cut.vars' lays the variable. In a bare row this is a premise. The card (YtoilmeiikgegcaaDoorCards.lean) ties it to the program's text. -/
def laid_unicode_utf8_acceptRanges {H : Type} : DataW H := .agg [.agg [.lit (.int .u8 128), .lit (.int .u8 191)], .agg [.lit (.int .u8 160), .lit (.int .u8 191)], .agg [.lit (.int .u8 128), .lit (.int .u8 159)], .agg [.lit (.int .u8 144), .lit (.int .u8 191)], .agg [.lit (.int .u8 128), .lit (.int .u8 143)], .agg [.lit (.int .u8 0), .lit (.int .u8 0)], .agg [.lit (.int .u8 0), .lit (.int .u8 0)], .agg [.lit (.int .u8 0), .lit (.int .u8 0)], .agg [.lit (.int .u8 0), .lit (.int .u8 0)], .agg [.lit (.int .u8 0), .lit (.int .u8 0)], .agg [.lit (.int .u8 0), .lit (.int .u8 0)], .agg [.lit (.int .u8 0), .lit (.int .u8 0)], .agg [.lit (.int .u8 0), .lit (.int .u8 0)], .agg [.lit (.int .u8 0), .lit (.int .u8 0)], .agg [.lit (.int .u8 0), .lit (.int .u8 0)], .agg [.lit (.int .u8 0), .lit (.int .u8 0)]]
/-- One of Go's own tables, pinned by name: the form's constant. -/
def laid_unicode_utf8_first : DataW Unit := Go.Pinned.utf8First

/-- 'pentaglotlaw04.AlgebraPairs': WHATEVER THE INPUT: true; the input reads as it did. -/
def algebraPairsSpec : ChangeSpec := { name := "algebraPairs", fn := fun _ => fun
  | [d1, d2] => { results := [.lit (.bool true)], args := [d1, d2] }
  | _ => none }
def algebraPairsRow : OpenClaim := { program := "ytoilmeiikgegcaadoor", sum := "5d8e07f904d8bac40207e36de31e4fb47b49308f8d5404ff3052b8ebdde998ea", func := "pentaglot/pentaglotlaw04.AlgebraPairs", spec := "algebraPairs", inPlace := ["internal/bytealg.IndexByteString", "internal/bytealg.IndexString"], unfollowed := true, recurses := true, named := ["unicode/utf8.first", "unicode/utf8.acceptRanges", "internal/bytealg.MaxLen"], plainKeys := false, apart := false, laid := [("unicode/utf8.acceptRanges", laid_unicode_utf8_acceptRanges), ("unicode/utf8.first", laid_unicode_utf8_first)] }
def AlgebraPairsSaid : Prop := algebraPairsRow.holds Tryd.pinned (OpenSpec.ofChange algebraPairsSpec)

/-- ITS FALSE NEIGHBOUR: 'it returns false'. Refute it at one input. -/
def algebraPairsWrong : ChangeSpec := { name := "algebraPairs", fn := fun _ => fun
  | [d1, d2] => { results := [.lit (.bool false)], args := [d1, d2] }
  | _ => none }
def AlgebraPairsWrongFalsely : Prop := algebraPairsRow.holds Tryd.pinned (OpenSpec.ofChange algebraPairsWrong)

/-- 'pentaglotlaw04.AlgebraLists': WHATEVER THE INPUT: true; the input reads as it did. -/
def algebraListsSpec : ChangeSpec := { name := "algebraLists", fn := fun _ => fun
  | [d1, d2, d3, d4] => { results := [.lit (.bool true)], args := [d1, d2, d3, d4] }
  | _ => none }
def algebraListsRow : OpenClaim := { program := "ytoilmeiikgegcaadoor", sum := "5d8e07f904d8bac40207e36de31e4fb47b49308f8d5404ff3052b8ebdde998ea", func := "pentaglot/pentaglotlaw04.AlgebraLists", spec := "algebraLists", inPlace := ["internal/bytealg.IndexByteString", "internal/bytealg.IndexString"], unfollowed := true, recurses := true, named := ["unicode/utf8.first", "unicode/utf8.acceptRanges", "internal/bytealg.MaxLen"], plainKeys := false, apart := false, laid := [("unicode/utf8.acceptRanges", laid_unicode_utf8_acceptRanges), ("unicode/utf8.first", laid_unicode_utf8_first)] }
def AlgebraListsSaid : Prop := algebraListsRow.holds Tryd.pinned (OpenSpec.ofChange algebraListsSpec)

/-- ITS FALSE NEIGHBOUR: 'it returns false'. Refute it at one input. -/
def algebraListsWrong : ChangeSpec := { name := "algebraLists", fn := fun _ => fun
  | [d1, d2, d3, d4] => { results := [.lit (.bool false)], args := [d1, d2, d3, d4] }
  | _ => none }
def AlgebraListsWrongFalsely : Prop := algebraListsRow.holds Tryd.pinned (OpenSpec.ofChange algebraListsWrong)

/-- 'pentaglotlaw04.AlgebraUnites': WHATEVER THE INPUT: true; the input reads as it did. -/
def algebraUnitesSpec : ChangeSpec := { name := "algebraUnites", fn := fun _ => fun
  | [d1, d2, d3, d4] => { results := [.lit (.bool true)], args := [d1, d2, d3, d4] }
  | _ => none }
def algebraUnitesRow : OpenClaim := { program := "ytoilmeiikgegcaadoor", sum := "5d8e07f904d8bac40207e36de31e4fb47b49308f8d5404ff3052b8ebdde998ea", func := "pentaglot/pentaglotlaw04.AlgebraUnites", spec := "algebraUnites", inPlace := ["internal/bytealg.IndexByteString", "internal/bytealg.IndexString"], unfollowed := true, recurses := true, named := ["unicode/utf8.first", "unicode/utf8.acceptRanges", "internal/bytealg.MaxLen"], plainKeys := false, apart := false, laid := [("unicode/utf8.acceptRanges", laid_unicode_utf8_acceptRanges), ("unicode/utf8.first", laid_unicode_utf8_first)] }
def AlgebraUnitesSaid : Prop := algebraUnitesRow.holds Tryd.pinned (OpenSpec.ofChange algebraUnitesSpec)

/-- ITS FALSE NEIGHBOUR: 'it returns false'. Refute it at one input. -/
def algebraUnitesWrong : ChangeSpec := { name := "algebraUnites", fn := fun _ => fun
  | [d1, d2, d3, d4] => { results := [.lit (.bool false)], args := [d1, d2, d3, d4] }
  | _ => none }
def AlgebraUnitesWrongFalsely : Prop := algebraUnitesRow.holds Tryd.pinned (OpenSpec.ofChange algebraUnitesWrong)

/-- 'pentaglotlaw04.AlgebraRepeats': WHATEVER THE INPUT: true; the input reads as it did. -/
def algebraRepeatsSpec : ChangeSpec := { name := "algebraRepeats", fn := fun _ => fun
  | [d1, d2, d3] => { results := [.lit (.bool true)], args := [d1, d2, d3] }
  | _ => none }
def algebraRepeatsRow : OpenClaim := { program := "ytoilmeiikgegcaadoor", sum := "5d8e07f904d8bac40207e36de31e4fb47b49308f8d5404ff3052b8ebdde998ea", func := "pentaglot/pentaglotlaw04.AlgebraRepeats", spec := "algebraRepeats", inPlace := ["internal/bytealg.IndexByteString", "internal/bytealg.IndexString"], unfollowed := true, recurses := true, named := ["unicode/utf8.first", "unicode/utf8.acceptRanges", "internal/bytealg.MaxLen"], plainKeys := false, apart := false, laid := [("unicode/utf8.acceptRanges", laid_unicode_utf8_acceptRanges), ("unicode/utf8.first", laid_unicode_utf8_first)] }
def AlgebraRepeatsSaid : Prop := algebraRepeatsRow.holds Tryd.pinned (OpenSpec.ofChange algebraRepeatsSpec)

/-- ITS FALSE NEIGHBOUR: 'it returns false'. Refute it at one input. -/
def algebraRepeatsWrong : ChangeSpec := { name := "algebraRepeats", fn := fun _ => fun
  | [d1, d2, d3] => { results := [.lit (.bool false)], args := [d1, d2, d3] }
  | _ => none }
def AlgebraRepeatsWrongFalsely : Prop := algebraRepeatsRow.holds Tryd.pinned (OpenSpec.ofChange algebraRepeatsWrong)

/-- 'pentaglotlaw04.AlgebraLabels': WHATEVER THE INPUT: true; the input reads as it did. -/
def algebraLabelsSpec : ChangeSpec := { name := "algebraLabels", fn := fun _ => fun
  | [d] => { results := [.lit (.bool true)], args := [d] }
  | _ => none }
def algebraLabelsRow : OpenClaim := { program := "ytoilmeiikgegcaadoor", sum := "5d8e07f904d8bac40207e36de31e4fb47b49308f8d5404ff3052b8ebdde998ea", func := "pentaglot/pentaglotlaw04.AlgebraLabels", spec := "algebraLabels", inPlace := ["internal/bytealg.IndexByteString", "internal/bytealg.IndexString"], unfollowed := true, recurses := true, named := ["unicode/utf8.first", "unicode/utf8.acceptRanges", "internal/bytealg.MaxLen"], plainKeys := false, apart := false, laid := [("unicode/utf8.acceptRanges", laid_unicode_utf8_acceptRanges), ("unicode/utf8.first", laid_unicode_utf8_first)] }
def AlgebraLabelsSaid : Prop := algebraLabelsRow.holds Tryd.pinned (OpenSpec.ofChange algebraLabelsSpec)

/-- ITS FALSE NEIGHBOUR: 'it returns false'. Refute it at one input. -/
def algebraLabelsWrong : ChangeSpec := { name := "algebraLabels", fn := fun _ => fun
  | [d] => { results := [.lit (.bool false)], args := [d] }
  | _ => none }
def AlgebraLabelsWrongFalsely : Prop := algebraLabelsRow.holds Tryd.pinned (OpenSpec.ofChange algebraLabelsWrong)

/-- 'pentaglotlaw04.AlgebraTurns': WHATEVER THE INPUT: true; the input reads as it did. -/
def algebraTurnsSpec : ChangeSpec := { name := "algebraTurns", fn := fun _ => fun
  | [d] => { results := [.lit (.bool true)], args := [d] }
  | _ => none }
def algebraTurnsRow : OpenClaim := { program := "ytoilmeiikgegcaadoor", sum := "5d8e07f904d8bac40207e36de31e4fb47b49308f8d5404ff3052b8ebdde998ea", func := "pentaglot/pentaglotlaw04.AlgebraTurns", spec := "algebraTurns", inPlace := ["internal/bytealg.IndexByteString", "internal/bytealg.IndexString"], unfollowed := true, recurses := true, named := ["unicode/utf8.first", "unicode/utf8.acceptRanges", "internal/bytealg.MaxLen"], plainKeys := false, apart := false, laid := [("unicode/utf8.acceptRanges", laid_unicode_utf8_acceptRanges), ("unicode/utf8.first", laid_unicode_utf8_first)] }
def AlgebraTurnsSaid : Prop := algebraTurnsRow.holds Tryd.pinned (OpenSpec.ofChange algebraTurnsSpec)

/-- ITS FALSE NEIGHBOUR: 'it returns false'. Refute it at one input. -/
def algebraTurnsWrong : ChangeSpec := { name := "algebraTurns", fn := fun _ => fun
  | [d] => { results := [.lit (.bool false)], args := [d] }
  | _ => none }
def AlgebraTurnsWrongFalsely : Prop := algebraTurnsRow.holds Tryd.pinned (OpenSpec.ofChange algebraTurnsWrong)

/-- 'pentaglotlaw04.AlgebraInverts': WHATEVER THE INPUT: true; the input reads as it did. -/
def algebraInvertsSpec : ChangeSpec := { name := "algebraInverts", fn := fun _ => fun
  | [d1, d2, d3] => { results := [.lit (.bool true)], args := [d1, d2, d3] }
  | _ => none }
def algebraInvertsRow : OpenClaim := { program := "ytoilmeiikgegcaadoor", sum := "5d8e07f904d8bac40207e36de31e4fb47b49308f8d5404ff3052b8ebdde998ea", func := "pentaglot/pentaglotlaw04.AlgebraInverts", spec := "algebraInverts", inPlace := ["internal/bytealg.IndexByteString", "internal/bytealg.IndexString"], unfollowed := true, recurses := true, named := ["unicode/utf8.first", "unicode/utf8.acceptRanges", "internal/bytealg.MaxLen"], plainKeys := false, apart := false, laid := [("unicode/utf8.acceptRanges", laid_unicode_utf8_acceptRanges), ("unicode/utf8.first", laid_unicode_utf8_first)] }
def AlgebraInvertsSaid : Prop := algebraInvertsRow.holds Tryd.pinned (OpenSpec.ofChange algebraInvertsSpec)

/-- ITS FALSE NEIGHBOUR: 'it returns false'. Refute it at one input. -/
def algebraInvertsWrong : ChangeSpec := { name := "algebraInverts", fn := fun _ => fun
  | [d1, d2, d3] => { results := [.lit (.bool false)], args := [d1, d2, d3] }
  | _ => none }
def AlgebraInvertsWrongFalsely : Prop := algebraInvertsRow.holds Tryd.pinned (OpenSpec.ofChange algebraInvertsWrong)

/-- 'pentaglotlaw04.AlgebraJoins': WHATEVER THE INPUT: true; the input reads as it did. -/
def algebraJoinsSpec : ChangeSpec := { name := "algebraJoins", fn := fun _ => fun
  | [d1, d2] => { results := [.lit (.bool true)], args := [d1, d2] }
  | _ => none }
def algebraJoinsRow : OpenClaim := { program := "ytoilmeiikgegcaadoor", sum := "5d8e07f904d8bac40207e36de31e4fb47b49308f8d5404ff3052b8ebdde998ea", func := "pentaglot/pentaglotlaw04.AlgebraJoins", spec := "algebraJoins", inPlace := ["internal/bytealg.IndexByteString", "internal/bytealg.IndexString"], unfollowed := true, recurses := true, named := ["unicode/utf8.first", "unicode/utf8.acceptRanges", "internal/bytealg.MaxLen"], plainKeys := false, apart := false, laid := [("unicode/utf8.acceptRanges", laid_unicode_utf8_acceptRanges), ("unicode/utf8.first", laid_unicode_utf8_first)] }
def AlgebraJoinsSaid : Prop := algebraJoinsRow.holds Tryd.pinned (OpenSpec.ofChange algebraJoinsSpec)

/-- ITS FALSE NEIGHBOUR: 'it returns false'. Refute it at one input. -/
def algebraJoinsWrong : ChangeSpec := { name := "algebraJoins", fn := fun _ => fun
  | [d1, d2] => { results := [.lit (.bool false)], args := [d1, d2] }
  | _ => none }
def AlgebraJoinsWrongFalsely : Prop := algebraJoinsRow.holds Tryd.pinned (OpenSpec.ofChange algebraJoinsWrong)

/-- 'pentaglotlaw04.AlgebraConcatenates': WHATEVER THE INPUT: true; the input reads as it did. -/
def algebraConcatenatesSpec : ChangeSpec := { name := "algebraConcatenates", fn := fun _ => fun
  | [d1, d2, d3, d4] => { results := [.lit (.bool true)], args := [d1, d2, d3, d4] }
  | _ => none }
def algebraConcatenatesRow : OpenClaim := { program := "ytoilmeiikgegcaadoor", sum := "5d8e07f904d8bac40207e36de31e4fb47b49308f8d5404ff3052b8ebdde998ea", func := "pentaglot/pentaglotlaw04.AlgebraConcatenates", spec := "algebraConcatenates", inPlace := ["internal/bytealg.IndexByteString", "internal/bytealg.IndexString"], unfollowed := true, recurses := true, named := ["unicode/utf8.first", "unicode/utf8.acceptRanges", "internal/bytealg.MaxLen"], plainKeys := false, apart := false, laid := [("unicode/utf8.acceptRanges", laid_unicode_utf8_acceptRanges), ("unicode/utf8.first", laid_unicode_utf8_first)] }
def AlgebraConcatenatesSaid : Prop := algebraConcatenatesRow.holds Tryd.pinned (OpenSpec.ofChange algebraConcatenatesSpec)

/-- ITS FALSE NEIGHBOUR: 'it returns false'. Refute it at one input. -/
def algebraConcatenatesWrong : ChangeSpec := { name := "algebraConcatenates", fn := fun _ => fun
  | [d1, d2, d3, d4] => { results := [.lit (.bool false)], args := [d1, d2, d3, d4] }
  | _ => none }
def AlgebraConcatenatesWrongFalsely : Prop := algebraConcatenatesRow.holds Tryd.pinned (OpenSpec.ofChange algebraConcatenatesWrong)

/-- 'pentaglotlaw04.AlgebraProjects': WHATEVER THE INPUT: true; the input reads as it did. -/
def algebraProjectsSpec : ChangeSpec := { name := "algebraProjects", fn := fun _ => fun
  | [d1, d2, d3] => { results := [.lit (.bool true)], args := [d1, d2, d3] }
  | _ => none }
def algebraProjectsRow : OpenClaim := { program := "ytoilmeiikgegcaadoor", sum := "5d8e07f904d8bac40207e36de31e4fb47b49308f8d5404ff3052b8ebdde998ea", func := "pentaglot/pentaglotlaw04.AlgebraProjects", spec := "algebraProjects", inPlace := ["internal/bytealg.IndexByteString", "internal/bytealg.IndexString"], unfollowed := true, recurses := true, named := ["unicode/utf8.first", "unicode/utf8.acceptRanges", "internal/bytealg.MaxLen"], plainKeys := false, apart := false, laid := [("unicode/utf8.acceptRanges", laid_unicode_utf8_acceptRanges), ("unicode/utf8.first", laid_unicode_utf8_first)] }
def AlgebraProjectsSaid : Prop := algebraProjectsRow.holds Tryd.pinned (OpenSpec.ofChange algebraProjectsSpec)

/-- ITS FALSE NEIGHBOUR: 'it returns false'. Refute it at one input. -/
def algebraProjectsWrong : ChangeSpec := { name := "algebraProjects", fn := fun _ => fun
  | [d1, d2, d3] => { results := [.lit (.bool false)], args := [d1, d2, d3] }
  | _ => none }
def AlgebraProjectsWrongFalsely : Prop := algebraProjectsRow.holds Tryd.pinned (OpenSpec.ofChange algebraProjectsWrong)

/-- 'pentaglotlaw04.AlgebraIdentities': WHATEVER THE INPUT: true; the input reads as it did. -/
def algebraIdentitiesSpec : ChangeSpec := { name := "algebraIdentities", fn := fun _ => fun
  | [d1, d2] => { results := [.lit (.bool true)], args := [d1, d2] }
  | _ => none }
def algebraIdentitiesRow : OpenClaim := { program := "ytoilmeiikgegcaadoor", sum := "5d8e07f904d8bac40207e36de31e4fb47b49308f8d5404ff3052b8ebdde998ea", func := "pentaglot/pentaglotlaw04.AlgebraIdentities", spec := "algebraIdentities", inPlace := ["internal/bytealg.IndexByteString", "internal/bytealg.IndexString"], unfollowed := true, recurses := true, named := ["unicode/utf8.first", "unicode/utf8.acceptRanges", "internal/bytealg.MaxLen"], plainKeys := false, apart := false, laid := [("unicode/utf8.acceptRanges", laid_unicode_utf8_acceptRanges), ("unicode/utf8.first", laid_unicode_utf8_first)] }
def AlgebraIdentitiesSaid : Prop := algebraIdentitiesRow.holds Tryd.pinned (OpenSpec.ofChange algebraIdentitiesSpec)

/-- ITS FALSE NEIGHBOUR: 'it returns false'. Refute it at one input. -/
def algebraIdentitiesWrong : ChangeSpec := { name := "algebraIdentities", fn := fun _ => fun
  | [d1, d2] => { results := [.lit (.bool false)], args := [d1, d2] }
  | _ => none }
def AlgebraIdentitiesWrongFalsely : Prop := algebraIdentitiesRow.holds Tryd.pinned (OpenSpec.ofChange algebraIdentitiesWrong)

/- THE SECOND FORM. 'bulk': how many values and letters a reading holds, each counted each time it is reached (what is shared counts as often as it is met; a slice's spare places count too). A statement '..UptoSaid' is the law's where the arguments, and the package variables that the reading takes, are together of bulk at most 1048576: NARROWER than '..Said'. Prove '..Said' where nothing that the law and all that it calls make is longer than what came in: it says more and counts as full. Else prove '..UptoSaid'. A law counts once. -/
mutual
def uptoBulk {H : Type} : DataW H → Nat
  | .lit (.string bytes) => bytes.length + 1
  | .lit _ => 1
  | .nil => 1
  | .ptr d => uptoBulk d + 1
  | .slice elems spare => uptoBulkAll elems + uptoBulkAll spare + 1
  | .agg parts => uptoBulkAll parts + 1
  | .iface _ d => uptoBulk d + 1
  | .map entries => uptoBulkEntries entries + 1
  | .held _ => 1
def uptoBulkAll {H : Type} : List (DataW H) → Nat
  | [] => 0
  | d :: r => uptoBulk d + uptoBulkAll r
def uptoBulkEntries {H : Type} : List (Lit × DataW H) → Nat
  | [] => 0
  | x :: r => uptoBulkEntry x + uptoBulkEntries r
def uptoBulkEntry {H : Type} : Lit × DataW H → Nat
  | (.string bytes, d) => bytes.length + uptoBulk d + 1
  | (_, d) => uptoBulk d + 1
 end
def uptoSmall : (H : Type) → List (DataW H) → Bool := fun _ ds => decide (uptoBulkAll ds ≤ 1048576)
def OpenSpec.upto (s : _root_.Go.ChangeSpec) : _root_.Go.OpenSpec := { _root_.Go.OpenSpec.ofChange s with cond := some uptoSmall }

/-- 'pentaglotlaw04.AlgebraPairs', WHERE WHAT IT READS IS OF BULK AT MOST 1048576: true; the input reads as it did. -/
def algebraPairsUptoRow : OpenClaim := { program := "ytoilmeiikgegcaadoor", sum := "5d8e07f904d8bac40207e36de31e4fb47b49308f8d5404ff3052b8ebdde998ea", func := "pentaglot/pentaglotlaw04.AlgebraPairs", spec := "algebraPairs", inPlace := ["internal/bytealg.IndexByteString", "internal/bytealg.IndexString"], unfollowed := true, recurses := true, named := ["unicode/utf8.first", "unicode/utf8.acceptRanges", "internal/bytealg.MaxLen"], plainKeys := false, apart := false, laid := [("unicode/utf8.acceptRanges", laid_unicode_utf8_acceptRanges), ("unicode/utf8.first", laid_unicode_utf8_first)], narrowed := true }
def AlgebraPairsUptoSaid : Prop := algebraPairsUptoRow.holds Tryd.pinned (OpenSpec.upto algebraPairsSpec)

/-- 'pentaglotlaw04.AlgebraLists', WHERE WHAT IT READS IS OF BULK AT MOST 1048576: true; the input reads as it did. -/
def algebraListsUptoRow : OpenClaim := { program := "ytoilmeiikgegcaadoor", sum := "5d8e07f904d8bac40207e36de31e4fb47b49308f8d5404ff3052b8ebdde998ea", func := "pentaglot/pentaglotlaw04.AlgebraLists", spec := "algebraLists", inPlace := ["internal/bytealg.IndexByteString", "internal/bytealg.IndexString"], unfollowed := true, recurses := true, named := ["unicode/utf8.first", "unicode/utf8.acceptRanges", "internal/bytealg.MaxLen"], plainKeys := false, apart := false, laid := [("unicode/utf8.acceptRanges", laid_unicode_utf8_acceptRanges), ("unicode/utf8.first", laid_unicode_utf8_first)], narrowed := true }
def AlgebraListsUptoSaid : Prop := algebraListsUptoRow.holds Tryd.pinned (OpenSpec.upto algebraListsSpec)

/-- 'pentaglotlaw04.AlgebraUnites', WHERE WHAT IT READS IS OF BULK AT MOST 1048576: true; the input reads as it did. -/
def algebraUnitesUptoRow : OpenClaim := { program := "ytoilmeiikgegcaadoor", sum := "5d8e07f904d8bac40207e36de31e4fb47b49308f8d5404ff3052b8ebdde998ea", func := "pentaglot/pentaglotlaw04.AlgebraUnites", spec := "algebraUnites", inPlace := ["internal/bytealg.IndexByteString", "internal/bytealg.IndexString"], unfollowed := true, recurses := true, named := ["unicode/utf8.first", "unicode/utf8.acceptRanges", "internal/bytealg.MaxLen"], plainKeys := false, apart := false, laid := [("unicode/utf8.acceptRanges", laid_unicode_utf8_acceptRanges), ("unicode/utf8.first", laid_unicode_utf8_first)], narrowed := true }
def AlgebraUnitesUptoSaid : Prop := algebraUnitesUptoRow.holds Tryd.pinned (OpenSpec.upto algebraUnitesSpec)

/-- 'pentaglotlaw04.AlgebraRepeats', WHERE WHAT IT READS IS OF BULK AT MOST 1048576: true; the input reads as it did. -/
def algebraRepeatsUptoRow : OpenClaim := { program := "ytoilmeiikgegcaadoor", sum := "5d8e07f904d8bac40207e36de31e4fb47b49308f8d5404ff3052b8ebdde998ea", func := "pentaglot/pentaglotlaw04.AlgebraRepeats", spec := "algebraRepeats", inPlace := ["internal/bytealg.IndexByteString", "internal/bytealg.IndexString"], unfollowed := true, recurses := true, named := ["unicode/utf8.first", "unicode/utf8.acceptRanges", "internal/bytealg.MaxLen"], plainKeys := false, apart := false, laid := [("unicode/utf8.acceptRanges", laid_unicode_utf8_acceptRanges), ("unicode/utf8.first", laid_unicode_utf8_first)], narrowed := true }
def AlgebraRepeatsUptoSaid : Prop := algebraRepeatsUptoRow.holds Tryd.pinned (OpenSpec.upto algebraRepeatsSpec)

/-- 'pentaglotlaw04.AlgebraLabels', WHERE WHAT IT READS IS OF BULK AT MOST 1048576: true; the input reads as it did. -/
def algebraLabelsUptoRow : OpenClaim := { program := "ytoilmeiikgegcaadoor", sum := "5d8e07f904d8bac40207e36de31e4fb47b49308f8d5404ff3052b8ebdde998ea", func := "pentaglot/pentaglotlaw04.AlgebraLabels", spec := "algebraLabels", inPlace := ["internal/bytealg.IndexByteString", "internal/bytealg.IndexString"], unfollowed := true, recurses := true, named := ["unicode/utf8.first", "unicode/utf8.acceptRanges", "internal/bytealg.MaxLen"], plainKeys := false, apart := false, laid := [("unicode/utf8.acceptRanges", laid_unicode_utf8_acceptRanges), ("unicode/utf8.first", laid_unicode_utf8_first)], narrowed := true }
def AlgebraLabelsUptoSaid : Prop := algebraLabelsUptoRow.holds Tryd.pinned (OpenSpec.upto algebraLabelsSpec)

/-- 'pentaglotlaw04.AlgebraTurns', WHERE WHAT IT READS IS OF BULK AT MOST 1048576: true; the input reads as it did. -/
def algebraTurnsUptoRow : OpenClaim := { program := "ytoilmeiikgegcaadoor", sum := "5d8e07f904d8bac40207e36de31e4fb47b49308f8d5404ff3052b8ebdde998ea", func := "pentaglot/pentaglotlaw04.AlgebraTurns", spec := "algebraTurns", inPlace := ["internal/bytealg.IndexByteString", "internal/bytealg.IndexString"], unfollowed := true, recurses := true, named := ["unicode/utf8.first", "unicode/utf8.acceptRanges", "internal/bytealg.MaxLen"], plainKeys := false, apart := false, laid := [("unicode/utf8.acceptRanges", laid_unicode_utf8_acceptRanges), ("unicode/utf8.first", laid_unicode_utf8_first)], narrowed := true }
def AlgebraTurnsUptoSaid : Prop := algebraTurnsUptoRow.holds Tryd.pinned (OpenSpec.upto algebraTurnsSpec)

/-- 'pentaglotlaw04.AlgebraInverts', WHERE WHAT IT READS IS OF BULK AT MOST 1048576: true; the input reads as it did. -/
def algebraInvertsUptoRow : OpenClaim := { program := "ytoilmeiikgegcaadoor", sum := "5d8e07f904d8bac40207e36de31e4fb47b49308f8d5404ff3052b8ebdde998ea", func := "pentaglot/pentaglotlaw04.AlgebraInverts", spec := "algebraInverts", inPlace := ["internal/bytealg.IndexByteString", "internal/bytealg.IndexString"], unfollowed := true, recurses := true, named := ["unicode/utf8.first", "unicode/utf8.acceptRanges", "internal/bytealg.MaxLen"], plainKeys := false, apart := false, laid := [("unicode/utf8.acceptRanges", laid_unicode_utf8_acceptRanges), ("unicode/utf8.first", laid_unicode_utf8_first)], narrowed := true }
def AlgebraInvertsUptoSaid : Prop := algebraInvertsUptoRow.holds Tryd.pinned (OpenSpec.upto algebraInvertsSpec)

/-- 'pentaglotlaw04.AlgebraJoins', WHERE WHAT IT READS IS OF BULK AT MOST 1048576: true; the input reads as it did. -/
def algebraJoinsUptoRow : OpenClaim := { program := "ytoilmeiikgegcaadoor", sum := "5d8e07f904d8bac40207e36de31e4fb47b49308f8d5404ff3052b8ebdde998ea", func := "pentaglot/pentaglotlaw04.AlgebraJoins", spec := "algebraJoins", inPlace := ["internal/bytealg.IndexByteString", "internal/bytealg.IndexString"], unfollowed := true, recurses := true, named := ["unicode/utf8.first", "unicode/utf8.acceptRanges", "internal/bytealg.MaxLen"], plainKeys := false, apart := false, laid := [("unicode/utf8.acceptRanges", laid_unicode_utf8_acceptRanges), ("unicode/utf8.first", laid_unicode_utf8_first)], narrowed := true }
def AlgebraJoinsUptoSaid : Prop := algebraJoinsUptoRow.holds Tryd.pinned (OpenSpec.upto algebraJoinsSpec)

/-- 'pentaglotlaw04.AlgebraConcatenates', WHERE WHAT IT READS IS OF BULK AT MOST 1048576: true; the input reads as it did. -/
def algebraConcatenatesUptoRow : OpenClaim := { program := "ytoilmeiikgegcaadoor", sum := "5d8e07f904d8bac40207e36de31e4fb47b49308f8d5404ff3052b8ebdde998ea", func := "pentaglot/pentaglotlaw04.AlgebraConcatenates", spec := "algebraConcatenates", inPlace := ["internal/bytealg.IndexByteString", "internal/bytealg.IndexString"], unfollowed := true, recurses := true, named := ["unicode/utf8.first", "unicode/utf8.acceptRanges", "internal/bytealg.MaxLen"], plainKeys := false, apart := false, laid := [("unicode/utf8.acceptRanges", laid_unicode_utf8_acceptRanges), ("unicode/utf8.first", laid_unicode_utf8_first)], narrowed := true }
def AlgebraConcatenatesUptoSaid : Prop := algebraConcatenatesUptoRow.holds Tryd.pinned (OpenSpec.upto algebraConcatenatesSpec)

/-- 'pentaglotlaw04.AlgebraProjects', WHERE WHAT IT READS IS OF BULK AT MOST 1048576: true; the input reads as it did. -/
def algebraProjectsUptoRow : OpenClaim := { program := "ytoilmeiikgegcaadoor", sum := "5d8e07f904d8bac40207e36de31e4fb47b49308f8d5404ff3052b8ebdde998ea", func := "pentaglot/pentaglotlaw04.AlgebraProjects", spec := "algebraProjects", inPlace := ["internal/bytealg.IndexByteString", "internal/bytealg.IndexString"], unfollowed := true, recurses := true, named := ["unicode/utf8.first", "unicode/utf8.acceptRanges", "internal/bytealg.MaxLen"], plainKeys := false, apart := false, laid := [("unicode/utf8.acceptRanges", laid_unicode_utf8_acceptRanges), ("unicode/utf8.first", laid_unicode_utf8_first)], narrowed := true }
def AlgebraProjectsUptoSaid : Prop := algebraProjectsUptoRow.holds Tryd.pinned (OpenSpec.upto algebraProjectsSpec)

/-- 'pentaglotlaw04.AlgebraIdentities', WHERE WHAT IT READS IS OF BULK AT MOST 1048576: true; the input reads as it did. -/
def algebraIdentitiesUptoRow : OpenClaim := { program := "ytoilmeiikgegcaadoor", sum := "5d8e07f904d8bac40207e36de31e4fb47b49308f8d5404ff3052b8ebdde998ea", func := "pentaglot/pentaglotlaw04.AlgebraIdentities", spec := "algebraIdentities", inPlace := ["internal/bytealg.IndexByteString", "internal/bytealg.IndexString"], unfollowed := true, recurses := true, named := ["unicode/utf8.first", "unicode/utf8.acceptRanges", "internal/bytealg.MaxLen"], plainKeys := false, apart := false, laid := [("unicode/utf8.acceptRanges", laid_unicode_utf8_acceptRanges), ("unicode/utf8.first", laid_unicode_utf8_first)], narrowed := true }
def AlgebraIdentitiesUptoSaid : Prop := algebraIdentitiesUptoRow.holds Tryd.pinned (OpenSpec.upto algebraIdentitiesSpec)

end Rows
end Go.Proofs.YtoilmeiikgegcaaDoor
