/-
  NARROWER THAN 'FOR EVERY INPUT', by the rows' own cells (each row's printed sentence says how): CompositionMiddle: laid · CompositionGiven: laid · CompositionBetween: laid · CompositionRestrict: laid · CompositionOne: laid.
  DERIVED. THE GIVEN ROWS OF THIS SEAT. 5 by the template 'for every input the law returns true; each argument reads behind the call as it read before'; 0 by the template 'total and deterministic' (their statements: YtmjieefhjmiagaaGreatDoorTotals.lean).
  GIVEN WITH THE SEED: the statements are not yours to turn. If you find one false, say at which input.
  Laid BY PROGRAM, IN A SANDBOX (cutbox-rows.mjs): the forced cells as the released guide's own fill.sh prints them over the translation 8614ce53477b3dda… (all of the seat's roots in one cut). By AI agents, Wed Nov 11 2026. No macro, syntax, notation, axiom, sorry.
-/
import Derived.Test.YtmjieefhjmiagaaGreatDoorChecked
import GoSem.PinnedTables
import GoSem.Claim
import GoSem.ClaimJoined
import GoSem.ClaimMapViews
import Derived.JoinedTies
import Derived.KernelRfl
namespace Go.Proofs.YtmjieefhjmiagaaGreatDoor
/- THE CELL 'sum', in the pinned program and in every row, IS THE sha256 OF THE DUMP (.gsa) THAT YtmjieefhjmiagaaGreatDoorProg.lean LOADS. Nothing in Lean hashes anything: it is a label: what it is worth is what the hold of that sum in a sandbox is worth. -/
noncomputable def Tryz.pinned : Pinned := { name := "ytmjieefhjmiagaagreatdoor", sum := "8614ce53477b3dda615d07a479f8630cc0074a833a17c433bc45a12f72b5cce3", checked := Tryz.checked }
namespace Rows
def none {H : Type} : Left H := { results := [], args := [] }

/- WHAT THE LISTED PACKAGE-LEVEL VARIABLES READ AS WHEN THE CALL BEGINS. Each datum BY PROGRAM (the guide's laid-datum.mjs) off the statement by which the dump's own 'gosem.cut.vars' lays the variable. In a bare row this is a premise. The card (YtmjieefhjmiagaaGreatDoorCards.lean) ties it to the program's text. -/
def laid_unicode_utf8_acceptRanges {H : Type} : DataW H := .agg [.agg [.lit (.int .u8 128), .lit (.int .u8 191)], .agg [.lit (.int .u8 160), .lit (.int .u8 191)], .agg [.lit (.int .u8 128), .lit (.int .u8 159)], .agg [.lit (.int .u8 144), .lit (.int .u8 191)], .agg [.lit (.int .u8 128), .lit (.int .u8 143)], .agg [.lit (.int .u8 0), .lit (.int .u8 0)], .agg [.lit (.int .u8 0), .lit (.int .u8 0)], .agg [.lit (.int .u8 0), .lit (.int .u8 0)], .agg [.lit (.int .u8 0), .lit (.int .u8 0)], .agg [.lit (.int .u8 0), .lit (.int .u8 0)], .agg [.lit (.int .u8 0), .lit (.int .u8 0)], .agg [.lit (.int .u8 0), .lit (.int .u8 0)], .agg [.lit (.int .u8 0), .lit (.int .u8 0)], .agg [.lit (.int .u8 0), .lit (.int .u8 0)], .agg [.lit (.int .u8 0), .lit (.int .u8 0)], .agg [.lit (.int .u8 0), .lit (.int .u8 0)]]
/-- One of Go's own tables, pinned by name: the form's constant. -/
def laid_unicode_utf8_first : DataW Unit := Go.Pinned.utf8First

/-- 'pentaglotlaw05.CompositionMiddle': WHATEVER THE INPUT: true; the input reads as it did. -/
def compositionMiddleSpec : ChangeSpec := { name := "compositionMiddle", fn := fun _ => fun
  | [d1, d2, d3, d4, d5] => { results := [.lit (.bool true)], args := [d1, d2, d3, d4, d5] }
  | _ => none }
def compositionMiddleRow : OpenClaim := { program := "ytmjieefhjmiagaagreatdoor", sum := "8614ce53477b3dda615d07a479f8630cc0074a833a17c433bc45a12f72b5cce3", func := "pentaglot/pentaglotlaw05.CompositionMiddle", spec := "compositionMiddle", unfollowed := true, recurses := true, named := ["unicode/utf8.first", "unicode/utf8.acceptRanges"], plainKeys := false, apart := false, laid := [("unicode/utf8.acceptRanges", laid_unicode_utf8_acceptRanges), ("unicode/utf8.first", laid_unicode_utf8_first)] }
def CompositionMiddleSaid : Prop := compositionMiddleRow.holds Tryz.pinned (OpenSpec.ofChange compositionMiddleSpec)

/-- ITS FALSE NEIGHBOUR: 'it returns false'. Refute it at one input. -/
def compositionMiddleWrong : ChangeSpec := { name := "compositionMiddle", fn := fun _ => fun
  | [d1, d2, d3, d4, d5] => { results := [.lit (.bool false)], args := [d1, d2, d3, d4, d5] }
  | _ => none }
def CompositionMiddleWrongFalsely : Prop := compositionMiddleRow.holds Tryz.pinned (OpenSpec.ofChange compositionMiddleWrong)

/-- 'pentaglotlaw05.CompositionGiven': WHATEVER THE INPUT: true; the input reads as it did. -/
def compositionGivenSpec : ChangeSpec := { name := "compositionGiven", fn := fun _ => fun
  | [d1, d2, d3, d4, d5, d6] => { results := [.lit (.bool true)], args := [d1, d2, d3, d4, d5, d6] }
  | _ => none }
def compositionGivenRow : OpenClaim := { program := "ytmjieefhjmiagaagreatdoor", sum := "8614ce53477b3dda615d07a479f8630cc0074a833a17c433bc45a12f72b5cce3", func := "pentaglot/pentaglotlaw05.CompositionGiven", spec := "compositionGiven", unfollowed := true, recurses := true, named := ["unicode/utf8.first", "unicode/utf8.acceptRanges"], plainKeys := false, apart := false, laid := [("unicode/utf8.acceptRanges", laid_unicode_utf8_acceptRanges), ("unicode/utf8.first", laid_unicode_utf8_first)] }
def CompositionGivenSaid : Prop := compositionGivenRow.holds Tryz.pinned (OpenSpec.ofChange compositionGivenSpec)

/-- ITS FALSE NEIGHBOUR: 'it returns false'. Refute it at one input. -/
def compositionGivenWrong : ChangeSpec := { name := "compositionGiven", fn := fun _ => fun
  | [d1, d2, d3, d4, d5, d6] => { results := [.lit (.bool false)], args := [d1, d2, d3, d4, d5, d6] }
  | _ => none }
def CompositionGivenWrongFalsely : Prop := compositionGivenRow.holds Tryz.pinned (OpenSpec.ofChange compositionGivenWrong)

/-- 'pentaglotlaw05.CompositionBetween': WHATEVER THE INPUT: true; the input reads as it did. -/
def compositionBetweenSpec : ChangeSpec := { name := "compositionBetween", fn := fun _ => fun
  | [d1, d2, d3, d4, d5] => { results := [.lit (.bool true)], args := [d1, d2, d3, d4, d5] }
  | _ => none }
def compositionBetweenRow : OpenClaim := { program := "ytmjieefhjmiagaagreatdoor", sum := "8614ce53477b3dda615d07a479f8630cc0074a833a17c433bc45a12f72b5cce3", func := "pentaglot/pentaglotlaw05.CompositionBetween", spec := "compositionBetween", unfollowed := true, recurses := true, named := ["unicode/utf8.first", "unicode/utf8.acceptRanges"], plainKeys := false, apart := false, laid := [("unicode/utf8.acceptRanges", laid_unicode_utf8_acceptRanges), ("unicode/utf8.first", laid_unicode_utf8_first)] }
def CompositionBetweenSaid : Prop := compositionBetweenRow.holds Tryz.pinned (OpenSpec.ofChange compositionBetweenSpec)

/-- ITS FALSE NEIGHBOUR: 'it returns false'. Refute it at one input. -/
def compositionBetweenWrong : ChangeSpec := { name := "compositionBetween", fn := fun _ => fun
  | [d1, d2, d3, d4, d5] => { results := [.lit (.bool false)], args := [d1, d2, d3, d4, d5] }
  | _ => none }
def CompositionBetweenWrongFalsely : Prop := compositionBetweenRow.holds Tryz.pinned (OpenSpec.ofChange compositionBetweenWrong)

/-- 'pentaglotlaw05.CompositionRestrict': WHATEVER THE INPUT: true; the input reads as it did. -/
def compositionRestrictSpec : ChangeSpec := { name := "compositionRestrict", fn := fun _ => fun
  | [d1, d2, d3, d4] => { results := [.lit (.bool true)], args := [d1, d2, d3, d4] }
  | _ => none }
def compositionRestrictRow : OpenClaim := { program := "ytmjieefhjmiagaagreatdoor", sum := "8614ce53477b3dda615d07a479f8630cc0074a833a17c433bc45a12f72b5cce3", func := "pentaglot/pentaglotlaw05.CompositionRestrict", spec := "compositionRestrict", inPlace := ["internal/bytealg.IndexByteString", "internal/bytealg.IndexString"], unfollowed := true, recurses := true, named := ["unicode/utf8.first", "unicode/utf8.acceptRanges", "internal/bytealg.MaxLen"], plainKeys := false, apart := false, laid := [("unicode/utf8.acceptRanges", laid_unicode_utf8_acceptRanges), ("unicode/utf8.first", laid_unicode_utf8_first)] }
def CompositionRestrictSaid : Prop := compositionRestrictRow.holds Tryz.pinned (OpenSpec.ofChange compositionRestrictSpec)

/-- ITS FALSE NEIGHBOUR: 'it returns false'. Refute it at one input. -/
def compositionRestrictWrong : ChangeSpec := { name := "compositionRestrict", fn := fun _ => fun
  | [d1, d2, d3, d4] => { results := [.lit (.bool false)], args := [d1, d2, d3, d4] }
  | _ => none }
def CompositionRestrictWrongFalsely : Prop := compositionRestrictRow.holds Tryz.pinned (OpenSpec.ofChange compositionRestrictWrong)

/-- 'pentaglotlaw05.CompositionOne': WHATEVER THE INPUT: true; the input reads as it did. -/
def compositionOneSpec : ChangeSpec := { name := "compositionOne", fn := fun _ => fun
  | [d1, d2, d3] => { results := [.lit (.bool true)], args := [d1, d2, d3] }
  | _ => none }
def compositionOneRow : OpenClaim := { program := "ytmjieefhjmiagaagreatdoor", sum := "8614ce53477b3dda615d07a479f8630cc0074a833a17c433bc45a12f72b5cce3", func := "pentaglot/pentaglotlaw05.CompositionOne", spec := "compositionOne", unfollowed := true, recurses := true, named := ["unicode/utf8.first", "unicode/utf8.acceptRanges"], plainKeys := false, apart := false, laid := [("unicode/utf8.acceptRanges", laid_unicode_utf8_acceptRanges), ("unicode/utf8.first", laid_unicode_utf8_first)] }
def CompositionOneSaid : Prop := compositionOneRow.holds Tryz.pinned (OpenSpec.ofChange compositionOneSpec)

/-- ITS FALSE NEIGHBOUR: 'it returns false'. Refute it at one input. -/
def compositionOneWrong : ChangeSpec := { name := "compositionOne", fn := fun _ => fun
  | [d1, d2, d3] => { results := [.lit (.bool false)], args := [d1, d2, d3] }
  | _ => none }
def CompositionOneWrongFalsely : Prop := compositionOneRow.holds Tryz.pinned (OpenSpec.ofChange compositionOneWrong)

/- THE SECOND FORM. 'bulk': how many values and letters a reading holds, each counted each time it is reached (what is shared counts as often as it is met; a slice's spare places count too). A statement '..UptoSaid' is the law's where the arguments, and the package variables that the reading takes, are together of bulk at most 1048576: NARROWER than '..Said'. Prove '..Said' where nothing that the law and all that it calls make is longer than what came in: it says more and counts as full. Else prove '..UptoSaid'. A law counts once. -/
mutual
def uptoBulk {H : Type} : DataW H → Nat
  | .lit (.string bytes) => bytes.length + 1
  | .lit _ => 1
  | .nil => 1
  | .ptr d => uptoBulk d + 1
  | .slice elems spare => uptoBulkAll elems + uptoBulkAll spare + 1
  | .agg parts => uptoBulkAll parts + 1
  | .iface _ d => uptoBulk d + 1
  | .map entries => uptoBulkEntries entries + 1
  | .held _ => 1
def uptoBulkAll {H : Type} : List (DataW H) → Nat
  | [] => 0
  | d :: r => uptoBulk d + uptoBulkAll r
def uptoBulkEntries {H : Type} : List (Lit × DataW H) → Nat
  | [] => 0
  | x :: r => uptoBulkEntry x + uptoBulkEntries r
def uptoBulkEntry {H : Type} : Lit × DataW H → Nat
  | (.string bytes, d) => bytes.length + uptoBulk d + 1
  | (_, d) => uptoBulk d + 1
 end
def uptoSmall : (H : Type) → List (DataW H) → Bool := fun _ ds => decide (uptoBulkAll ds ≤ 1048576)
def OpenSpec.upto (s : _root_.Go.ChangeSpec) : _root_.Go.OpenSpec := { _root_.Go.OpenSpec.ofChange s with cond := some uptoSmall }

/-- 'pentaglotlaw05.CompositionMiddle', WHERE WHAT IT READS IS OF BULK AT MOST 1048576: true; the input reads as it did. -/
def compositionMiddleUptoRow : OpenClaim := { program := "ytmjieefhjmiagaagreatdoor", sum := "8614ce53477b3dda615d07a479f8630cc0074a833a17c433bc45a12f72b5cce3", func := "pentaglot/pentaglotlaw05.CompositionMiddle", spec := "compositionMiddle", unfollowed := true, recurses := true, named := ["unicode/utf8.first", "unicode/utf8.acceptRanges"], plainKeys := false, apart := false, laid := [("unicode/utf8.acceptRanges", laid_unicode_utf8_acceptRanges), ("unicode/utf8.first", laid_unicode_utf8_first)], narrowed := true }
def CompositionMiddleUptoSaid : Prop := compositionMiddleUptoRow.holds Tryz.pinned (OpenSpec.upto compositionMiddleSpec)

/-- 'pentaglotlaw05.CompositionGiven', WHERE WHAT IT READS IS OF BULK AT MOST 1048576: true; the input reads as it did. -/
def compositionGivenUptoRow : OpenClaim := { program := "ytmjieefhjmiagaagreatdoor", sum := "8614ce53477b3dda615d07a479f8630cc0074a833a17c433bc45a12f72b5cce3", func := "pentaglot/pentaglotlaw05.CompositionGiven", spec := "compositionGiven", unfollowed := true, recurses := true, named := ["unicode/utf8.first", "unicode/utf8.acceptRanges"], plainKeys := false, apart := false, laid := [("unicode/utf8.acceptRanges", laid_unicode_utf8_acceptRanges), ("unicode/utf8.first", laid_unicode_utf8_first)], narrowed := true }
def CompositionGivenUptoSaid : Prop := compositionGivenUptoRow.holds Tryz.pinned (OpenSpec.upto compositionGivenSpec)

/-- 'pentaglotlaw05.CompositionBetween', WHERE WHAT IT READS IS OF BULK AT MOST 1048576: true; the input reads as it did. -/
def compositionBetweenUptoRow : OpenClaim := { program := "ytmjieefhjmiagaagreatdoor", sum := "8614ce53477b3dda615d07a479f8630cc0074a833a17c433bc45a12f72b5cce3", func := "pentaglot/pentaglotlaw05.CompositionBetween", spec := "compositionBetween", unfollowed := true, recurses := true, named := ["unicode/utf8.first", "unicode/utf8.acceptRanges"], plainKeys := false, apart := false, laid := [("unicode/utf8.acceptRanges", laid_unicode_utf8_acceptRanges), ("unicode/utf8.first", laid_unicode_utf8_first)], narrowed := true }
def CompositionBetweenUptoSaid : Prop := compositionBetweenUptoRow.holds Tryz.pinned (OpenSpec.upto compositionBetweenSpec)

/-- 'pentaglotlaw05.CompositionRestrict', WHERE WHAT IT READS IS OF BULK AT MOST 1048576: true; the input reads as it did. -/
def compositionRestrictUptoRow : OpenClaim := { program := "ytmjieefhjmiagaagreatdoor", sum := "8614ce53477b3dda615d07a479f8630cc0074a833a17c433bc45a12f72b5cce3", func := "pentaglot/pentaglotlaw05.CompositionRestrict", spec := "compositionRestrict", inPlace := ["internal/bytealg.IndexByteString", "internal/bytealg.IndexString"], unfollowed := true, recurses := true, named := ["unicode/utf8.first", "unicode/utf8.acceptRanges", "internal/bytealg.MaxLen"], plainKeys := false, apart := false, laid := [("unicode/utf8.acceptRanges", laid_unicode_utf8_acceptRanges), ("unicode/utf8.first", laid_unicode_utf8_first)], narrowed := true }
def CompositionRestrictUptoSaid : Prop := compositionRestrictUptoRow.holds Tryz.pinned (OpenSpec.upto compositionRestrictSpec)

/-- 'pentaglotlaw05.CompositionOne', WHERE WHAT IT READS IS OF BULK AT MOST 1048576: true; the input reads as it did. -/
def compositionOneUptoRow : OpenClaim := { program := "ytmjieefhjmiagaagreatdoor", sum := "8614ce53477b3dda615d07a479f8630cc0074a833a17c433bc45a12f72b5cce3", func := "pentaglot/pentaglotlaw05.CompositionOne", spec := "compositionOne", unfollowed := true, recurses := true, named := ["unicode/utf8.first", "unicode/utf8.acceptRanges"], plainKeys := false, apart := false, laid := [("unicode/utf8.acceptRanges", laid_unicode_utf8_acceptRanges), ("unicode/utf8.first", laid_unicode_utf8_first)], narrowed := true }
def CompositionOneUptoSaid : Prop := compositionOneUptoRow.holds Tryz.pinned (OpenSpec.upto compositionOneSpec)

end Rows
end Go.Proofs.YtmjieefhjmiagaaGreatDoor
