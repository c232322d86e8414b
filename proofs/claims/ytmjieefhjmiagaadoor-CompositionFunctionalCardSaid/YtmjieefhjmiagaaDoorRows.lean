/-
  NARROWER THAN 'FOR EVERY INPUT', by the rows' own cells (each row's printed sentence says how): CompositionCompose: laid · CompositionThrough: laid · CompositionAssociates: laid · CompositionChain: laid · CompositionRelates: laid · CompositionFunctional: laid · CompositionInverts: laid.
  DERIVED. THE GIVEN ROWS OF THIS SEAT. 7 by the template 'for every input the law returns true; each argument reads behind the call as it read before'; 0 by the template 'total and deterministic' (their statements: YtmjieefhjmiagaaDoorTotals.lean).
  GIVEN WITH THE SEED: the statements are not yours to turn. If you find one false, say at which input.
  Laid BY PROGRAM, IN A SANDBOX (cutbox-rows.mjs): the forced cells as the released guide's own fill.sh prints them over the translation bf5336018d6864f5… (all of the seat's roots in one cut). By AI agents, Wed Nov 11 2026. No macro, syntax, notation, axiom, sorry.
-/
import Derived.Test.YtmjieefhjmiagaaDoorChecked
import GoSem.PinnedTables
import GoSem.Claim
import GoSem.ClaimJoined
import GoSem.ClaimMapViews
import Derived.JoinedTies
import Derived.KernelRfl
namespace Go.Proofs.YtmjieefhjmiagaaDoor
/- THE CELL 'sum', in the pinned program and in every row, IS THE sha256 OF THE DUMP (.gsa) THAT YtmjieefhjmiagaaDoorProg.lean LOADS. Nothing in Lean hashes anything: it is a label: what it is worth is what the hold of that sum in a sandbox is worth. -/
noncomputable def Tryd.pinned : Pinned := { name := "ytmjieefhjmiagaadoor", sum := "bf5336018d6864f5f6dbc2fdf1acbdcef60ccec7c323cd219b3cd10c024cc0c6", checked := Tryd.checked }
namespace Rows
def none {H : Type} : Left H := { results := [], args := [] }

/- WHAT THE LISTED PACKAGE-LEVEL VARIABLES READ AS WHEN THE CALL BEGINS. Each datum BY PROGRAM (the guide's laid-datum.mjs) off the statement by which the dump's own 'gosem.cut.vars' lays the variable. In a bare row this is a premise. The card (YtmjieefhjmiagaaDoorCards.lean) ties it to the program's text. -/
def laid_unicode_utf8_acceptRanges {H : Type} : DataW H := .agg [.agg [.lit (.int .u8 128), .lit (.int .u8 191)], .agg [.lit (.int .u8 160), .lit (.int .u8 191)], .agg [.lit (.int .u8 128), .lit (.int .u8 159)], .agg [.lit (.int .u8 144), .lit (.int .u8 191)], .agg [.lit (.int .u8 128), .lit (.int .u8 143)], .agg [.lit (.int .u8 0), .lit (.int .u8 0)], .agg [.lit (.int .u8 0), .lit (.int .u8 0)], .agg [.lit (.int .u8 0), .lit (.int .u8 0)], .agg [.lit (.int .u8 0), .lit (.int .u8 0)], .agg [.lit (.int .u8 0), .lit (.int .u8 0)], .agg [.lit (.int .u8 0), .lit (.int .u8 0)], .agg [.lit (.int .u8 0), .lit (.int .u8 0)], .agg [.lit (.int .u8 0), .lit (.int .u8 0)], .agg [.lit (.int .u8 0), .lit (.int .u8 0)], .agg [.lit (.int .u8 0), .lit (.int .u8 0)], .agg [.lit (.int .u8 0), .lit (.int .u8 0)]]
/-- One of Go's own tables, pinned by name: the form's constant. -/
def laid_unicode_utf8_first : DataW Unit := Go.Pinned.utf8First

/-- 'pentaglotlaw05.CompositionCompose': WHATEVER THE INPUT: true; the input reads as it did. -/
def compositionComposeSpec : ChangeSpec := { name := "compositionCompose", fn := fun _ => fun
  | [d1, d2] => { results := [.lit (.bool true)], args := [d1, d2] }
  | _ => none }
def compositionComposeRow : OpenClaim := { program := "ytmjieefhjmiagaadoor", sum := "bf5336018d6864f5f6dbc2fdf1acbdcef60ccec7c323cd219b3cd10c024cc0c6", func := "pentaglot/pentaglotlaw05.CompositionCompose", spec := "compositionCompose", unfollowed := true, recurses := true, named := ["unicode/utf8.first", "unicode/utf8.acceptRanges"], plainKeys := false, apart := false, laid := [("unicode/utf8.acceptRanges", laid_unicode_utf8_acceptRanges), ("unicode/utf8.first", laid_unicode_utf8_first)] }
def CompositionComposeSaid : Prop := compositionComposeRow.holds Tryd.pinned (OpenSpec.ofChange compositionComposeSpec)

/-- ITS FALSE NEIGHBOUR: 'it returns false'. Refute it at one input. -/
def compositionComposeWrong : ChangeSpec := { name := "compositionCompose", fn := fun _ => fun
  | [d1, d2] => { results := [.lit (.bool false)], args := [d1, d2] }
  | _ => none }
def CompositionComposeWrongFalsely : Prop := compositionComposeRow.holds Tryd.pinned (OpenSpec.ofChange compositionComposeWrong)

/-- 'pentaglotlaw05.CompositionThrough': WHATEVER THE INPUT: true; the input reads as it did. -/
def compositionThroughSpec : ChangeSpec := { name := "compositionThrough", fn := fun _ => fun
  | [d1, d2, d3, d4] => { results := [.lit (.bool true)], args := [d1, d2, d3, d4] }
  | _ => none }
def compositionThroughRow : OpenClaim := { program := "ytmjieefhjmiagaadoor", sum := "bf5336018d6864f5f6dbc2fdf1acbdcef60ccec7c323cd219b3cd10c024cc0c6", func := "pentaglot/pentaglotlaw05.CompositionThrough", spec := "compositionThrough", unfollowed := true, recurses := true, named := ["unicode/utf8.first", "unicode/utf8.acceptRanges"], plainKeys := false, apart := false, laid := [("unicode/utf8.acceptRanges", laid_unicode_utf8_acceptRanges), ("unicode/utf8.first", laid_unicode_utf8_first)] }
def CompositionThroughSaid : Prop := compositionThroughRow.holds Tryd.pinned (OpenSpec.ofChange compositionThroughSpec)

/-- ITS FALSE NEIGHBOUR: 'it returns false'. Refute it at one input. -/
def compositionThroughWrong : ChangeSpec := { name := "compositionThrough", fn := fun _ => fun
  | [d1, d2, d3, d4] => { results := [.lit (.bool false)], args := [d1, d2, d3, d4] }
  | _ => none }
def CompositionThroughWrongFalsely : Prop := compositionThroughRow.holds Tryd.pinned (OpenSpec.ofChange compositionThroughWrong)

/-- 'pentaglotlaw05.CompositionAssociates': WHATEVER THE INPUT: true; the input reads as it did. -/
def compositionAssociatesSpec : ChangeSpec := { name := "compositionAssociates", fn := fun _ => fun
  | [d1, d2, d3, d4, d5] => { results := [.lit (.bool true)], args := [d1, d2, d3, d4, d5] }
  | _ => none }
def compositionAssociatesRow : OpenClaim := { program := "ytmjieefhjmiagaadoor", sum := "bf5336018d6864f5f6dbc2fdf1acbdcef60ccec7c323cd219b3cd10c024cc0c6", func := "pentaglot/pentaglotlaw05.CompositionAssociates", spec := "compositionAssociates", unfollowed := true, recurses := true, named := ["unicode/utf8.first", "unicode/utf8.acceptRanges"], plainKeys := false, apart := false, laid := [("unicode/utf8.acceptRanges", laid_unicode_utf8_acceptRanges), ("unicode/utf8.first", laid_unicode_utf8_first)] }
def CompositionAssociatesSaid : Prop := compositionAssociatesRow.holds Tryd.pinned (OpenSpec.ofChange compositionAssociatesSpec)

/-- ITS FALSE NEIGHBOUR: 'it returns false'. Refute it at one input. -/
def compositionAssociatesWrong : ChangeSpec := { name := "compositionAssociates", fn := fun _ => fun
  | [d1, d2, d3, d4, d5] => { results := [.lit (.bool false)], args := [d1, d2, d3, d4, d5] }
  | _ => none }
def CompositionAssociatesWrongFalsely : Prop := compositionAssociatesRow.holds Tryd.pinned (OpenSpec.ofChange compositionAssociatesWrong)

/-- 'pentaglotlaw05.CompositionChain': WHATEVER THE INPUT: true; the input reads as it did. -/
def compositionChainSpec : ChangeSpec := { name := "compositionChain", fn := fun _ => fun
  | [d] => { results := [.lit (.bool true)], args := [d] }
  | _ => none }
def compositionChainRow : OpenClaim := { program := "ytmjieefhjmiagaadoor", sum := "bf5336018d6864f5f6dbc2fdf1acbdcef60ccec7c323cd219b3cd10c024cc0c6", func := "pentaglot/pentaglotlaw05.CompositionChain", spec := "compositionChain", unfollowed := true, recurses := true, named := ["unicode/utf8.first", "unicode/utf8.acceptRanges"], plainKeys := false, apart := false, laid := [("unicode/utf8.acceptRanges", laid_unicode_utf8_acceptRanges), ("unicode/utf8.first", laid_unicode_utf8_first)] }
def CompositionChainSaid : Prop := compositionChainRow.holds Tryd.pinned (OpenSpec.ofChange compositionChainSpec)

/-- ITS FALSE NEIGHBOUR: 'it returns false'. Refute it at one input. -/
def compositionChainWrong : ChangeSpec := { name := "compositionChain", fn := fun _ => fun
  | [d] => { results := [.lit (.bool false)], args := [d] }
  | _ => none }
def CompositionChainWrongFalsely : Prop := compositionChainRow.holds Tryd.pinned (OpenSpec.ofChange compositionChainWrong)

/-- 'pentaglotlaw05.CompositionRelates': WHATEVER THE INPUT: true; the input reads as it did. -/
def compositionRelatesSpec : ChangeSpec := { name := "compositionRelates", fn := fun _ => fun
  | [d1, d2, d3, d4] => { results := [.lit (.bool true)], args := [d1, d2, d3, d4] }
  | _ => none }
def compositionRelatesRow : OpenClaim := { program := "ytmjieefhjmiagaadoor", sum := "bf5336018d6864f5f6dbc2fdf1acbdcef60ccec7c323cd219b3cd10c024cc0c6", func := "pentaglot/pentaglotlaw05.CompositionRelates", spec := "compositionRelates", unfollowed := true, recurses := true, named := ["unicode/utf8.first", "unicode/utf8.acceptRanges"], plainKeys := false, apart := false, laid := [("unicode/utf8.acceptRanges", laid_unicode_utf8_acceptRanges), ("unicode/utf8.first", laid_unicode_utf8_first)] }
def CompositionRelatesSaid : Prop := compositionRelatesRow.holds Tryd.pinned (OpenSpec.ofChange compositionRelatesSpec)

/-- ITS FALSE NEIGHBOUR: 'it returns false'. Refute it at one input. -/
def compositionRelatesWrong : ChangeSpec := { name := "compositionRelates", fn := fun _ => fun
  | [d1, d2, d3, d4] => { results := [.lit (.bool false)], args := [d1, d2, d3, d4] }
  | _ => none }
def CompositionRelatesWrongFalsely : Prop := compositionRelatesRow.holds Tryd.pinned (OpenSpec.ofChange compositionRelatesWrong)

/-- 'pentaglotlaw05.CompositionFunctional': WHATEVER THE INPUT: true; the input reads as it did. -/
def compositionFunctionalSpec : ChangeSpec := { name := "compositionFunctional", fn := fun _ => fun
  | [d1, d2] => { results := [.lit (.bool true)], args := [d1, d2] }
  | _ => none }
def compositionFunctionalRow : OpenClaim := { program := "ytmjieefhjmiagaadoor", sum := "bf5336018d6864f5f6dbc2fdf1acbdcef60ccec7c323cd219b3cd10c024cc0c6", func := "pentaglot/pentaglotlaw05.CompositionFunctional", spec := "compositionFunctional", unfollowed := true, recurses := true, named := ["unicode/utf8.first", "unicode/utf8.acceptRanges"], plainKeys := false, apart := false, laid := [("unicode/utf8.acceptRanges", laid_unicode_utf8_acceptRanges), ("unicode/utf8.first", laid_unicode_utf8_first)] }
def CompositionFunctionalSaid : Prop := compositionFunctionalRow.holds Tryd.pinned (OpenSpec.ofChange compositionFunctionalSpec)

/-- ITS FALSE NEIGHBOUR: 'it returns false'. Refute it at one input. -/
def compositionFunctionalWrong : ChangeSpec := { name := "compositionFunctional", fn := fun _ => fun
  | [d1, d2] => { results := [.lit (.bool false)], args := [d1, d2] }
  | _ => none }
def CompositionFunctionalWrongFalsely : Prop := compositionFunctionalRow.holds Tryd.pinned (OpenSpec.ofChange compositionFunctionalWrong)

/-- 'pentaglotlaw05.CompositionInverts': WHATEVER THE INPUT: true; the input reads as it did. -/
def compositionInvertsSpec : ChangeSpec := { name := "compositionInverts", fn := fun _ => fun
  | [d1, d2, d3, d4] => { results := [.lit (.bool true)], args := [d1, d2, d3, d4] }
  | _ => none }
def compositionInvertsRow : OpenClaim := { program := "ytmjieefhjmiagaadoor", sum := "bf5336018d6864f5f6dbc2fdf1acbdcef60ccec7c323cd219b3cd10c024cc0c6", func := "pentaglot/pentaglotlaw05.CompositionInverts", spec := "compositionInverts", unfollowed := true, recurses := true, named := ["unicode/utf8.first", "unicode/utf8.acceptRanges"], plainKeys := false, apart := false, laid := [("unicode/utf8.acceptRanges", laid_unicode_utf8_acceptRanges), ("unicode/utf8.first", laid_unicode_utf8_first)] }
def CompositionInvertsSaid : Prop := compositionInvertsRow.holds Tryd.pinned (OpenSpec.ofChange compositionInvertsSpec)

/-- ITS FALSE NEIGHBOUR: 'it returns false'. Refute it at one input. -/
def compositionInvertsWrong : ChangeSpec := { name := "compositionInverts", fn := fun _ => fun
  | [d1, d2, d3, d4] => { results := [.lit (.bool false)], args := [d1, d2, d3, d4] }
  | _ => none }
def CompositionInvertsWrongFalsely : Prop := compositionInvertsRow.holds Tryd.pinned (OpenSpec.ofChange compositionInvertsWrong)

/- THE SECOND FORM. 'bulk': how many values and letters a reading holds, each counted each time it is reached (what is shared counts as often as it is met; a slice's spare places count too). A statement '..UptoSaid' is the law's where the arguments, and the package variables that the reading takes, are together of bulk at most 1048576: NARROWER than '..Said'. Prove '..Said' where nothing that the law and all that it calls make is longer than what came in: it says more and counts as full. Else prove '..UptoSaid'. A law counts once. -/
mutual
def uptoBulk {H : Type} : DataW H → Nat
  | .lit (.string bytes) => bytes.length + 1
  | .lit _ => 1
  | .nil => 1
  | .ptr d => uptoBulk d + 1
  | .slice elems spare => uptoBulkAll elems + uptoBulkAll spare + 1
  | .agg parts => uptoBulkAll parts + 1
  | .iface _ d => uptoBulk d + 1
  | .map entries => uptoBulkEntries entries + 1
  | .held _ => 1
def uptoBulkAll {H : Type} : List (DataW H) → Nat
  | [] => 0
  | d :: r => uptoBulk d + uptoBulkAll r
def uptoBulkEntries {H : Type} : List (Lit × DataW H) → Nat
  | [] => 0
  | x :: r => uptoBulkEntry x + uptoBulkEntries r
def uptoBulkEntry {H : Type} : Lit × DataW H → Nat
  | (.string bytes, d) => bytes.length + uptoBulk d + 1
  | (_, d) => uptoBulk d + 1
 end
def uptoSmall : (H : Type) → List (DataW H) → Bool := fun _ ds => decide (uptoBulkAll ds ≤ 1048576)
def OpenSpec.upto (s : _root_.Go.ChangeSpec) : _root_.Go.OpenSpec := { _root_.Go.OpenSpec.ofChange s with cond := some uptoSmall }

/-- 'pentaglotlaw05.CompositionCompose', WHERE WHAT IT READS IS OF BULK AT MOST 1048576: true; the input reads as it did. -/
def compositionComposeUptoRow : OpenClaim := { program := "ytmjieefhjmiagaadoor", sum := "bf5336018d6864f5f6dbc2fdf1acbdcef60ccec7c323cd219b3cd10c024cc0c6", func := "pentaglot/pentaglotlaw05.CompositionCompose", spec := "compositionCompose", unfollowed := true, recurses := true, named := ["unicode/utf8.first", "unicode/utf8.acceptRanges"], plainKeys := false, apart := false, laid := [("unicode/utf8.acceptRanges", laid_unicode_utf8_acceptRanges), ("unicode/utf8.first", laid_unicode_utf8_first)], narrowed := true }
def CompositionComposeUptoSaid : Prop := compositionComposeUptoRow.holds Tryd.pinned (OpenSpec.upto compositionComposeSpec)

/-- 'pentaglotlaw05.CompositionThrough', WHERE WHAT IT READS IS OF BULK AT MOST 1048576: true; the input reads as it did. -/
def compositionThroughUptoRow : OpenClaim := { program := "ytmjieefhjmiagaadoor", sum := "bf5336018d6864f5f6dbc2fdf1acbdcef60ccec7c323cd219b3cd10c024cc0c6", func := "pentaglot/pentaglotlaw05.CompositionThrough", spec := "compositionThrough", unfollowed := true, recurses := true, named := ["unicode/utf8.first", "unicode/utf8.acceptRanges"], plainKeys := false, apart := false, laid := [("unicode/utf8.acceptRanges", laid_unicode_utf8_acceptRanges), ("unicode/utf8.first", laid_unicode_utf8_first)], narrowed := true }
def CompositionThroughUptoSaid : Prop := compositionThroughUptoRow.holds Tryd.pinned (OpenSpec.upto compositionThroughSpec)

/-- 'pentaglotlaw05.CompositionAssociates', WHERE WHAT IT READS IS OF BULK AT MOST 1048576: true; the input reads as it did. -/
def compositionAssociatesUptoRow : OpenClaim := { program := "ytmjieefhjmiagaadoor", sum := "bf5336018d6864f5f6dbc2fdf1acbdcef60ccec7c323cd219b3cd10c024cc0c6", func := "pentaglot/pentaglotlaw05.CompositionAssociates", spec := "compositionAssociates", unfollowed := true, recurses := true, named := ["unicode/utf8.first", "unicode/utf8.acceptRanges"], plainKeys := false, apart := false, laid := [("unicode/utf8.acceptRanges", laid_unicode_utf8_acceptRanges), ("unicode/utf8.first", laid_unicode_utf8_first)], narrowed := true }
def CompositionAssociatesUptoSaid : Prop := compositionAssociatesUptoRow.holds Tryd.pinned (OpenSpec.upto compositionAssociatesSpec)

/-- 'pentaglotlaw05.CompositionChain', WHERE WHAT IT READS IS OF BULK AT MOST 1048576: true; the input reads as it did. -/
def compositionChainUptoRow : OpenClaim := { program := "ytmjieefhjmiagaadoor", sum := "bf5336018d6864f5f6dbc2fdf1acbdcef60ccec7c323cd219b3cd10c024cc0c6", func := "pentaglot/pentaglotlaw05.CompositionChain", spec := "compositionChain", unfollowed := true, recurses := true, named := ["unicode/utf8.first", "unicode/utf8.acceptRanges"], plainKeys := false, apart := false, laid := [("unicode/utf8.acceptRanges", laid_unicode_utf8_acceptRanges), ("unicode/utf8.first", laid_unicode_utf8_first)], narrowed := true }
def CompositionChainUptoSaid : Prop := compositionChainUptoRow.holds Tryd.pinned (OpenSpec.upto compositionChainSpec)

/-- 'pentaglotlaw05.CompositionRelates', WHERE WHAT IT READS IS OF BULK AT MOST 1048576: true; the input reads as it did. -/
def compositionRelatesUptoRow : OpenClaim := { program := "ytmjieefhjmiagaadoor", sum := "bf5336018d6864f5f6dbc2fdf1acbdcef60ccec7c323cd219b3cd10c024cc0c6", func := "pentaglot/pentaglotlaw05.CompositionRelates", spec := "compositionRelates", unfollowed := true, recurses := true, named := ["unicode/utf8.first", "unicode/utf8.acceptRanges"], plainKeys := false, apart := false, laid := [("unicode/utf8.acceptRanges", laid_unicode_utf8_acceptRanges), ("unicode/utf8.first", laid_unicode_utf8_first)], narrowed := true }
def CompositionRelatesUptoSaid : Prop := compositionRelatesUptoRow.holds Tryd.pinned (OpenSpec.upto compositionRelatesSpec)

/-- 'pentaglotlaw05.CompositionFunctional', WHERE WHAT IT READS IS OF BULK AT MOST 1048576: true; the input reads as it did. -/
def compositionFunctionalUptoRow : OpenClaim := { program := "ytmjieefhjmiagaadoor", sum := "bf5336018d6864f5f6dbc2fdf1acbdcef60ccec7c323cd219b3cd10c024cc0c6", func := "pentaglot/pentaglotlaw05.CompositionFunctional", spec := "compositionFunctional", unfollowed := true, recurses := true, named := ["unicode/utf8.first", "unicode/utf8.acceptRanges"], plainKeys := false, apart := false, laid := [("unicode/utf8.acceptRanges", laid_unicode_utf8_acceptRanges), ("unicode/utf8.first", laid_unicode_utf8_first)], narrowed := true }
def CompositionFunctionalUptoSaid : Prop := compositionFunctionalUptoRow.holds Tryd.pinned (OpenSpec.upto compositionFunctionalSpec)

/-- 'pentaglotlaw05.CompositionInverts', WHERE WHAT IT READS IS OF BULK AT MOST 1048576: true; the input reads as it did. -/
def compositionInvertsUptoRow : OpenClaim := { program := "ytmjieefhjmiagaadoor", sum := "bf5336018d6864f5f6dbc2fdf1acbdcef60ccec7c323cd219b3cd10c024cc0c6", func := "pentaglot/pentaglotlaw05.CompositionInverts", spec := "compositionInverts", unfollowed := true, recurses := true, named := ["unicode/utf8.first", "unicode/utf8.acceptRanges"], plainKeys := false, apart := false, laid := [("unicode/utf8.acceptRanges", laid_unicode_utf8_acceptRanges), ("unicode/utf8.first", laid_unicode_utf8_first)], narrowed := true }
def CompositionInvertsUptoSaid : Prop := compositionInvertsUptoRow.holds Tryd.pinned (OpenSpec.upto compositionInvertsSpec)

end Rows
end Go.Proofs.YtmjieefhjmiagaaDoor
