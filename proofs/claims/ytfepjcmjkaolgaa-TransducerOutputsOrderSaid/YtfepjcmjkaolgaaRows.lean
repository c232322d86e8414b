/-
  No cell of these rows narrows 'for every input' (looked for: loops, veiled, ifaces, maps, wideKeys, modest, calm, conditions, laid).
  DERIVED. THE GIVEN ROWS OF THIS SEAT. 7 by the template 'for every input the law returns true; each argument reads behind the call as it read before'; 0 by the template 'total and deterministic' (their statements: YtfepjcmjkaolgaaTotals.lean).
  GIVEN WITH THE SEED: the statements are not yours to turn. If you find one false, say at which input.
  Laid BY PROGRAM, IN A SANDBOX (cutbox-rows.mjs): the forced cells as the released guide's own fill.sh prints them over the translation 9ef44f2dbfedda9b… (all of the seat's roots in one cut). By AI agents, Wed Nov 11 2026. No macro, syntax, notation, axiom, sorry.
-/
import Derived.Test.YtfepjcmjkaolgaaChecked
import GoSem.Claim
import GoSem.ClaimJoined
import GoSem.ClaimMapViews
import Derived.JoinedTies
import Derived.KernelRfl
namespace Go.Proofs.Ytfepjcmjkaolgaa
/- THE CELL 'sum', in the pinned program and in every row, IS THE sha256 OF THE DUMP (.gsa) THAT YtfepjcmjkaolgaaProg.lean LOADS. Nothing in Lean hashes anything: it is a label: what it is worth is what the hold of that sum in a sandbox is worth. -/
noncomputable def Try.pinned : Pinned := { name := "ytfepjcmjkaolgaa", sum := "9ef44f2dbfedda9be45fa3ca37f2955cc4b10c18e7774ea68b764bc90c569095", checked := Try.checked }
namespace Rows
def none {H : Type} : Left H := { results := [], args := [] }

/-- 'pentaglotlaw03.TransducerValid': WHATEVER THE INPUT: true; the input reads as it did. -/
def transducerValidSpec : ChangeSpec := { name := "transducerValid", fn := fun _ => fun
  | [d1, d2, d3, d4, d5] => { results := [.lit (.bool true)], args := [d1, d2, d3, d4, d5] }
  | _ => none }
def transducerValidRow : OpenClaim := { program := "ytfepjcmjkaolgaa", sum := "9ef44f2dbfedda9be45fa3ca37f2955cc4b10c18e7774ea68b764bc90c569095", func := "pentaglot/pentaglotlaw03.TransducerValid", spec := "transducerValid", unfollowed := true, recurses := true, plainKeys := false, apart := false }
def TransducerValidSaid : Prop := transducerValidRow.holds Try.pinned (OpenSpec.ofChange transducerValidSpec)

/-- ITS FALSE NEIGHBOUR: 'it returns false'. Refute it at one input. -/
def transducerValidWrong : ChangeSpec := { name := "transducerValid", fn := fun _ => fun
  | [d1, d2, d3, d4, d5] => { results := [.lit (.bool false)], args := [d1, d2, d3, d4, d5] }
  | _ => none }
def TransducerValidWrongFalsely : Prop := transducerValidRow.holds Try.pinned (OpenSpec.ofChange transducerValidWrong)

/-- 'pentaglotlaw03.TransducerOutputsOrder': WHATEVER THE INPUT: true; the input reads as it did. -/
def transducerOutputsOrderSpec : ChangeSpec := { name := "transducerOutputsOrder", fn := fun _ => fun
  | [d1, d2, d3, d4] => { results := [.lit (.bool true)], args := [d1, d2, d3, d4] }
  | _ => none }
def transducerOutputsOrderRow : OpenClaim := { program := "ytfepjcmjkaolgaa", sum := "9ef44f2dbfedda9be45fa3ca37f2955cc4b10c18e7774ea68b764bc90c569095", func := "pentaglot/pentaglotlaw03.TransducerOutputsOrder", spec := "transducerOutputsOrder", unfollowed := true, recurses := true, plainKeys := false, apart := false }
def TransducerOutputsOrderSaid : Prop := transducerOutputsOrderRow.holds Try.pinned (OpenSpec.ofChange transducerOutputsOrderSpec)

/-- ITS FALSE NEIGHBOUR: 'it returns false'. Refute it at one input. -/
def transducerOutputsOrderWrong : ChangeSpec := { name := "transducerOutputsOrder", fn := fun _ => fun
  | [d1, d2, d3, d4] => { results := [.lit (.bool false)], args := [d1, d2, d3, d4] }
  | _ => none }
def TransducerOutputsOrderWrongFalsely : Prop := transducerOutputsOrderRow.holds Try.pinned (OpenSpec.ofChange transducerOutputsOrderWrong)

/-- 'pentaglotlaw03.TransducerEmpty': WHATEVER THE INPUT: true; the input reads as it did. -/
def transducerEmptySpec : ChangeSpec := { name := "transducerEmpty", fn := fun _ => fun
  | [d1, d2, d3] => { results := [.lit (.bool true)], args := [d1, d2, d3] }
  | _ => none }
def transducerEmptyRow : OpenClaim := { program := "ytfepjcmjkaolgaa", sum := "9ef44f2dbfedda9be45fa3ca37f2955cc4b10c18e7774ea68b764bc90c569095", func := "pentaglot/pentaglotlaw03.TransducerEmpty", spec := "transducerEmpty", unfollowed := true, recurses := true, plainKeys := false, apart := false }
def TransducerEmptySaid : Prop := transducerEmptyRow.holds Try.pinned (OpenSpec.ofChange transducerEmptySpec)

/-- ITS FALSE NEIGHBOUR: 'it returns false'. Refute it at one input. -/
def transducerEmptyWrong : ChangeSpec := { name := "transducerEmpty", fn := fun _ => fun
  | [d1, d2, d3] => { results := [.lit (.bool false)], args := [d1, d2, d3] }
  | _ => none }
def TransducerEmptyWrongFalsely : Prop := transducerEmptyRow.holds Try.pinned (OpenSpec.ofChange transducerEmptyWrong)

/-- 'pentaglotlaw03.TransducerTrim': WHATEVER THE INPUT: true; the input reads as it did. -/
def transducerTrimSpec : ChangeSpec := { name := "transducerTrim", fn := fun _ => fun
  | [d] => { results := [.lit (.bool true)], args := [d] }
  | _ => none }
def transducerTrimRow : OpenClaim := { program := "ytfepjcmjkaolgaa", sum := "9ef44f2dbfedda9be45fa3ca37f2955cc4b10c18e7774ea68b764bc90c569095", func := "pentaglot/pentaglotlaw03.TransducerTrim", spec := "transducerTrim", unfollowed := true, recurses := true, plainKeys := false, apart := false }
def TransducerTrimSaid : Prop := transducerTrimRow.holds Try.pinned (OpenSpec.ofChange transducerTrimSpec)

/-- ITS FALSE NEIGHBOUR: 'it returns false'. Refute it at one input. -/
def transducerTrimWrong : ChangeSpec := { name := "transducerTrim", fn := fun _ => fun
  | [d] => { results := [.lit (.bool false)], args := [d] }
  | _ => none }
def TransducerTrimWrongFalsely : Prop := transducerTrimRow.holds Try.pinned (OpenSpec.ofChange transducerTrimWrong)

/-- 'pentaglotlaw03.TransducerTrimKeeps': WHATEVER THE INPUT: true; the input reads as it did. -/
def transducerTrimKeepsSpec : ChangeSpec := { name := "transducerTrimKeeps", fn := fun _ => fun
  | [d1, d2, d3] => { results := [.lit (.bool true)], args := [d1, d2, d3] }
  | _ => none }
def transducerTrimKeepsRow : OpenClaim := { program := "ytfepjcmjkaolgaa", sum := "9ef44f2dbfedda9be45fa3ca37f2955cc4b10c18e7774ea68b764bc90c569095", func := "pentaglot/pentaglotlaw03.TransducerTrimKeeps", spec := "transducerTrimKeeps", unfollowed := true, recurses := true, plainKeys := false, apart := false }
def TransducerTrimKeepsSaid : Prop := transducerTrimKeepsRow.holds Try.pinned (OpenSpec.ofChange transducerTrimKeepsSpec)

/-- ITS FALSE NEIGHBOUR: 'it returns false'. Refute it at one input. -/
def transducerTrimKeepsWrong : ChangeSpec := { name := "transducerTrimKeeps", fn := fun _ => fun
  | [d1, d2, d3] => { results := [.lit (.bool false)], args := [d1, d2, d3] }
  | _ => none }
def TransducerTrimKeepsWrongFalsely : Prop := transducerTrimKeepsRow.holds Try.pinned (OpenSpec.ofChange transducerTrimKeepsWrong)

/-- 'pentaglotlaw03.TransducerStep': WHATEVER THE INPUT: true; the input reads as it did. -/
def transducerStepSpec : ChangeSpec := { name := "transducerStep", fn := fun _ => fun
  | [d1, d2, d3] => { results := [.lit (.bool true)], args := [d1, d2, d3] }
  | _ => none }
def transducerStepRow : OpenClaim := { program := "ytfepjcmjkaolgaa", sum := "9ef44f2dbfedda9be45fa3ca37f2955cc4b10c18e7774ea68b764bc90c569095", func := "pentaglot/pentaglotlaw03.TransducerStep", spec := "transducerStep", unfollowed := true, recurses := true, plainKeys := false, apart := false }
def TransducerStepSaid : Prop := transducerStepRow.holds Try.pinned (OpenSpec.ofChange transducerStepSpec)

/-- ITS FALSE NEIGHBOUR: 'it returns false'. Refute it at one input. -/
def transducerStepWrong : ChangeSpec := { name := "transducerStep", fn := fun _ => fun
  | [d1, d2, d3] => { results := [.lit (.bool false)], args := [d1, d2, d3] }
  | _ => none }
def TransducerStepWrongFalsely : Prop := transducerStepRow.holds Try.pinned (OpenSpec.ofChange transducerStepWrong)

/-- 'pentaglotlaw03.TransducerReads': WHATEVER THE INPUT: true; the input reads as it did. -/
def transducerReadsSpec : ChangeSpec := { name := "transducerReads", fn := fun _ => fun
  | [d1, d2] => { results := [.lit (.bool true)], args := [d1, d2] }
  | _ => none }
def transducerReadsRow : OpenClaim := { program := "ytfepjcmjkaolgaa", sum := "9ef44f2dbfedda9be45fa3ca37f2955cc4b10c18e7774ea68b764bc90c569095", func := "pentaglot/pentaglotlaw03.TransducerReads", spec := "transducerReads", unfollowed := true, recurses := true, plainKeys := false, apart := false }
def TransducerReadsSaid : Prop := transducerReadsRow.holds Try.pinned (OpenSpec.ofChange transducerReadsSpec)

/-- ITS FALSE NEIGHBOUR: 'it returns false'. Refute it at one input. -/
def transducerReadsWrong : ChangeSpec := { name := "transducerReads", fn := fun _ => fun
  | [d1, d2] => { results := [.lit (.bool false)], args := [d1, d2] }
  | _ => none }
def TransducerReadsWrongFalsely : Prop := transducerReadsRow.holds Try.pinned (OpenSpec.ofChange transducerReadsWrong)

/- THE SECOND FORM. 'bulk': how many values and letters a reading holds, each counted each time it is reached (what is shared counts as often as it is met; a slice's spare places count too). A statement '..UptoSaid' is the law's where the arguments, and the package variables that the reading takes, are together of bulk at most 1048576: NARROWER than '..Said'. Prove '..Said' where nothing that the law and all that it calls make is longer than what came in: it says more and counts as full. Else prove '..UptoSaid'. A law counts once. -/
mutual
def uptoBulk {H : Type} : DataW H → Nat
  | .lit (.string bytes) => bytes.length + 1
  | .lit _ => 1
  | .nil => 1
  | .ptr d => uptoBulk d + 1
  | .slice elems spare => uptoBulkAll elems + uptoBulkAll spare + 1
  | .agg parts => uptoBulkAll parts + 1
  | .iface _ d => uptoBulk d + 1
  | .map entries => uptoBulkEntries entries + 1
  | .held _ => 1
def uptoBulkAll {H : Type} : List (DataW H) → Nat
  | [] => 0
  | d :: r => uptoBulk d + uptoBulkAll r
def uptoBulkEntries {H : Type} : List (Lit × DataW H) → Nat
  | [] => 0
  | x :: r => uptoBulkEntry x + uptoBulkEntries r
def uptoBulkEntry {H : Type} : Lit × DataW H → Nat
  | (.string bytes, d) => bytes.length + uptoBulk d + 1
  | (_, d) => uptoBulk d + 1
 end
def uptoSmall : (H : Type) → List (DataW H) → Bool := fun _ ds => decide (uptoBulkAll ds ≤ 1048576)
def OpenSpec.upto (s : _root_.Go.ChangeSpec) : _root_.Go.OpenSpec := { _root_.Go.OpenSpec.ofChange s with cond := some uptoSmall }

/-- 'pentaglotlaw03.TransducerValid', WHERE WHAT IT READS IS OF BULK AT MOST 1048576: true; the input reads as it did. -/
def transducerValidUptoRow : OpenClaim := { program := "ytfepjcmjkaolgaa", sum := "9ef44f2dbfedda9be45fa3ca37f2955cc4b10c18e7774ea68b764bc90c569095", func := "pentaglot/pentaglotlaw03.TransducerValid", spec := "transducerValid", unfollowed := true, recurses := true, plainKeys := false, apart := false, narrowed := true }
def TransducerValidUptoSaid : Prop := transducerValidUptoRow.holds Try.pinned (OpenSpec.upto transducerValidSpec)

/-- 'pentaglotlaw03.TransducerOutputsOrder', WHERE WHAT IT READS IS OF BULK AT MOST 1048576: true; the input reads as it did. -/
def transducerOutputsOrderUptoRow : OpenClaim := { program := "ytfepjcmjkaolgaa", sum := "9ef44f2dbfedda9be45fa3ca37f2955cc4b10c18e7774ea68b764bc90c569095", func := "pentaglot/pentaglotlaw03.TransducerOutputsOrder", spec := "transducerOutputsOrder", unfollowed := true, recurses := true, plainKeys := false, apart := false, narrowed := true }
def TransducerOutputsOrderUptoSaid : Prop := transducerOutputsOrderUptoRow.holds Try.pinned (OpenSpec.upto transducerOutputsOrderSpec)

/-- 'pentaglotlaw03.TransducerEmpty', WHERE WHAT IT READS IS OF BULK AT MOST 1048576: true; the input reads as it did. -/
def transducerEmptyUptoRow : OpenClaim := { program := "ytfepjcmjkaolgaa", sum := "9ef44f2dbfedda9be45fa3ca37f2955cc4b10c18e7774ea68b764bc90c569095", func := "pentaglot/pentaglotlaw03.TransducerEmpty", spec := "transducerEmpty", unfollowed := true, recurses := true, plainKeys := false, apart := false, narrowed := true }
def TransducerEmptyUptoSaid : Prop := transducerEmptyUptoRow.holds Try.pinned (OpenSpec.upto transducerEmptySpec)

/-- 'pentaglotlaw03.TransducerTrim', WHERE WHAT IT READS IS OF BULK AT MOST 1048576: true; the input reads as it did. -/
def transducerTrimUptoRow : OpenClaim := { program := "ytfepjcmjkaolgaa", sum := "9ef44f2dbfedda9be45fa3ca37f2955cc4b10c18e7774ea68b764bc90c569095", func := "pentaglot/pentaglotlaw03.TransducerTrim", spec := "transducerTrim", unfollowed := true, recurses := true, plainKeys := false, apart := false, narrowed := true }
def TransducerTrimUptoSaid : Prop := transducerTrimUptoRow.holds Try.pinned (OpenSpec.upto transducerTrimSpec)

/-- 'pentaglotlaw03.TransducerTrimKeeps', WHERE WHAT IT READS IS OF BULK AT MOST 1048576: true; the input reads as it did. -/
def transducerTrimKeepsUptoRow : OpenClaim := { program := "ytfepjcmjkaolgaa", sum := "9ef44f2dbfedda9be45fa3ca37f2955cc4b10c18e7774ea68b764bc90c569095", func := "pentaglot/pentaglotlaw03.TransducerTrimKeeps", spec := "transducerTrimKeeps", unfollowed := true, recurses := true, plainKeys := false, apart := false, narrowed := true }
def TransducerTrimKeepsUptoSaid : Prop := transducerTrimKeepsUptoRow.holds Try.pinned (OpenSpec.upto transducerTrimKeepsSpec)

/-- 'pentaglotlaw03.TransducerStep', WHERE WHAT IT READS IS OF BULK AT MOST 1048576: true; the input reads as it did. -/
def transducerStepUptoRow : OpenClaim := { program := "ytfepjcmjkaolgaa", sum := "9ef44f2dbfedda9be45fa3ca37f2955cc4b10c18e7774ea68b764bc90c569095", func := "pentaglot/pentaglotlaw03.TransducerStep", spec := "transducerStep", unfollowed := true, recurses := true, plainKeys := false, apart := false, narrowed := true }
def TransducerStepUptoSaid : Prop := transducerStepUptoRow.holds Try.pinned (OpenSpec.upto transducerStepSpec)

/-- 'pentaglotlaw03.TransducerReads', WHERE WHAT IT READS IS OF BULK AT MOST 1048576: true; the input reads as it did. -/
def transducerReadsUptoRow : OpenClaim := { program := "ytfepjcmjkaolgaa", sum := "9ef44f2dbfedda9be45fa3ca37f2955cc4b10c18e7774ea68b764bc90c569095", func := "pentaglot/pentaglotlaw03.TransducerReads", spec := "transducerReads", unfollowed := true, recurses := true, plainKeys := false, apart := false, narrowed := true }
def TransducerReadsUptoSaid : Prop := transducerReadsUptoRow.holds Try.pinned (OpenSpec.upto transducerReadsSpec)

end Rows
end Go.Proofs.Ytfepjcmjkaolgaa
