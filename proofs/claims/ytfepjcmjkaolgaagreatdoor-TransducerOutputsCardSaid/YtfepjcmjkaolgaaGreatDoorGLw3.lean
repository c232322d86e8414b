/- What the laws of the chapter on transducers lean on. Plain Lean. -/
import Derived.Test.YtfepjcmjkaolgaaGreatDoorGEps
set_option linter.all false
namespace Go.Proofs.YtfepjcmjkaolgaaGreatDoor.G
open Go Go.RowKit
theorem q_to {P : Program} {n : Nat} {ops : Array Oper} {S : World → Prop} {o : Oper} {e : Env} {v v' : Value} (h : v = v') (q : Quiet P n ops S o e v) : Quiet P n ops S o e v' := h ▸ q
theorem validT_lab {t : Tra} (h : validT t = true) : ∀ x ∈ t.arcs, vRune x.inp = true ∧ vRune x.out = true := fun x hx => by
  simp only [validT, Bool.and_eq_true] at h
  have := List.all_eq_true.1 h.2.1.2 x hx
  simp only [arcOk, Bool.not_eq_true', Bool.or_eq_false_iff, Bool.not_eq_false'] at this
  exact ⟨this.1.2, this.2⟩
/-! Step -/
end Go.Proofs.YtfepjcmjkaolgaaGreatDoor.G
