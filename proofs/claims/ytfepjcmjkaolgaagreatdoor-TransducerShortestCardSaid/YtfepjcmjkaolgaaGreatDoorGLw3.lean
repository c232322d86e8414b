/- What the laws of the chapter on transducers lean on. Plain Lean. -/
import Derived.Test.YtfepjcmjkaolgaaGreatDoorGEps
set_option linter.all false
namespace Go.Proofs.YtfepjcmjkaolgaaGreatDoor.G
open Go Go.RowKit
theorem q_to {P : Program} {n : Nat} {ops : Array Oper} {S : World → Prop} {o : Oper} {e : Env} {v v' : Value} (h : v = v') (q : Quiet P n ops S o e v) : Quiet P n ops S o e v' := h ▸ q
theorem validT_lab {t : Tra} (h : validT t = true) : ∀ x ∈ t.arcs, vRune x.inp = true ∧ vRune x.out = true := fun x hx => by
  simp only [validT, Bool.and_eq_true] at h
  have := List.all_eq_true.1 h.2.1.2 x hx
  simp only [arcOk, Bool.not_eq_true', Bool.or_eq_false_iff, Bool.not_eq_false'] at this
  exact ⟨this.1.2, this.2⟩
/-! Step -/
theorem reach_ext {α : Type} {E E' : α → List α} {S S' : α → Prop} (h : ∀ s d, d ∈ E s ↔ d ∈ E' s) (hS : ∀ s, S s ↔ S' s) {s : α} : Reach E S s ↔ Reach E' S' s := by
  constructor
  · intro k
    induction k with
    | base hb => exact .base ((hS _).1 hb)
    | tail _ hy ih => exact .tail ih ((h _ _).1 hy)
  · intro k
    induction k with
    | base hb => exact .base ((hS _).2 hb)
    | tail _ hy ih => exact .tail ih ((h _ _).2 hy)
end Go.Proofs.YtfepjcmjkaolgaaGreatDoor.G
