/- Sizes and equality as the statements of chapter 04 test them. Plain Lean. -/
import Derived.Test.YtoilmeiikgegcaaDoorGAsl
set_option linter.all false
namespace Go.Proofs.YtoilmeiikgegcaaDoor.G
open Go Go.RowKit
def largeB (a : Tra) : Bool := decide (700 < (a.arcs.length : Int)) || decide (700 < (a.finals.length : Int))
def smallB (t : Tra) : Bool := decide ((t.arcs.length : Int) ≤ 20) && decide (t.states ≤ 10) && validT t
theorem smallB_or (t : Tra) : smallB t = !((decide (20 < (t.arcs.length : Int)) || decide (10 < t.states)) || !validT t) := by
  rw [smallB, Bool.not_or, Bool.not_or, Bool.not_not]
  congr 2 <;> simp [← decide_not]
theorem agree_eq {a b : Tra} {e f : Int} : decide ((a, e) = (b, f)) = (decide (e = f) && decide (a = b)) := by
  rw [Bool.eq_iff_iff]; simp; exact and_comm
theorem small_of {t : Tra} (h : smallB t = true) : validT t = true ∧ t.arcs.length ≤ 20 ∧ t.states ≤ 10 := by
  rw [smallB, Bool.and_eq_true, Bool.and_eq_true] at h
  have h1 := of_decide_eq_true h.1.1
  exact ⟨h.2, by omega, of_decide_eq_true h.1.2⟩
end Go.Proofs.YtoilmeiikgegcaaDoor.G
