/- The program's Relates: the search over places; composing and relating. Plain Lean. -/
import Derived.Test.YtmjieefhjmiagaaGreatDoorGChk
set_option linter.all false
namespace Go.Proofs.YtmjieefhjmiagaaGreatDoor.G
open Go Go.RowKit
noncomputable def relS (t : Tra) (x y : ByteArray) : Bool := ((validT t && okT x) && okT y) && relB t (runesL x) (runesL y)
theorem Tra.Ok.rng {t : Tra} {m : Nat} (h : t.Ok m) (hf : ∀ p ∈ t.finals, 0 ≤ p ∧ p < (m : Int)) : t.Rng m := ⟨h.start, hf, h.arcs⟩
theorem fit_get {l : List Int} {i : Nat} {r : Int} : (decide (r = 0) || (decide ((i : Int) < (l.length : Int)) && decide (l.getD i 0 = r))) = fitB l (i : Int) r := by
  rw [← eatB_fit, eatB]
  by_cases h : r = 0 <;> simp [h]
theorem fit_eps0 {l : List Int} {i : Int} {r : Int} (h : r = 0) : fitB l i r = true := by simp [fitB, h]
theorem eatK_ne {i : Nat} {r : Int} (h : ¬ r = 0) : eatK i r = (i : Int) + 1 := by rw [eatK, if_neg h]
theorem eatK_eq {i : Nat} {r : Int} (h : r = 0) : eatK i r = (i : Int) := by rw [eatK, if_pos h]
end Go.Proofs.YtmjieefhjmiagaaGreatDoor.G
