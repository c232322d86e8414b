/- The orders of arcs and of pairs: total, strict. Plain Lean. -/
import Derived.Test.YtmjieefhjmiagaaDoorGSort
set_option linter.all false
namespace Go.Proofs.YtmjieefhjmiagaaDoor.G
open Go Go.RowKit Go.Sort Go.Shelf
instance : Inhabited Arc := ⟨⟨0, 0, 0, 0⟩⟩
instance : Inhabited Pair := ⟨⟨0, 0⟩⟩
def ltArc (x y : Arc) : Prop := x.src < y.src ∨ (x.src = y.src ∧ (x.dst < y.dst ∨ (x.dst = y.dst ∧ (x.inp < y.inp ∨ (x.inp = y.inp ∧ x.out < y.out)))))
def ltPair (x y : Pair) : Prop := x.p < y.p ∨ (x.p = y.p ∧ x.q < y.q)
theorem orL_cons (x y : Int) (l : List Int) : orL (cmpI x y :: l) < 0 ↔ x < y ∨ (x = y ∧ orL l < 0) := by
  simp only [orL, cmpI]
  by_cases h1 : x < y
  · simp [h1]
  · by_cases h2 : y < x
    · simp [h1, h2]; omega
    · have : x = y := by omega
      simp [this]
theorem ordA_lt (x y : Arc) : ordA x y < 0 ↔ ltArc x y := by
  unfold ordA ltArc
  rw [orL_cons, orL_cons, orL_cons, orL_cons]
  simp [orL]
theorem ordP_lt (x y : Pair) : ordP x y < 0 ↔ ltPair x y := by
  unfold ordP ltPair
  rw [orL_cons, orL_cons]
  simp [orL]
theorem ltA (x y : Arc) : ltOf ordA x y = true ↔ ltArc x y := by simp [ltOf, ordA_lt]
theorem ltA' (x y : Arc) : ltOf ordA x y = false ↔ ¬ ltArc x y := by rw [← ltA]; simp
theorem ltP (x y : Pair) : ltOf ordP x y = true ↔ ltPair x y := by simp [ltOf, ordP_lt]
theorem ltP' (x y : Pair) : ltOf ordP x y = false ↔ ¬ ltPair x y := by rw [← ltP]; simp
theorem swoA : SWO (ltOf ordA) where
  irrefl x := by rw [ltA']; unfold ltArc; omega
  trans x y z h1 h2 := by rw [ltA] at *; unfold ltArc at *; omega
  ntrans x y z h1 h2 := by rw [ltA'] at *; unfold ltArc at *; omega
theorem swoP : SWO (ltOf ordP) where
  irrefl x := by rw [ltP']; unfold ltPair; omega
  trans x y z h1 h2 := by rw [ltP] at *; unfold ltPair at *; omega
  ntrans x y z h1 h2 := by rw [ltP'] at *; unfold ltPair at *; omega
theorem totA (x y : Arc) (h1 : ltOf ordA x y = false) (h2 : ltOf ordA y x = false) : x = y := by
  rw [ltA'] at *; unfold ltArc at *
  cases x; cases y; simp at *; omega
theorem totP (x y : Pair) (h1 : ltOf ordP x y = false) (h2 : ltOf ordP y x = false) : x = y := by
  rw [ltP'] at *; unfold ltPair at *
  cases x; cases y; simp at *; omega
/-- Sorted. -/
def srtA (l : List Arc) : List Arc := l.mergeSort fun x y => !(ltOf ordA) y x
def srtP (l : List Pair) : List Pair := l.mergeSort fun x y => !(ltOf ordP) y x
end Go.Proofs.YtmjieefhjmiagaaDoor.G
