/- A table of seven times seven answers, as the statement about repetitions fills it. Plain Lean. -/
import Derived.Test.YtoilmeiikgegcaaDoorGRep
import Derived.Test.YtoilmeiikgegcaaDoorGLw4
set_option linter.all false
namespace Go.Proofs.YtoilmeiikgegcaaDoor.G
open Go Go.RowKit
theorem grid_at {bs : List Bool} {p q : Nat} {b : Bool} (hb : bs[p * 7 + q]? = some b) : (bs.map Value.bool)[0 + p * 7 + q * 1]? = some (.bool b) := by
  rw [Nat.zero_add, Nat.mul_one, List.getElem?_map, hb]; rfl
theorem grid_set {bs : List Bool} {p q : Nat} {b : Bool} (h : p * 7 + q < bs.length) : (Nat.ble (0 + p * 7 + q * 1 + [Value.bool b].length) (bs.map Value.bool).length, (bs.map Value.bool).take (0 + p * 7 + q * 1) ++ ([Value.bool b] ++ (bs.map Value.bool).drop (0 + p * 7 + q * 1 + [Value.bool b].length))) = (true, (bs.set (p * 7 + q) b).map Value.bool) := by
  rw [Nat.zero_add, Nat.mul_one]
  refine Prod.ext ?_ ?_
  · simp only [List.length_singleton, List.length_map, Nat.ble_eq]; omega
  · simp only [List.length_singleton]
    rw [List.set_eq_take_append_cons_drop, if_pos h, List.map_append, List.map_cons, List.map_take, List.map_drop]
    rfl
section
variable {a : Tra} {x y : ByteArray} {bs : List Bool} {i k : Nat} {C : Prop}
theorem Tab.yes {p q : Nat} {b : Bool} (hx : x.size ≤ 6) (hy : y.size ≤ 6) (hi : i ≤ x.size) (hk : k ≤ y.size) (hp : p ≤ i) (hq : q ≤ k) (h : Tab a x y bs i k (Seen a x y i k p q)) (hb : bs[p * 7 + q]? = some b) (ht : (((decide ((p : Int) < i) || decide ((q : Int) < k)) && b) && relS a (x.extract p i) (y.extract q k)) = true) :
    Tab a x y (bs.set (i * 7 + k) true) i k (Seen a x y i k p (q + 1)) := by
  simp only [Bool.and_eq_true, Bool.or_eq_true, decide_eq_true_eq] at ht
  obtain ⟨⟨h1, rfl⟩, h3⟩ := ht
  have h1' : p < i ∨ q < k := by omega
  exact h.mark hx hy hi hk ((Seen.step hp hq).2 (.inr ⟨h1', (h.read hi hk hp hq h1' hb).1 rfl, h3⟩))
theorem Tab.no {p q : Nat} {b : Bool} (hi : i ≤ x.size) (hk : k ≤ y.size) (hp : p ≤ i) (hq : q ≤ k) (h : Tab a x y bs i k (Seen a x y i k p q)) (hb : bs[p * 7 + q]? = some b) (ht : (((decide ((p : Int) < i) || decide ((q : Int) < k)) && b) && relS a (x.extract p i) (y.extract q k)) = false) :
    Tab a x y bs i k (Seen a x y i k p (q + 1)) := by
  refine h.congr ((Seen.step hp hq).trans ⟨fun k' => ?_, .inl⟩).symm
  rcases k' with k' | ⟨h1, h2, h3⟩
  · exact k'
  · rw [(h.read hi hk hp hq h1 hb).2 h2, h3] at ht
    simp at ht
    omega
theorem Tab.fin (hx : x.size ≤ 6) (hy : y.size ≤ 6) (h : Tab a x y bs x.size y.size (Rch a x y x.size y.size)) : bs[x.size * 7 + y.size]? = some (rchB a x y x.size y.size) := by
  obtain ⟨b, hb⟩ := h.at_ (Nat.le_refl _) (Nat.le_refl _) hx hy
  have hc := h.cur
  rw [hb] at hc ⊢
  have : rchB a x y x.size y.size = true ↔ Rch a x y x.size y.size := by simp [rchB]
  congr 1
  rw [Bool.eq_iff_iff, this, ← hc]
  simp
theorem Tab.colS (hx : x.size ≤ 6) (hy : y.size ≤ 6) (hi : i ≤ x.size) (hk : k ≤ y.size) (h : Tab a x y bs i k (Seen a x y i k (i + 1) 0)) :
    (k + 1 ≤ y.size → Tab a x y bs i (k + 1) (Seen a x y i (k + 1) 0 0)) ∧ (k + 1 = y.size + 1 → Tab a x y bs i y.size (Rch a x y i y.size)) := by
  have h' := h.congr (Seen.full hi hk)
  refine ⟨fun hk1 => h'.next hx hy hi hk1, fun e => ?_⟩
  obtain e' : k = y.size := by omega
  rw [← e']; exact h'
theorem Tab.rowS (hx : x.size ≤ 6) (hy : y.size ≤ 6) (hi : i ≤ x.size) (h : Tab a x y bs i y.size (Rch a x y i y.size)) :
    (i + 1 ≤ x.size → Tab a x y bs (i + 1) 0 (Seen a x y (i + 1) 0 0 0)) ∧ (i + 1 = x.size + 1 → Tab a x y bs x.size y.size (Rch a x y x.size y.size)) := by
  refine ⟨fun hi1 => h.row hx hy hi1, fun e => ?_⟩
  have e' : i = x.size := by omega
  rw [← e']; exact h
theorem ext_mul6 {x y : ByteArray} {i j k l : Nat} (h1 : x.size ≤ 6) (h2 : y.size ≤ 6) : ((x.extract i j).size + 1) * ((y.extract k l).size + 1) ≤ 1073741824 := ext_mul (by omega) (by omega)
end
end Go.Proofs.YtoilmeiikgegcaaDoor.G
