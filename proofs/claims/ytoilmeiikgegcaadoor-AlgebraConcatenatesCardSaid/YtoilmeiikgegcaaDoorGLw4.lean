/- Sizes and equality as the statements of chapter 04 test them. Plain Lean. -/
import Derived.Test.YtoilmeiikgegcaaDoorGAsl
set_option linter.all false
namespace Go.Proofs.YtoilmeiikgegcaaDoor.G
open Go Go.RowKit
theorem peta {α β : Type} {p : α × β} : (p.1, p.2) = p := rfl
theorem rdTras1 {I : Heap} {u : SV} {a : Tra} {fa aa : SV} (R : rdSl ETra I (sv u) [⟨a.states, a.start, fa, aa⟩]) (h1 : rdSl EInt I (sv fa) a.finals) (h2 : rdSl EArc I (sv aa) a.arcs) : rdTras I (sv u) [a] := by
  refine ⟨_, R, rfl, fun j r t hr ht => ?_⟩
  match j, hr, ht with
  | 0, hr, ht => simp at hr ht; subst hr ht; exact ⟨fa, aa, rfl, h1, h2⟩
def largeB (a : Tra) : Bool := decide (700 < (a.arcs.length : Int)) || decide (700 < (a.finals.length : Int))
def smallB (t : Tra) : Bool := decide ((t.arcs.length : Int) ≤ 20) && decide (t.states ≤ 10) && validT t
theorem smallB_or (t : Tra) : smallB t = !((decide (20 < (t.arcs.length : Int)) || decide (10 < t.states)) || !validT t) := by
  rw [smallB, Bool.not_or, Bool.not_or, Bool.not_not]
  congr 2 <;> simp [← decide_not]
theorem agree_eq {a b : Tra} {e f : Int} : decide ((a, e) = (b, f)) = (decide (e = f) && decide (a = b)) := by
  rw [Bool.eq_iff_iff]; simp; exact and_comm
theorem small_of {t : Tra} (h : smallB t = true) : validT t = true ∧ t.arcs.length ≤ 20 ∧ t.states ≤ 10 := by
  rw [smallB, Bool.and_eq_true, Bool.and_eq_true] at h
  have h1 := of_decide_eq_true h.1.1
  exact ⟨h.2, by omega, of_decide_eq_true h.1.2⟩
theorem small1 {a : Tra} (h : [a].all smallB = true) : validT a = true ∧ a.arcs.length ≤ 20 ∧ a.states ≤ 10 := small_of (by simpa using h)
theorem small2 {a b : Tra} (h : [a, b].all smallB = true) : (validT a = true ∧ a.arcs.length ≤ 20 ∧ a.states ≤ 10) ∧ validT b = true ∧ b.arcs.length ≤ 20 ∧ b.states ≤ 10 := by
  have h' : smallB a = true ∧ smallB b = true := by simpa using h
  exact ⟨small_of h'.1, small_of h'.2⟩
theorem rev_size {x : ByteArray} (h : strL (runesL x) = x) : (revS x).size = x.size := by
  have e : ∀ l : List Int, (strL l).size = (strD l).length := fun l => by rw [← strL_D]; simp
  have r : ∀ l : List Int, (strD l.reverse).length = (strD l).length := fun l => by
    unfold strD
    rw [List.length_flatMap, List.length_flatMap, List.map_reverse, List.sum_reverse]
  rw [revS, e, r, ← e, h]
theorem ext_le (x : ByteArray) (i j : Nat) : (x.extract i j).size ≤ x.size := by rw [ByteArray.size_extract]; omega
theorem ext_mul {x y : ByteArray} {i j k l : Nat} (h1 : x.size ≤ 8) (h2 : y.size ≤ 8) : ((x.extract i j).size + 1) * ((y.extract k l).size + 1) ≤ 1073741824 := by
  have a := ext_le x i j
  have b := ext_le y k l
  exact Nat.le_trans (Nat.mul_le_mul (show _ ≤ 9 by omega) (show _ ≤ 9 by omega)) (by decide)
theorem conRow_succ {a b : Tra} {x y : ByteArray} {i k : Nat} : conRow a b x y i (k + 1) = (conRow a b x y i k || conAt a b x y i k) := by
  rw [conRow, List.range_succ, List.any_append]; simp [conRow]
theorem conB_succ {a b : Tra} {x y : ByteArray} {i : Nat} : conB a b x y (i + 1) = (conB a b x y i || conRow a b x y i (y.size + 1)) := by
  rw [conB, List.range_succ, List.any_append]; simp [conB]
/-- A list while its ends are exchanged, k of them done. -/
structure Swp (o l : List Int) (k : Nat) : Prop where
  len : l.length = o.length
  at_ : ∀ i, i < o.length → l[i]? = if i < k ∨ o.length < i + k + 1 then o[o.length - 1 - i]? else o[i]?
theorem Swp.init {o : List Int} : Swp o o 0 := ⟨rfl, fun i h => by rw [if_neg (by omega)]⟩
theorem Swp.step {o l : List Int} {k j : Nat} {yi yj : Int} (h : Swp o l k) (hkj : k < j) (hj : j + k + 1 = o.length) (hi : l[k]? = some yi) (hy : l[j]? = some yj) : Swp o ((l.set k yj).set j yi) (k + 1) := by
  have hl := h.len
  have hk' := h.at_ k (by omega)
  have hj' := h.at_ j (by omega)
  rw [hi, if_neg (by omega)] at hk'
  rw [hy, if_neg (by omega)] at hj'
  refine ⟨by simp [hl], fun i hin => ?_⟩
  rw [List.getElem?_set, List.getElem?_set]
  by_cases e1 : j = i
  · subst e1
    rw [if_pos rfl, if_pos (by rw [List.length_set]; omega), if_pos (by omega), hk', show o.length - 1 - j = k by omega]
  · rw [if_neg e1]
    by_cases e2 : k = i
    · subst e2
      rw [if_pos rfl, if_pos (by omega), if_pos (by omega), hj', show o.length - 1 - k = j by omega]
    · rw [if_neg e2, h.at_ i hin]
      by_cases c : i < k ∨ o.length < i + k + 1
      · rw [if_pos c, if_pos (by omega)]
      · rw [if_neg c, if_neg (by omega)]
theorem Swp.done {o l : List Int} {k : Nat} (h : Swp o l k) (hk : o.length ≤ 2 * k + 1) : l = o.reverse := by
  refine List.ext_getElem? fun i => ?_
  by_cases hi : i < o.length
  · rw [h.at_ i hi, List.getElem?_reverse hi]
    by_cases c : i < k ∨ o.length < i + k + 1
    · rw [if_pos c]
    · rw [if_neg c, show o.length - 1 - i = i by omega]
  · rw [List.getElem?_eq_none (by rw [h.len]; omega), List.getElem?_eq_none (by rw [List.length_reverse]; omega)]
end Go.Proofs.YtoilmeiikgegcaaDoor.G
