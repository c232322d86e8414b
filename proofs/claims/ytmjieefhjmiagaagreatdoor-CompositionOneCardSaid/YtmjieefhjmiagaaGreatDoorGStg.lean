/- All strings over a list of runes, in order; the words of a net, one by one. Plain Lean. -/
import Derived.Test.YtmjieefhjmiagaaGreatDoorGOuu
import Derived.Test.YtmjieefhjmiagaaGreatDoorGSts
set_option linter.all false
namespace Go.Proofs.YtmjieefhjmiagaaGreatDoor.G
open Go Go.RowKit
noncomputable def wrdS (t : Tra) (xs l : List Int) (n : Nat) : List (List Int) := (List.range n).flatMap fun k => (strs l k).filter (relB t xs)
theorem wrdS_succ {t : Tra} {xs l : List Int} {n : Nat} : wrdS t xs l (n + 1) = wrdS t xs l n ++ (strs l n).filter (relB t xs) := by
  rw [wrdS, List.range_succ, List.flatMap_append]; simp [wrdS]
theorem wrdS_wds {t : Tra} {xs l : List Int} (hl : IsAlph t true l) (n : Nat) : Wds (tnet t xs) ⟨t.start, 0⟩ n (wrdS t xs l (n + 1)) := by
  refine ⟨?_, fun w => ?_⟩
  · rw [wrdS, List.pairwise_flatMap]
    refine ⟨fun k _ => ((strs_sorted hl.1 k).filter _).imp_of_mem fun {a b} ha hb hab => ?_, ?_⟩
    · have h1 := (mem_strs.1 (List.mem_filter.1 ha).1).1
      have h2 := (mem_strs.1 (List.mem_filter.1 hb).1).1
      exact .inr ⟨by omega, hab⟩
    · refine (List.pairwise_lt_range (n := n + 1)).imp_of_mem fun {a b} _ _ hab x hx y hy => .inl ?_
      have h1 := (mem_strs.1 (List.mem_filter.1 hx).1).1
      have h2 := (mem_strs.1 (List.mem_filter.1 hy).1).1
      omega
  · rw [acc_rel, wrdS, List.mem_flatMap]
    constructor
    · rintro ⟨k, hk, hw⟩
      obtain ⟨h1, h2⟩ := List.mem_filter.1 hw
      exact ⟨by have := (mem_strs.1 h1).1; have := List.mem_range.1 hk; omega, relB_iff.1 h2⟩
    · rintro ⟨h1, h2⟩
      refine ⟨w.length, List.mem_range.2 (by omega), List.mem_filter.2 ⟨mem_strs.2 ⟨rfl, fun r hr => ?_⟩, relB_iff.2 h2⟩⟩
      obtain ⟨f, _, hr2⟩ := h2
      obtain ⟨h0, x, hx, e⟩ := (run_out hr2).2 r hr
      exact (hl.2 r).2 ⟨h0, x, hx, e⟩
/-! Outputs of the reference against the program's -/
noncomputable def OutR (t : Tra) (x : ByteArray) (n : Int) (out : List ByteArray) (e : Int) : Prop :=
  (goodO t x n = false → out = [] ∧ e = 1) ∧ (goodO t x n = true → ∃ l, IsAlph t true l ∧ ((wrdS t (runesL x) l (n.toNat + 1)).length ≤ 256 → out = (wrdS t (runesL x) l (n.toNat + 1)).map strL ∧ e = 0) ∧ (256 < (wrdS t (runesL x) l (n.toNat + 1)).length → out = [] ∧ e = 2))
theorem out_law {t : Tra} {x : ByteArray} {n : Int} {o o' : List ByteArray} {e e' : Int} (h : OutP t x n o e) (k : OutR t x n o' e') : o = o' ∧ e = e' := by
  cases hg : goodO t x n with
  | false =>
    obtain ⟨rfl, rfl⟩ := h.1 hg
    obtain ⟨rfl, rfl⟩ := k.1 hg
    exact ⟨rfl, rfl⟩
  | true =>
    obtain ⟨l, hl, k1, k2⟩ := k.2 hg
    obtain ⟨h1, h2⟩ := h.2 hg _ (wrdS_wds hl _)
    by_cases hc : (wrdS t (runesL x) l (n.toNat + 1)).length ≤ 256
    · obtain ⟨rfl, rfl⟩ := h1 hc
      obtain ⟨rfl, rfl⟩ := k1 hc
      exact ⟨rfl, rfl⟩
    · obtain ⟨rfl, rfl⟩ := h2 (by omega)
      obtain ⟨rfl, rfl⟩ := k2 (by omega)
      exact ⟨rfl, rfl⟩
theorem good3 {t : Tra} {x : ByteArray} {n : Int} {b : Bool} (h : (((!(okT x) || !(validT t)) || decide (n < 0)) || decide (4096 < n)) = b) : goodO t x n = !b := by
  rw [← h, goodO, Bool.or_comm (!(validT t))]
end Go.Proofs.YtmjieefhjmiagaaGreatDoor.G
