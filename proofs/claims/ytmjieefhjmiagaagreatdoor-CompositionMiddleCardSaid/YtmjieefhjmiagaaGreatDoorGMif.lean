/- The laws on Middle. Plain Lean. -/
import Derived.Test.YtmjieefhjmiagaaGreatDoorGMid
import Derived.Test.YtmjieefhjmiagaaGreatDoorGAlp
import Derived.Test.YtmjieefhjmiagaaGreatDoorGRls
set_option linter.all false
namespace Go.Proofs.YtmjieefhjmiagaaGreatDoor.G
open Go Go.RowKit
noncomputable def midB (a b : Tra) (xs zs ys : List Int) : Bool := relB a xs ys && relB b ys zs
theorem midB_iff {a b : Tra} {xs zs ys : List Int} : midB a b xs zs ys = true ↔ Rel a xs ys ∧ Rel b ys zs := by rw [midB, Bool.and_eq_true, relB_iff, relB_iff]
noncomputable def wrdM (a b : Tra) (xs zs l : List Int) (n : Nat) : List (List Int) := (List.range n).flatMap fun k => (strs l k).filter (midB a b xs zs)
theorem wrdM_succ {a b : Tra} {xs zs l : List Int} {n : Nat} : wrdM a b xs zs l (n + 1) = wrdM a b xs zs l n ++ (strs l n).filter (midB a b xs zs) := by
  rw [wrdM, List.range_succ, List.flatMap_append]; simp [wrdM]
theorem wrdM_wds {a b : Tra} {m n' : Nat} (ha : a.Ok m) (hb : b.Ok n') {xs zs l : List Int} (hl : IsAlph a true l) (n : Nat) : Wds (bnet a b xs zs) ⟨a.start, 0, b.start, 0⟩ n (wrdM a b xs zs l (n + 1)) := by
  refine ⟨?_, fun w => ?_⟩
  · rw [wrdM, List.pairwise_flatMap]
    refine ⟨fun k _ => ((strs_sorted hl.1 k).filter _).imp_of_mem fun {u v} hu hv huv => ?_, ?_⟩
    · have h1 := (mem_strs.1 (List.mem_filter.1 hu).1).1
      have h2 := (mem_strs.1 (List.mem_filter.1 hv).1).1
      exact .inr ⟨by omega, huv⟩
    · refine (List.pairwise_lt_range (n := n + 1)).imp_of_mem fun {u v} _ _ huv x hx y hy => .inl ?_
      have h1 := (mem_strs.1 (List.mem_filter.1 hx).1).1
      have h2 := (mem_strs.1 (List.mem_filter.1 hy).1).1
      omega
  · rw [acc_mid ha hb, wrdM, List.mem_flatMap]
    constructor
    · rintro ⟨k, hk, hw⟩
      obtain ⟨h1, h2⟩ := List.mem_filter.1 hw
      exact ⟨by have := (mem_strs.1 h1).1; have := List.mem_range.1 hk; omega, midB_iff.1 h2⟩
    · rintro ⟨h1, h2⟩
      refine ⟨w.length, List.mem_range.2 (by omega), List.mem_filter.2 ⟨mem_strs.2 ⟨rfl, fun r hr => ?_⟩, midB_iff.2 h2⟩⟩
      obtain ⟨f, _, hr2⟩ := h2.1
      obtain ⟨h0, x, hx, e⟩ := (run_out hr2).2 r hr
      exact (hl.2 r).2 ⟨h0, x, hx, e⟩
section
variable {a b : Tra} {x y z : ByteArray} {nI e e' : Int} {o o' : List ByteArray}
theorem mid_ok2 (h0 : btwE a b x z = 0) : ∃ m n, a.Ok m ∧ b.Ok n ∧ validT a = true ∧ validT b = true ∧ okT x = true ∧ okT z = true := by
  obtain ⟨⟨hva, hvb⟩, hc⟩ := btw_ok h0
  obtain ⟨m, ha, _⟩ := valid_rng hva
  obtain ⟨n, hb, _⟩ := valid_rng hvb
  unfold chkS at hc
  split at hc
  · rename_i h1
    simp only [List.all_cons, List.all_nil, Bool.and_true, Bool.and_eq_true] at h1
    exact ⟨m, n, ha, hb, hva, hvb, by rw [okT_S]; exact h1.1, by rw [okT_S]; exact h1.2⟩
  · cases hc
theorem mid_law (h : MidOut a b x z nI o e) (k : MidOut a b x z nI o' e') : o = o' ∧ e = e' := by
  by_cases hn : nI < 0 ∨ 40 < nI
  · obtain ⟨rfl, rfl⟩ := h.1 hn; obtain ⟨rfl, rfl⟩ := k.1 hn; exact ⟨rfl, rfl⟩
  · by_cases h0 : btwE a b x z = 0
    · obtain ⟨m, n, ha, hb, _⟩ := mid_ok2 h0
      have hW := wrdM_wds ha hb (alphL_is a true) nI.toNat (xs := runesL x) (zs := runesL z)
      obtain ⟨h1, h2⟩ := (h.2 hn).2 h0 _ hW
      obtain ⟨k1, k2⟩ := (k.2 hn).2 h0 _ hW
      by_cases hc : (wrdM a b (runesL x) (runesL z) (alphL a true) (nI.toNat + 1)).length ≤ 256
      · obtain ⟨rfl, rfl⟩ := h1 hc; obtain ⟨rfl, rfl⟩ := k1 hc; exact ⟨rfl, rfl⟩
      · obtain ⟨rfl, rfl⟩ := h2 (by omega); obtain ⟨rfl, rfl⟩ := k2 (by omega); exact ⟨rfl, rfl⟩
    · obtain ⟨rfl, rfl⟩ := (h.2 hn).1 h0; obtain ⟨rfl, rfl⟩ := (k.2 hn).1 h0; exact ⟨rfl, rfl⟩
/-- The reference's answers. -/
theorem midR_bad (h : ((decide (btwE a b x z = 1) || decide (nI < 0)) || decide (40 < nI)) = true) : MidOut a b x z nI [] 1 := by
  simp only [Bool.or_eq_true, decide_eq_true_eq] at h
  refine ⟨fun _ => ⟨rfl, rfl⟩, fun hn => ⟨fun _ => ⟨rfl, ?_⟩, fun h0 => ?_⟩⟩
  · rcases h with (h | h) | h
    · exact h.symm
    · exact absurd (.inl h) hn
    · exact absurd (.inr h) hn
  · rcases h with (h | h) | h
    · rw [h0] at h; cases h
    · exact absurd (.inl h) hn
    · exact absurd (.inr h) hn
theorem midR_err (h : ((decide (btwE a b x z = 1) || decide (nI < 0)) || decide (40 < nI)) = false) (he : btwE a b x z ≠ 0) : MidOut a b x z nI [] (btwE a b x z) := by
  simp only [Bool.or_eq_false_iff, decide_eq_false_iff_not] at h
  exact ⟨fun k => absurd k (by omega), fun _ => ⟨fun _ => ⟨rfl, rfl⟩, fun k => absurd k he⟩⟩
theorem midR_big (h : ((decide (btwE a b x z = 1) || decide (nI < 0)) || decide (40 < nI)) = false) (h0 : btwE a b x z = 0) (hl : 256 < (wrdM a b (runesL x) (runesL z) (alphL a true) (nI.toNat + 1)).length) : MidOut a b x z nI [] 2 := by
  simp only [Bool.or_eq_false_iff, decide_eq_false_iff_not] at h
  obtain ⟨m, n, ha, hb, _⟩ := mid_ok2 h0
  refine ⟨fun k => absurd k (by omega), fun _ => ⟨fun k => absurd h0 k, fun _ W hW => ?_⟩⟩
  have e := hW.uniq (wrdM_wds ha hb (alphL_is a true) nI.toNat)
  rw [e]
  exact ⟨fun k => absurd hl (by omega), fun _ => ⟨rfl, rfl⟩⟩
theorem midR_ok (h : ((decide (btwE a b x z = 1) || decide (nI < 0)) || decide (40 < nI)) = false) (h0 : btwE a b x z = 0) (hl : ¬ 256 < (wrdM a b (runesL x) (runesL z) (alphL a true) (nI.toNat + 1)).length) : MidOut a b x z nI ((wrdM a b (runesL x) (runesL z) (alphL a true) (nI.toNat + 1)).map strL) 0 := by
  simp only [Bool.or_eq_false_iff, decide_eq_false_iff_not] at h
  obtain ⟨m, n, ha, hb, _⟩ := mid_ok2 h0
  refine ⟨fun k => absurd k (by omega), fun _ => ⟨fun k => absurd h0 k, fun _ W hW => ?_⟩⟩
  have e := hW.uniq (wrdM_wds ha hb (alphL_is a true) nI.toNat)
  rw [e]
  exact ⟨fun _ => ⟨rfl, rfl⟩, fun k => absurd k hl⟩
/-! Given -/
theorem runes_str' {w : List Int} (h : Good w) : runesL (strL w) = w := runes_str fun r hr => (h r hr).1
/-! Between -/
open Classical in
noncomputable def slxB (u v : List Int) : Bool := decide (slx u v)
end
theorem few_mid {a b : Tra} (ha : fewB a = true) (hb : fewB b = true) : a.states ≤ 5 ∧ a.arcs.length ≤ 12 ∧ b.states ≤ 5 ∧ b.arcs.length ≤ 12 := by
  simp [fewB] at ha hb
  omega
theorem relS_strsL {t : Tra} {z : ByteArray} {w : List Int} (hv : validT t = true) (hz : okT z = true) (hg : Good w) : relS t (strL w) z = relB t w (runesL z) := by
  rw [relS, hv, hz, okT_str hg, runes_str' hg]; rfl
end Go.Proofs.YtmjieefhjmiagaaGreatDoor.G
