/- What the references of the chapter on transducers compute. Plain Lean. -/
import Derived.Test.YtfepjcmjkaolgaaGLw3
set_option linter.all false
namespace Go.Proofs.Ytfepjcmjkaolgaa.G
open Go Go.RowKit
theorem mem_onL {bs : List Bool} {m : Nat} (h : bs.length = m) {s : Int} : s ∈ onL bs m ↔ bt bs s := by
  simp only [onL, List.mem_map, List.mem_filter, List.mem_range]
  constructor
  · rintro ⟨i, ⟨_, h1⟩, rfl⟩; exact getD_bt.1 h1
  · intro hb
    have h1 := hb
    obtain ⟨h0, h2⟩ := hb
    have h3 := (List.getElem?_eq_some_iff.1 h2).1
    exact ⟨s.toNat, ⟨by omega, getD_bt.2 (by rw [Int.toNat_of_nonneg h0]; exact h1)⟩, by omega⟩
theorem frS_snoc {t : Tra} {l : List Int} {x : Int} : frS t (l ++ [x]) = frS t l ++ if inR x t.states = true then [x] else [] := by
  rw [frS, List.filter_append, List.filter_cons]; rfl
theorem ex_snoc {α : Type} {p : α → Prop} {l : List α} {y : α} : (∃ x ∈ l ++ [y], p x) ↔ (∃ x ∈ l, p x) ∨ p y := by
  constructor
  · rintro ⟨x, hx, h⟩
    rcases List.mem_append.1 hx with hx | hx
    · exact .inl ⟨x, hx, h⟩
    · rw [List.mem_singleton.1 hx] at h; exact .inr h
  · rintro (⟨x, hx, h⟩ | h)
    · exact ⟨x, List.mem_append_left _ hx, h⟩
    · exact ⟨y, by simp, h⟩
theorem stp3_yes {bs : List Bool} {x : Arc} {r s : Int} {Q : Prop} (h1 : bt bs x.src) (h2 : x.inp = r) : (s = x.dst ∨ Q) ↔ Q ∨ (bt bs x.src ∧ x.inp = r ∧ x.dst = s) := by
  constructor
  · rintro (h | h)
    · exact .inr ⟨h1, h2, h.symm⟩
    · exact .inl h
  · rintro (h | h)
    · exact .inr h
    · exact .inl h.2.2.symm
theorem stp3_no {bs : List Bool} {x : Arc} {r s : Int} {Q : Prop} (h : ¬ (bt bs x.src ∧ x.inp = r)) : Q ↔ Q ∨ (bt bs x.src ∧ x.inp = r ∧ x.dst = s) :=
  ⟨.inl, fun k => k.elim id fun k => absurd ⟨k.1, k.2.1⟩ h⟩
theorem stp3_t {bs : List Bool} {x : Arc} {r : Int} (h0 : 0 ≤ x.src) (h : (bs.getD x.src.toNat false && decide (x.inp = r)) = true) : bt bs x.src ∧ x.inp = r := by
  rw [Bool.and_eq_true, decide_eq_true_eq] at h
  refine ⟨?_, h.2⟩
  have := getD_bt.1 h.1
  rwa [Int.toNat_of_nonneg h0] at this
theorem stp3_f {bs : List Bool} {x : Arc} {r : Int} (h0 : 0 ≤ x.src) (h : (bs.getD x.src.toNat false && decide (x.inp = r)) = false) : ¬ (bt bs x.src ∧ x.inp = r) := fun k => by
  have h1 : bs.getD x.src.toNat false = true := getD_bt.2 (by rw [Int.toNat_of_nonneg h0]; exact k.1)
  rw [h1, decide_eq_true k.2] at h; cases h
theorem nxR_iff {t : Tra} {m : Nat} (ha : t.Ok m) {bs : List Bool} {r s : Int} : s ∈ nxR t bs r m ↔ ∃ x ∈ t.arcs, bt bs x.src ∧ x.inp = r ∧ x.dst = s := by
  simp only [nxR, List.mem_flatMap, List.mem_range, List.mem_map, List.mem_filter, Tra.outs, stB, Bool.and_eq_true, decide_eq_true_eq]
  constructor
  · rintro ⟨i, hi, x, ⟨⟨h1, h2⟩, h3, h4⟩, h5⟩; exact ⟨x, h1, by rw [h2]; exact getD_bt.1 h3, h4, h5⟩
  · rintro ⟨x, h1, h3, h4, h5⟩
    have hr := (ha.arcs x h1).1
    exact ⟨x.src.toNat, by omega, x, ⟨⟨h1, by omega⟩, getD_bt.2 (by rw [Int.toNat_of_nonneg hr.1]; exact h3), h4⟩, h5⟩
end Go.Proofs.Ytfepjcmjkaolgaa.G
