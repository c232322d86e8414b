/- What the reference's Trim of the chapter on transducers computes; the first places of a slice that is read. -/
import Derived.Test.YtfepjcmjkaolgaaGreatDoorGLw3
import Derived.Test.YtfepjcmjkaolgaaGreatDoorGStg
set_option linter.all false
namespace Go.Proofs.YtfepjcmjkaolgaaGreatDoor.G
open Go Go.RowKit
theorem mem_onL {bs : List Bool} {m : Nat} (h : bs.length = m) {s : Int} : s ∈ onL bs m ↔ bt bs s := by
  simp only [onL, List.mem_map, List.mem_filter, List.mem_range]
  constructor
  · rintro ⟨i, ⟨_, h1⟩, rfl⟩; exact getD_bt.1 h1
  · intro hb
    have h1 := hb
    obtain ⟨h0, h2⟩ := hb
    have h3 := (List.getElem?_eq_some_iff.1 h2).1
    exact ⟨s.toNat, ⟨by omega, getD_bt.2 (by rw [Int.toNat_of_nonneg h0]; exact h1)⟩, by omega⟩
end Go.Proofs.YtfepjcmjkaolgaaGreatDoor.G

set_option linter.all false
namespace Go.Proofs.YtfepjcmjkaolgaaGreatDoor.G
open Go Go.RowKit
theorem kep_at {t : Tra} {m i : Nat} {kl : List Bool} (h : kl.length = m ∧ ∀ i, i < m → kl.getD i false = kpS t i) (hi : i < m) : kl[i]? = some (kpS t i) := by
  rw [getD_at (d := false) (by rw [h.1]; exact hi), h.2 i hi]
theorem kep_set {t : Tra} {m k : Nat} {l up : List Bool} {b : Bool} (h : l.length = m ∧ (∀ i, i < k → l.getD i false = kpS t i) ∧ ∀ i, k ≤ i → l.getD i false = up.getD i false) (hk : k < m) (hb : b = kpS t k) :
    (l.set k b).length = m ∧ (∀ i, i < k + 1 → (l.set k b).getD i false = kpS t i) ∧ ∀ i, k + 1 ≤ i → (l.set k b).getD i false = up.getD i false := by
  have hg : ∀ i, (l.set k b).getD i false = if i = k then b else l.getD i false := fun i => by
    rw [List.getD, List.getElem?_set]
    by_cases e : k = i
    · rw [if_pos e, if_pos e.symm, if_pos (by rw [h.1]; exact hk)]; rfl
    · rw [if_neg e, if_neg (fun h => e h.symm)]; rfl
  refine ⟨by rw [List.length_set, h.1], fun i hi => ?_, fun i hi => ?_⟩
  · rw [hg]; split
    · rename_i e; rw [e, hb]
    · exact h.2.1 i (by omega)
  · rw [hg, if_neg (by omega)]; exact h.2.2 i (by omega)
theorem empty3 {t : Tra} : (!(validT t) || !(kpS t t.start.toNat)) = emptyS t := by
  cases hv : validT t with
  | false => simp [emptyS, hv]
  | true =>
    obtain ⟨m, ha, _⟩ := valid_rng hv
    rw [empty_kp ha.start.1 hv]; simp
end Go.Proofs.YtfepjcmjkaolgaaGreatDoor.G
