/- The first places of a slice that is read; a load that counts as an effect. Plain theorems over any program. -/
/- What the reference's Trim of the chapter on transducers computes; the first places of a slice that is read. -/
import Derived.Test.YtfepjcmjkaolgaaWSc
import Derived.Test.YtfepjcmjkaolgaaGTrm
set_option linter.all false
namespace Go.Proofs.Ytfepjcmjkaolgaa.G
open Go Go.RowKit
end Go.Proofs.Ytfepjcmjkaolgaa.G

set_option linter.all false
namespace Go.Proofs.Ytfepjcmjkaolgaa.G
open Go Go.RowKit
section
variable {P : Program} {α : Type} {E : ET P α}
theorem rd_cap3 {h : Heap} {u : SV} {xs : List α} (r : rdSl E h (sv u) xs) : xs.length ≤ u.2.2 := by
  obtain ⟨A, c, hv, h1, _⟩ := r
  obtain ⟨a, m, c'⟩ := u
  simp only [sv, Value.slice.injEq] at hv
  obtain ⟨_, _, rfl⟩ := hv
  exact h1
theorem rdTake {h : Heap} {u : SV} {xs : List α} {k : Nat} (r : rdSl E h (sv u) xs) (hk : k ≤ xs.length) : rdSl E h (sv (takeV u k)) (xs.take k) := by
  obtain ⟨A, c, hv, h1, h2, h3⟩ := r
  obtain ⟨a, m, c'⟩ := u
  simp only [sv, Value.slice.injEq] at hv
  obtain ⟨rfl, rfl, rfl⟩ := hv
  have hl : (xs.take k).length = k := by rw [List.length_take]; omega
  refine ⟨a, c', by rw [hl]; rfl, by omega, h2, fun hne => ?_⟩
  obtain ⟨b, o, rfl, hp⟩ := h3 (fun e => hne (by rw [e]; simp))
  have e1 : E.all xs = [] ++ E.all (xs.take k) ++ E.all (xs.drop k) := by rw [List.nil_append, ← E.all_append, List.take_append_drop]
  rw [e1] at hp
  exact ⟨b, o, rfl, hp.part⟩
end
end Go.Proofs.Ytfepjcmjkaolgaa.G

set_option linter.all false
namespace Go.Proofs.Ytfepjcmjkaolgaa.G
open Go Go.RowKit
end Go.Proofs.Ytfepjcmjkaolgaa.G
