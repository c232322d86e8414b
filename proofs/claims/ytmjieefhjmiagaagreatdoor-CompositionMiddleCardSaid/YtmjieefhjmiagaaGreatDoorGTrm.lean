/- The program's reached, Empty and Trim: what they mean. Plain Lean; the test of a slice for nil. -/
import Derived.Test.YtmjieefhjmiagaaGreatDoorGRls
import Derived.Lib.SliceRun
set_option linter.all false
namespace Go.Proofs.YtmjieefhjmiagaaGreatDoor.G
open Go Go.RowKit Go.Sort Go.Shelf
/-! the matrix of steps -/
/-- The search with a queue in which a state may stand more than once. -/
structure Rq (E : Int → List Int) (fr : List Int) (m A : Nat) (l : List Bool) (q : List Int) : Prop where
  len : l.length = m
  sub : ∀ s, bt l s → Reach E (· ∈ fr) s
  rch : ∀ s ∈ q, Reach E (· ∈ fr) s
  frm : ∀ s ∈ fr, bt l s ∨ s ∈ q
  cl : ∀ s, bt l s → ∀ r ∈ E s, bt l r ∨ r ∈ q
  bnd : l.count false * (A + 1) + q.length ≤ m * (A + 1) + fr.length
section
variable {E : Int → List Int} {fr : List Int} {m A : Nat} {l : List Bool} {q : List Int} {s : Int}
theorem Rq.init : Rq E fr m A (List.replicate m false) fr :=
  ⟨by simp, fun s h => absurd h bt_rep, fun s h => .base h, fun s h => .inr h, fun s h => absurd h bt_rep, by simp [List.count_replicate]⟩
theorem Rq.known (h : Rq E fr m A l (s :: q)) (hs : bt l s) : Rq E fr m A l q := by
  refine ⟨h.len, h.sub, fun r hr => h.rch r (List.mem_cons_of_mem _ hr), fun r hr => ?_, fun r hr x hx => ?_, by have := h.bnd; simp only [List.length_cons] at this; omega⟩
  · rcases h.frm r hr with h1 | h1
    · exact .inl h1
    · rcases List.mem_cons.1 h1 with rfl | h1
      · exact .inl hs
      · exact .inr h1
  · rcases h.cl r hr x hx with h1 | h1
    · exact .inl h1
    · rcases List.mem_cons.1 h1 with rfl | h1
      · exact .inl hs
      · exact .inr h1
theorem Rq.push (h : Rq E fr m A l (s :: q)) (h0 : 0 ≤ s ∧ s < m) (hf : l[s.toNat]? = some false) (hA : (E s).length ≤ A) : Rq E fr m A (l.set s.toNat true) (q ++ E s) := by
  have hb : 0 ≤ s ∧ s < l.length := by rw [h.len]; exact h0
  have hbs : bt (l.set s.toNat true) s := (bt_set hb).2 (.inl rfl)
  have hc := count_set hf
  refine ⟨by simp [h.len], fun r hr => ?_, fun r hr => ?_, fun r hr => ?_, fun r hr x hx => ?_, ?_⟩
  · rcases (bt_set hb).1 hr with rfl | h1
    · exact h.rch _ (by simp)
    · exact h.sub r h1
  · rcases List.mem_append.1 hr with h1 | h1
    · exact h.rch r (List.mem_cons_of_mem _ h1)
    · exact .tail (h.rch s (by simp)) h1
  · rcases h.frm r hr with h1 | h1
    · exact .inl ((bt_set hb).2 (.inr h1))
    · rcases List.mem_cons.1 h1 with rfl | h1
      · exact .inl hbs
      · exact .inr (List.mem_append_left _ h1)
  · rcases (bt_set hb).1 hr with rfl | h1
    · exact .inr (List.mem_append_right _ hx)
    · rcases h.cl r h1 x hx with h2 | h2
      · exact .inl ((bt_set hb).2 (.inr h2))
      · rcases List.mem_cons.1 h2 with rfl | h2
        · exact .inl hbs
        · exact .inr (List.mem_append_left _ h2)
  · have h1 := h.bnd
    rw [← hc, Nat.add_mul, Nat.one_mul] at h1
    simp only [List.length_cons, List.length_append] at h1 ⊢
    omega
theorem Rq.fin (h : Rq E fr m A l []) (s : Int) : bt l s ↔ Reach E (· ∈ fr) s := by
  refine ⟨h.sub s, fun hr => ?_⟩
  induction hr with
  | base h1 => exact (h.frm _ h1).resolve_right (by simp)
  | tail _ hy ih => exact (h.cl _ ih _ hy).resolve_right (by simp)
end
theorem valid_fl {t : Tra} (h : validT t = true) : t.finals.length ≤ 4096 := by
  obtain ⟨_, _, _, h1⟩ := validT_ok h
  omega
/-! Empty and Trim -/
open Classical in
noncomputable def dnB (t : Tra) : Bool := decide (Reach (stp t false) (· ∈ t.finals) t.start)
end Go.Proofs.YtmjieefhjmiagaaGreatDoor.G
