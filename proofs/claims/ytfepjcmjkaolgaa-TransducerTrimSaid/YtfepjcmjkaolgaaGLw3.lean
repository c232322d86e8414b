/- What the laws of the chapter on transducers lean on. Plain Lean. -/
import Derived.Test.YtfepjcmjkaolgaaGEps
set_option linter.all false
namespace Go.Proofs.Ytfepjcmjkaolgaa.G
open Go Go.RowKit
theorem q_to {P : Program} {n : Nat} {ops : Array Oper} {S : World → Prop} {o : Oper} {e : Env} {v v' : Value} (h : v = v') (q : Quiet P n ops S o e v) : Quiet P n ops S o e v' := h ▸ q
theorem q_neqB {P : Program} {n : Nat} {ops : Array Oper} {S : World → Prop} {e : Env} {dst : Option Tmp} {ty : TypeId} {pos : String} {af : Array Go.Edge} {T T2 : TypeId} {x y : Operand} {a b : Bool} (hu : P.underlying T = some .bool) (hx : evo e x = some (.bool a)) (hy : evo e y = some (.bool b)) : Quiet P n ops S ⟨dst, .binOp .neq T x y T2, ty, pos, af, none⟩ e (.bool (a != b)) := by
  replace hx := ev_of hx
  replace hy := ev_of hy
  exact q_of rfl fun w _ => by rw [run_bin_bool w hx hy]; simp only [Sem.run_bind, run_neq_bool w T a b hu, Result.andThen_ok, Sem.run_pure]; rfl
theorem validT_lab {t : Tra} (h : validT t = true) : ∀ x ∈ t.arcs, vRune x.inp = true ∧ vRune x.out = true := fun x hx => by
  simp only [validT, Bool.and_eq_true] at h
  have := List.all_eq_true.1 h.2.1.2 x hx
  simp only [arcOk, Bool.not_eq_true', Bool.or_eq_false_iff, Bool.not_eq_false'] at this
  exact ⟨this.1.2, this.2⟩
theorem trimP_of {t : Tra} {m : Nat} (hv : validT t = true) (hm : t.states = m) : TrimP t = TrimS t m := by
  rw [TrimP, if_pos hv, hm, Int.toNat_natCast]
/-! Step -/
def StepP (t : Tra) (ss : List Int) (r : Int) (out : List Int) : Prop := (validT t = false → out = []) ∧ (validT t = true → ∃ (m : Nat) (bs1 bs2 : List Bool), t.Ok m ∧ (bs1.length = m ∧ ∀ s, bt bs1 s ↔ Reach (epsN t) (· ∈ frS t ss) s) ∧ (r = 0 → bs2 = bs1) ∧ (r ≠ 0 → bs2.length = m ∧ ∀ s, bt bs2 s ↔ Reach (epsN t) (· ∈ nxR t bs1 r m) s) ∧ out = onL bs2 m)
theorem bs_uniq {bs bs' : List Bool} (hl : bs.length = bs'.length) (h : ∀ s, bt bs s ↔ bt bs' s) : bs = bs' := by
  refine List.ext_getElem hl fun i h1 h2 => ?_
  have := h (i : Int)
  unfold bt at this
  rw [Int.toNat_natCast, List.getElem?_eq_getElem h1, List.getElem?_eq_getElem h2] at this
  simp only [Option.some.injEq] at this
  rw [Bool.eq_iff_iff]
  exact ⟨fun k => (this.1 ⟨by omega, k⟩).2, fun k => (this.2 ⟨by omega, k⟩).2⟩
theorem stepP_uniq {t : Tra} {ss : List Int} {r : Int} {out out' : List Int} (h : StepP t ss r out) (h' : StepP t ss r out') : out = out' := by
  cases hv : validT t with
  | false => rw [h.1 hv, h'.1 hv]
  | true =>
    obtain ⟨m, b1, b2, ha, h1, h2, h3, rfl⟩ := h.2 hv
    obtain ⟨m', b1', b2', ha', h1', h2', h3', rfl⟩ := h'.2 hv
    obtain rfl : m = m' := by have := ha.st; have := ha'.st; omega
    obtain rfl : b1 = b1' := bs_uniq (by rw [h1.1, h1'.1]) fun s => by rw [h1.2, h1'.2]
    by_cases hr : r = 0
    · rw [h2 hr, h2' hr]
    · obtain rfl : b2 = b2' := bs_uniq (by rw [(h3 hr).1, (h3' hr).1]) fun s => by rw [(h3 hr).2, (h3' hr).2]
      rfl
theorem reach_ext {α : Type} {E E' : α → List α} {S S' : α → Prop} (h : ∀ s d, d ∈ E s ↔ d ∈ E' s) (hS : ∀ s, S s ↔ S' s) {s : α} : Reach E S s ↔ Reach E' S' s := by
  constructor
  · intro k
    induction k with
    | base hb => exact .base ((hS _).1 hb)
    | tail _ hy ih => exact .tail ih ((h _ _).1 hy)
  · intro k
    induction k with
    | base hb => exact .base ((hS _).2 hb)
    | tail _ hy ih => exact .tail ih ((h _ _).2 hy)
def epsT (t : Tra) : Tra := ⟨t.states, 0, [], t.arcs.filter fun x => decide (x.inp = 0)⟩
theorem stp_epsT {t : Tra} (s d : Int) : d ∈ stp (epsT t) true s ↔ d ∈ epsN t s := by
  rw [mem_stp]
  simp only [epsN, Tra.outs, epsT, List.mem_map, List.mem_filter, decide_eq_true_eq, eA, eB, if_true]
  constructor
  · rintro ⟨x, ⟨h1, h2⟩, h3, h4⟩; exact ⟨x, ⟨⟨h1, h3⟩, h2⟩, h4⟩
  · rintro ⟨x, ⟨⟨h1, h3⟩, h2⟩, h4⟩; exact ⟨x, ⟨h1, h2⟩, h3, h4⟩
end Go.Proofs.Ytfepjcmjkaolgaa.G
