/- Composing from left to right. Plain Lean. -/
import Derived.Test.YtoilmeiikgegcaaDoorGTrm
import Derived.Test.YtoilmeiikgegcaaDoorGAw5
set_option linter.all false
namespace Go.Proofs.YtoilmeiikgegcaaDoor.G
open Go Go.RowKit
noncomputable def chainF : Tra → List Tra → Tra × Int
  | out, [] => (out, 0)
  | out, t :: l => if (CompS out t).2 = 0 then chainF (CompS out t).1 l else (zeroTra, (CompS out t).2)
noncomputable def chainS (ts : List Tra) : Tra × Int :=
  if ts.all validT = true then match ts with
    | [] => (zeroTra, 1)
    | t :: l => chainF (TrimP t) l
  else (zeroTra, 1)
theorem rdTras.mono {h h' : Heap} {v : Value} {ts : List Tra} (k : hle h h') (R : rdTras h v ts) : rdTras h' v ts := by
  obtain ⟨rs, R0, hl, hts⟩ := R
  exact ⟨rs, R0.mono k, hl, fun j r t h1 h2 => by
    obtain ⟨f, a, e, Rf, Ra⟩ := hts j r t h1 h2
    exact ⟨f, a, e, Rf.mono k, Ra.mono k⟩⟩
theorem chain_bad {ts : List Tra} {k : Nat} {t : Tra} (ht : ts[k]? = some t) (h : validT t = false) : chainS ts = (zeroTra, 1) := by
  have h1 := all_false_at (f := validT) ht h
  unfold chainS
  simp [h1]
theorem chain_nil : chainS [] = (zeroTra, 1) := by simp [chainS]
theorem chain_cons {t : Tra} {l : List Tra} (h : (t :: l).all validT = true) : chainS (t :: l) = chainF (TrimP t) l := by unfold chainS; rw [if_pos h]
theorem chain_step {out t u : Tra} {l : List Tra} {k : Nat} {e : Int} (ht : l[k]? = some t) (h : (u, e) = CompS out t) (he : e = 0) : chainF out (l.drop k) = chainF u (l.drop (k + 1)) := by
  rw [drop_cons ht, chainF, ← h, if_pos he]
theorem chain_err {out t u : Tra} {l : List Tra} {k : Nat} {e : Int} (ht : l[k]? = some t) (h : (u, e) = CompS out t) (he : ¬ e = 0) : chainF out (l.drop k) = (zeroTra, e) := by
  rw [drop_cons ht, chainF, ← h, if_neg he]
theorem chain_done {out : Tra} {l : List Tra} {k : Nat} (hk : l.length ≤ k) : chainF out (l.drop k) = (out, 0) := by
  rw [List.drop_eq_nil_of_le hk, chainF]
theorem chain_valid {out t u : Tra} {e : Int} (h : (u, e) = CompS out t) (he : e = 0) : validT u = true := (comp_ok (he ▸ h)).2.1
theorem chain_big {a b : Tra} (ha : validT a = true) (hb : fewB b = true) : (a.states.toNat * b.states.toNat + 1) * (a.arcs.length * (b.arcs.length + 1) + b.arcs.length + 1) ≤ 1099511627776 := by
  obtain ⟨m, h, _⟩ := valid_rng ha
  have h1 := few_lens hb
  have h2 := h.le
  have h3 := h.alen
  have h4 := h.st
  have h5 := Nat.mul_le_mul (show a.states.toNat ≤ 512 by omega) (show b.states.toNat ≤ 5 by omega)
  have h6 := Nat.mul_le_mul h3 (show b.arcs.length + 1 ≤ 13 by omega)
  exact Nat.le_trans (Nat.mul_le_mul (show _ ≤ 2561 by omega) (show _ ≤ 53261 by omega)) (by decide)
theorem trimP_valid {t : Tra} (h : validT t = true) : validT (TrimP t) = true := by
  obtain ⟨m, ha, hf⟩ := valid_rng h
  have hst := ha.st
  have hle := ha.le
  have hal := ha.alen
  rw [TrimP, if_pos h, ha.st, Int.toNat_natCast]
  refine valid_trim (ha.rng hf) (valid_lab h) ?_ ?_
  · unfold TrimS
    split
    · have := rk_bound (kpS t) m; simp only []; omega
    · decide
  · unfold TrimS
    split
    · refine Nat.le_trans (canon_len _) ?_
      have hB : ∀ x, (arcS t x).length ≤ 1 := fun x => by unfold arcS; split <;> simp
      have := flat_len hB t.arcs
      omega
    · decide
theorem trimT_P {t : Tra} {m : Nat} {up dn : List Bool} (hv : validT t = true) (ha : t.Ok m) (hf : ∀ p ∈ t.finals, 0 ≤ p ∧ p < (m : Int)) (hup : ∀ s, bt up s ↔ Reach (stp t true) (· ∈ [t.start]) s) (hdn : ∀ s, bt dn s ↔ Reach (stp t false) (· ∈ t.finals) s) : trimT t m up dn = TrimP t := by
  rw [trimT_S (ha.rng hf) (validT_sorted hv) hup hdn, TrimP, if_pos hv, ha.st, Int.toNat_natCast]
end Go.Proofs.YtoilmeiikgegcaaDoor.G
