/- Walks of the program's functions. -/
import Derived.Test.YtfepjcmjkaolgaaGTrm
import Derived.Test.YtfepjcmjkaolgaaWSc
import Derived.Test.YtfepjcmjkaolgaaWSj
set_option linter.all false
namespace Go.Proofs.Ytfepjcmjkaolgaa.G
open Go Go.RowKit
theorem rk_iso {kp kp' : Nat → Bool} {φ : Nat → Nat} {m m' : Nat} (h1 : ∀ i, i < m → kp i = true → φ i < m' ∧ kp' (φ i) = true) (h2 : ∀ j, j < m' → kp' j = true → ∃ i, i < m ∧ kp i = true ∧ φ i = j)
    (h3 : ∀ i i', i' < m → kp i = true → kp i' = true → i < i' → φ i < φ i') {n n' : Nat} (hn : n ≤ m) (hn' : n' ≤ m') (h : ∀ i, i < m → kp i = true → (i < n ↔ φ i < n')) : rk kp n = rk kp' n' := by
  have e : (((List.range n).filter kp).map φ).Perm ((List.range n').filter kp') := by
    refine (List.perm_ext_iff_of_nodup ?_ (List.nodup_range.filter _)).2 fun j => ?_
    · rw [List.Nodup, List.pairwise_map]
      refine (List.pairwise_lt_range (n := n)).filter _ |>.imp_of_mem fun {a b} ha hb hl => ?_
      have ha := List.mem_filter.1 ha
      have hb := List.mem_filter.1 hb
      have hb1 := List.mem_range.1 hb.1
      exact Nat.ne_of_lt (h3 a b (by omega) ha.2 hb.2 hl)
    · simp only [List.mem_map, List.mem_filter, List.mem_range]
      constructor
      · rintro ⟨i, ⟨hi, hk⟩, rfl⟩
        exact ⟨(h i (by omega) hk).1 hi, (h1 i (by omega) hk).2⟩
      · rintro ⟨hj, hk⟩
        obtain ⟨i, hi, hk', rfl⟩ := h2 j (by omega) hk
        exact ⟨i, ⟨(h i hi hk').2 hj, hk'⟩, rfl⟩
  have := e.length_eq
  rw [List.length_map] at this
  exact this
/-- The kept parts of t and t' correspond by φ. -/
structure Iso (t t' : Tra) (m m' : Nat) (φ : Nat → Nat) : Prop where
  fwd : ∀ i, i < m → kpS t i = true → φ i < m' ∧ kpS t' (φ i) = true
  sur : ∀ j, j < m' → kpS t' j = true → ∃ i, i < m ∧ kpS t i = true ∧ φ i = j
  mono : ∀ i i', i' < m → kpS t i = true → kpS t i' = true → i < i' → φ i < φ i'
  start : kpS t t.start.toNat = true → φ t.start.toNat = t'.start.toNat
  empt : kpS t' t'.start.toNat = true → kpS t t.start.toNat = true
  fin : ∀ i, i < m → kpS t i = true → ((i : Int) ∈ t.finals ↔ (φ i : Int) ∈ t'.finals)
  arc : ∀ (p q : Nat) (a b : Int), p < m → q < m → kpS t p = true → kpS t q = true → ((⟨p, q, a, b⟩ : Arc) ∈ t.arcs ↔ (⟨φ p, φ q, a, b⟩ : Arc) ∈ t'.arcs)
theorem Iso.inj {t t' : Tra} {m m' : Nat} {φ : Nat → Nat} (h : Iso t t' m m' φ) {i j : Nat} (hi : i < m) (hj : j < m) (ki : kpS t i = true) (kj : kpS t j = true) (e : φ i = φ j) : i = j := by
  rcases Nat.lt_trichotomy i j with h1 | h1 | h1
  · have := h.mono i j hj ki kj h1; omega
  · exact h1
  · have := h.mono j i hi kj ki h1; omega
theorem Iso.rk {t t' : Tra} {m m' : Nat} {φ : Nat → Nat} (h : Iso t t' m m' φ) {i : Nat} (hi : i < m) (ki : kpS t i = true) : G.rk (kpS t) i = G.rk (kpS t') (φ i) := by
  refine rk_iso h.fwd h.sur h.mono (by omega) (Nat.le_of_lt (h.fwd i hi ki).1) fun j hj kj => ⟨fun hl => h.mono j i hi kj ki hl, fun hl => ?_⟩
  rcases Nat.lt_trichotomy j i with h1 | h1 | h1
  · exact h1
  · subst h1; omega
  · have := h.mono i j hj ki kj h1; omega
/-! reaching by runs -/
/-! the trimmed transducer's own numbers -/
/-! relabelling -/
end Go.Proofs.Ytfepjcmjkaolgaa.G

set_option linter.all false
namespace Go.Proofs.Ytfepjcmjkaolgaa.G
open Go Go.RowKit
end Go.Proofs.Ytfepjcmjkaolgaa.G

set_option linter.all false
namespace Go.Proofs.Ytfepjcmjkaolgaa.G
open Go Go.RowKit
theorem short_c (s : ByteArray) (n : Int) {I : Heap} {w : World} (hI : hle I (hp w)) : Calls A 21 #[.string s, .int .i64 n] w (Ret w I fun r _ => r = .bool (decide ((s.size : Int) ≤ n))) := by
 have M := Mem.start hI
 refine enter Try.func21 rfl 9 Try.ntmps21 [_, _] rfl ?_
 refine wc_seq <| wc_region <| wl_as M rfl rfl <| wl_nil ?_
 refine wc_seq <| wc_region <| wl_mv M rfl rfl <| wl_m M (q_lenStr Try.underlying9 rfl) rfl rfl <| wl_mv M rfl rfl <| wl_m M (q_leq rfl rfl) rfl rfl <| wl_as M rfl rfl <| wl_nil <| wc_ret ?_
 exact out1 rfl rfl ⟨_, _, rfl, M.grow, rfl⟩
end Go.Proofs.Ytfepjcmjkaolgaa.G
