/- Alphabet and Strings of the reference. Plain Lean. -/
import Derived.Test.YtmjieefhjmiagaaGreatDoorGSts
set_option linter.all false
namespace Go.Proofs.YtmjieefhjmiagaaGreatDoor.G
open Go Go.RowKit
def alphL (t : Tra) (wr : Bool) : List Int := (canon (((t.arcs.map (labA wr)).filter fun r => !decide (r = 0)).map fun r => (⟨r, 0, 0, 0⟩ : Arc))).map (·.src)
theorem alphL_is (t : Tra) (wr : Bool) : IsAlph t wr (alphL t wr) := by
  have hform : ∀ a ∈ canon (((t.arcs.map (labA wr)).filter fun r => !decide (r = 0)).map fun r => (⟨r, 0, 0, 0⟩ : Arc)), a = ⟨a.src, 0, 0, 0⟩ := fun a ha => by
    obtain ⟨r, _, rfl⟩ := List.mem_map.1 (mem_canon.1 ha)
    rfl
  refine ⟨?_, fun r => ?_⟩
  · rw [alphL, List.pairwise_map]
    refine (canon_sorted _).imp_of_mem fun {a b} ha hb h => ?_
    rw [hform a ha, hform b hb] at h
    unfold ltArc at h
    simp only [] at h
    omega
  · simp only [alphL, List.mem_map, mem_canon, List.mem_filter, Bool.not_eq_true', decide_eq_false_iff_not]
    constructor
    · rintro ⟨a, ⟨r', ⟨⟨x, hx, e⟩, h0⟩, rfl⟩, rfl⟩; exact ⟨h0, x, hx, e⟩
    · rintro ⟨h0, x, hx, e⟩; exact ⟨⟨r, 0, 0, 0⟩, ⟨r, ⟨⟨x, hx, e⟩, h0⟩, rfl⟩, rfl⟩
/-- While the arcs are gone through. -/
def AlphI (t : Tra) (wr : Bool) (k : Nat) (l : List Int) : Prop := l.Pairwise (· < ·) ∧ ∀ r, r ∈ l ↔ r ≠ 0 ∧ ∃ x ∈ t.arcs.take k, labA wr x = r
theorem alphI_fin {t : Tra} {wr : Bool} {l : List Int} (h : AlphI t wr t.arcs.length l) : l = alphL t wr := by
  unfold AlphI at h
  rw [List.take_length] at h
  exact isAlph_uniq h (alphL_is t wr)
section
variable {t : Tra} {wr : Bool} {k kk : Nat} {l : List Int} {x : Arc} {r : Int}
theorem alphI_mem (h : AlphI t wr k l) (hx : t.arcs[k]? = some x) {s : Int} : (s ≠ 0 ∧ ∃ y ∈ t.arcs.take (k + 1), labA wr y = s) ↔ s ∈ l ∨ (s ≠ 0 ∧ labA wr x = s) := by
  rw [h.2, take_snoc hx]
  constructor
  · rintro ⟨h0, y, hy, e⟩
    rcases List.mem_append.1 hy with hy | hy
    · exact .inl ⟨h0, y, hy, e⟩
    · rw [List.mem_singleton.1 hy] at e; exact .inr ⟨h0, e⟩
  · rintro (⟨h0, y, hy, e⟩ | ⟨h0, e⟩)
    · exact ⟨h0, y, List.mem_append_left _ hy, e⟩
    · exact ⟨h0, x, by simp, e⟩
theorem alph_ins (h : AlphI t wr k l) (hx : t.arcs[k]? = some x) (hr : labA wr x = r) (hk : kk ≤ l.length) (hlo : ∀ y ∈ l.take kk, y < r) (hst : (decide ((kk : Int) < (l.length : Int)) && decide (l.getD kk 0 < r)) = false)
    (hc : (!decide (r = 0) && (decide ((kk : Int) = (l.length : Int)) || !decide (l.getD kk 0 = r))) = true) : AlphI t wr (k + 1) ([] ++ l.take kk ++ [r] ++ l.drop kk) := by
  rw [Bool.and_eq_true] at hc
  have h0 := nd_t hc.1
  have hhi : ∀ y ∈ l.drop kk, r < y := fun y hy => by
    by_cases e : kk = l.length
    · subst e; simp at hy
    · have hz := getD_at (xs := l) (k := kk) (d := 0) (by omega)
      have h1 : ¬ l.getD kk 0 < r := by
        rw [decide_eq_true (by omega), Bool.true_and] at hst; exact of_decide_eq_false hst
      have h2 : ¬ l.getD kk 0 = r := by
        have := hc.2
        rw [decide_eq_false (by omega), Bool.false_or] at this; exact nd_t this
      rw [drop_cons hz] at hy
      rcases List.mem_cons.1 hy with rfl | hy
      · omega
      · have hs := h.1
        rw [← List.take_append_drop kk l, drop_cons hz] at hs
        have := (List.pairwise_cons.1 (List.pairwise_append.1 hs).2.1).1 y hy
        omega
  have hs := h.1
  rw [← List.take_append_drop kk l] at hs
  obtain ⟨s1, s2, s3⟩ := List.pairwise_append.1 hs
  rw [List.nil_append]
  refine ⟨List.pairwise_append.2 ⟨List.pairwise_append.2 ⟨s1, by simp, fun a ha b hb => by rw [List.mem_singleton.1 hb]; exact hlo a ha⟩, s2, fun a ha b hb => ?_⟩, fun s => ?_⟩
  · rcases List.mem_append.1 ha with ha | ha
    · exact s3 a ha b hb
    · rw [List.mem_singleton.1 ha]; exact hhi b hb
  · rw [alphI_mem h hx, List.mem_append, List.mem_append, List.mem_singleton]
    have e : s ∈ l ↔ s ∈ l.take kk ∨ s ∈ l.drop kk := by rw [← List.mem_append, List.take_append_drop]
    rw [e, hr]
    constructor
    · rintro ((h1 | h1) | h1)
      · exact .inl (.inl h1)
      · exact .inr ⟨h1 ▸ h0, h1.symm⟩
      · exact .inl (.inr h1)
    · rintro ((h1 | h1) | h1)
      · exact .inl (.inl h1)
      · exact .inr h1
      · exact .inl (.inr h1.2.symm)
theorem alph_skip (h : AlphI t wr k l) (hx : t.arcs[k]? = some x) (hr : labA wr x = r) (hk : kk ≤ l.length) (hc : (!decide (r = 0) && (decide ((kk : Int) = (l.length : Int)) || !decide (l.getD kk 0 = r))) = false) : AlphI t wr (k + 1) l := by
  refine ⟨h.1, fun s => ?_⟩
  rw [alphI_mem h hx, hr]
  constructor
  · exact .inl
  · rintro (h1 | ⟨h0, rfl⟩)
    · exact h1
    · rw [decide_eq_false h0, Bool.not_false, Bool.true_and, Bool.or_eq_false_iff] at hc
      have h3 := of_decide_eq_false hc.1
      rw [← nd_f hc.2]
      exact List.mem_of_getElem? (getD_at (by omega))
theorem alph_stp {y : Int} (hy : l[kk]? = some y) (h : ∀ y ∈ l.take kk, y < r) (hl : y < r) : ∀ y ∈ l.take (kk + 1), y < r := fun z hz => by
  rw [take_snoc hy] at hz
  rcases List.mem_append.1 hz with hz | hz
  · exact h z hz
  · rw [List.mem_singleton.1 hz]; exact hl
end
def smallB3 (t : Tra) : Bool := (((decide (t.states ≤ 5) && decide ((t.arcs.length : Int) ≤ 16)) && validT t) && decide (((alphL t false).length : Int) ≤ 2)) && decide (((alphL t true).length : Int) ≤ 2)
theorem small3 {t : Tra} (h : smallB3 t = true) : t.states ≤ 5 ∧ t.arcs.length ≤ 16 ∧ validT t = true ∧ (alphL t false).length ≤ 2 ∧ (alphL t true).length ≤ 2 := by
  simp only [smallB3, Bool.and_eq_true, decide_eq_true_eq] at h
  obtain ⟨⟨⟨⟨h1, h2⟩, h3⟩, h4⟩, h5⟩ := h
  exact ⟨h1, by omega, h3, by omega, by omega⟩
theorem alph_hal {t : Tra} (h : (alphL t true).length ≤ 2) : ∀ ks : List Int, ks.Nodup → (∀ r ∈ ks, r ≠ 0 ∧ ∃ z ∈ t.arcs, z.out = r) → ks.length ≤ 12 := fun ks h1 h2 => by
  have := h1.length_le_of_subset (l₂ := alphL t true) fun r hr => ((alphL_is t true).2 r).2 (h2 r hr)
  omega
/-! Strings -/
def nxB (l : List Int) (w : List Int) : List ByteArray := l.map fun r => strL w ++ Utf8.encode r
theorem nxB_len (l : List Int) (w : List Int) : (nxB l w).length ≤ l.length := by rw [nxB, List.length_map]; exact Nat.le_refl _
theorem strs_map {l : List Int} {n : Nat} : (strs l (n + 1)).map strL = (strs l n).flatMap (nxB l) := by
  rw [strs, List.map_flatMap]
  congr 1
  funext w
  rw [nxB, List.map_map]
  refine List.map_congr_left fun r _ => ?_
  exact strL_snoc w r
theorem strs_64 {l : List Int} (hl : l.length ≤ 3) {n : Nat} (hn : n ≤ 6) : (strs l n).length ≤ 729 := by
  rw [strs_len]
  exact Nat.le_trans (Nat.pow_le_pow_left hl n) (Nat.le_trans (Nat.pow_le_pow_right (by decide) hn) (by decide))
end Go.Proofs.YtmjieefhjmiagaaGreatDoor.G
