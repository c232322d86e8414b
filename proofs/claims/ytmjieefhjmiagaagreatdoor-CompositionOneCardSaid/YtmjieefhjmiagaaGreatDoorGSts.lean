/- All strings over a list of runes, in order; the runes of a transducer. Plain Lean. -/
import Derived.Test.YtmjieefhjmiagaaGreatDoorGMid
import Derived.Test.YtmjieefhjmiagaaGreatDoorGThr
import Derived.Test.YtmjieefhjmiagaaGreatDoorGDec
set_option linter.all false
namespace Go.Proofs.YtmjieefhjmiagaaGreatDoor.G
open Go Go.RowKit
theorem q_to {P : Program} {n : Nat} {ops : Array Oper} {S : World → Prop} {o : Oper} {e : Env} {v v' : Value} (h : v = v') (q : Quiet P n ops S o e v) : Quiet P n ops S o e v' := h ▸ q
theorem validT_lab {t : Tra} (h : validT t = true) : ∀ x ∈ t.arcs, vRune x.inp = true ∧ vRune x.out = true := fun x hx => by
  simp only [validT, Bool.and_eq_true] at h
  have := List.all_eq_true.1 h.2.1.2 x hx
  simp only [arcOk, Bool.not_eq_true', Bool.or_eq_false_iff, Bool.not_eq_false'] at this
  exact ⟨this.1.2, this.2⟩
theorem bool_to {f : Nat} {args : Array Value} {w : World} {I : Heap} {b b' : Bool} (e : b = b') (h : Calls A f args w (Ret w I fun r _ => r = .bool b)) : Calls A f args w (Ret w I fun r _ => r = .bool b') := e ▸ h
def strs (l : List Int) : Nat → List (List Int)
  | 0 => [[]]
  | n + 1 => (strs l n).flatMap fun w => l.map fun r => w ++ [r]
theorem mem_strs {l : List Int} : ∀ {n : Nat} {w : List Int}, w ∈ strs l n ↔ w.length = n ∧ ∀ r ∈ w, r ∈ l
  | 0, w => by
    rw [strs, List.mem_singleton]
    constructor
    · rintro rfl; exact ⟨rfl, by simp⟩
    · rintro ⟨h, _⟩; exact List.eq_nil_of_length_eq_zero h
  | n + 1, w => by
    rw [strs, List.mem_flatMap]
    constructor
    · rintro ⟨u, hu, hw⟩
      obtain ⟨r, hr, rfl⟩ := List.mem_map.1 hw
      obtain ⟨h1, h2⟩ := mem_strs.1 hu
      refine ⟨by simp [h1], fun x hx => ?_⟩
      rcases List.mem_append.1 hx with hx | hx
      · exact h2 x hx
      · rw [List.mem_singleton.1 hx]; exact hr
    · rintro ⟨h1, h2⟩
      have hne : w ≠ [] := by intro e; subst e; simp at h1
      have e := List.dropLast_concat_getLast hne
      refine ⟨w.dropLast, mem_strs.2 ⟨by rw [List.length_dropLast]; omega, fun r hr => h2 r (List.dropLast_subset _ hr)⟩, List.mem_map.2 ⟨w.getLast hne, h2 _ (List.getLast_mem hne), e⟩⟩
theorem strs_len (l : List Int) : ∀ n, (strs l n).length = l.length ^ n
  | 0 => rfl
  | n + 1 => by
    rw [strs, flat_len_eq (B := l.length) (fun w => by rw [List.length_map]), strs_len l n, Nat.pow_succ]
theorem strs_sorted {l : List Int} (h : l.Pairwise (· < ·)) : ∀ n, (strs l n).Pairwise lexL
  | 0 => by simp [strs]
  | n + 1 => by
    rw [strs, List.pairwise_flatMap]
    refine ⟨fun w _ => ?_, (strs_sorted h n).imp_of_mem fun {a b} ha hb hab x hx y hy => ?_⟩
    · rw [List.pairwise_map]; exact h.imp fun k => lexL_last _ k
    · obtain ⟨r, _, rfl⟩ := List.mem_map.1 hx
      obtain ⟨r', _, rfl⟩ := List.mem_map.1 hy
      exact lexL_snoc _ _ (by rw [(mem_strs.1 ha).1, (mem_strs.1 hb).1]) hab
/-- The runes that arcs read, or write. -/
def labA (wr : Bool) (x : Arc) : Int := if wr = true then x.out else x.inp
def IsAlph (t : Tra) (wr : Bool) (l : List Int) : Prop := l.Pairwise (· < ·) ∧ ∀ r, r ∈ l ↔ r ≠ 0 ∧ ∃ x ∈ t.arcs, labA wr x = r
theorem isAlph_uniq {t : Tra} {wr : Bool} {l l' : List Int} (h : IsAlph t wr l) (k : IsAlph t wr l') : l = l' := isorted_ext h.1 k.1 fun r => by rw [h.2, k.2]
theorem run_out {t : Tra} {p q : Int} {xs ys : List Int} (h : Run t p xs ys q) : (∀ r ∈ xs, r ≠ 0 ∧ ∃ x ∈ t.arcs, x.inp = r) ∧ ∀ r ∈ ys, r ≠ 0 ∧ ∃ x ∈ t.arcs, x.out = r := by
  induction h with
  | nil => exact ⟨by simp, by simp⟩
  | @cons x us vs q hx _ ih =>
    constructor
    · intro r hr
      rcases List.mem_append.1 hr with hr | hr
      · unfold lab at hr
        split at hr
        · simp at hr
        · rename_i h0; rw [List.mem_singleton.1 hr]; exact ⟨h0, x, hx, rfl⟩
      · exact ih.1 r hr
    · intro r hr
      rcases List.mem_append.1 hr with hr | hr
      · unfold lab at hr
        split at hr
        · simp at hr
        · rename_i h0; rw [List.mem_singleton.1 hr]; exact ⟨h0, x, hx, rfl⟩
      · exact ih.2 r hr
theorem alph_good {t : Tra} {wr : Bool} {l : List Int} (hv : validT t = true) (hl : IsAlph t wr l) {n : Nat} {w : List Int} (hw : w ∈ strs l n) : Good w := fun r hr => by
  obtain ⟨h0, x, hx, e⟩ := (hl.2 r).1 ((mem_strs.1 hw).2 r hr)
  refine ⟨?_, h0⟩
  have := validT_lab hv x hx
  rw [← e]; unfold labA; split
  · exact this.2
  · exact this.1
theorem relS_strs {t : Tra} {x : ByteArray} {wr : Bool} {l : List Int} (hv : validT t = true) (hx : okT x = true) (hl : IsAlph t wr l) {n : Nat} {w : List Int} (hw : w ∈ strs l n) : relS t x (strL w) = relB t (runesL x) w := by
  have hg := alph_good hv hl hw
  rw [relS, hv, hx, okT_str hg, runes_str hg.v]; rfl
end Go.Proofs.YtmjieefhjmiagaaGreatDoor.G
