/- Lists of pairs: what Pairs and Words relate. Plain Lean. -/
import Derived.Test.YtoilmeiikgegcaaDoorGAsl
import Derived.Test.YtoilmeiikgegcaaDoorGTri
set_option linter.all false
namespace Go.Proofs.YtoilmeiikgegcaaDoor.G
open Go Go.RowKit
def LabA (A : List Arc) : Prop := ∀ x ∈ A, vRune x.inp = true ∧ vRune x.out = true
theorem tstep_lab {s : List Arc × Int} {ab : Int × Int} (h : LabA s.1) (k : vRune ab.1 = true ∧ vRune ab.2 = true) : LabA (tstep s ab).1 := by
  unfold tstep
  split
  · exact h
  · intro x hx
    rcases List.mem_append.1 hx with hx | hx
    · exact h x hx
    · rw [List.mem_singleton.1 hx]; exact k
theorem tfold_lab : ∀ (l : List (Int × Int)) {s : List Arc × Int}, LabA s.1 → (∀ ab ∈ l, vRune ab.1 = true ∧ vRune ab.2 = true) → LabA (l.foldl tstep s).1
  | [], _, h, _ => h
  | ab :: l, s, h, k => tfold_lab l (tstep_lab h (k ab (by simp))) fun cd hc => k cd (List.mem_cons_of_mem _ hc)
theorem getD_vr {l : List Int} (h : ∀ r ∈ l, vRune r = true) (i : Nat) : vRune (l.getD i 0) = true := by
  rw [List.getD_eq_getElem?_getD]
  cases hx : l[i]? with
  | none => exact vRune_zero
  | some r => exact h r (List.mem_of_getElem? hx)
theorem zipL_vr {x y : List Int} (hx : ∀ r ∈ x, vRune r = true) (hy : ∀ r ∈ y, vRune r = true) : ∀ ab ∈ zipL x y, vRune ab.1 = true ∧ vRune ab.2 = true := fun ab h => by
  obtain ⟨i, _, rfl⟩ := List.mem_map.1 h
  exact ⟨getD_vr hx i, getD_vr hy i⟩
theorem tries_lab : ∀ (ps : List SPair) {s : List Arc × List Int}, LabA s.1 → LabA (ps.foldl tone s).1
  | [], _, h => h
  | p :: ps, s, h => tries_lab ps (s := tone s p) (tfold_lab _ (s := (s.1, 0)) h (zipL_vr (runes_vr p.x) (runes_vr p.y)))
theorem trie_labs (ps : List SPair) : Labs (trieT ps) := tries_lab ps (s := ([], [])) fun x hx => by simp at hx
theorem pairs_val {ps : List SPair} {t : Tra} {e : Int} (h : (t, e) = PairsS ps) (he : e = 0) : validT t = true ∧ (∀ p ∈ ps, okP p = true) ∧ ∀ xs ys, Rel t xs ys ↔ ∃ p ∈ ps, xs = runesL p.x ∧ ys = runesL p.y := by
  subst he
  unfold PairsS at h
  split at h
  · rename_i hok
    have hok' : ∀ p ∈ ps, okP p = true := fun p hp => List.all_eq_true.1 hok p hp
    obtain ⟨rfl, hv⟩ := fin_e (trie_rng ps) (trie_labs ps) h rfl
    refine ⟨hv, hok', fun xs ys => ?_⟩
    rw [rel_trim (trie_rng ps)]
    refine trie_rel fun p hp => ?_
    have h1 := hok' p hp
    rw [okP, Bool.and_eq_true, ← okT_S, ← okT_S] at h1
    exact ⟨fun h0 => ((okT_good' h1.1).1 0 h0).2 rfl, fun h0 => ((okT_good' h1.2).1 0 h0).2 rfl⟩
  · cases h
theorem lists_law {ps : List SPair} {t : Tra} {e : Int} {x y : ByteArray} (h : (t, e) = PairsS ps) (he : e = 0) : relS t x y = ps.any fun p => decide (p.x = x) && decide (p.y = y) := by
  obtain ⟨hv, hok, hrel⟩ := pairs_val h he
  rw [Bool.eq_iff_iff, relS_v hv, hrel, List.any_eq_true]
  have hok2 : ∀ p ∈ ps, okT p.x = true ∧ okT p.y = true := fun p hp => by
    have h1 := hok p hp
    rw [okP, Bool.and_eq_true, ← okT_S, ← okT_S] at h1
    exact h1
  constructor
  · rintro ⟨⟨hx, hy⟩, p, hp, e1, e2⟩
    obtain ⟨o1, o2⟩ := hok2 p hp
    exact ⟨p, hp, by simp [str_runes_inj hx o1 e1, str_runes_inj hy o2 e2]⟩
  · rintro ⟨p, hp, h1⟩
    simp only [Bool.and_eq_true, decide_eq_true_eq] at h1
    obtain ⟨rfl, rfl⟩ := h1
    exact ⟨hok2 p hp, p, hp, rfl, rfl⟩
theorem words_law {ws : List ByteArray} {t : Tra} {e : Int} {x y : ByteArray} (h : (t, e) = PairsS (ws.map fun s => ⟨s, s⟩)) (he : e = 0) : relS t x y = ws.any fun s => decide (s = x) && decide (x = y) := by
  rw [lists_law h he, List.any_map]
  congr 1
  funext s
  simp only [Function.comp]
  by_cases h1 : s = x
  · subst h1; simp
  · simp [h1]
end Go.Proofs.YtoilmeiikgegcaaDoor.G
