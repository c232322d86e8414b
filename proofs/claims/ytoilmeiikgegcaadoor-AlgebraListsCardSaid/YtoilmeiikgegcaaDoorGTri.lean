/- What a trie of pairs relates. Plain Lean. -/
import Derived.Test.YtoilmeiikgegcaaDoorGArr
set_option linter.all false
namespace Go.Proofs.YtoilmeiikgegcaaDoor.G
open Go Go.RowKit
inductive Path (A : List Arc) : List (Int × Int) → Int → Prop
  | nil : Path A [] 0
  | snoc {l : List (Int × Int)} {x : Arc} : Path A l x.src → x ∈ A → Path A (l ++ [(x.inp, x.out)]) x.dst
structure TOk (A : List Arc) : Prop where
  nd : (A.map (·.dst)).Nodup
  rng : ∀ x ∈ A, 1 ≤ x.dst ∧ x.dst ≤ (A.length : Int)
section
variable {A B : List Arc} {l l' : List (Int × Int)} {q : Int}
theorem Path.mono (h : ∀ x ∈ A, x ∈ B) (k : Path A l q) : Path B l q := by
  induction k with
  | nil => exact .nil
  | snoc _ hx ih => exact .snoc ih (h _ hx)
theorem Path.inv (k : Path A l q) : (l = [] ∧ q = 0) ∨ ∃ l0, ∃ x ∈ A, l = l0 ++ [(x.inp, x.out)] ∧ q = x.dst ∧ Path A l0 x.src := by
  cases k with
  | nil => exact .inl ⟨rfl, rfl⟩
  | snoc h hx => exact .inr ⟨_, _, hx, rfl, rfl, h⟩
theorem nodup_map_inj {α β : Type} {f : α → β} : ∀ {l : List α}, (l.map f).Nodup → ∀ x ∈ l, ∀ y ∈ l, f x = f y → x = y
  | [], _, x, hx, _, _, _ => by simp at hx
  | a :: l, h, x, hx, y, hy, e => by
    rw [List.map_cons, List.nodup_cons] at h
    rcases List.mem_cons.1 hx with rfl | hx' <;> rcases List.mem_cons.1 hy with rfl | hy'
    · rfl
    · exact absurd (List.mem_map.2 ⟨y, hy', e.symm⟩) h.1
    · exact absurd (List.mem_map.2 ⟨x, hx', e⟩) h.1
    · exact nodup_map_inj h.2 x hx' y hy' e
theorem Path.uniq (hA : TOk A) (k : Path A l q) : ∀ {l' : List (Int × Int)}, Path A l' q → l = l' := by
  induction k with
  | nil =>
    intro l' k'
    rcases k'.inv with ⟨rfl, _⟩ | ⟨l0, x, hx, _, h0, _⟩
    · rfl
    · have := (hA.rng x hx).1; omega
  | @snoc l x k hx ih =>
    intro l' k'
    rcases k'.inv with ⟨_, h0⟩ | ⟨l0, y, hy, rfl, h0, k0⟩
    · have := (hA.rng x hx).1; omega
    · obtain rfl := nodup_map_inj hA.nd x hx y hy h0
      rw [ih k0]
theorem tstep_path {p : Int} {ab : Int × Int} (hA : TOk A) (k : Path A l p) : TOk (tstep (A, p) ab).1 ∧ Path (tstep (A, p) ab).1 (l ++ [ab]) (tstep (A, p) ab).2 ∧ ∀ x ∈ A, x ∈ (tstep (A, p) ab).1 := by
  unfold tstep
  split
  · rename_i d hd
    obtain ⟨x, hx, rfl, e⟩ := trie_mem hd
    simp only [Arc.mk.injEq] at e
    obtain ⟨e1, _, e2, e3⟩ := e
    refine ⟨hA, ?_, fun y hy => hy⟩
    have : ab = (x.inp, x.out) := by rw [e2, e3]
    rw [this]
    exact .snoc (by rw [e1]; exact k) hx
  · refine ⟨⟨?_, fun x hx => ?_⟩, ?_, fun y hy => List.mem_append_left _ hy⟩
    · rw [List.map_append]
      refine List.nodup_append.2 ⟨hA.nd, by simp, fun a ha b hb e => ?_⟩
      obtain ⟨x, hx, rfl⟩ := List.mem_map.1 ha
      have h1 := (hA.rng x hx).2
      simp only [List.map_cons, List.map_nil, List.mem_singleton] at hb
      omega
    · simp only [List.length_append, List.length_singleton] at hx ⊢
      rcases List.mem_append.1 hx with h | h
      · have := hA.rng x h; omega
      · rw [List.mem_singleton.1 h]; simp only []; omega
    · exact Path.snoc (x := ⟨p, (A.length : Int) + 1, ab.1, ab.2⟩) (k.mono fun y hy => List.mem_append_left _ hy) (by simp)
theorem tfold_path : ∀ (abs : List (Int × Int)) {A : List Arc} {p : Int} {l : List (Int × Int)}, TOk A → Path A l p → TOk (abs.foldl tstep (A, p)).1 ∧ Path (abs.foldl tstep (A, p)).1 (l ++ abs) (abs.foldl tstep (A, p)).2 ∧ ∀ x ∈ A, x ∈ (abs.foldl tstep (A, p)).1
  | [], _, _, l, hA, k => ⟨hA, by rw [List.append_nil]; exact k, fun _ h => h⟩
  | ab :: abs, A, p, l, hA, k => by
    obtain ⟨h1, h2, h3⟩ := tstep_path (ab := ab) hA k
    obtain ⟨h4, h5, h6⟩ := tfold_path abs h1 h2
    rw [List.foldl_cons]
    refine ⟨h4, ?_, fun x hx => h6 x (h3 x hx)⟩
    rw [List.append_assoc] at h5
    exact h5
def zl (p : SPair) : List (Int × Int) := zipL (runesL p.x) (runesL p.y)
theorem tries_path : ∀ (ps : List SPair) {A : List Arc} {F : List Int} {done : List SPair}, TOk A → (∀ f ∈ F, ∃ p ∈ done, Path A (zl p) f) → (∀ p ∈ done, ∃ f ∈ F, Path A (zl p) f) →
    TOk (ps.foldl tone (A, F)).1 ∧ (∀ f ∈ (ps.foldl tone (A, F)).2, ∃ p ∈ done ++ ps, Path (ps.foldl tone (A, F)).1 (zl p) f) ∧ ∀ p ∈ done ++ ps, ∃ f ∈ (ps.foldl tone (A, F)).2, Path (ps.foldl tone (A, F)).1 (zl p) f
  | [], A, F, done, hA, h1, h2 => by rw [List.append_nil]; exact ⟨hA, h1, h2⟩
  | p :: ps, A, F, done, hA, h1, h2 => by
    obtain ⟨h3, h4, h5⟩ := tfold_path (zl p) hA (Path.nil (A := A))
    rw [List.nil_append] at h4
    have h6 := tries_path ps (A := (tone (A, F) p).1) (F := (tone (A, F) p).2) (done := done ++ [p]) h3 (fun f hf => by
      rcases List.mem_append.1 hf with h | h
      · obtain ⟨q, hq, k⟩ := h1 f h
        exact ⟨q, List.mem_append_left _ hq, k.mono h5⟩
      · rw [List.mem_singleton.1 h]; exact ⟨p, by simp, h4⟩) (fun q hq => by
      rcases List.mem_append.1 hq with h | h
      · obtain ⟨f, hf, k⟩ := h2 q h
        exact ⟨f, List.mem_append_left _ hf, k.mono h5⟩
      · rw [List.mem_singleton.1 h]; exact ⟨_, List.mem_append_right _ (by simp; rfl), h4⟩)
    rw [List.append_assoc, List.singleton_append] at h6
    rw [List.foldl_cons]
    exact h6
end
theorem tries_all (ps : List SPair) : TOk (tries ps).1 ∧ (∀ f ∈ (tries ps).2, ∃ p ∈ ps, Path (tries ps).1 (zl p) f) ∧ ∀ p ∈ ps, ∃ f ∈ (tries ps).2, Path (tries ps).1 (zl p) f := by
  have := tries_path ps (A := []) (F := []) (done := []) ⟨by simp, by simp⟩ (by simp) (by simp)
  rwa [List.nil_append] at this
def insL (l : List (Int × Int)) : List Int := l.flatMap fun e => lab e.1
def outL (l : List (Int × Int)) : List Int := l.flatMap fun e => lab e.2
theorem path_run {t : Tra} {l : List (Int × Int)} {q : Int} (k : Path t.arcs l q) : Run t 0 (insL l) (outL l) q := by
  induction k with
  | nil => exact .nil 0
  | @snoc l x k hx ih =>
    have := ih.snoc hx rfl
    simpa [insL, outL] using this
theorem run_path {t : Tra} {p q : Int} {us vs : List Int} (h : Run t p us vs q) : ∀ {l : List (Int × Int)}, Path t.arcs l p → ∃ l', Path t.arcs (l ++ l') q ∧ us = insL l' ∧ vs = outL l' := by
  induction h with
  | nil p => intro l k; exact ⟨[], by rw [List.append_nil]; exact k, rfl, rfl⟩
  | @cons x xs ys q hx _ ih =>
    intro l k
    obtain ⟨l', h1, h2, h3⟩ := ih (Path.snoc k hx)
    refine ⟨(x.inp, x.out) :: l', ?_, by rw [h2]; simp [insL], by rw [h3]; simp [outL]⟩
    rw [List.append_assoc] at h1
    exact h1
theorem lab_pad {x : List Int} (hx : (0 : Int) ∉ x) : ∀ n, (List.range n).flatMap (fun i => lab (x.getD i 0)) = x.take n
  | 0 => by simp
  | n + 1 => by
    rw [range_flat, lab_pad hx n]
    by_cases h : n < x.length
    · have h1 : x[n]? = some (x[n]'h) := List.getElem?_eq_getElem h
      have h2 : x.getD n 0 = x[n]'h := by rw [List.getD_eq_getElem?_getD, h1]; rfl
      have h3 : ¬ x[n]'h = 0 := fun e => hx (e ▸ List.getElem_mem h)
      rw [take_snoc h1, h2, lab_ne h3]
    · rw [getD_none (by omega), lab_zero, List.append_nil, List.take_of_length_le (by omega), List.take_of_length_le (by omega)]
theorem ins_zip {x y : List Int} (hx : (0 : Int) ∉ x) : insL (zipL x y) = x := by
  have := lab_pad hx (max x.length y.length)
  rw [List.take_of_length_le (by omega)] at this
  rw [insL, zipL, List.flatMap_map]
  exact this
theorem out_zip {x y : List Int} (hy : (0 : Int) ∉ y) : outL (zipL x y) = y := by
  have := lab_pad hy (max x.length y.length)
  rw [List.take_of_length_le (by omega)] at this
  rw [outL, zipL, List.flatMap_map]
  exact this
/-- A trie relates exactly the pairs. -/
theorem trie_rel {ps : List SPair} (hz : ∀ p ∈ ps, (0 : Int) ∉ runesL p.x ∧ (0 : Int) ∉ runesL p.y) {xs ys : List Int} : Rel (trieT ps) xs ys ↔ ∃ p ∈ ps, xs = runesL p.x ∧ ys = runesL p.y := by
  obtain ⟨hT, h1, h2⟩ := tries_all ps
  constructor
  · rintro ⟨f, hf, hr⟩
    obtain ⟨l, k, e1, e2⟩ := run_path (t := trieT ps) hr Path.nil
    rw [List.nil_append] at k
    obtain ⟨p, hp, k2⟩ := h1 f hf
    have hl : l = zl p := Path.uniq hT k k2
    exact ⟨p, hp, by rw [e1, hl, zl, ins_zip (hz p hp).1], by rw [e2, hl, zl, out_zip (hz p hp).2]⟩
  · rintro ⟨p, hp, rfl, rfl⟩
    obtain ⟨f, hf, k⟩ := h2 p hp
    have := path_run (t := trieT ps) k
    rw [zl, ins_zip (hz p hp).1, out_zip (hz p hp).2] at this
    exact ⟨f, hf, this⟩
end Go.Proofs.YtoilmeiikgegcaaDoor.G
