/- Searches through finite graphs, as plain Lean: what a queue and a set of known ones mean. -/
import Derived.Test.YtmjieefhjmiagaaDoorGTra
set_option linter.all false
namespace Go.Proofs.YtmjieefhjmiagaaDoor.G
open Go Go.RowKit
inductive Reach {α : Type} (E : α → List α) (s : α → Prop) : α → Prop
  | base {x : α} : s x → Reach E s x
  | tail {x y : α} : Reach E s x → y ∈ E x → Reach E s y
structure Bfs {α : Type} (E : α → List α) (s : α → Prop) (vs qs : List α) : Prop where
  nodup : (vs ++ qs).Nodup
  start : ∀ z, s z → z ∈ vs ++ qs
  closed : ∀ x ∈ vs, ∀ y ∈ E x, y ∈ vs ++ qs
  reach : ∀ x ∈ vs ++ qs, Reach E s x
structure BfsIn {α : Type} (E : α → List α) (s : α → Prop) (vs : List α) (x : α) (ds qs : List α) : Prop where
  nodup : (vs ++ x :: qs).Nodup
  start : ∀ z, s z → z ∈ vs ++ x :: qs
  closed : ∀ z ∈ vs, ∀ y ∈ E z, y ∈ vs ++ x :: qs
  reach : ∀ z ∈ vs ++ x :: qs, Reach E s z
  done : ∀ y ∈ ds, y ∈ vs ++ x :: qs
section
variable {α : Type} {E : α → List α} {s : α → Prop} {x y : α} {vs ds qs : List α}
theorem Bfs.init (E : α → List α) (s : α) : Bfs E (· = s) [] [s] := ⟨by simp, by simp, by simp, fun x hx => by simp at hx; subst hx; exact .base rfl⟩
theorem Bfs.inits (E : α → List α) {l : List α} (h : l.Nodup) : Bfs E (· ∈ l) [] l := ⟨by simpa using h, by simp, by simp, fun x hx => .base (by simpa using hx)⟩
theorem Bfs.opn (h : Bfs E s vs (x :: qs)) : BfsIn E s vs x [] qs := ⟨h.nodup, h.start, h.closed, h.reach, by simp⟩
theorem BfsIn.known (h : BfsIn E s vs x ds qs) (hy : y ∈ vs ++ x :: qs) : BfsIn E s vs x (ds ++ [y]) qs :=
  ⟨h.nodup, h.start, h.closed, h.reach, fun z hz => by
    rcases List.mem_append.1 hz with hz | hz
    · exact h.done z hz
    · rw [List.mem_singleton.1 hz]; exact hy⟩
theorem BfsIn.push (h : BfsIn E s vs x ds qs) (hy : y ∉ vs ++ x :: qs) (hE : y ∈ E x) : BfsIn E s vs x (ds ++ [y]) (qs ++ [y]) := by
  have e : vs ++ x :: (qs ++ [y]) = (vs ++ x :: qs) ++ [y] := by simp
  refine ⟨?_, ?_, fun z hz u hu => ?_, fun z hz => ?_, fun z hz => ?_⟩ <;> rw [e] at *
  · exact List.nodup_append.2 ⟨h.nodup, by simp, fun a ha b hb hab => hy (by rw [List.mem_singleton.1 hb] at hab; exact hab ▸ ha)⟩
  · exact fun z hz => List.mem_append.2 (.inl (h.start z hz))
  · exact List.mem_append.2 (.inl (h.closed z hz u hu))
  · rcases List.mem_append.1 hz with hz | hz
    · exact h.reach z hz
    · rw [List.mem_singleton.1 hz]; exact .tail (h.reach x (by simp)) hE
  · rcases List.mem_append.1 hz with hz | hz
    · exact List.mem_append.2 (.inl (h.done z hz))
    · exact List.mem_append.2 (.inr hz)
theorem BfsIn.close (h : BfsIn E s vs x ds qs) (hd : ∀ y ∈ E x, y ∈ ds) : Bfs E s (vs ++ [x]) qs := by
  have e : vs ++ [x] ++ qs = vs ++ x :: qs := by simp
  refine ⟨e ▸ h.nodup, e ▸ h.start, fun z hz u hu => ?_, fun z hz => h.reach z (e ▸ hz)⟩
  rw [e]
  rcases List.mem_append.1 hz with hz | hz
  · exact h.closed z hz u hu
  · rw [List.mem_singleton.1 hz] at hu; exact h.done u (hd u hu)
/-- What is left when the queue is empty. -/
structure Closure (E : α → List α) (s : α → Prop) (K : List α) : Prop where
  nodup : K.Nodup
  mem : ∀ x, x ∈ K ↔ Reach E s x
theorem Bfs.fin (h : Bfs E s vs []) : Closure E s vs := by
  obtain ⟨h1, h2, h3, h4⟩ := h
  rw [List.append_nil] at h1 h2 h4
  simp only [List.append_nil] at h3
  refine ⟨h1, fun x => ⟨h4 x, fun hx => ?_⟩⟩
  induction hx with
  | base h => exact h2 _ h
  | tail _ hy ih => exact h3 _ ih _ hy
theorem Bfs.len {U : List α} (h : Bfs E s vs qs) (hU : ∀ x, Reach E s x → x ∈ U) : vs.length + qs.length ≤ U.length := by
  have := h.nodup.length_le_of_subset (fun x hx => hU x (h.reach x hx))
  simpa using this
theorem BfsIn.len {U : List α} (h : BfsIn E s vs x ds qs) (hU : ∀ x, Reach E s x → x ∈ U) : vs.length + qs.length + 1 ≤ U.length := by
  have := h.nodup.length_le_of_subset (fun x hx => hU x (h.reach x hx))
  simp at this
  omega
/-- The pairs of a rectangle. -/
def rect (m n : Nat) : List Pair := (List.range m).flatMap fun (p : Nat) => (List.range n).map fun (q : Nat) => ⟨p, q⟩
theorem rect_len (m n : Nat) : (rect m n).length = m * n := by simp [rect, List.length_flatMap, List.map_const', List.sum_replicate_nat]
theorem mem_rect {m n : Nat} {x : Pair} : x ∈ rect m n ↔ (0 ≤ x.p ∧ x.p < m) ∧ 0 ≤ x.q ∧ x.q < n := by
  simp only [rect, List.mem_flatMap, List.mem_range, List.mem_map]
  constructor
  · rintro ⟨p, hp, q, hq, rfl⟩; exact ⟨⟨by simp, by simpa using hp⟩, by simp, by simpa using hq⟩
  · rintro ⟨⟨h1, h2⟩, h3, h4⟩
    exact ⟨x.p.toNat, by omega, x.q.toNat, by omega, by cases x; simp at *; omega⟩
/-! sets as maps to true -/
def tr (K : List α) : List (α × Bool) := K.map fun k => (k, true)
theorem tr_keys (K : List α) : (tr K).map (·.1) = K := by
  rw [tr, List.map_map]
  exact List.map_id K
theorem tr_len (K : List α) : (tr K).length = K.length := by simp [tr]
variable [DecidableEq α]
theorem aget_tr (K : List α) (k : α) : (aget (tr K) k).getD false = decide (k ∈ K) := by
  induction K with
  | nil => rfl
  | cons a K ih =>
    show (aget ((a, true) :: tr K) k).getD false = _
    simp only [aget]
    by_cases h : a = k
    · simp [h]
    · have : ¬ k = a := fun e => h e.symm
      simp only [if_neg h, ih, List.mem_cons, this, false_or]
theorem aput_tr {K : List α} {k : α} (h : k ∉ K) : aput (tr K) k true = tr (K ++ [k]) := by
  rw [aput_new (aget_none.2 (by rw [tr_keys]; exact h))]
  simp [tr]
theorem aput_tr' {K : List α} {k : α} (h : k ∈ K) : aput (tr K) k true = tr K := by
  induction K with
  | nil => simp at h
  | cons a K ih =>
    show aput ((a, true) :: tr K) k true = (a, true) :: tr K
    simp only [aput]
    by_cases e : a = k
    · simp [e]
    · rw [if_neg e, ih (by rcases List.mem_cons.1 h with h | h; exact absurd h.symm e; exact h)]
end
theorem nd_t {p : Prop} [Decidable p] (h : (!decide p) = true) : ¬ p := by simpa using h
theorem nd_f {p : Prop} [Decidable p] (h : (!decide p) = false) : p := by simpa using h
/-! the graph of a composition -/
def Tra.outs (t : Tra) (s : Int) : List Arc := t.arcs.filter fun x => x.src = s
structure Tra.Ok (t : Tra) (m : Nat) : Prop where
  st : t.states = m
  pos : 1 ≤ m
  le : m ≤ 512
  start : 0 ≤ t.start ∧ t.start < m
  arcs : ∀ x ∈ t.arcs, (0 ≤ x.src ∧ x.src < m) ∧ 0 ≤ x.dst ∧ x.dst < m
  alen : t.arcs.length ≤ 4096
theorem Tra.outs_len (t : Tra) (s : Int) : (t.outs s).length ≤ t.arcs.length := List.length_filter_le _ _
def compE (a b : Tra) (s : Pair) : List Edge := edgL s (a.outs s.p) (b.outs s.q)
def compN (a b : Tra) (s : Pair) : List Pair := (compE a b s).map (·.dst)
theorem mem_edgL {s : Pair} {xs ys : List Arc} {e : Edge} (h : e ∈ edgL s xs ys) : e.src = s ∧ ((∃ x ∈ xs, e.dst = ⟨x.dst, s.q⟩) ∨ (∃ x ∈ xs, ∃ y ∈ ys, e.dst = ⟨x.dst, y.dst⟩) ∨ (∃ y ∈ ys, e.dst = ⟨s.p, y.dst⟩)) := by
  rcases List.mem_append.1 h with h | h
  · obtain ⟨x, hx, h⟩ := List.mem_flatMap.1 h
    unfold edg1 at h
    split at h
    · rw [List.mem_singleton.1 h]; exact ⟨rfl, .inl ⟨x, hx, rfl⟩⟩
    · obtain ⟨y, hy, h⟩ := List.mem_flatMap.1 h
      unfold edgA at h
      split at h
      · rw [List.mem_singleton.1 h]; exact ⟨rfl, .inr (.inl ⟨x, hx, y, hy, rfl⟩)⟩
      · simp at h
  · obtain ⟨y, hy, h⟩ := List.mem_flatMap.1 h
    unfold edgB at h
    split at h
    · rw [List.mem_singleton.1 h]; exact ⟨rfl, .inr (.inr ⟨y, hy, rfl⟩)⟩
    · simp at h
theorem compN_in {a b : Tra} {m n : Nat} (ha : a.Ok m) (hb : b.Ok n) {s : Pair} (hs : s ∈ rect m n) {y : Pair} (hy : y ∈ compN a b s) : y ∈ rect m n := by
  obtain ⟨e, he, rfl⟩ := List.mem_map.1 hy
  rw [mem_rect] at hs ⊢
  have hA : ∀ x ∈ a.outs s.p, 0 ≤ x.dst ∧ x.dst < m := fun x hx => (ha.arcs x (List.mem_filter.1 hx).1).2
  have hB : ∀ x ∈ b.outs s.q, 0 ≤ x.dst ∧ x.dst < n := fun x hx => (hb.arcs x (List.mem_filter.1 hx).1).2
  rcases (mem_edgL he).2 with ⟨x, hx, h⟩ | ⟨x, hx, z, hz, h⟩ | ⟨z, hz, h⟩ <;> rw [h]
  · exact ⟨hA x hx, hs.2⟩
  · exact ⟨hA x hx, hB z hz⟩
  · exact ⟨hs.1, hB z hz⟩
theorem compN_rect {a b : Tra} {m n : Nat} (ha : a.Ok m) (hb : b.Ok n) (x : Pair) (h : Reach (compN a b) (· = ⟨a.start, b.start⟩) x) : x ∈ rect m n := by
  induction h with
  | base h => subst h; exact mem_rect.2 ⟨ha.start, hb.start⟩
  | tail _ hy ih => exact compN_in ha hb ih hy
theorem compE_len (a b : Tra) (s : Pair) : (compE a b s).length ≤ a.arcs.length * (b.arcs.length + 1) + b.arcs.length := by
  refine Nat.le_trans (edgL_len _ _ _) ?_
  have h1 := a.outs_len s.p
  have h2 := b.outs_len s.q
  have := Nat.mul_le_mul h1 (Nat.add_le_add_right h2 1)
  omega
/-! groups: m[k] = append(m[k], v) for each of a list -/
section
variable {κ β γ : Type} [DecidableEq κ]
def grp (key : γ → κ) (f : γ → β) (ls : List γ) : List (κ × List β) := ls.foldl (fun g e => aput g (key e) ((aget g (key e)).getD [] ++ [f e])) []
theorem grp_snoc (key : γ → κ) (f : γ → β) (ls : List γ) (e : γ) : grp key f (ls ++ [e]) = aput (grp key f ls) (key e) ((aget (grp key f ls) (key e)).getD [] ++ [f e]) := by
  simp [grp, List.foldl_append]
theorem rev_ind {α : Type} {P : List α → Prop} (h0 : P []) (h1 : ∀ l x, P l → P (l ++ [x])) (l : List α) : P l := by
  rw [← List.reverse_reverse l]
  induction l.reverse with
  | nil => exact h0
  | cons x l ih => rw [List.reverse_cons]; exact h1 _ _ ih
theorem grp_look (key : γ → κ) (f : γ → β) (k : κ) (ls : List γ) : (aget (grp key f ls) k).getD [] = (ls.filter fun e => key e = k).map f := by
  refine rev_ind (P := fun ls => (aget (grp key f ls) k).getD [] = (ls.filter fun e => key e = k).map f) rfl (fun ls e ih => ?_) ls
  · rw [grp_snoc, aget_aput]
    by_cases h : key e = k
    · subst h
      simp [ih]
    · simp [h, ih]
theorem grp_look_len (key : γ → κ) (f : γ → β) (k : κ) (ls : List γ) : ((aget (grp key f ls) k).getD []).length ≤ ls.length := by
  rw [grp_look, List.length_map]; exact List.length_filter_le _ _
end
theorem flat_bound {α β : Type} {E : α → List β} {B U : Nat} (hE : ∀ x, (E x).length ≤ B) {vs : List α} (x : α) (k : Nat) (h : vs.length ≤ U) : (vs.flatMap E ++ (E x).take k).length + 1 ≤ (U + 1) * (B + 1) := by
  have h1 := flat_len hE vs
  have h2 := hE x
  have h3 := Nat.mul_le_mul_right B h
  rw [List.length_append, List.length_take, Nat.add_mul, Nat.mul_add]
  omega
/-! the way back -/
def bk (ls : List Edge) (s : Pair) : List Pair := (ls.filter fun e => e.dst = s).map fun e => e.src
def fq (K : List Pair) (p q : Int) : List Pair := if (Pair.mk p q) ∈ K then [Pair.mk p q] else []
def fsel (K : List Pair) (bf : List Int) (p : Int) : List Pair := bf.flatMap (fq K p)
theorem fq_len (K : List Pair) (p q : Int) : (fq K p q).length ≤ 1 := by unfold fq; split <;> simp
theorem fsel_len (K : List Pair) (bf : List Int) (p : Int) : (fsel K bf p).length ≤ bf.length := by have := flat_len (fq_len K p) bf; simp only [fsel]; omega
theorem mem_fq {K : List Pair} {p q : Int} {x : Pair} : x ∈ fq K p q ↔ x = ⟨p, q⟩ ∧ x ∈ K := by
  unfold fq
  split
  · rename_i h; rw [List.mem_singleton]; exact ⟨fun e => ⟨e, e ▸ h⟩, fun e => e.1⟩
  · rename_i h; simp; intro e; exact e ▸ h
theorem mem_fsel {K : List Pair} {bf : List Int} {p : Int} {x : Pair} : x ∈ fsel K bf p ↔ x.p = p ∧ x.q ∈ bf ∧ x ∈ K := by
  simp only [fsel, List.mem_flatMap, mem_fq]
  constructor
  · rintro ⟨q, hq, rfl, hK⟩; exact ⟨rfl, hq, hK⟩
  · rintro ⟨rfl, hq, hK⟩; exact ⟨x.q, hq, rfl, hK⟩
theorem mem_sel {K : List Pair} {af bf : List Int} {x : Pair} : x ∈ af.flatMap (fsel K bf) ↔ x ∈ K ∧ x.p ∈ af ∧ x.q ∈ bf := by
  simp only [List.mem_flatMap, mem_fsel]
  constructor
  · rintro ⟨p, hp, rfl, h1, h2⟩; exact ⟨h2, hp, h1⟩
  · rintro ⟨h1, h2, h3⟩; exact ⟨x.p, h2, rfl, h3, h1⟩
theorem nodup_take_not {α : Type} {l : List α} (h : l.Nodup) {k : Nat} {x : α} (hx : l[k]? = some x) : x ∉ l.take k := by
  intro hm
  obtain ⟨j, hj⟩ := List.getElem?_of_mem hm
  rw [List.getElem?_take] at hj
  split at hj
  · rename_i hlt
    have hkl := (List.getElem?_eq_some_iff.1 hx).1
    have := (List.getElem?_inj (by omega) h).1 (hj.trans hx.symm)
    omega
  · cases hj
theorem fq_nodup (K : List Pair) (p q : Int) : (fq K p q).Nodup := by unfold fq; split <;> simp
theorem sel_nodup {K : List Pair} {af bf : List Int} (ha : af.Nodup) (hb : bf.Nodup) : (af.flatMap (fsel K bf)).Nodup := by
  induction af with
  | nil => simp
  | cons p af ih =>
    obtain ⟨h1, h2⟩ := List.nodup_cons.1 ha
    rw [List.flatMap_cons]
    refine List.nodup_append.2 ⟨?_, ih h2, fun x hx y hy e => ?_⟩
    · clear ih ha
      induction bf with
      | nil => simp [fsel]
      | cons q bf ihb =>
        obtain ⟨h3, h4⟩ := List.nodup_cons.1 hb
        show (fq K p q ++ fsel K bf p).Nodup
        refine List.nodup_append.2 ⟨fq_nodup K p q, ihb h4, fun x hx y hy e => ?_⟩
        subst e
        obtain ⟨rfl, _⟩ := mem_fq.1 hx
        exact h3 (mem_fsel.1 hy).2.1
    · subst e
      have := (mem_fsel.1 hx).1
      obtain ⟨p', hp', hy⟩ := List.mem_flatMap.1 hy
      have := (mem_fsel.1 hy).1
      simp_all
theorem Closure.congr {α : Type} {E : α → List α} {S S' : α → Prop} {K : List α} (h : Closure E S K) (e : ∀ x, S x ↔ S' x) : Closure E S' K := by
  have : S = S' := funext fun x => propext (e x)
  rw [← this]; exact h
end Go.Proofs.YtmjieefhjmiagaaDoor.G
